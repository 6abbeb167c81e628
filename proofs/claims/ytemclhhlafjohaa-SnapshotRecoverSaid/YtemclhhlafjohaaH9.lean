/-
  The walks.
-/
import Derived.Test.YtemclhhlafjohaaH8
import Derived.Test.YtemclhhlafjohaaR21
namespace Go.Proofs.Ytemclhhlafjohaa
open Go Go.RowKit Go.H Go.D21 Go.D20 Go.D02

theorem hcallOk10 : G.callOk Try.prog 10 = true := by kernel_rfl
theorem hcallOk11 : G.callOk Try.prog 11 = true := by kernel_rfl
theorem hcallOk39 : G.callOk Try.prog 39 = true := by kernel_rfl
theorem hcallOk40 : G.callOk Try.prog 40 = true := by kernel_rfl

theorem nb_f2 {b : Bool} (h : (!b) = false) : b = true := by cases b <;> simp at h ⊢
theorem nb_n2 {b : Bool} (h : (!b) ≠ false) : b = false := by cases b <;> simp at h ⊢
theorem nb_m2 {b : Bool} (h : (!b) ≠ true) : b = true := by cases b <;> simp at h ⊢
theorem nb_t2 {b : Bool} (h : (!b) = true) : b = false := by cases b <;> simp at h ⊢

set_option maxRecDepth 8000 in
/-- bookplate/snapshot.Recover. -/
theorem recover_h {base : Int} {f : Bs} {sn : List Bs} (hf : f.length ≤ 1000000) (hs : ∀ b ∈ sn, b.length ≤ 1000000) :
    Con Try.prog 16 [vI base, vL 1 (f.map eB), vL 1 (sn.map eL)] [] (.tup [vL 1 ((acD (recA base f sn)).map eB), vI (acN (recA base f sn)), vL 1 ((recL base f sn).map eL), vI (recE base f sn)]) [] := by
 have hwl := (whole_len f).1
 obtain ⟨i22, hi22, hz22, hs22, hb22⟩ := hinf22
 refine Con.enterL (n := 81) Try.func16 rfl rfl rfl (fun τ w ok vs hin => ?_)
 have hl1 := hin.len (i := 1) rfl
 try rw [List.length_map] at hl1
 have hl2 := hin.len (i := 2) rfl
 try rw [List.length_map] at hl2
 clear hin
 refine W.seq ?_
 refine W.region ?_
 refine SL.val (O.assign rfl rfl Taken.no) ?_
 refine SL.val (O.assign rfl rfl Taken.no) ?_
 refine SL.val (O.assign rfl rfl Taken.no) ?_
 refine SL.val (O.assign rfl rfl Taken.no) ?_
 refine SL.nil ?_
 refine E.to ?_
 refine W.seq ?_
 refine W.seq ?_
 refine W.region ?_
 refine SL.val (O.move rfl rfl Taken.no) ?_
 refine SL.val (O.det (fun _ => G.R.lss rfl rfl) rfl Taken.no) ?_
 refine SL.val (O.move rfl rfl Taken.no) ?_
 refine SL.case (j := 2) (g := 20) (want := false) rfl rfl (fun hg1 => ?_) (fun hg1 => ?_)
 ·skip
  first | have hg1p := G.gA3 hg1 | have hg1p := G.gA4 hg1 | have hg1p := hg1
  refine SL.val (O.move rfl rfl (Taken.yes rfl rfl hg1)) ?_
  refine SL.val (O.det (fun _ => G.R.gtr rfl rfl) rfl (Taken.yes rfl rfl hg1)) ?_
  refine SL.val (O.pick_f rfl hg1 rfl rfl Taken.no) ?_
  refine SL.nil ?_
  refine E.to ?_
  first | refine W.cond_d rfl (fun hc2 => ?_) (fun hc2 => ?_) | refine W.cond_nd rfl (fun hc2 => ?_) (fun hc2 => ?_) | refine W.cond rfl (fun hc2 => ?_) (fun hc2 => ?_)
  ·skip
   refine W.seq ?_
   refine W.region ?_
   refine SL.val (O.assign rfl rfl Taken.no) ?_
   refine SL.val (O.assign rfl rfl Taken.no) ?_
   refine SL.val (O.assign rfl rfl Taken.no) ?_
   refine SL.val (O.assign rfl rfl Taken.no) ?_
   refine SL.nil ?_
   refine E.to ?_
   refine W.ret ?_
   refine E.thr ?_
   refine E.nilsl 6 1 rfl ?_
   refine E.nilsl 8 1 rfl ?_
   refine E.fin (rs := [_, _, _, _]) (rn []) (.inl rfl) rfl (.cons (ResOne.tmp rfl) (.cons (ResOne.tmp rfl) (.cons (ResOne.tmp rfl) (.cons (ResOne.tmp rfl) .nil)))) ?_ ?_ rfl (fixL_spec rfl)
   ·skip
    have hb0 : base < 0 ∨ 1000000000 < base := by omega
    rw [(rec_2 hb0).1, (rec_2 hb0).2.1, (rec_2 hb0).2.2]; rfl
   · exact SubS.nil
  ·skip
   have hb0 : ¬ (base < 0 ∨ 1000000000 < base) := by omega
   refine W.skip ?_
   refine E.to ?_
   refine W.seq ?_
   refine W.region ?_
   refine SL.val (O.move rfl rfl Taken.no) ?_
   refine SL.memS (O.call (rn []) [] rfl rfl rfl (open_h (l := f) (by omega)) (.cons (ArgOk.same rfl) .nil) SubS.nil rfl rfl rfl rfl rfl (.inl rfl) hcallOk39 (r' := .tup [.agg [.u _, .u _], .u _]) rfl rfl Taken.no) rfl rfl (S' := _) rfl ?_
   refine SL.val (O.move rfl rfl Taken.no) ?_
   refine SL.val (O.extract rfl rfl rfl Taken.no) ?_
   refine SL.val (O.extract rfl rfl rfl Taken.no) ?_
   refine SL.memS (O.alloc (z := .agg #[.slice none 0 0, .int .i64 0]) (is := [.u (.sc (.slice none 0 0)), .u (.sc (.int .i64 0))]) 101 (by kernel_rfl) rfl rfl rfl Taken.no) rfl rfl (S' := (101, _) :: _) rfl ?_
   refine SL.effS (O.st_ref (m := 2) rfl rfl rfl (js := [_, _]) rfl rfl (by kernel_rfl) (by simp) (Nat.le_of_ble_eq_true rfl) rfl (is' := [_, _]) rfl Taken.no) (S' := (101, _) :: _) rfl ?_
   refine SL.val (O.assign rfl rfl Taken.no) ?_
   refine SL.nil ?_
   refine E.to ?_
   refine W.seq ?_
   refine W.region ?_
   refine SL.val (O.assign rfl rfl Taken.no) ?_
   refine SL.nil ?_
   refine E.to ?_
   refine W.seq ?_
   refine W.seq ?_
   refine W.region ?_
   refine SL.val (O.move rfl rfl Taken.no) ?_
   refine SL.val (O.lenE (SlOf.fz rfl (by decide)) (by first | exact List.length_map _ | rfl) Try.underlying32 rfl Taken.no) ?_
   refine SL.val (O.move rfl rfl Taken.no) ?_
   refine SL.nil ?_
   refine E.to ?_
   refine W.block ?_
   refine W.nilsl 6 1 rfl ?_
   refine W.loopx1 (fun (k : Nat) => [(31, vI (k : Int)), (6, vL 1 ((acD (recS base ((wholeL f).1.length : Int) (sn.take k))).map eB)), (7, vI (acN (recS base ((wholeL f).1.length : Int) (sn.take k)))), (12, vB (acF (recS base ((wholeL f).1.length : Int) (sn.take k))))]) (fun (k : Nat) => []) (fun (k : Nat) => k ≤ sn.length) (fun (k : Nat) => sn.length - k) (0) (rn []) (.cons (t := 0) rfl (.cons (t := 8) rfl (.cons (t := 9) rfl (.cons (t := 11) rfl (.cons (t := 29) rfl (.cons (t := 30) rfl .nil)))))) (.cons (t := 101) rfl .nil) rfl ?_ ?_ rfl rfl ?_ ?_
   · exact (SubF.cons rfl (SubF.cons rfl (SubF.cons rfl (SubF.cons rfl SubF.nil))))
   · exact SubS.nil
   ·skip
    omega
   intro k hinv
   have hk := hinv
   have hri := rec_in base ((wholeL f).1.length : Int) (sn.take k)
   refine W.seq ?_
   refine W.region ?_
   refine SL.val (O.det (fun _ => G.R.lss rfl rfl) rfl Taken.no) ?_
   refine SL.nil ?_
   refine E.to ?_
   refine W.seq ?_
   first | refine W.cond_d rfl (fun hc3 => ?_) (fun hc3 => ?_) | refine W.cond_nd rfl (fun hc3 => ?_) (fun hc3 => ?_) | refine W.cond rfl (fun hc3 => ?_) (fun hc3 => ?_)
   ·skip
    have hbk : sn[k]!.length ≤ 1000000 := hs _ (by rw [getElem!_pos sn k (by omega)]; exact List.getElem_mem _)
    refine W.skip ?_
    refine E.to ?_
    refine W.seq ?_
    refine W.block ?_
    refine W.seq ?_
    refine W.region ?_
    refine SL.val (O.idx_fz rfl rfl (rfl) (row_get (by omega)) Try.underlying32 hi22 hs22 rfl Taken.no) ?_
    refine SL.val (O.ld1 (PtI.ofU (PtU.fz rfl)) rfl Try.underlying22 rfl rfl Taken.no) ?_
    refine SL.val (O.assign rfl rfl Taken.no) ?_
    refine SL.nil ?_
    refine E.to ?_
    refine W.seq ?_
    refine W.region ?_
    refine SL.val (O.move rfl rfl Taken.no) ?_
    refine SL.memS (O.call (rn []) [] rfl rfl rfl (read_h (l := sn[k]!) (by omega)) (.cons (ArgOk.same rfl) .nil) SubS.nil rfl rfl rfl rfl rfl (.inl rfl) hcallOk10 (r' := .tup [.u _, .u _, .u _]) rfl rfl Taken.no) rfl rfl (S' := _) rfl ?_
    refine SL.val (O.move rfl rfl Taken.no) ?_
    refine SL.val (O.extract rfl rfl rfl Taken.no) ?_
    refine SL.val (O.extract rfl rfl rfl Taken.no) ?_
    refine SL.val (O.extract rfl rfl rfl Taken.no) ?_
    refine SL.val (O.assign rfl rfl Taken.no) ?_
    refine SL.val (O.assign rfl rfl Taken.no) ?_
    refine SL.val (O.assign rfl rfl Taken.no) ?_
    refine SL.nil ?_
    refine E.to ?_
    refine W.seq ?_
    refine W.region ?_
    refine SL.val (O.move rfl rfl Taken.no) ?_
    refine SL.val (O.det (fun _ => G.R.eql rfl rfl) rfl Taken.no) ?_
    refine SL.val (O.move rfl rfl Taken.no) ?_
    refine SL.case (j := 2) (g := 43) (want := true) rfl rfl (fun hg4 => ?_) (fun hg4 => ?_)
    ·skip
     first | have hg4p := G.gA1 hg4 | have hg4p := G.gA2 hg4 | have hg4p := hg4
     refine SL.val (O.move rfl rfl (Taken.yes rfl rfl hg4)) ?_
     refine SL.val (O.move rfl rfl (Taken.yes rfl rfl hg4)) ?_
     refine SL.val (O.det (fun _ => G.R.geq rfl rfl) rfl (Taken.yes rfl rfl hg4)) ?_
     refine SL.val (O.pick_t rfl hg4 rfl rfl Taken.no) ?_
     refine SL.val (O.move rfl rfl Taken.no) ?_
     refine SL.case (j := 7) (g := 48) (want := true) rfl rfl (fun hg5 => ?_) (fun hg5 => ?_)
     ·skip
      first | have hg5p := G.gA1 hg5 | have hg5p := G.gA2 hg5 | have hg5p := hg5
      refine SL.val (O.move rfl rfl (Taken.yes rfl rfl hg5)) ?_
      refine SL.val (O.move rfl rfl (Taken.yes rfl rfl hg5)) ?_
      refine SL.val (O.move rfl rfl (Taken.yes rfl rfl hg5)) ?_
      refine SL.val (O.lenE (SlOf.fz rfl (by decide)) (by first | exact List.length_map _ | rfl) Try.underlying32 rfl (Taken.yes rfl rfl hg5)) ?_
      refine SL.val (O.det (fun _ => by first | exact G.R.add64 rfl rfl (by omega) | exact G.R.add rfl rfl) rfl (Taken.yes rfl rfl hg5)) ?_
      refine SL.val (O.det (fun _ => G.R.leq rfl rfl) rfl (Taken.yes rfl rfl hg5)) ?_
      refine SL.val (O.pick_t rfl hg5 rfl rfl Taken.no) ?_
      refine SL.val (O.move rfl rfl Taken.no) ?_
      refine SL.case (j := 15) (g := 56) (want := true) rfl rfl (fun hg6 => ?_) (fun hg6 => ?_)
      ·skip
       first | have hg6p := G.gA1 hg6 | have hg6p := G.gA2 hg6 | have hg6p := hg6
       refine SL.val (O.move rfl rfl (Taken.yes rfl rfl hg6)) ?_
       refine SL.val (O.det (fun _ => G.R.not rfl) rfl (Taken.yes rfl rfl hg6)) ?_
       refine SL.val (O.move rfl rfl (Taken.yes rfl rfl hg6)) ?_
       refine SL.case (j := 18) (g := 59) (want := false) rfl rfl (fun hg7 => ?_) (fun hg7 => ?_)
       ·skip
        first | have hg7p := G.gA3 hg7 | have hg7p := G.gA4 hg7 | have hg7p := hg7
        refine SL.val (O.move rfl rfl (Taken.yes rfl rfl hg7)) ?_
        refine SL.val (O.move rfl rfl (Taken.yes rfl rfl hg7)) ?_
        refine SL.val (O.det (fun _ => G.R.geq rfl rfl) rfl (Taken.yes rfl rfl hg7)) ?_
        refine SL.val (O.pick_f rfl hg7 rfl rfl (Taken.yes rfl rfl hg6)) ?_
        refine SL.val (O.pick_t rfl hg6 rfl rfl Taken.no) ?_
        refine SL.nil ?_
        refine E.to ?_
        refine W.pick (.cons (t := 0) rfl (.cons (t := 6) rfl (.cons (t := 7) rfl (.cons (t := 8) rfl (.cons (t := 9) rfl (.cons (t := 11) rfl (.cons (t := 12) rfl (.cons (t := 15) rfl (.cons (t := 16) rfl (.cons (t := 29) rfl (.cons (t := 30) rfl (.cons (t := 31) rfl (.cons (t := 64) rfl .nil))))))))))))) (.cons (t := 101) rfl .nil) ?_
        first | refine W.cond_d rfl (fun hc8 => ?_) (fun hc8 => ?_) | refine W.cond_nd rfl (fun hc8 => ?_) (fun hc8 => ?_) | refine W.cond rfl (fun hc8 => ?_) (fun hc8 => ?_)
        ·skip
         refine W.region ?_
         refine SL.val (O.move rfl rfl Taken.no) ?_
         refine SL.val (O.move rfl rfl Taken.no) ?_
         refine SL.val (O.assign rfl rfl Taken.no) ?_
         refine SL.val (O.assign rfl rfl Taken.no) ?_
         refine SL.val (O.assign rfl rfl Taken.no) ?_
         refine SL.nil ?_
         refine E.inn ?_
         refine E.to ?_
         refine W.region ?_
         refine SL.val (O.det (fun _ => by first | exact G.R.add64 rfl rfl (by omega) | exact G.R.add rfl rfl) rfl Taken.no) ?_
         refine SL.val (O.move rfl rfl Taken.no) ?_
         refine SL.nil ?_
         refine E.again ((k + 1)) (rn []) ?_ ?_ rfl (fixL_spec rfl) ?_ ?_
         · exact (SubF.cons rfl (SubF.val rfl (by (try dsimp only); rw [recS_s (by omega), step_y (cond_p.1 ⟨by omega, by omega, by omega, by first | exact .inr (by omega) | exact .inl (by first | assumption | exact nb_t2 (by assumption) | exact nb_n2 (by assumption))⟩)]; rfl) (SubF.val rfl (by (try dsimp only); rw [recS_s (by omega), step_y (cond_p.1 ⟨by omega, by omega, by omega, by first | exact .inr (by omega) | exact .inl (by first | assumption | exact nb_t2 (by assumption) | exact nb_n2 (by assumption))⟩)]; rfl) (SubF.val rfl (by (try dsimp only); rw [recS_s (by omega), step_y (cond_p.1 ⟨by omega, by omega, by omega, by first | exact .inr (by omega) | exact .inl (by first | assumption | exact nb_t2 (by assumption) | exact nb_n2 (by assumption))⟩)]; rfl) (SubF.cons rfl (SubF.cons rfl (SubF.cons rfl (SubF.cons rfl (SubF.cons rfl (SubF.cons rfl SubF.nil))))))))))
         · exact (SubS.cons rfl SubS.nil)
         ·try dsimp only
          omega
         · (try dsimp only); omega
        ·skip
         refine W.skip ?_
         refine E.inn ?_
         refine E.to ?_
         refine W.region ?_
         refine SL.val (O.det (fun _ => by first | exact G.R.add64 rfl rfl (by omega) | exact G.R.add rfl rfl) rfl Taken.no) ?_
         refine SL.val (O.move rfl rfl Taken.no) ?_
         refine SL.nil ?_
         refine E.again ((k + 1)) (rn []) ?_ ?_ rfl (fixL_spec rfl) ?_ ?_
         · exact (SubF.cons rfl (SubF.val rfl (by (try dsimp only); first | (rw [recS_s (by omega), step_y (cond_p.1 ⟨by omega, by omega, by omega, by first | exact .inr (by omega) | exact .inl (by first | assumption | exact nb_t2 (by assumption) | exact nb_n2 (by assumption))⟩)]; rfl) | exact congrArg (fun a => vL 1 ((acD a).map eB)) (show (recS base ((wholeL f).1.length : Int) (sn.take k)) = (recS base ((wholeL f).1.length : Int) (sn.take (k + 1))) from (by rw [recS_s (by omega), step_n (fun q => by obtain ⟨q1, q2, q3, q4⟩ := cond_p.2 q; first | omega | (rcases q4 with q4 | q4 <;> first | omega | exact absurd q4 (by assumption) | exact absurd (q4.symm.trans (by first | exact nb_f2 (by assumption) | exact nb_m2 (by assumption))) (by decide)))]))) (SubF.val rfl (by (try dsimp only); first | (rw [recS_s (by omega), step_y (cond_p.1 ⟨by omega, by omega, by omega, by first | exact .inr (by omega) | exact .inl (by first | assumption | exact nb_t2 (by assumption) | exact nb_n2 (by assumption))⟩)]; rfl) | exact congrArg (fun a => vI (acN a)) (show (recS base ((wholeL f).1.length : Int) (sn.take k)) = (recS base ((wholeL f).1.length : Int) (sn.take (k + 1))) from (by rw [recS_s (by omega), step_n (fun q => by obtain ⟨q1, q2, q3, q4⟩ := cond_p.2 q; first | omega | (rcases q4 with q4 | q4 <;> first | omega | exact absurd q4 (by assumption) | exact absurd (q4.symm.trans (by first | exact nb_f2 (by assumption) | exact nb_m2 (by assumption))) (by decide)))]))) (SubF.val rfl (by (try dsimp only); first | (rw [recS_s (by omega), step_y (cond_p.1 ⟨by omega, by omega, by omega, by first | exact .inr (by omega) | exact .inl (by first | assumption | exact nb_t2 (by assumption) | exact nb_n2 (by assumption))⟩)]; rfl) | exact congrArg (fun a => vB (acF a)) (show (recS base ((wholeL f).1.length : Int) (sn.take k)) = (recS base ((wholeL f).1.length : Int) (sn.take (k + 1))) from (by rw [recS_s (by omega), step_n (fun q => by obtain ⟨q1, q2, q3, q4⟩ := cond_p.2 q; first | omega | (rcases q4 with q4 | q4 <;> first | omega | exact absurd q4 (by assumption) | exact absurd (q4.symm.trans (by first | exact nb_f2 (by assumption) | exact nb_m2 (by assumption))) (by decide)))]))) (SubF.cons rfl (SubF.cons rfl (SubF.cons rfl (SubF.cons rfl (SubF.cons rfl (SubF.cons rfl SubF.nil))))))))))
         · exact (SubS.cons rfl SubS.nil)
         ·try dsimp only
          omega
         · (try dsimp only); omega
       ·skip
        first | have hg7p := G.gA7 hg7 | have hg7p := G.gA8 hg7 | have hg7p := hg7
        refine SL.skip (OpOk.not rfl rfl rfl hg7) ?_
        refine SL.skip (OpOk.not rfl rfl rfl hg7) ?_
        refine SL.skip (OpOk.not rfl rfl rfl hg7) ?_
        refine SL.val (O.pick_t rfl (G.ne_f hg7) rfl rfl (Taken.yes rfl rfl hg6)) ?_
        refine SL.val (O.pick_t rfl hg6 rfl rfl Taken.no) ?_
        refine SL.nil ?_
        refine E.to ?_
        refine W.pick (.cons (t := 0) rfl (.cons (t := 6) rfl (.cons (t := 7) rfl (.cons (t := 8) rfl (.cons (t := 9) rfl (.cons (t := 11) rfl (.cons (t := 12) rfl (.cons (t := 15) rfl (.cons (t := 16) rfl (.cons (t := 29) rfl (.cons (t := 30) rfl (.cons (t := 31) rfl (.cons (t := 64) rfl .nil))))))))))))) (.cons (t := 101) rfl .nil) ?_
        refine W.cond_t rfl ?_
        refine W.region ?_
        refine SL.val (O.move rfl rfl Taken.no) ?_
        refine SL.val (O.move rfl rfl Taken.no) ?_
        refine SL.val (O.assign rfl rfl Taken.no) ?_
        refine SL.val (O.assign rfl rfl Taken.no) ?_
        refine SL.val (O.assign rfl rfl Taken.no) ?_
        refine SL.nil ?_
        refine E.inn ?_
        refine E.to ?_
        refine W.region ?_
        refine SL.val (O.det (fun _ => by first | exact G.R.add64 rfl rfl (by omega) | exact G.R.add rfl rfl) rfl Taken.no) ?_
        refine SL.val (O.move rfl rfl Taken.no) ?_
        refine SL.nil ?_
        refine E.again ((k + 1)) (rn []) ?_ ?_ rfl (fixL_spec rfl) ?_ ?_
        · exact (SubF.cons rfl (SubF.val rfl (by (try dsimp only); first | (rw [recS_s (by omega), step_y (cond_p.1 ⟨by omega, by omega, by omega, by first | exact .inr (by omega) | exact .inl (by first | assumption | exact nb_t2 (by assumption) | exact nb_n2 (by assumption))⟩)]; rfl) | exact congrArg (fun a => vL 1 ((acD a).map eB)) (show (recS base ((wholeL f).1.length : Int) (sn.take k)) = (recS base ((wholeL f).1.length : Int) (sn.take (k + 1))) from (by rw [recS_s (by omega), step_n (fun q => by obtain ⟨q1, q2, q3, q4⟩ := cond_p.2 q; first | omega | (rcases q4 with q4 | q4 <;> first | omega | exact absurd q4 (by assumption) | exact absurd (q4.symm.trans (by first | exact nb_f2 (by assumption) | exact nb_m2 (by assumption))) (by decide)))]))) (SubF.val rfl (by (try dsimp only); first | (rw [recS_s (by omega), step_y (cond_p.1 ⟨by omega, by omega, by omega, by first | exact .inr (by omega) | exact .inl (by first | assumption | exact nb_t2 (by assumption) | exact nb_n2 (by assumption))⟩)]; rfl) | exact congrArg (fun a => vI (acN a)) (show (recS base ((wholeL f).1.length : Int) (sn.take k)) = (recS base ((wholeL f).1.length : Int) (sn.take (k + 1))) from (by rw [recS_s (by omega), step_n (fun q => by obtain ⟨q1, q2, q3, q4⟩ := cond_p.2 q; first | omega | (rcases q4 with q4 | q4 <;> first | omega | exact absurd q4 (by assumption) | exact absurd (q4.symm.trans (by first | exact nb_f2 (by assumption) | exact nb_m2 (by assumption))) (by decide)))]))) (SubF.val rfl (by (try dsimp only); first | (rw [recS_s (by omega), step_y (cond_p.1 ⟨by omega, by omega, by omega, by first | exact .inr (by omega) | exact .inl (by first | assumption | exact nb_t2 (by assumption) | exact nb_n2 (by assumption))⟩)]; rfl) | exact congrArg (fun a => vB (acF a)) (show (recS base ((wholeL f).1.length : Int) (sn.take k)) = (recS base ((wholeL f).1.length : Int) (sn.take (k + 1))) from (by rw [recS_s (by omega), step_n (fun q => by obtain ⟨q1, q2, q3, q4⟩ := cond_p.2 q; first | omega | (rcases q4 with q4 | q4 <;> first | omega | exact absurd q4 (by assumption) | exact absurd (q4.symm.trans (by first | exact nb_f2 (by assumption) | exact nb_m2 (by assumption))) (by decide)))]))) (SubF.cons rfl (SubF.cons rfl (SubF.cons rfl (SubF.cons rfl (SubF.cons rfl (SubF.cons rfl SubF.nil))))))))))
        · exact (SubS.cons rfl SubS.nil)
        ·try dsimp only
         omega
        · (try dsimp only); omega
      ·skip
       first | have hg6p := G.gA5 hg6 | have hg6p := G.gA6 hg6 | have hg6p := hg6
       refine SL.skip (OpOk.not rfl rfl rfl hg6) ?_
       refine SL.skip (OpOk.not rfl rfl rfl hg6) ?_
       refine SL.skip (OpOk.not rfl rfl rfl hg6) ?_
       refine SL.skip (OpOk.not2 rfl rfl rfl) ?_
       refine SL.skip (OpOk.not2 rfl rfl rfl) ?_
       refine SL.skip (OpOk.not2 rfl rfl rfl) ?_
       refine SL.skip (OpOk.not rfl rfl rfl hg6) ?_
       refine SL.val (O.pick_f rfl (G.ne_t hg6) rfl rfl Taken.no) ?_
       refine SL.nil ?_
       refine E.to ?_
       refine W.pick (.cons (t := 0) rfl (.cons (t := 6) rfl (.cons (t := 7) rfl (.cons (t := 8) rfl (.cons (t := 9) rfl (.cons (t := 11) rfl (.cons (t := 12) rfl (.cons (t := 15) rfl (.cons (t := 16) rfl (.cons (t := 29) rfl (.cons (t := 30) rfl (.cons (t := 31) rfl (.cons (t := 64) rfl .nil))))))))))))) (.cons (t := 101) rfl .nil) ?_
       refine W.cond_f rfl ?_
       refine W.skip ?_
       refine E.inn ?_
       refine E.to ?_
       refine W.region ?_
       refine SL.val (O.det (fun _ => by first | exact G.R.add64 rfl rfl (by omega) | exact G.R.add rfl rfl) rfl Taken.no) ?_
       refine SL.val (O.move rfl rfl Taken.no) ?_
       refine SL.nil ?_
       refine E.again ((k + 1)) (rn []) ?_ ?_ rfl (fixL_spec rfl) ?_ ?_
       · exact (SubF.cons rfl (SubF.val rfl (by (try dsimp only); first | (rw [recS_s (by omega), step_y (cond_p.1 ⟨by omega, by omega, by omega, by first | exact .inr (by omega) | exact .inl (by first | assumption | exact nb_t2 (by assumption) | exact nb_n2 (by assumption))⟩)]; rfl) | exact congrArg (fun a => vL 1 ((acD a).map eB)) (show (recS base ((wholeL f).1.length : Int) (sn.take k)) = (recS base ((wholeL f).1.length : Int) (sn.take (k + 1))) from (by rw [recS_s (by omega), step_n (fun q => by obtain ⟨q1, q2, q3, q4⟩ := cond_p.2 q; first | omega | (rcases q4 with q4 | q4 <;> first | omega | exact absurd q4 (by assumption) | exact absurd (q4.symm.trans (by first | exact nb_f2 (by assumption) | exact nb_m2 (by assumption))) (by decide)))]))) (SubF.val rfl (by (try dsimp only); first | (rw [recS_s (by omega), step_y (cond_p.1 ⟨by omega, by omega, by omega, by first | exact .inr (by omega) | exact .inl (by first | assumption | exact nb_t2 (by assumption) | exact nb_n2 (by assumption))⟩)]; rfl) | exact congrArg (fun a => vI (acN a)) (show (recS base ((wholeL f).1.length : Int) (sn.take k)) = (recS base ((wholeL f).1.length : Int) (sn.take (k + 1))) from (by rw [recS_s (by omega), step_n (fun q => by obtain ⟨q1, q2, q3, q4⟩ := cond_p.2 q; first | omega | (rcases q4 with q4 | q4 <;> first | omega | exact absurd q4 (by assumption) | exact absurd (q4.symm.trans (by first | exact nb_f2 (by assumption) | exact nb_m2 (by assumption))) (by decide)))]))) (SubF.val rfl (by (try dsimp only); first | (rw [recS_s (by omega), step_y (cond_p.1 ⟨by omega, by omega, by omega, by first | exact .inr (by omega) | exact .inl (by first | assumption | exact nb_t2 (by assumption) | exact nb_n2 (by assumption))⟩)]; rfl) | exact congrArg (fun a => vB (acF a)) (show (recS base ((wholeL f).1.length : Int) (sn.take k)) = (recS base ((wholeL f).1.length : Int) (sn.take (k + 1))) from (by rw [recS_s (by omega), step_n (fun q => by obtain ⟨q1, q2, q3, q4⟩ := cond_p.2 q; first | omega | (rcases q4 with q4 | q4 <;> first | omega | exact absurd q4 (by assumption) | exact absurd (q4.symm.trans (by first | exact nb_f2 (by assumption) | exact nb_m2 (by assumption))) (by decide)))]))) (SubF.cons rfl (SubF.cons rfl (SubF.cons rfl (SubF.cons rfl (SubF.cons rfl (SubF.cons rfl SubF.nil))))))))))
       · exact (SubS.cons rfl SubS.nil)
       ·try dsimp only
        omega
       · (try dsimp only); omega
     ·skip
      first | have hg5p := G.gA5 hg5 | have hg5p := G.gA6 hg5 | have hg5p := hg5
      refine SL.skip (OpOk.not rfl rfl rfl hg5) ?_
      refine SL.skip (OpOk.not rfl rfl rfl hg5) ?_
      refine SL.skip (OpOk.not rfl rfl rfl hg5) ?_
      refine SL.skip (OpOk.not rfl rfl rfl hg5) ?_
      refine SL.skip (OpOk.not rfl rfl rfl hg5) ?_
      refine SL.skip (OpOk.not rfl rfl rfl hg5) ?_
      refine SL.val (O.pick_f rfl (G.ne_t hg5) rfl rfl Taken.no) ?_
      refine SL.val (O.move rfl rfl Taken.no) ?_
      have hg9 : false ≠ true := by decide
      refine SL.skip (OpOk.not rfl rfl rfl hg9) ?_
      refine SL.skip (OpOk.not rfl rfl rfl hg9) ?_
      refine SL.skip (OpOk.not rfl rfl rfl hg9) ?_
      refine SL.skip (OpOk.not2 rfl rfl rfl) ?_
      refine SL.skip (OpOk.not2 rfl rfl rfl) ?_
      refine SL.skip (OpOk.not2 rfl rfl rfl) ?_
      refine SL.skip (OpOk.not rfl rfl rfl hg9) ?_
      refine SL.val (O.pick_f rfl rfl rfl rfl Taken.no) ?_
      refine SL.nil ?_
      refine E.to ?_
      refine W.pick (.cons (t := 0) rfl (.cons (t := 6) rfl (.cons (t := 7) rfl (.cons (t := 8) rfl (.cons (t := 9) rfl (.cons (t := 11) rfl (.cons (t := 12) rfl (.cons (t := 15) rfl (.cons (t := 16) rfl (.cons (t := 29) rfl (.cons (t := 30) rfl (.cons (t := 31) rfl (.cons (t := 64) rfl .nil))))))))))))) (.cons (t := 101) rfl .nil) ?_
      refine W.cond_f rfl ?_
      refine W.skip ?_
      refine E.inn ?_
      refine E.to ?_
      refine W.region ?_
      refine SL.val (O.det (fun _ => by first | exact G.R.add64 rfl rfl (by omega) | exact G.R.add rfl rfl) rfl Taken.no) ?_
      refine SL.val (O.move rfl rfl Taken.no) ?_
      refine SL.nil ?_
      refine E.again ((k + 1)) (rn []) ?_ ?_ rfl (fixL_spec rfl) ?_ ?_
      · exact (SubF.cons rfl (SubF.val rfl (by (try dsimp only); first | (rw [recS_s (by omega), step_y (cond_p.1 ⟨by omega, by omega, by omega, by first | exact .inr (by omega) | exact .inl (by first | assumption | exact nb_t2 (by assumption) | exact nb_n2 (by assumption))⟩)]; rfl) | exact congrArg (fun a => vL 1 ((acD a).map eB)) (show (recS base ((wholeL f).1.length : Int) (sn.take k)) = (recS base ((wholeL f).1.length : Int) (sn.take (k + 1))) from (by rw [recS_s (by omega), step_n (fun q => by obtain ⟨q1, q2, q3, q4⟩ := cond_p.2 q; first | omega | (rcases q4 with q4 | q4 <;> first | omega | exact absurd q4 (by assumption) | exact absurd (q4.symm.trans (by first | exact nb_f2 (by assumption) | exact nb_m2 (by assumption))) (by decide)))]))) (SubF.val rfl (by (try dsimp only); first | (rw [recS_s (by omega), step_y (cond_p.1 ⟨by omega, by omega, by omega, by first | exact .inr (by omega) | exact .inl (by first | assumption | exact nb_t2 (by assumption) | exact nb_n2 (by assumption))⟩)]; rfl) | exact congrArg (fun a => vI (acN a)) (show (recS base ((wholeL f).1.length : Int) (sn.take k)) = (recS base ((wholeL f).1.length : Int) (sn.take (k + 1))) from (by rw [recS_s (by omega), step_n (fun q => by obtain ⟨q1, q2, q3, q4⟩ := cond_p.2 q; first | omega | (rcases q4 with q4 | q4 <;> first | omega | exact absurd q4 (by assumption) | exact absurd (q4.symm.trans (by first | exact nb_f2 (by assumption) | exact nb_m2 (by assumption))) (by decide)))]))) (SubF.val rfl (by (try dsimp only); first | (rw [recS_s (by omega), step_y (cond_p.1 ⟨by omega, by omega, by omega, by first | exact .inr (by omega) | exact .inl (by first | assumption | exact nb_t2 (by assumption) | exact nb_n2 (by assumption))⟩)]; rfl) | exact congrArg (fun a => vB (acF a)) (show (recS base ((wholeL f).1.length : Int) (sn.take k)) = (recS base ((wholeL f).1.length : Int) (sn.take (k + 1))) from (by rw [recS_s (by omega), step_n (fun q => by obtain ⟨q1, q2, q3, q4⟩ := cond_p.2 q; first | omega | (rcases q4 with q4 | q4 <;> first | omega | exact absurd q4 (by assumption) | exact absurd (q4.symm.trans (by first | exact nb_f2 (by assumption) | exact nb_m2 (by assumption))) (by decide)))]))) (SubF.cons rfl (SubF.cons rfl (SubF.cons rfl (SubF.cons rfl (SubF.cons rfl (SubF.cons rfl SubF.nil))))))))))
      · exact (SubS.cons rfl SubS.nil)
      ·try dsimp only
       omega
      · (try dsimp only); omega
    ·skip
     first | have hg4p := G.gA5 hg4 | have hg4p := G.gA6 hg4 | have hg4p := hg4
     refine SL.skip (OpOk.not rfl rfl rfl hg4) ?_
     refine SL.skip (OpOk.not rfl rfl rfl hg4) ?_
     refine SL.skip (OpOk.not rfl rfl rfl hg4) ?_
     refine SL.val (O.pick_f rfl (G.ne_t hg4) rfl rfl Taken.no) ?_
     refine SL.val (O.move rfl rfl Taken.no) ?_
     have hg10 : false ≠ true := by decide
     refine SL.skip (OpOk.not rfl rfl rfl hg10) ?_
     refine SL.skip (OpOk.not rfl rfl rfl hg10) ?_
     refine SL.skip (OpOk.not rfl rfl rfl hg10) ?_
     refine SL.skip (OpOk.not rfl rfl rfl hg10) ?_
     refine SL.skip (OpOk.not rfl rfl rfl hg10) ?_
     refine SL.skip (OpOk.not rfl rfl rfl hg10) ?_
     refine SL.val (O.pick_f rfl rfl rfl rfl Taken.no) ?_
     refine SL.val (O.move rfl rfl Taken.no) ?_
     have hg11 : false ≠ true := by decide
     refine SL.skip (OpOk.not rfl rfl rfl hg11) ?_
     refine SL.skip (OpOk.not rfl rfl rfl hg11) ?_
     refine SL.skip (OpOk.not rfl rfl rfl hg11) ?_
     refine SL.skip (OpOk.not2 rfl rfl rfl) ?_
     refine SL.skip (OpOk.not2 rfl rfl rfl) ?_
     refine SL.skip (OpOk.not2 rfl rfl rfl) ?_
     refine SL.skip (OpOk.not rfl rfl rfl hg11) ?_
     refine SL.val (O.pick_f rfl rfl rfl rfl Taken.no) ?_
     refine SL.nil ?_
     refine E.to ?_
     refine W.pick (.cons (t := 0) rfl (.cons (t := 6) rfl (.cons (t := 7) rfl (.cons (t := 8) rfl (.cons (t := 9) rfl (.cons (t := 11) rfl (.cons (t := 12) rfl (.cons (t := 15) rfl (.cons (t := 16) rfl (.cons (t := 29) rfl (.cons (t := 30) rfl (.cons (t := 31) rfl (.cons (t := 64) rfl .nil))))))))))))) (.cons (t := 101) rfl .nil) ?_
     refine W.cond_f rfl ?_
     refine W.skip ?_
     refine E.inn ?_
     refine E.to ?_
     refine W.region ?_
     refine SL.val (O.det (fun _ => by first | exact G.R.add64 rfl rfl (by omega) | exact G.R.add rfl rfl) rfl Taken.no) ?_
     refine SL.val (O.move rfl rfl Taken.no) ?_
     refine SL.nil ?_
     refine E.again ((k + 1)) (rn []) ?_ ?_ rfl (fixL_spec rfl) ?_ ?_
     · exact (SubF.cons rfl (SubF.val rfl (by (try dsimp only); first | (rw [recS_s (by omega), step_y (cond_p.1 ⟨by omega, by omega, by omega, by first | exact .inr (by omega) | exact .inl (by first | assumption | exact nb_t2 (by assumption) | exact nb_n2 (by assumption))⟩)]; rfl) | exact congrArg (fun a => vL 1 ((acD a).map eB)) (show (recS base ((wholeL f).1.length : Int) (sn.take k)) = (recS base ((wholeL f).1.length : Int) (sn.take (k + 1))) from (by rw [recS_s (by omega), step_n (fun q => by obtain ⟨q1, q2, q3, q4⟩ := cond_p.2 q; first | omega | (rcases q4 with q4 | q4 <;> first | omega | exact absurd q4 (by assumption) | exact absurd (q4.symm.trans (by first | exact nb_f2 (by assumption) | exact nb_m2 (by assumption))) (by decide)))]))) (SubF.val rfl (by (try dsimp only); first | (rw [recS_s (by omega), step_y (cond_p.1 ⟨by omega, by omega, by omega, by first | exact .inr (by omega) | exact .inl (by first | assumption | exact nb_t2 (by assumption) | exact nb_n2 (by assumption))⟩)]; rfl) | exact congrArg (fun a => vI (acN a)) (show (recS base ((wholeL f).1.length : Int) (sn.take k)) = (recS base ((wholeL f).1.length : Int) (sn.take (k + 1))) from (by rw [recS_s (by omega), step_n (fun q => by obtain ⟨q1, q2, q3, q4⟩ := cond_p.2 q; first | omega | (rcases q4 with q4 | q4 <;> first | omega | exact absurd q4 (by assumption) | exact absurd (q4.symm.trans (by first | exact nb_f2 (by assumption) | exact nb_m2 (by assumption))) (by decide)))]))) (SubF.val rfl (by (try dsimp only); first | (rw [recS_s (by omega), step_y (cond_p.1 ⟨by omega, by omega, by omega, by first | exact .inr (by omega) | exact .inl (by first | assumption | exact nb_t2 (by assumption) | exact nb_n2 (by assumption))⟩)]; rfl) | exact congrArg (fun a => vB (acF a)) (show (recS base ((wholeL f).1.length : Int) (sn.take k)) = (recS base ((wholeL f).1.length : Int) (sn.take (k + 1))) from (by rw [recS_s (by omega), step_n (fun q => by obtain ⟨q1, q2, q3, q4⟩ := cond_p.2 q; first | omega | (rcases q4 with q4 | q4 <;> first | omega | exact absurd q4 (by assumption) | exact absurd (q4.symm.trans (by first | exact nb_f2 (by assumption) | exact nb_m2 (by assumption))) (by decide)))]))) (SubF.cons rfl (SubF.cons rfl (SubF.cons rfl (SubF.cons rfl (SubF.cons rfl (SubF.cons rfl SubF.nil))))))))))
     · exact (SubS.cons rfl SubS.nil)
     ·try dsimp only
      omega
     · (try dsimp only); omega
   ·skip
    refine W.exit ?_
    refine E.th ?_
    refine E.th ?_
    refine E.hit ?_
    refine E.to ?_
    refine W.seq ?_
    refine W.seq ?_
    refine W.region ?_
    obtain rfl : k = sn.length := by omega
    rw [List.take_length] at hri ⊢
    refine SL.val (O.move rfl rfl Taken.no) ?_
    refine SL.val (O.det (fun _ => G.R.not rfl) rfl Taken.no) ?_
    refine SL.val (O.move rfl rfl Taken.no) ?_
    refine SL.case (j := 2) (g := 70) (want := true) rfl rfl (fun hg12 => ?_) (fun hg12 => ?_)
    ·skip
     first | have hg12p := G.gA1 hg12 | have hg12p := G.gA2 hg12 | have hg12p := hg12
     refine SL.val (O.move rfl rfl (Taken.yes rfl rfl hg12)) ?_
     refine SL.val (O.det (fun _ => G.R.gtr rfl rfl) rfl (Taken.yes rfl rfl hg12)) ?_
     refine SL.val (O.pick_t rfl hg12 rfl rfl Taken.no) ?_
     refine SL.nil ?_
     refine E.to ?_
     first | refine W.cond_d rfl (fun hc13 => ?_) (fun hc13 => ?_) | refine W.cond_nd rfl (fun hc13 => ?_) (fun hc13 => ?_) | refine W.cond rfl (fun hc13 => ?_) (fun hc13 => ?_)
     ·skip
      refine W.seq ?_
      refine W.region ?_
      refine SL.val (O.assign rfl rfl Taken.no) ?_
      refine SL.val (O.assign rfl rfl Taken.no) ?_
      refine SL.val (O.assign rfl rfl Taken.no) ?_
      refine SL.val (O.assign rfl rfl Taken.no) ?_
      refine SL.nil ?_
      refine E.to ?_
      refine W.ret ?_
      refine E.thr ?_
      refine E.nilsl 6 1 rfl ?_
      refine E.nilsl 8 1 rfl ?_
      refine E.fin (rs := [_, _, _, _]) (rn []) (.inl rfl) rfl (.cons (ResOne.tmp rfl) (.cons (ResOne.tmp rfl) (.cons (ResOne.tmp rfl) (.cons (ResOne.tmp rfl) .nil)))) ?_ ?_ rfl (fixL_spec rfl)
      ·skip
       have h9 : recS base ((wholeL f).1.length : Int) sn = none ∧ 0 < base := ⟨acF_f.1 (by first | assumption | exact nb_t2 (by assumption) | exact nb_n2 (by assumption)), by omega⟩
       rw [(rec_9 hb0 h9).1, (rec_9 hb0 h9).2.1, (rec_9 hb0 h9).2.2]; rfl
      · exact SubS.nil
     ·skip
      refine W.skip ?_
      refine E.to ?_
      refine W.seq ?_
      refine W.draw [⟨[], [], [], []⟩, ⟨[], [], [], []⟩, ⟨[], [], [], []⟩, ⟨[], [], [], []⟩, ⟨[], [], [], []⟩, ⟨[], [], [], []⟩, ⟨[], [], [], []⟩, ⟨[], [], [], []⟩, ⟨[], [], [], []⟩, ⟨[], [], [], []⟩, ⟨[], [], [], []⟩] rfl (by kernel_rfl) (by kernel_rfl) rfl rfl ?_
      have h0 : ¬ (recS base ((wholeL f).1.length : Int) sn = none ∧ 0 < base) := fun q => by have hq := acF_f.2 q.1; have := q.2; first | omega | (simp_all; done)
      have hrng := ac_rng hri (by omega) (by omega) h0
      refine WH.val (O.move rfl rfl Taken.no) rfl rfl ?_
      refine WH.val (O.move rfl rfl Taken.no) rfl rfl ?_
      refine WH.val (O.move rfl rfl Taken.no) rfl rfl ?_
      refine WH.val (O.move rfl rfl Taken.no) rfl rfl ?_
      refine WH.val (O.move rfl rfl Taken.no) rfl rfl ?_
      refine WH.val (O.det (fun _ => by first | exact G.R.sub64 rfl rfl (by omega) | exact G.R.sub rfl rfl) rfl Taken.no) rfl rfl ?_
      refine WH.val (O.sub_fz (i := (acN (recS base ((wholeL f).1.length : Int) sn) - base).toNat) rfl (Bnd.at rfl (by omega)) Bnd.no (by rw [List.length_map]; omega) (by first | omega | (simp only [List.length_map, Nat.le_refl, Nat.zero_le] <;> omega) | (simp <;> omega)) sub_lo Try.underlying32 hi22 hs22 rfl Taken.no) rfl rfl ?_
      refine WH.val (O.assign rfl rfl Taken.no) rfl rfl ?_
      refine WH.val (O.assign rfl rfl Taken.no) rfl rfl ?_
      refine WH.val (O.assign rfl rfl Taken.no) rfl rfl ?_
      refine WH.val (O.assign rfl rfl Taken.no) rfl rfl ?_
      refine WH.nil ?_
      refine E.to ?_
      refine W.pick (.cons (t := 6) rfl (.cons (t := 7) rfl (.cons (t := 8) rfl (.cons (t := 9) rfl .nil)))) (.cons (t := 101) rfl .nil) ?_
      refine W.ret ?_
      refine E.fin (rs := [_, _, _, _]) (rn []) (.inl rfl) rfl (.cons (ResOne.tmp rfl) (.cons (ResOne.tmp rfl) (.cons (ResOne.tmp rfl) (.cons (ResOne.tmp rfl) .nil)))) ?_ ?_ rfl (fixL_spec rfl)
      ·skip
       rw [(rec_0 hb0 h0).1, (rec_0 hb0 h0).2.1, (rec_0 hb0 h0).2.2]; rfl
      · exact SubS.nil
    ·skip
     first | have hg12p := G.gA5 hg12 | have hg12p := G.gA6 hg12 | have hg12p := hg12
     refine SL.skip (OpOk.not rfl rfl rfl hg12) ?_
     refine SL.skip (OpOk.not rfl rfl rfl hg12) ?_
     refine SL.val (O.pick_f rfl (G.ne_t hg12) rfl rfl Taken.no) ?_
     refine SL.nil ?_
     refine E.to ?_
     refine W.cond_f rfl ?_
     refine W.skip ?_
     refine E.to ?_
     refine W.seq ?_
     refine W.draw [⟨[], [], [], []⟩, ⟨[], [], [], []⟩, ⟨[], [], [], []⟩, ⟨[], [], [], []⟩, ⟨[], [], [], []⟩, ⟨[], [], [], []⟩, ⟨[], [], [], []⟩, ⟨[], [], [], []⟩, ⟨[], [], [], []⟩, ⟨[], [], [], []⟩, ⟨[], [], [], []⟩] rfl (by kernel_rfl) (by kernel_rfl) rfl rfl ?_
     have h0 : ¬ (recS base ((wholeL f).1.length : Int) sn = none ∧ 0 < base) := fun q => by have hq := acF_f.2 q.1; have := q.2; first | omega | (simp_all; done)
     have hrng := ac_rng hri (by omega) (by omega) h0
     refine WH.val (O.move rfl rfl Taken.no) rfl rfl ?_
     refine WH.val (O.move rfl rfl Taken.no) rfl rfl ?_
     refine WH.val (O.move rfl rfl Taken.no) rfl rfl ?_
     refine WH.val (O.move rfl rfl Taken.no) rfl rfl ?_
     refine WH.val (O.move rfl rfl Taken.no) rfl rfl ?_
     refine WH.val (O.det (fun _ => by first | exact G.R.sub64 rfl rfl (by omega) | exact G.R.sub rfl rfl) rfl Taken.no) rfl rfl ?_
     refine WH.val (O.sub_fz (i := (acN (recS base ((wholeL f).1.length : Int) sn) - base).toNat) rfl (Bnd.at rfl (by omega)) Bnd.no (by rw [List.length_map]; omega) (by first | omega | (simp only [List.length_map, Nat.le_refl, Nat.zero_le] <;> omega) | (simp <;> omega)) sub_lo Try.underlying32 hi22 hs22 rfl Taken.no) rfl rfl ?_
     refine WH.val (O.assign rfl rfl Taken.no) rfl rfl ?_
     refine WH.val (O.assign rfl rfl Taken.no) rfl rfl ?_
     refine WH.val (O.assign rfl rfl Taken.no) rfl rfl ?_
     refine WH.val (O.assign rfl rfl Taken.no) rfl rfl ?_
     refine WH.nil ?_
     refine E.to ?_
     refine W.pick (.cons (t := 6) rfl (.cons (t := 7) rfl (.cons (t := 8) rfl (.cons (t := 9) rfl .nil)))) (.cons (t := 101) rfl .nil) ?_
     refine W.ret ?_
     refine E.fin (rs := [_, _, _, _]) (rn []) (.inl rfl) rfl (.cons (ResOne.tmp rfl) (.cons (ResOne.tmp rfl) (.cons (ResOne.tmp rfl) (.cons (ResOne.tmp rfl) .nil)))) ?_ ?_ rfl (fixL_spec rfl)
     ·skip
      rw [(rec_0 hb0 h0).1, (rec_0 hb0 h0).2.1, (rec_0 hb0 h0).2.2]; rfl
     · exact SubS.nil
 ·skip
  first | have hg1p := G.gA7 hg1 | have hg1p := G.gA8 hg1 | have hg1p := hg1
  refine SL.skip (OpOk.not rfl rfl rfl hg1) ?_
  refine SL.skip (OpOk.not rfl rfl rfl hg1) ?_
  refine SL.val (O.pick_t rfl (G.ne_f hg1) rfl rfl Taken.no) ?_
  refine SL.nil ?_
  refine E.to ?_
  refine W.cond_t rfl ?_
  refine W.seq ?_
  refine W.region ?_
  refine SL.val (O.assign rfl rfl Taken.no) ?_
  refine SL.val (O.assign rfl rfl Taken.no) ?_
  refine SL.val (O.assign rfl rfl Taken.no) ?_
  refine SL.val (O.assign rfl rfl Taken.no) ?_
  refine SL.nil ?_
  refine E.to ?_
  refine W.ret ?_
  refine E.thr ?_
  refine E.nilsl 6 1 rfl ?_
  refine E.nilsl 8 1 rfl ?_
  refine E.fin (rs := [_, _, _, _]) (rn []) (.inl rfl) rfl (.cons (ResOne.tmp rfl) (.cons (ResOne.tmp rfl) (.cons (ResOne.tmp rfl) (.cons (ResOne.tmp rfl) .nil)))) ?_ ?_ rfl (fixL_spec rfl)
  ·skip
   have hb0 : base < 0 ∨ 1000000000 < base := by omega
   rw [(rec_2 hb0).1, (rec_2 hb0).2.1, (rec_2 hb0).2.2]; rfl
  · exact SubS.nil

set_option maxRecDepth 8000 in
/-- bookplate/bookplateref21.Recover. -/
theorem refrecover_h {base : Int} {f : Bs} {sn : List Bs} (hf : f.length ≤ 1000000) (hs : ∀ b ∈ sn, b.length ≤ 1000000) :
    Con Try.prog 17 [vI base, vL 1 (f.map eB), vL 1 (sn.map eL)] [] (.tup [vL 1 ((acD (recA base f sn)).map eB), vI (acN (recA base f sn)), vL 1 ((recL base f sn).map eL), vI (recE base f sn)]) [] := by
 have hwl := (whole_len f).1
 obtain ⟨i22, hi22, hz22, hs22, hb22⟩ := hinf22
 refine Con.enterL (n := 81) Try.func17 rfl rfl rfl (fun τ w ok vs hin => ?_)
 have hl1 := hin.len (i := 1) rfl
 try rw [List.length_map] at hl1
 have hl2 := hin.len (i := 2) rfl
 try rw [List.length_map] at hl2
 clear hin
 refine W.seq ?_
 refine W.region ?_
 refine SL.val (O.assign rfl rfl Taken.no) ?_
 refine SL.val (O.assign rfl rfl Taken.no) ?_
 refine SL.val (O.assign rfl rfl Taken.no) ?_
 refine SL.val (O.assign rfl rfl Taken.no) ?_
 refine SL.nil ?_
 refine E.to ?_
 refine W.seq ?_
 refine W.seq ?_
 refine W.region ?_
 refine SL.val (O.move rfl rfl Taken.no) ?_
 refine SL.val (O.det (fun _ => G.R.lss rfl rfl) rfl Taken.no) ?_
 refine SL.val (O.move rfl rfl Taken.no) ?_
 refine SL.case (j := 2) (g := 20) (want := false) rfl rfl (fun hg1 => ?_) (fun hg1 => ?_)
 ·skip
  first | have hg1p := G.gA3 hg1 | have hg1p := G.gA4 hg1 | have hg1p := hg1
  refine SL.val (O.move rfl rfl (Taken.yes rfl rfl hg1)) ?_
  refine SL.val (O.det (fun _ => G.R.gtr rfl rfl) rfl (Taken.yes rfl rfl hg1)) ?_
  refine SL.val (O.pick_f rfl hg1 rfl rfl Taken.no) ?_
  refine SL.nil ?_
  refine E.to ?_
  first | refine W.cond_d rfl (fun hc2 => ?_) (fun hc2 => ?_) | refine W.cond_nd rfl (fun hc2 => ?_) (fun hc2 => ?_) | refine W.cond rfl (fun hc2 => ?_) (fun hc2 => ?_)
  ·skip
   refine W.seq ?_
   refine W.region ?_
   refine SL.val (O.assign rfl rfl Taken.no) ?_
   refine SL.val (O.assign rfl rfl Taken.no) ?_
   refine SL.val (O.assign rfl rfl Taken.no) ?_
   refine SL.val (O.assign rfl rfl Taken.no) ?_
   refine SL.nil ?_
   refine E.to ?_
   refine W.ret ?_
   refine E.thr ?_
   refine E.nilsl 6 1 rfl ?_
   refine E.nilsl 8 1 rfl ?_
   refine E.fin (rs := [_, _, _, _]) (rn []) (.inl rfl) rfl (.cons (ResOne.tmp rfl) (.cons (ResOne.tmp rfl) (.cons (ResOne.tmp rfl) (.cons (ResOne.tmp rfl) .nil)))) ?_ ?_ rfl (fixL_spec rfl)
   ·skip
    have hb0 : base < 0 ∨ 1000000000 < base := by omega
    rw [(rec_2 hb0).1, (rec_2 hb0).2.1, (rec_2 hb0).2.2]; rfl
   · exact SubS.nil
  ·skip
   have hb0 : ¬ (base < 0 ∨ 1000000000 < base) := by omega
   refine W.skip ?_
   refine E.to ?_
   refine W.seq ?_
   refine W.region ?_
   refine SL.val (O.move rfl rfl Taken.no) ?_
   refine SL.memS (O.call (rn []) [] rfl rfl rfl (refopen_h (l := f) (by omega)) (.cons (ArgOk.same rfl) .nil) SubS.nil rfl rfl rfl rfl rfl (.inl rfl) hcallOk40 (r' := .tup [.agg [.u _, .u _], .u _]) rfl rfl Taken.no) rfl rfl (S' := _) rfl ?_
   refine SL.val (O.move rfl rfl Taken.no) ?_
   refine SL.val (O.extract rfl rfl rfl Taken.no) ?_
   refine SL.val (O.extract rfl rfl rfl Taken.no) ?_
   refine SL.memS (O.alloc (z := .agg #[.slice none 0 0, .int .i64 0]) (is := [.u (.sc (.slice none 0 0)), .u (.sc (.int .i64 0))]) 101 (by kernel_rfl) rfl rfl rfl Taken.no) rfl rfl (S' := (101, _) :: _) rfl ?_
   refine SL.effS (O.st_ref (m := 2) rfl rfl rfl (js := [_, _]) rfl rfl (by kernel_rfl) (by simp) (Nat.le_of_ble_eq_true rfl) rfl (is' := [_, _]) rfl Taken.no) (S' := (101, _) :: _) rfl ?_
   refine SL.val (O.assign rfl rfl Taken.no) ?_
   refine SL.nil ?_
   refine E.to ?_
   refine W.seq ?_
   refine W.region ?_
   refine SL.val (O.assign rfl rfl Taken.no) ?_
   refine SL.nil ?_
   refine E.to ?_
   refine W.seq ?_
   refine W.region ?_
   refine SL.val (O.assign rfl rfl Taken.no) ?_
   refine SL.nil ?_
   refine E.to ?_
   refine W.seq ?_
   refine W.seq ?_
   refine W.region ?_
   refine SL.val (O.assign rfl rfl Taken.no) ?_
   refine SL.nil ?_
   refine E.to ?_
   refine W.block ?_
   refine W.nilsl 13 1 rfl ?_
   refine W.loopx1 (fun (k : Nat) => [(14, vI (k : Int)), (13, vL 1 ((acD (recS base ((wholeL f).1.length : Int) (sn.take k))).map eB)), (12, vI (acB (recS base ((wholeL f).1.length : Int) (sn.take k))))]) (fun (k : Nat) => []) (fun (k : Nat) => k ≤ sn.length) (fun (k : Nat) => sn.length - k) (0) (rn []) (.cons (t := 0) rfl (.cons (t := 2) rfl (.cons (t := 6) rfl (.cons (t := 7) rfl (.cons (t := 8) rfl (.cons (t := 9) rfl (.cons (t := 11) rfl .nil))))))) (.cons (t := 101) rfl .nil) rfl ?_ ?_ rfl rfl ?_ ?_
   · exact (SubF.cons rfl (SubF.cons rfl (SubF.cons rfl SubF.nil)))
   · exact SubS.nil
   ·skip
    omega
   intro k hinv
   have hk := hinv
   have hri := rec_in base ((wholeL f).1.length : Int) (sn.take k)
   refine W.seq ?_
   refine W.seq ?_
   refine W.region ?_
   refine SL.val (O.move rfl rfl Taken.no) ?_
   refine SL.val (O.move rfl rfl Taken.no) ?_
   refine SL.val (O.lenE (SlOf.fz rfl (by decide)) (by first | exact List.length_map _ | rfl) Try.underlying32 rfl Taken.no) ?_
   refine SL.val (O.det (fun _ => G.R.lss rfl rfl) rfl Taken.no) ?_
   refine SL.nil ?_
   refine E.to ?_
   first | refine W.cond_d rfl (fun hc3 => ?_) (fun hc3 => ?_) | refine W.cond_nd rfl (fun hc3 => ?_) (fun hc3 => ?_) | refine W.cond rfl (fun hc3 => ?_) (fun hc3 => ?_)
   ·skip
    have hbk : sn[k]!.length ≤ 1000000 := hs _ (by rw [getElem!_pos sn k (by omega)]; exact List.getElem_mem _)
    refine W.skip ?_
    refine E.to ?_
    refine W.seq ?_
    refine W.block ?_
    refine W.seq ?_
    refine W.region ?_
    refine SL.val (O.move rfl rfl Taken.no) ?_
    refine SL.val (O.move rfl rfl Taken.no) ?_
    refine SL.val (O.idx_fz rfl rfl (rfl) (row_get (by omega)) Try.underlying32 hi22 hs22 rfl Taken.no) ?_
    refine SL.val (O.ld1 (PtI.ofU (PtU.fz rfl)) rfl Try.underlying22 rfl rfl Taken.no) ?_
    refine SL.memS (O.call (rn []) [] rfl rfl rfl (refread_h (l := sn[k]!) (by omega)) (.cons (ArgOk.same rfl) .nil) SubS.nil rfl rfl rfl rfl rfl (.inl rfl) hcallOk11 (r' := .tup [.u _, .u _, .u _]) rfl rfl Taken.no) rfl rfl (S' := _) rfl ?_
    refine SL.val (O.move rfl rfl Taken.no) ?_
    refine SL.val (O.extract rfl rfl rfl Taken.no) ?_
    refine SL.val (O.extract rfl rfl rfl Taken.no) ?_
    refine SL.val (O.extract rfl rfl rfl Taken.no) ?_
    refine SL.val (O.assign rfl rfl Taken.no) ?_
    refine SL.val (O.assign rfl rfl Taken.no) ?_
    refine SL.val (O.assign rfl rfl Taken.no) ?_
    refine SL.nil ?_
    refine E.to ?_
    refine W.pick (.cons (t := 0) rfl (.cons (t := 2) rfl (.cons (t := 6) rfl (.cons (t := 7) rfl (.cons (t := 8) rfl (.cons (t := 9) rfl (.cons (t := 11) rfl (.cons (t := 12) rfl (.cons (t := 13) rfl (.cons (t := 14) rfl (.cons (t := 15) rfl (.cons (t := 16) rfl (.cons (t := 17) rfl .nil))))))))))))) (.cons (t := 101) rfl .nil) ?_
    refine W.seq ?_
    refine W.region ?_
    refine SL.val (O.move rfl rfl Taken.no) ?_
    refine SL.val (O.det (fun _ => G.R.eql rfl rfl) rfl Taken.no) ?_
    refine SL.val (O.move rfl rfl Taken.no) ?_
    refine SL.case (j := 2) (g := 46) (want := true) rfl rfl (fun hg4 => ?_) (fun hg4 => ?_)
    ·skip
     first | have hg4p := G.gA1 hg4 | have hg4p := G.gA2 hg4 | have hg4p := hg4
     refine SL.val (O.move rfl rfl (Taken.yes rfl rfl hg4)) ?_
     refine SL.val (O.move rfl rfl (Taken.yes rfl rfl hg4)) ?_
     refine SL.val (O.det (fun _ => G.R.geq rfl rfl) rfl (Taken.yes rfl rfl hg4)) ?_
     refine SL.val (O.pick_t rfl hg4 rfl rfl Taken.no) ?_
     refine SL.val (O.move rfl rfl Taken.no) ?_
     refine SL.case (j := 7) (g := 51) (want := true) rfl rfl (fun hg5 => ?_) (fun hg5 => ?_)
     ·skip
      first | have hg5p := G.gA1 hg5 | have hg5p := G.gA2 hg5 | have hg5p := hg5
      refine SL.val (O.move rfl rfl (Taken.yes rfl rfl hg5)) ?_
      refine SL.val (O.move rfl rfl (Taken.yes rfl rfl hg5)) ?_
      refine SL.val (O.move rfl rfl (Taken.yes rfl rfl hg5)) ?_
      refine SL.val (O.lenE (SlOf.fz rfl (by decide)) (by first | exact List.length_map _ | rfl) Try.underlying32 rfl (Taken.yes rfl rfl hg5)) ?_
      refine SL.val (O.det (fun _ => by first | exact G.R.add64 rfl rfl (by omega) | exact G.R.add rfl rfl) rfl (Taken.yes rfl rfl hg5)) ?_
      refine SL.val (O.det (fun _ => G.R.leq rfl rfl) rfl (Taken.yes rfl rfl hg5)) ?_
      refine SL.val (O.pick_t rfl hg5 rfl rfl Taken.no) ?_
      refine SL.val (O.move rfl rfl Taken.no) ?_
      refine SL.case (j := 15) (g := 59) (want := true) rfl rfl (fun hg6 => ?_) (fun hg6 => ?_)
      ·skip
       first | have hg6p := G.gA1 hg6 | have hg6p := G.gA2 hg6 | have hg6p := hg6
       refine SL.val (O.move rfl rfl (Taken.yes rfl rfl hg6)) ?_
       refine SL.val (O.move rfl rfl (Taken.yes rfl rfl hg6)) ?_
       refine SL.val (O.det (fun _ => G.R.geq rfl rfl) rfl (Taken.yes rfl rfl hg6)) ?_
       refine SL.val (O.pick_t rfl hg6 rfl rfl Taken.no) ?_
       refine SL.nil ?_
       refine E.to ?_
       refine W.pick (.cons (t := 0) rfl (.cons (t := 2) rfl (.cons (t := 6) rfl (.cons (t := 7) rfl (.cons (t := 8) rfl (.cons (t := 9) rfl (.cons (t := 11) rfl (.cons (t := 12) rfl (.cons (t := 13) rfl (.cons (t := 14) rfl (.cons (t := 15) rfl (.cons (t := 16) rfl (.cons (t := 63) rfl .nil))))))))))))) (.cons (t := 101) rfl .nil) ?_
       first | refine W.cond_d rfl (fun hc7 => ?_) (fun hc7 => ?_) | refine W.cond_nd rfl (fun hc7 => ?_) (fun hc7 => ?_) | refine W.cond rfl (fun hc7 => ?_) (fun hc7 => ?_)
       ·skip
        refine W.region ?_
        refine SL.val (O.move rfl rfl Taken.no) ?_
        refine SL.val (O.move rfl rfl Taken.no) ?_
        refine SL.val (O.assign rfl rfl Taken.no) ?_
        refine SL.val (O.assign rfl rfl Taken.no) ?_
        refine SL.nil ?_
        refine E.inn ?_
        refine E.to ?_
        refine W.region ?_
        refine SL.val (O.move rfl rfl Taken.no) ?_
        refine SL.val (O.det (fun _ => by first | exact G.R.add64 rfl rfl (by omega) | exact G.R.add rfl rfl) rfl Taken.no) ?_
        refine SL.val (O.assign rfl rfl Taken.no) ?_
        refine SL.nil ?_
        refine E.again ((k + 1)) (rn []) ?_ ?_ rfl (fixL_spec rfl) ?_ ?_
        · exact (SubF.cons rfl (SubF.val rfl (by (try dsimp only); rw [recS_s (by omega), step_y (cond_r.1 ⟨by omega, by omega, by omega, by omega⟩)]; rfl) (SubF.val rfl (by (try dsimp only); rw [recS_s (by omega), step_y (cond_r.1 ⟨by omega, by omega, by omega, by omega⟩)]; rfl) (SubF.cons rfl (SubF.cons rfl (SubF.cons rfl (SubF.cons rfl (SubF.cons rfl (SubF.cons rfl (SubF.cons rfl SubF.nil))))))))))
        · exact (SubS.cons rfl SubS.nil)
        ·try dsimp only
         omega
        · (try dsimp only); omega
       ·skip
        refine W.skip ?_
        refine E.inn ?_
        refine E.to ?_
        refine W.region ?_
        refine SL.val (O.move rfl rfl Taken.no) ?_
        refine SL.val (O.det (fun _ => by first | exact G.R.add64 rfl rfl (by omega) | exact G.R.add rfl rfl) rfl Taken.no) ?_
        refine SL.val (O.assign rfl rfl Taken.no) ?_
        refine SL.nil ?_
        refine E.again ((k + 1)) (rn []) ?_ ?_ rfl (fixL_spec rfl) ?_ ?_
        · exact (SubF.cons rfl (SubF.val rfl (by (try dsimp only); exact congrArg (fun a => vL 1 ((acD a).map eB)) (show (recS base ((wholeL f).1.length : Int) (sn.take k)) = (recS base ((wholeL f).1.length : Int) (sn.take (k + 1))) from (by rw [recS_s (by omega), step_n (fun q => by obtain ⟨q1, q2, q3, q4⟩ := cond_r.2 q; first | omega | (omega))]))) (SubF.val rfl (by (try dsimp only); exact congrArg (fun a => vI (acB a)) (show (recS base ((wholeL f).1.length : Int) (sn.take k)) = (recS base ((wholeL f).1.length : Int) (sn.take (k + 1))) from (by rw [recS_s (by omega), step_n (fun q => by obtain ⟨q1, q2, q3, q4⟩ := cond_r.2 q; first | omega | (omega))]))) (SubF.cons rfl (SubF.cons rfl (SubF.cons rfl (SubF.cons rfl (SubF.cons rfl (SubF.cons rfl (SubF.cons rfl SubF.nil))))))))))
        · exact (SubS.cons rfl SubS.nil)
        ·try dsimp only
         omega
        · (try dsimp only); omega
      ·skip
       first | have hg6p := G.gA5 hg6 | have hg6p := G.gA6 hg6 | have hg6p := hg6
       refine SL.skip (OpOk.not rfl rfl rfl hg6) ?_
       refine SL.skip (OpOk.not rfl rfl rfl hg6) ?_
       refine SL.skip (OpOk.not rfl rfl rfl hg6) ?_
       refine SL.val (O.pick_f rfl (G.ne_t hg6) rfl rfl Taken.no) ?_
       refine SL.nil ?_
       refine E.to ?_
       refine W.pick (.cons (t := 0) rfl (.cons (t := 2) rfl (.cons (t := 6) rfl (.cons (t := 7) rfl (.cons (t := 8) rfl (.cons (t := 9) rfl (.cons (t := 11) rfl (.cons (t := 12) rfl (.cons (t := 13) rfl (.cons (t := 14) rfl (.cons (t := 15) rfl (.cons (t := 16) rfl (.cons (t := 63) rfl .nil))))))))))))) (.cons (t := 101) rfl .nil) ?_
       refine W.cond_f rfl ?_
       refine W.skip ?_
       refine E.inn ?_
       refine E.to ?_
       refine W.region ?_
       refine SL.val (O.move rfl rfl Taken.no) ?_
       refine SL.val (O.det (fun _ => by first | exact G.R.add64 rfl rfl (by omega) | exact G.R.add rfl rfl) rfl Taken.no) ?_
       refine SL.val (O.assign rfl rfl Taken.no) ?_
       refine SL.nil ?_
       refine E.again ((k + 1)) (rn []) ?_ ?_ rfl (fixL_spec rfl) ?_ ?_
       · exact (SubF.cons rfl (SubF.val rfl (by (try dsimp only); exact congrArg (fun a => vL 1 ((acD a).map eB)) (show (recS base ((wholeL f).1.length : Int) (sn.take k)) = (recS base ((wholeL f).1.length : Int) (sn.take (k + 1))) from (by rw [recS_s (by omega), step_n (fun q => by obtain ⟨q1, q2, q3, q4⟩ := cond_r.2 q; first | omega | (omega))]))) (SubF.val rfl (by (try dsimp only); exact congrArg (fun a => vI (acB a)) (show (recS base ((wholeL f).1.length : Int) (sn.take k)) = (recS base ((wholeL f).1.length : Int) (sn.take (k + 1))) from (by rw [recS_s (by omega), step_n (fun q => by obtain ⟨q1, q2, q3, q4⟩ := cond_r.2 q; first | omega | (omega))]))) (SubF.cons rfl (SubF.cons rfl (SubF.cons rfl (SubF.cons rfl (SubF.cons rfl (SubF.cons rfl (SubF.cons rfl SubF.nil))))))))))
       · exact (SubS.cons rfl SubS.nil)
       ·try dsimp only
        omega
       · (try dsimp only); omega
     ·skip
      first | have hg5p := G.gA5 hg5 | have hg5p := G.gA6 hg5 | have hg5p := hg5
      refine SL.skip (OpOk.not rfl rfl rfl hg5) ?_
      refine SL.skip (OpOk.not rfl rfl rfl hg5) ?_
      refine SL.skip (OpOk.not rfl rfl rfl hg5) ?_
      refine SL.skip (OpOk.not rfl rfl rfl hg5) ?_
      refine SL.skip (OpOk.not rfl rfl rfl hg5) ?_
      refine SL.skip (OpOk.not rfl rfl rfl hg5) ?_
      refine SL.val (O.pick_f rfl (G.ne_t hg5) rfl rfl Taken.no) ?_
      refine SL.val (O.move rfl rfl Taken.no) ?_
      have hg8 : false ≠ true := by decide
      refine SL.skip (OpOk.not rfl rfl rfl hg8) ?_
      refine SL.skip (OpOk.not rfl rfl rfl hg8) ?_
      refine SL.skip (OpOk.not rfl rfl rfl hg8) ?_
      refine SL.val (O.pick_f rfl rfl rfl rfl Taken.no) ?_
      refine SL.nil ?_
      refine E.to ?_
      refine W.pick (.cons (t := 0) rfl (.cons (t := 2) rfl (.cons (t := 6) rfl (.cons (t := 7) rfl (.cons (t := 8) rfl (.cons (t := 9) rfl (.cons (t := 11) rfl (.cons (t := 12) rfl (.cons (t := 13) rfl (.cons (t := 14) rfl (.cons (t := 15) rfl (.cons (t := 16) rfl (.cons (t := 63) rfl .nil))))))))))))) (.cons (t := 101) rfl .nil) ?_
      refine W.cond_f rfl ?_
      refine W.skip ?_
      refine E.inn ?_
      refine E.to ?_
      refine W.region ?_
      refine SL.val (O.move rfl rfl Taken.no) ?_
      refine SL.val (O.det (fun _ => by first | exact G.R.add64 rfl rfl (by omega) | exact G.R.add rfl rfl) rfl Taken.no) ?_
      refine SL.val (O.assign rfl rfl Taken.no) ?_
      refine SL.nil ?_
      refine E.again ((k + 1)) (rn []) ?_ ?_ rfl (fixL_spec rfl) ?_ ?_
      · exact (SubF.cons rfl (SubF.val rfl (by (try dsimp only); exact congrArg (fun a => vL 1 ((acD a).map eB)) (show (recS base ((wholeL f).1.length : Int) (sn.take k)) = (recS base ((wholeL f).1.length : Int) (sn.take (k + 1))) from (by rw [recS_s (by omega), step_n (fun q => by obtain ⟨q1, q2, q3, q4⟩ := cond_r.2 q; first | omega | (omega))]))) (SubF.val rfl (by (try dsimp only); exact congrArg (fun a => vI (acB a)) (show (recS base ((wholeL f).1.length : Int) (sn.take k)) = (recS base ((wholeL f).1.length : Int) (sn.take (k + 1))) from (by rw [recS_s (by omega), step_n (fun q => by obtain ⟨q1, q2, q3, q4⟩ := cond_r.2 q; first | omega | (omega))]))) (SubF.cons rfl (SubF.cons rfl (SubF.cons rfl (SubF.cons rfl (SubF.cons rfl (SubF.cons rfl (SubF.cons rfl SubF.nil))))))))))
      · exact (SubS.cons rfl SubS.nil)
      ·try dsimp only
       omega
      · (try dsimp only); omega
    ·skip
     first | have hg4p := G.gA5 hg4 | have hg4p := G.gA6 hg4 | have hg4p := hg4
     refine SL.skip (OpOk.not rfl rfl rfl hg4) ?_
     refine SL.skip (OpOk.not rfl rfl rfl hg4) ?_
     refine SL.skip (OpOk.not rfl rfl rfl hg4) ?_
     refine SL.val (O.pick_f rfl (G.ne_t hg4) rfl rfl Taken.no) ?_
     refine SL.val (O.move rfl rfl Taken.no) ?_
     have hg9 : false ≠ true := by decide
     refine SL.skip (OpOk.not rfl rfl rfl hg9) ?_
     refine SL.skip (OpOk.not rfl rfl rfl hg9) ?_
     refine SL.skip (OpOk.not rfl rfl rfl hg9) ?_
     refine SL.skip (OpOk.not rfl rfl rfl hg9) ?_
     refine SL.skip (OpOk.not rfl rfl rfl hg9) ?_
     refine SL.skip (OpOk.not rfl rfl rfl hg9) ?_
     refine SL.val (O.pick_f rfl rfl rfl rfl Taken.no) ?_
     refine SL.val (O.move rfl rfl Taken.no) ?_
     have hg10 : false ≠ true := by decide
     refine SL.skip (OpOk.not rfl rfl rfl hg10) ?_
     refine SL.skip (OpOk.not rfl rfl rfl hg10) ?_
     refine SL.skip (OpOk.not rfl rfl rfl hg10) ?_
     refine SL.val (O.pick_f rfl rfl rfl rfl Taken.no) ?_
     refine SL.nil ?_
     refine E.to ?_
     refine W.pick (.cons (t := 0) rfl (.cons (t := 2) rfl (.cons (t := 6) rfl (.cons (t := 7) rfl (.cons (t := 8) rfl (.cons (t := 9) rfl (.cons (t := 11) rfl (.cons (t := 12) rfl (.cons (t := 13) rfl (.cons (t := 14) rfl (.cons (t := 15) rfl (.cons (t := 16) rfl (.cons (t := 63) rfl .nil))))))))))))) (.cons (t := 101) rfl .nil) ?_
     refine W.cond_f rfl ?_
     refine W.skip ?_
     refine E.inn ?_
     refine E.to ?_
     refine W.region ?_
     refine SL.val (O.move rfl rfl Taken.no) ?_
     refine SL.val (O.det (fun _ => by first | exact G.R.add64 rfl rfl (by omega) | exact G.R.add rfl rfl) rfl Taken.no) ?_
     refine SL.val (O.assign rfl rfl Taken.no) ?_
     refine SL.nil ?_
     refine E.again ((k + 1)) (rn []) ?_ ?_ rfl (fixL_spec rfl) ?_ ?_
     · exact (SubF.cons rfl (SubF.val rfl (by (try dsimp only); exact congrArg (fun a => vL 1 ((acD a).map eB)) (show (recS base ((wholeL f).1.length : Int) (sn.take k)) = (recS base ((wholeL f).1.length : Int) (sn.take (k + 1))) from (by rw [recS_s (by omega), step_n (fun q => by obtain ⟨q1, q2, q3, q4⟩ := cond_r.2 q; first | omega | (omega))]))) (SubF.val rfl (by (try dsimp only); exact congrArg (fun a => vI (acB a)) (show (recS base ((wholeL f).1.length : Int) (sn.take k)) = (recS base ((wholeL f).1.length : Int) (sn.take (k + 1))) from (by rw [recS_s (by omega), step_n (fun q => by obtain ⟨q1, q2, q3, q4⟩ := cond_r.2 q; first | omega | (omega))]))) (SubF.cons rfl (SubF.cons rfl (SubF.cons rfl (SubF.cons rfl (SubF.cons rfl (SubF.cons rfl (SubF.cons rfl SubF.nil))))))))))
     · exact (SubS.cons rfl SubS.nil)
     ·try dsimp only
      omega
     · (try dsimp only); omega
   ·skip
    refine W.exit ?_
    refine E.th ?_
    refine E.th ?_
    refine E.hit ?_
    refine E.to ?_
    refine W.seq ?_
    refine W.seq ?_
    refine W.region ?_
    obtain rfl : k = sn.length := by omega
    rw [List.take_length] at hri ⊢
    have hlt := acB_lt hri
    have hmx := acB_max hri
    refine SL.val (O.move rfl rfl Taken.no) ?_
    refine SL.val (O.det (fun _ => G.R.lss rfl rfl) rfl Taken.no) ?_
    refine SL.val (O.move rfl rfl Taken.no) ?_
    refine SL.case (j := 2) (g := 68) (want := true) rfl rfl (fun hg11 => ?_) (fun hg11 => ?_)
    ·skip
     first | have hg11p := G.gA1 hg11 | have hg11p := G.gA2 hg11 | have hg11p := hg11
     refine SL.val (O.move rfl rfl (Taken.yes rfl rfl hg11)) ?_
     refine SL.val (O.det (fun _ => G.R.gtr rfl rfl) rfl (Taken.yes rfl rfl hg11)) ?_
     refine SL.val (O.pick_t rfl hg11 rfl rfl Taken.no) ?_
     refine SL.nil ?_
     refine E.to ?_
     first | refine W.cond_d rfl (fun hc12 => ?_) (fun hc12 => ?_) | refine W.cond_nd rfl (fun hc12 => ?_) (fun hc12 => ?_) | refine W.cond rfl (fun hc12 => ?_) (fun hc12 => ?_)
     ·skip
      refine W.seq ?_
      refine W.region ?_
      refine SL.val (O.assign rfl rfl Taken.no) ?_
      refine SL.val (O.assign rfl rfl Taken.no) ?_
      refine SL.val (O.assign rfl rfl Taken.no) ?_
      refine SL.val (O.assign rfl rfl Taken.no) ?_
      refine SL.nil ?_
      refine E.to ?_
      refine W.ret ?_
      refine E.thr ?_
      refine E.nilsl 6 1 rfl ?_
      refine E.nilsl 8 1 rfl ?_
      refine E.fin (rs := [_, _, _, _]) (rn []) (.inl rfl) rfl (.cons (ResOne.tmp rfl) (.cons (ResOne.tmp rfl) (.cons (ResOne.tmp rfl) (.cons (ResOne.tmp rfl) .nil)))) ?_ ?_ rfl (fixL_spec rfl)
      ·skip
       have h9 : recS base ((wholeL f).1.length : Int) sn = none ∧ 0 < base := ⟨hlt.1 (by omega), by omega⟩
       rw [(rec_9 hb0 h9).1, (rec_9 hb0 h9).2.1, (rec_9 hb0 h9).2.2]; rfl
      · exact SubS.nil
     ·skip
      refine W.skip ?_
      refine E.to ?_
      refine W.seq ?_
      refine W.region ?_
      have h0 : ¬ (recS base ((wholeL f).1.length : Int) sn = none ∧ 0 < base) := fun q => by have hq := hlt.2 q.1; have := q.2; omega
      have hrng := ac_rng hri (by omega) (by omega) h0
      refine SL.val (O.move rfl rfl Taken.no) ?_
      refine SL.val (O.det (fun _ => G.R.mv (G.R.max2 rfl rfl) (congrArg (Value.int .i64) (show _ = acN (recS base ((wholeL f).1.length : Int) sn) by rw [← hmx]))) rfl Taken.no) ?_
      refine SL.val (O.assign rfl rfl Taken.no) ?_
      refine SL.nil ?_
      refine E.to ?_
      refine W.seq ?_
      refine W.draw [⟨[], [], [], []⟩, ⟨[], [], [], []⟩, ⟨[], [], [], []⟩, ⟨[], [], [], []⟩, ⟨[], [], [], []⟩, ⟨[], [], [], []⟩, ⟨[], [], [], []⟩, ⟨[], [], [], []⟩, ⟨[], [], [], []⟩, ⟨[], [], [], []⟩, ⟨[], [], [], []⟩] rfl (by kernel_rfl) (by kernel_rfl) rfl rfl ?_
      refine WH.val (O.move rfl rfl Taken.no) rfl rfl ?_
      refine WH.val (O.move rfl rfl Taken.no) rfl rfl ?_
      refine WH.val (O.move rfl rfl Taken.no) rfl rfl ?_
      refine WH.val (O.move rfl rfl Taken.no) rfl rfl ?_
      refine WH.val (O.move rfl rfl Taken.no) rfl rfl ?_
      refine WH.val (O.det (fun _ => by first | exact G.R.sub64 rfl rfl (by omega) | exact G.R.sub rfl rfl) rfl Taken.no) rfl rfl ?_
      refine WH.val (O.sub_fz (i := (acN (recS base ((wholeL f).1.length : Int) sn) - base).toNat) rfl (Bnd.at rfl (by omega)) Bnd.no (by rw [List.length_map]; omega) (by first | omega | (simp only [List.length_map, Nat.le_refl, Nat.zero_le] <;> omega) | (simp <;> omega)) sub_lo Try.underlying32 hi22 hs22 rfl Taken.no) rfl rfl ?_
      refine WH.val (O.assign rfl rfl Taken.no) rfl rfl ?_
      refine WH.val (O.assign rfl rfl Taken.no) rfl rfl ?_
      refine WH.val (O.assign rfl rfl Taken.no) rfl rfl ?_
      refine WH.val (O.assign rfl rfl Taken.no) rfl rfl ?_
      refine WH.nil ?_
      refine E.to ?_
      refine W.pick (.cons (t := 6) rfl (.cons (t := 7) rfl (.cons (t := 8) rfl (.cons (t := 9) rfl .nil)))) (.cons (t := 101) rfl .nil) ?_
      refine W.ret ?_
      refine E.fin (rs := [_, _, _, _]) (rn []) (.inl rfl) rfl (.cons (ResOne.tmp rfl) (.cons (ResOne.tmp rfl) (.cons (ResOne.tmp rfl) (.cons (ResOne.tmp rfl) .nil)))) ?_ ?_ rfl (fixL_spec rfl)
      ·skip
       rw [(rec_0 hb0 h0).1, (rec_0 hb0 h0).2.1, (rec_0 hb0 h0).2.2]; rfl
      · exact SubS.nil
    ·skip
     first | have hg11p := G.gA5 hg11 | have hg11p := G.gA6 hg11 | have hg11p := hg11
     refine SL.skip (OpOk.not rfl rfl rfl hg11) ?_
     refine SL.skip (OpOk.not rfl rfl rfl hg11) ?_
     refine SL.val (O.pick_f rfl (G.ne_t hg11) rfl rfl Taken.no) ?_
     refine SL.nil ?_
     refine E.to ?_
     refine W.cond_f rfl ?_
     refine W.skip ?_
     refine E.to ?_
     refine W.seq ?_
     refine W.region ?_
     have h0 : ¬ (recS base ((wholeL f).1.length : Int) sn = none ∧ 0 < base) := fun q => by have hq := hlt.2 q.1; have := q.2; omega
     have hrng := ac_rng hri (by omega) (by omega) h0
     refine SL.val (O.move rfl rfl Taken.no) ?_
     refine SL.val (O.det (fun _ => G.R.mv (G.R.max2 rfl rfl) (congrArg (Value.int .i64) (show _ = acN (recS base ((wholeL f).1.length : Int) sn) by rw [← hmx]))) rfl Taken.no) ?_
     refine SL.val (O.assign rfl rfl Taken.no) ?_
     refine SL.nil ?_
     refine E.to ?_
     refine W.seq ?_
     refine W.draw [⟨[], [], [], []⟩, ⟨[], [], [], []⟩, ⟨[], [], [], []⟩, ⟨[], [], [], []⟩, ⟨[], [], [], []⟩, ⟨[], [], [], []⟩, ⟨[], [], [], []⟩, ⟨[], [], [], []⟩, ⟨[], [], [], []⟩, ⟨[], [], [], []⟩, ⟨[], [], [], []⟩] rfl (by kernel_rfl) (by kernel_rfl) rfl rfl ?_
     refine WH.val (O.move rfl rfl Taken.no) rfl rfl ?_
     refine WH.val (O.move rfl rfl Taken.no) rfl rfl ?_
     refine WH.val (O.move rfl rfl Taken.no) rfl rfl ?_
     refine WH.val (O.move rfl rfl Taken.no) rfl rfl ?_
     refine WH.val (O.move rfl rfl Taken.no) rfl rfl ?_
     refine WH.val (O.det (fun _ => by first | exact G.R.sub64 rfl rfl (by omega) | exact G.R.sub rfl rfl) rfl Taken.no) rfl rfl ?_
     refine WH.val (O.sub_fz (i := (acN (recS base ((wholeL f).1.length : Int) sn) - base).toNat) rfl (Bnd.at rfl (by omega)) Bnd.no (by rw [List.length_map]; omega) (by first | omega | (simp only [List.length_map, Nat.le_refl, Nat.zero_le] <;> omega) | (simp <;> omega)) sub_lo Try.underlying32 hi22 hs22 rfl Taken.no) rfl rfl ?_
     refine WH.val (O.assign rfl rfl Taken.no) rfl rfl ?_
     refine WH.val (O.assign rfl rfl Taken.no) rfl rfl ?_
     refine WH.val (O.assign rfl rfl Taken.no) rfl rfl ?_
     refine WH.val (O.assign rfl rfl Taken.no) rfl rfl ?_
     refine WH.nil ?_
     refine E.to ?_
     refine W.pick (.cons (t := 6) rfl (.cons (t := 7) rfl (.cons (t := 8) rfl (.cons (t := 9) rfl .nil)))) (.cons (t := 101) rfl .nil) ?_
     refine W.ret ?_
     refine E.fin (rs := [_, _, _, _]) (rn []) (.inl rfl) rfl (.cons (ResOne.tmp rfl) (.cons (ResOne.tmp rfl) (.cons (ResOne.tmp rfl) (.cons (ResOne.tmp rfl) .nil)))) ?_ ?_ rfl (fixL_spec rfl)
     ·skip
      rw [(rec_0 hb0 h0).1, (rec_0 hb0 h0).2.1, (rec_0 hb0 h0).2.2]; rfl
     · exact SubS.nil
 ·skip
  first | have hg1p := G.gA7 hg1 | have hg1p := G.gA8 hg1 | have hg1p := hg1
  refine SL.skip (OpOk.not rfl rfl rfl hg1) ?_
  refine SL.skip (OpOk.not rfl rfl rfl hg1) ?_
  refine SL.val (O.pick_t rfl (G.ne_f hg1) rfl rfl Taken.no) ?_
  refine SL.nil ?_
  refine E.to ?_
  refine W.cond_t rfl ?_
  refine W.seq ?_
  refine W.region ?_
  refine SL.val (O.assign rfl rfl Taken.no) ?_
  refine SL.val (O.assign rfl rfl Taken.no) ?_
  refine SL.val (O.assign rfl rfl Taken.no) ?_
  refine SL.val (O.assign rfl rfl Taken.no) ?_
  refine SL.nil ?_
  refine E.to ?_
  refine W.ret ?_
  refine E.thr ?_
  refine E.nilsl 6 1 rfl ?_
  refine E.nilsl 8 1 rfl ?_
  refine E.fin (rs := [_, _, _, _]) (rn []) (.inl rfl) rfl (.cons (ResOne.tmp rfl) (.cons (ResOne.tmp rfl) (.cons (ResOne.tmp rfl) (.cons (ResOne.tmp rfl) .nil)))) ?_ ?_ rfl (fixL_spec rfl)
  ·skip
   have hb0 : base < 0 ∨ 1000000000 < base := by omega
   rw [(rec_2 hb0).1, (rec_2 hb0).2.1, (rec_2 hb0).2.2]; rfl
  · exact SubS.nil

set_option maxRecDepth 8000 in
/-- bookplate/bookplateref21.Few. -/
theorem few_h {b s : Int} {f : Bs} {sn : List Bs} :
    Con Try.prog 15 [vA [uI b, .sl 1 (f.map eB), uI s, .sl 1 (sn.map eL)]] [] (vB (decide (f.length ≤ 400 ∧ sn.length ≤ 4 ∧ ∀ i, i < sn.length → sn[i]!.length ≤ 200))) [] := by
 obtain ⟨i22, hi22, hz22, hs22, hb22⟩ := hinf22
 refine Con.enterL (n := 29) Try.func15 rfl rfl rfl (fun τ w ok vs hin => ?_)
 have hl0_1 := hin.lenA (i := 0) (j := 1) rfl rfl
 try rw [List.length_map] at hl0_1
 have hl0_3 := hin.lenA (i := 0) (j := 3) rfl rfl
 try rw [List.length_map] at hl0_3
 clear hin
 refine W.seq ?_
 refine W.region ?_
 refine SL.memS (O.box (is := [_, _, _, _]) 101 rfl rfl (by simp) rfl rfl Taken.no) rfl rfl (S' := (101, _) :: _) rfl ?_
 refine SL.val (O.assign rfl rfl Taken.no) ?_
 refine SL.nil ?_
 refine E.to ?_
 refine W.seq ?_
 refine W.seq ?_
 refine W.region ?_
 refine SL.val (O.assign rfl rfl Taken.no) ?_
 refine SL.nil ?_
 refine E.to ?_
 refine W.block ?_
 refine W.loopx1 (fun (k : Nat) => [(3, vI (k : Int))]) (fun (k : Nat) => []) (fun (k : Nat) => k ≤ sn.length ∧ ∀ j, j < k → sn[j]!.length ≤ 200) (fun (k : Nat) => sn.length - k) (0) (rn []) (.cons (t := 1) rfl .nil) (.cons (t := 101) rfl .nil) rfl ?_ ?_ rfl rfl ?_ ?_
 · exact (SubF.cons rfl SubF.nil)
 · exact SubS.nil
 ·skip
  exact ⟨by omega, fun j h => by omega⟩
 intro k hinv
 obtain ⟨hk, hp⟩ := hinv
 refine W.seq ?_
 refine W.seq ?_
 refine W.region ?_
 refine SL.val (O.move rfl rfl Taken.no) ?_
 refine SL.val (O.fld_ref (o' := 3) rfl Try.underlying37 rfl (m := 0) (by kernel_rfl) rfl rfl Taken.no) ?_
 refine SL.val (O.ld1 (PtI.ref rfl rfl) rfl Try.underlying32 rfl rfl Taken.no) ?_
 refine SL.val (O.lenE (SlOf.fz rfl (by decide)) (by first | exact List.length_map _ | rfl) Try.underlying32 rfl Taken.no) ?_
 refine SL.val (O.det (fun _ => G.R.lss rfl rfl) rfl Taken.no) ?_
 refine SL.nil ?_
 refine E.to ?_
 first | refine W.cond_d rfl (fun hc1 => ?_) (fun hc1 => ?_) | refine W.cond_nd rfl (fun hc1 => ?_) (fun hc1 => ?_) | refine W.cond rfl (fun hc1 => ?_) (fun hc1 => ?_)
 ·skip
  refine W.skip ?_
  refine E.to ?_
  refine W.seq ?_
  refine W.block ?_
  refine W.seq ?_
  refine W.region ?_
  refine SL.val (O.fld_ref (o' := 3) rfl Try.underlying37 rfl (m := 0) (by kernel_rfl) rfl rfl Taken.no) ?_
  refine SL.val (O.ld1 (PtI.ref rfl rfl) rfl Try.underlying32 rfl rfl Taken.no) ?_
  refine SL.val (O.move rfl rfl Taken.no) ?_
  refine SL.val (O.idx_fz rfl rfl (rfl) (row_get (by omega)) Try.underlying32 hi22 hs22 rfl Taken.no) ?_
  refine SL.val (O.ld1 (PtI.ofU (PtU.fz rfl)) rfl Try.underlying22 rfl rfl Taken.no) ?_
  refine SL.val (O.lenE (SlOf.fz rfl (by decide)) (by first | exact List.length_map _ | rfl) Try.underlying22 rfl Taken.no) ?_
  refine SL.val (O.det (fun _ => G.R.gtr rfl rfl) rfl Taken.no) ?_
  refine SL.nil ?_
  refine E.to ?_
  first | refine W.cond_d rfl (fun hc2 => ?_) (fun hc2 => ?_) | refine W.cond_nd rfl (fun hc2 => ?_) (fun hc2 => ?_) | refine W.cond rfl (fun hc2 => ?_) (fun hc2 => ?_)
  ·skip
   refine W.seq ?_
   refine W.region ?_
   refine SL.val (O.assign rfl rfl Taken.no) ?_
   refine SL.nil ?_
   refine E.to ?_
   refine W.ret ?_
   refine E.inr ?_
   refine E.thr ?_
   refine E.thr ?_
   refine E.inr ?_
   refine E.thr ?_
   refine E.fin (rs := [_]) (rn []) (.inl rfl) rfl (.cons (ResOne.tmp rfl) .nil) ?_ ?_ rfl (fixL_spec rfl)
   ·skip
    exact iv_bool (decide_eq_false fun q => by have := q.2.2 k (by omega); omega)
   · exact SubS.nil
  ·skip
   refine W.skip ?_
   refine E.inn ?_
   refine E.to ?_
   refine W.region ?_
   refine SL.val (O.move rfl rfl Taken.no) ?_
   refine SL.val (O.det (fun _ => by first | exact G.R.add64 rfl rfl (by omega) | exact G.R.add rfl rfl) rfl Taken.no) ?_
   refine SL.val (O.assign rfl rfl Taken.no) ?_
   refine SL.nil ?_
   refine E.again ((k + 1)) (rn []) ?_ ?_ rfl (fixL_spec rfl) ?_ ?_
   · exact (SubF.cons rfl (SubF.cons rfl SubF.nil))
   · exact (SubS.cons rfl SubS.nil)
   ·try dsimp only
    exact ⟨by omega, fun j hj => by rcases Nat.lt_succ_iff_lt_or_eq.1 hj with h | h; exact hp j h; subst h; omega⟩
   · (try dsimp only); omega
 ·skip
  refine W.exit ?_
  refine E.th ?_
  refine E.th ?_
  refine E.hit ?_
  refine E.to ?_
  refine W.seq ?_
  refine W.region ?_
  refine SL.val (O.fld_ref (o' := 1) rfl Try.underlying37 rfl (m := 1) (by kernel_rfl) rfl rfl Taken.no) ?_
  refine SL.val (O.fld_ref (o' := 1) rfl Try.underlying35 rfl (m := 0) (by kernel_rfl) rfl rfl Taken.no) ?_
  refine SL.val (O.ld1 (PtI.ref rfl rfl) rfl Try.underlying22 rfl rfl Taken.no) ?_
  refine SL.val (O.lenE (SlOf.fz rfl (by decide)) (by first | exact List.length_map _ | rfl) Try.underlying22 rfl Taken.no) ?_
  refine SL.val (O.det (fun _ => G.R.leq rfl rfl) rfl Taken.no) ?_
  refine SL.val (O.move rfl rfl Taken.no) ?_
  refine SL.case (j := 5) (g := 23) (want := true) rfl rfl (fun hg3 => ?_) (fun hg3 => ?_)
  ·skip
   first | have hg3p := G.gA1 hg3 | have hg3p := G.gA2 hg3 | have hg3p := hg3
   refine SL.val (O.fld_ref (o' := 3) rfl Try.underlying37 rfl (m := 0) (by kernel_rfl) rfl rfl (Taken.yes rfl rfl hg3)) ?_
   refine SL.val (O.ld1 (PtI.ref rfl rfl) rfl Try.underlying32 rfl rfl (Taken.yes rfl rfl hg3)) ?_
   refine SL.val (O.lenE (SlOf.fz rfl (by decide)) (by first | exact List.length_map _ | rfl) Try.underlying32 rfl (Taken.yes rfl rfl hg3)) ?_
   refine SL.val (O.det (fun _ => G.R.leq rfl rfl) rfl (Taken.yes rfl rfl hg3)) ?_
   refine SL.val (O.pick_t rfl hg3 rfl rfl Taken.no) ?_
   refine SL.val (O.assign rfl rfl Taken.no) ?_
   refine SL.nil ?_
   refine E.to ?_
   refine W.ret ?_
   refine E.fin (rs := [_]) (rn []) (.inl rfl) rfl (.cons (ResOne.tmp rfl) .nil) ?_ ?_ rfl (fixL_spec rfl)
   ·skip
    first | exact iv_bool (decide_eq_false fun q => by have := q.1; omega) | exact iv_bool (decide_eq_decide.2 ⟨fun q => by have := q.2.1; omega, fun q => ⟨by omega, by omega, fun i hi => hp i (by omega)⟩⟩)
   · exact SubS.nil
  ·skip
   first | have hg3p := G.gA5 hg3 | have hg3p := G.gA6 hg3 | have hg3p := hg3
   refine SL.skip (OpOk.not rfl rfl rfl hg3) ?_
   refine SL.skip (OpOk.not rfl rfl rfl hg3) ?_
   refine SL.skip (OpOk.not rfl rfl rfl hg3) ?_
   refine SL.skip (OpOk.not rfl rfl rfl hg3) ?_
   refine SL.val (O.pick_f rfl (G.ne_t hg3) rfl rfl Taken.no) ?_
   refine SL.val (O.assign rfl rfl Taken.no) ?_
   refine SL.nil ?_
   refine E.to ?_
   refine W.ret ?_
   refine E.fin (rs := [_]) (rn []) (.inl rfl) rfl (.cons (ResOne.tmp rfl) .nil) ?_ ?_ rfl (fixL_spec rfl)
   ·skip
    first | exact iv_bool (decide_eq_false fun q => by have := q.1; omega) | exact iv_bool (decide_eq_decide.2 ⟨fun q => by have := q.2.1; omega, fun q => ⟨by omega, by omega, fun i hi => hp i (by omega)⟩⟩)
   · exact SubS.nil

end Go.Proofs.Ytemclhhlafjohaa
