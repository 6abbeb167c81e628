/-
  The walks.
-/
import Derived.Test.YtfmgpocbpbfalaaH6
import Derived.Test.YtfmgpocbpbfalaaV41
namespace Go.Proofs.Ytfmgpocbpbfalaa
open Go Go.RowKit Go.H Go.D41

theorem hcallOk38 : G.callOk Try.prog 38 = true := by kernel_rfl
theorem hcallOk43 : G.callOk Try.prog 43 = true := by kernel_rfl
theorem hcallOk44 : G.callOk Try.prog 44 = true := by kernel_rfl

set_option maxRecDepth 8000 in
/-- bookplate/bookplateref41.Sorted. -/
theorem sorted_h {l : List Str} (hl : l.length ≤ 900) :
    Con Try.prog 38 [vL 1 (l.map eStr)] [] (vL 1 ((sortS l).map eStr)) [] := by
 obtain ⟨i9, hi9, hz9, hs9, hb9⟩ := hinf9
 refine Con.enterL (n := 60) Try.func38 rfl rfl rfl (fun τ w ok vs hin => ?_)
 have hl0 := hin.len (i := 0) rfl
 try rw [List.length_map] at hl0
 clear hin
 refine W.seq ?_
 refine W.region ?_
 refine SL.val (O.assign rfl rfl Taken.no) ?_
 refine SL.nil ?_
 refine E.to ?_
 refine W.seq ?_
 refine W.region ?_
 refine SL.val (O.assign rfl rfl Taken.no) ?_
 refine SL.nil ?_
 refine E.to ?_
 refine W.seq ?_
 refine W.seq ?_
 refine W.region ?_
 refine SL.val (O.assign rfl rfl Taken.no) ?_
 refine SL.nil ?_
 refine E.to ?_
 refine W.block ?_
 refine W.adopt 3 102 9 1 (by decide) rfl rfl rfl ?_
 refine W.loopx1 (fun (k : Nat) => [(4, vI (k : Int)), (3, .own 101)]) (fun (k : Nat) => [(101, .data 9 1 ((sortS (l.take k)).map eStr))]) (fun (k : Nat) => k ≤ l.length) (fun (k : Nat) => l.length - k) (0) (rn [(101, 102)]) (.cons (t := 0) rfl (.cons (t := 2) rfl .nil)) .nil rfl ?_ ?_ rfl rfl ?_ ?_
 · exact (SubF.cons rfl (SubF.cons rfl SubF.nil))
 · exact (SubS.cons rfl SubS.nil)
 ·skip
  omega
 intro k hinv
 have hk := hinv
 have hol := sort_len_k l k
 refine W.seq ?_
 refine W.seq ?_
 refine W.region ?_
 refine SL.val (O.move rfl rfl Taken.no) ?_
 refine SL.val (O.move rfl rfl Taken.no) ?_
 refine SL.val (O.lenE (SlOf.fz rfl (by decide)) (by first | exact List.length_map _ | rfl) Try.underlying22 rfl Taken.no) ?_
 refine SL.val (O.det (fun _ => G.R.lss rfl rfl) rfl Taken.no) ?_
 refine SL.nil ?_
 refine E.to ?_
 first | refine W.cond_d rfl (fun hc1 => ?_) (fun hc1 => ?_) | refine W.cond_nd rfl (fun hc1 => ?_) (fun hc1 => ?_) | refine W.cond rfl (fun hc1 => ?_) (fun hc1 => ?_)
 ·skip
  refine W.skip ?_
  refine E.to ?_
  refine W.seq ?_
  refine W.block ?_
  refine W.seq ?_
  refine W.region ?_
  refine SL.val (O.assign rfl rfl Taken.no) ?_
  refine SL.nil ?_
  refine E.to ?_
  refine W.seq ?_
  refine W.block ?_
  refine W.loopx1 (fun (a : Nat) => [(5, vI (a : Int))]) (fun (a : Nat) => []) (fun (a : Nat) => a ≤ (sortS (l.take k)).length ∧ ∀ j, j < a → lt (sortS (l.take k))[j]! l[k]!) (fun (a : Nat) => (sortS (l.take k)).length - a) (0) (rn []) (.cons (t := 0) rfl (.cons (t := 2) rfl (.cons (t := 3) rfl (.cons (t := 4) rfl .nil)))) (.cons (t := 101) rfl .nil) rfl ?_ ?_ rfl rfl ?_ ?_
  · exact (SubF.cons rfl SubF.nil)
  · exact SubS.nil
  ·skip
   exact ⟨by omega, fun j h => by omega⟩
  intro a hinv
  obtain ⟨ha, hp⟩ := hinv
  refine W.seq ?_
  refine W.seq ?_
  refine W.draw [⟨[], [], []⟩, ⟨[101], [], []⟩, ⟨[101], [], []⟩, ⟨[], [], []⟩, ⟨[], [], []⟩, ⟨[101], [], []⟩, ⟨[], [], []⟩, ⟨[101], [], []⟩, ⟨[101], [], []⟩, ⟨[], [], []⟩, ⟨[], [], []⟩, ⟨[], [], []⟩, ⟨[], [], []⟩, ⟨[], [], []⟩, ⟨[], [], []⟩] rfl (by kernel_rfl) (by kernel_rfl) rfl rfl ?_
  refine WH.val (O.move rfl rfl Taken.no) rfl rfl ?_
  refine WH.val (O.move rfl rfl Taken.no) rfl rfl ?_
  refine WH.val (O.lenE (SlOf.own rfl rfl) (by first | exact List.length_map _ | rfl) Try.underlying22 rfl Taken.no) rfl rfl ?_
  refine WH.val (O.det (fun _ => G.R.lss rfl rfl) rfl Taken.no) rfl rfl ?_
  refine WH.val (O.move rfl rfl Taken.no) rfl rfl ?_
  refine WH.case (j := 4) (g := 16) (want := true) rfl rfl (fun hg2 => ?_) (fun hg2 => ?_)
  ·skip
   first | have hg2p := G.gA1 hg2 | have hg2p := G.gA2 hg2 | have hg2p := hg2
   refine WH.val (O.move rfl rfl (Taken.yes rfl rfl hg2)) rfl rfl ?_
   refine WH.val (O.move rfl rfl (Taken.yes rfl rfl hg2)) rfl rfl ?_
   refine WH.val (O.idx_own rfl rfl rfl (rfl) (by simp; omega) Try.underlying22 hi9 hs9 rfl (Taken.yes rfl rfl hg2)) rfl rfl ?_
   refine WH.val (O.ld1 (PtI.ofU (PtU.el rfl rfl (row_get (by omega)))) rfl Try.underlying9 rfl rfl (Taken.yes rfl rfl hg2)) rfl rfl ?_
   refine WH.val (O.move rfl rfl (Taken.yes rfl rfl hg2)) rfl rfl ?_
   refine WH.val (O.move rfl rfl (Taken.yes rfl rfl hg2)) rfl rfl ?_
   refine WH.val (O.idx_fz rfl rfl (rfl) (row_get (by omega)) Try.underlying22 hi9 hs9 rfl (Taken.yes rfl rfl hg2)) rfl rfl ?_
   refine WH.val (O.ld1 (PtI.ofU (PtU.fz rfl)) rfl Try.underlying9 rfl rfl (Taken.yes rfl rfl hg2)) rfl rfl ?_
   refine WH.val (O.det (fun _ => G.R.strltL rfl rfl) rfl (Taken.yes rfl rfl hg2)) rfl rfl ?_
   refine WH.val (O.pick_t rfl hg2 rfl rfl Taken.no) rfl rfl ?_
   refine WH.nil ?_
   refine E.to ?_
   first | refine W.cond_d rfl (fun hc3 => ?_) (fun hc3 => ?_) | refine W.cond_nd rfl (fun hc3 => ?_) (fun hc3 => ?_) | refine W.cond rfl (fun hc3 => ?_) (fun hc3 => ?_)
   ·skip
    refine W.skip ?_
    refine E.to ?_
    refine W.block ?_
    refine W.region ?_
    refine SL.val (O.move rfl rfl Taken.no) ?_
    refine SL.val (O.det (fun _ => by first | exact G.R.add64 rfl rfl (by omega) | exact G.R.add rfl rfl) rfl Taken.no) ?_
    refine SL.val (O.assign rfl rfl Taken.no) ?_
    refine SL.nil ?_
    refine E.inn ?_
    refine E.again ((a + 1)) (rn []) ?_ ?_ rfl (fixL_spec rfl) ?_ ?_
    · exact (SubF.cons rfl (SubF.cons rfl (SubF.cons rfl (SubF.cons rfl (SubF.cons rfl SubF.nil)))))
    · exact (SubS.cons rfl SubS.nil)
    ·try dsimp only
     exact ⟨by omega, fun j hj => by rcases Nat.lt_succ_iff_lt_or_eq.1 hj with h | h; exact hp j h; subst h; assumption⟩
    · (try dsimp only); omega
   ·skip
    refine W.exit ?_
    refine E.th ?_
    refine E.th ?_
    refine E.hit ?_
    refine E.to ?_
    refine W.seq ?_
    refine W.draw [⟨[], [], []⟩, ⟨[101], [], []⟩, ⟨[101], [], []⟩, ⟨[], [], []⟩, ⟨[], [], []⟩, ⟨[101], [], []⟩, ⟨[], [], []⟩, ⟨[101], [], []⟩, ⟨[101], [], []⟩, ⟨[], [], []⟩, ⟨[], [], []⟩, ⟨[], [], []⟩, ⟨[], [], []⟩, ⟨[], [], []⟩, ⟨[], [], []⟩] rfl (by kernel_rfl) (by kernel_rfl) rfl rfl ?_
    have hnl : a < (sortS (l.take k)).length → ¬ lt (sortS (l.take k))[a]! l[k]! := fun h => by first | omega | assumption | exact Bool.eq_false_iff.1 (by assumption)
    refine WH.val (O.move rfl rfl Taken.no) rfl rfl ?_
    refine WH.val (O.move rfl rfl Taken.no) rfl rfl ?_
    refine WH.val (O.lenE (SlOf.own rfl rfl) (by first | exact List.length_map _ | rfl) Try.underlying22 rfl Taken.no) rfl rfl ?_
    refine WH.val (O.det (fun _ => G.R.eql rfl rfl) rfl Taken.no) rfl rfl ?_
    refine WH.val (O.move rfl rfl Taken.no) rfl rfl ?_
    refine WH.case (j := 4) (g := 33) (want := false) rfl rfl (fun hg4 => ?_) (fun hg4 => ?_)
    ·skip
     first | have hg4p := G.gA3 hg4 | have hg4p := G.gA4 hg4 | have hg4p := hg4
     refine WH.val (O.move rfl rfl (Taken.yes rfl rfl hg4)) rfl rfl ?_
     refine WH.val (O.move rfl rfl (Taken.yes rfl rfl hg4)) rfl rfl ?_
     refine WH.val (O.idx_own rfl rfl rfl (rfl) (by simp; omega) Try.underlying22 hi9 hs9 rfl (Taken.yes rfl rfl hg4)) rfl rfl ?_
     refine WH.val (O.ld1 (PtI.ofU (PtU.el rfl rfl (row_get (by omega)))) rfl Try.underlying9 rfl rfl (Taken.yes rfl rfl hg4)) rfl rfl ?_
     refine WH.val (O.move rfl rfl (Taken.yes rfl rfl hg4)) rfl rfl ?_
     refine WH.val (O.move rfl rfl (Taken.yes rfl rfl hg4)) rfl rfl ?_
     refine WH.val (O.idx_fz rfl rfl (rfl) (row_get (by omega)) Try.underlying22 hi9 hs9 rfl (Taken.yes rfl rfl hg4)) rfl rfl ?_
     refine WH.val (O.ld1 (PtI.ofU (PtU.fz rfl)) rfl Try.underlying9 rfl rfl (Taken.yes rfl rfl hg4)) rfl rfl ?_
     refine WH.val (O.det (fun _ => G.R.strneL rfl rfl) rfl (Taken.yes rfl rfl hg4)) rfl rfl ?_
     refine WH.val (O.pick_f rfl hg4 rfl rfl Taken.no) rfl rfl ?_
     refine WH.nil ?_
     refine E.to ?_
     refine W.pick (.cons (t := 0) rfl (.cons (t := 2) rfl (.cons (t := 3) rfl (.cons (t := 4) rfl (.cons (t := 5) rfl (.cons (t := 43) rfl .nil)))))) (.cons (t := 101) rfl .nil) ?_
     first | refine W.cond_d rfl (fun hc5 => ?_) (fun hc5 => ?_) | refine W.cond_nd rfl (fun hc5 => ?_) (fun hc5 => ?_) | refine W.cond rfl (fun hc5 => ?_) (fun hc5 => ?_)
     ·skip
      refine W.draw [⟨[103], [103], [103]⟩, ⟨[101], [], []⟩, ⟨[], [], []⟩, ⟨[101], [], []⟩, ⟨[101, 103, 104], [103, 104], [104]⟩, ⟨[], [], []⟩, ⟨[], [], []⟩, ⟨[], [], []⟩, ⟨[], [], []⟩, ⟨[105], [105], [105]⟩, ⟨[104, 105, 106], [104, 106], [106]⟩, ⟨[101], [], []⟩, ⟨[], [], []⟩, ⟨[101], [], []⟩, ⟨[101, 106, 107], [106, 107], [107]⟩, ⟨[107], [], []⟩] rfl (by kernel_rfl) (by kernel_rfl) rfl rfl ?_
      refine WH.memS (O.buildSlice 103 rfl rfl Try.underlying22 hi9 hz9 hs9 (by decide) rfl (by decide) rfl rfl rfl Taken.no) rfl rfl rfl rfl rfl (S' := (103, _) :: _) rfl ?_
      refine WH.val (O.move rfl rfl Taken.no) rfl rfl ?_
      refine WH.val (O.move rfl rfl Taken.no) rfl rfl ?_
      refine WH.val (O.sub_own (j := a) rfl rfl Bnd.no (Bnd.at rfl (by first | rfl | omega)) (by omega) (by rw [List.length_map]; omega) Try.underlying22 hi9 hs9 rfl Taken.no) rfl rfl ?_
      refine WH.memS (O.app (k' := 104) rfl rfl (SlOf.osl rfl rfl) Try.underlying22 hi9 hz9 hs9 rfl rfl (by show _ = ((sortS (l.take k)).take a).map eStr; simp) (by rw [hb9]; first | omega | (simp only [List.length_map]; omega) | (simp <;> omega)) (by first | omega | (simp only [List.length_map]; omega) | (simp <;> omega)) rfl Taken.no) rfl rfl rfl rfl rfl (S' := (104, _) :: (103, .dead) :: _) rfl ?_
      refine WH.val (O.move rfl rfl Taken.no) rfl rfl ?_
      refine WH.val (O.move rfl rfl Taken.no) rfl rfl ?_
      refine WH.val (O.idx_fz rfl rfl (rfl) (row_get (by omega)) Try.underlying22 hi9 hs9 rfl Taken.no) rfl rfl ?_
      refine WH.val (O.ld1 (PtI.ofU (PtU.fz rfl)) rfl Try.underlying9 rfl rfl Taken.no) rfl rfl ?_
      refine WH.memS (O.buildSlice 105 rfl rfl Try.underlying22 hi9 hz9 hs9 (by decide) rfl (by decide) rfl rfl rfl Taken.no) rfl rfl rfl rfl rfl (S' := (105, _) :: _) rfl ?_
      refine WH.memS (O.app (k' := 106) rfl rfl (SlOf.own rfl rfl) Try.underlying22 hi9 hz9 hs9 rfl rfl (by exact map_snoc (x := l[k]!) rfl) (by rw [hb9]; first | omega | (simp only [List.length_map]; omega) | (simp <;> omega)) (by first | omega | (simp only [List.length_map]; omega) | (simp <;> omega)) rfl Taken.no) rfl rfl rfl rfl rfl (S' := (106, _) :: (104, .dead) :: _) rfl ?_
      refine WH.val (O.move rfl rfl Taken.no) rfl rfl ?_
      refine WH.val (O.move rfl rfl Taken.no) rfl rfl ?_
      refine WH.val (O.sub_own (i := a) rfl rfl (Bnd.at rfl (by first | rfl | omega)) Bnd.no (by rw [List.length_map]; omega) (by exact Nat.le_refl _) Try.underlying22 hi9 hs9 rfl Taken.no) rfl rfl ?_
      refine WH.memS (O.app (k' := 107) rfl rfl (SlOf.osl rfl rfl) Try.underlying22 hi9 hz9 hs9 rfl rfl (by show _ = ((sortS (l.take k)).take a ++ l[k]! :: (sortS (l.take k)).drop a).map eStr; simp [List.take_of_length_le]) (by rw [hb9]; first | omega | (simp only [List.length_map]; omega) | (simp <;> omega)) (by first | omega | (simp only [List.length_map]; omega) | (simp <;> omega)) rfl Taken.no) rfl rfl rfl rfl rfl (S' := (107, _) :: (106, .dead) :: _) rfl ?_
      refine WH.val (O.assign rfl rfl Taken.no) rfl rfl ?_
      refine WH.nil ?_
      refine E.inn ?_
      refine E.to ?_
      refine W.region ?_
      refine SL.val (O.move rfl rfl Taken.no) ?_
      refine SL.val (O.det (fun _ => by first | exact G.R.add64 rfl rfl (by omega) | exact G.R.add rfl rfl) rfl Taken.no) ?_
      refine SL.val (O.assign rfl rfl Taken.no) ?_
      refine SL.nil ?_
      refine E.again ((k + 1)) (rn [(101, 107)]) ?_ ?_ rfl (fixL_spec rfl) ?_ ?_
      · exact (SubF.cons rfl (SubF.cons rfl (SubF.cons rfl (SubF.cons rfl SubF.nil))))
      · exact (SubS.val rfl (by (try dsimp only); first | exact sb_data (by rw [srt_n (by omega) ha hp hnl ⟨by omega, by first | assumption | exact Decidable.not_not.1 (by assumption)⟩]) | exact sb_data (by rw [srt_y (by omega) ha hp hnl (fun q => by first | (have := q.1; omega) | exact absurd q.2 (by assumption))])) SubS.nil)
      ·try dsimp only
       omega
      · (try dsimp only); omega
     ·skip
      refine W.skip ?_
      refine E.inn ?_
      refine E.to ?_
      refine W.region ?_
      refine SL.val (O.move rfl rfl Taken.no) ?_
      refine SL.val (O.det (fun _ => by first | exact G.R.add64 rfl rfl (by omega) | exact G.R.add rfl rfl) rfl Taken.no) ?_
      refine SL.val (O.assign rfl rfl Taken.no) ?_
      refine SL.nil ?_
      refine E.again ((k + 1)) (rn []) ?_ ?_ rfl (fixL_spec rfl) ?_ ?_
      · exact (SubF.cons rfl (SubF.cons rfl (SubF.cons rfl (SubF.cons rfl SubF.nil))))
      · exact (SubS.val rfl (by (try dsimp only); first | exact sb_data (by rw [srt_n (by omega) ha hp hnl ⟨by omega, by first | assumption | exact Decidable.not_not.1 (by assumption)⟩]) | exact sb_data (by rw [srt_y (by omega) ha hp hnl (fun q => by first | (have := q.1; omega) | exact absurd q.2 (by assumption))])) SubS.nil)
      ·try dsimp only
       omega
      · (try dsimp only); omega
    ·skip
     first | have hg4p := G.gA7 hg4 | have hg4p := G.gA8 hg4 | have hg4p := hg4
     refine WH.skip (OpOk.not rfl rfl rfl hg4) ?_
     refine WH.skip (OpOk.not rfl rfl rfl hg4) ?_
     refine WH.skip (OpOk.not rfl rfl rfl hg4) ?_
     refine WH.skip (OpOk.not rfl rfl rfl hg4) ?_
     refine WH.skip (OpOk.not rfl rfl rfl hg4) ?_
     refine WH.skip (OpOk.not rfl rfl rfl hg4) ?_
     refine WH.skip (OpOk.not rfl rfl rfl hg4) ?_
     refine WH.skip (OpOk.not rfl rfl rfl hg4) ?_
     refine WH.skip (OpOk.not rfl rfl rfl hg4) ?_
     refine WH.val (O.pick_t rfl (G.ne_f hg4) rfl rfl Taken.no) rfl rfl ?_
     refine WH.nil ?_
     refine E.to ?_
     refine W.pick (.cons (t := 0) rfl (.cons (t := 2) rfl (.cons (t := 3) rfl (.cons (t := 4) rfl (.cons (t := 5) rfl (.cons (t := 43) rfl .nil)))))) (.cons (t := 101) rfl .nil) ?_
     refine W.cond_t rfl ?_
     refine W.draw [⟨[108], [108], [108]⟩, ⟨[101], [], []⟩, ⟨[], [], []⟩, ⟨[101], [], []⟩, ⟨[101, 108, 109], [108, 109], [109]⟩, ⟨[], [], []⟩, ⟨[], [], []⟩, ⟨[], [], []⟩, ⟨[], [], []⟩, ⟨[110], [110], [110]⟩, ⟨[109, 110, 111], [109, 111], [111]⟩, ⟨[101], [], []⟩, ⟨[], [], []⟩, ⟨[101], [], []⟩, ⟨[101, 111, 112], [111, 112], [112]⟩, ⟨[112], [], []⟩] rfl (by kernel_rfl) (by kernel_rfl) rfl rfl ?_
     refine WH.memS (O.buildSlice 108 rfl rfl Try.underlying22 hi9 hz9 hs9 (by decide) rfl (by decide) rfl rfl rfl Taken.no) rfl rfl rfl rfl rfl (S' := (108, _) :: _) rfl ?_
     refine WH.val (O.move rfl rfl Taken.no) rfl rfl ?_
     refine WH.val (O.move rfl rfl Taken.no) rfl rfl ?_
     refine WH.val (O.sub_own (j := a) rfl rfl Bnd.no (Bnd.at rfl (by first | rfl | omega)) (by omega) (by rw [List.length_map]; omega) Try.underlying22 hi9 hs9 rfl Taken.no) rfl rfl ?_
     refine WH.memS (O.app (k' := 109) rfl rfl (SlOf.osl rfl rfl) Try.underlying22 hi9 hz9 hs9 rfl rfl (by show _ = ((sortS (l.take k)).take a).map eStr; simp) (by rw [hb9]; first | omega | (simp only [List.length_map]; omega) | (simp <;> omega)) (by first | omega | (simp only [List.length_map]; omega) | (simp <;> omega)) rfl Taken.no) rfl rfl rfl rfl rfl (S' := (109, _) :: (108, .dead) :: _) rfl ?_
     refine WH.val (O.move rfl rfl Taken.no) rfl rfl ?_
     refine WH.val (O.move rfl rfl Taken.no) rfl rfl ?_
     refine WH.val (O.idx_fz rfl rfl (rfl) (row_get (by omega)) Try.underlying22 hi9 hs9 rfl Taken.no) rfl rfl ?_
     refine WH.val (O.ld1 (PtI.ofU (PtU.fz rfl)) rfl Try.underlying9 rfl rfl Taken.no) rfl rfl ?_
     refine WH.memS (O.buildSlice 110 rfl rfl Try.underlying22 hi9 hz9 hs9 (by decide) rfl (by decide) rfl rfl rfl Taken.no) rfl rfl rfl rfl rfl (S' := (110, _) :: _) rfl ?_
     refine WH.memS (O.app (k' := 111) rfl rfl (SlOf.own rfl rfl) Try.underlying22 hi9 hz9 hs9 rfl rfl (by exact map_snoc (x := l[k]!) rfl) (by rw [hb9]; first | omega | (simp only [List.length_map]; omega) | (simp <;> omega)) (by first | omega | (simp only [List.length_map]; omega) | (simp <;> omega)) rfl Taken.no) rfl rfl rfl rfl rfl (S' := (111, _) :: (109, .dead) :: _) rfl ?_
     refine WH.val (O.move rfl rfl Taken.no) rfl rfl ?_
     refine WH.val (O.move rfl rfl Taken.no) rfl rfl ?_
     refine WH.val (O.sub_own (i := a) rfl rfl (Bnd.at rfl (by first | rfl | omega)) Bnd.no (by rw [List.length_map]; omega) (by exact Nat.le_refl _) Try.underlying22 hi9 hs9 rfl Taken.no) rfl rfl ?_
     refine WH.memS (O.app (k' := 112) rfl rfl (SlOf.osl rfl rfl) Try.underlying22 hi9 hz9 hs9 rfl rfl (by show _ = ((sortS (l.take k)).take a ++ l[k]! :: (sortS (l.take k)).drop a).map eStr; simp [List.take_of_length_le]) (by rw [hb9]; first | omega | (simp only [List.length_map]; omega) | (simp <;> omega)) (by first | omega | (simp only [List.length_map]; omega) | (simp <;> omega)) rfl Taken.no) rfl rfl rfl rfl rfl (S' := (112, _) :: (111, .dead) :: _) rfl ?_
     refine WH.val (O.assign rfl rfl Taken.no) rfl rfl ?_
     refine WH.nil ?_
     refine E.inn ?_
     refine E.to ?_
     refine W.region ?_
     refine SL.val (O.move rfl rfl Taken.no) ?_
     refine SL.val (O.det (fun _ => by first | exact G.R.add64 rfl rfl (by omega) | exact G.R.add rfl rfl) rfl Taken.no) ?_
     refine SL.val (O.assign rfl rfl Taken.no) ?_
     refine SL.nil ?_
     refine E.again ((k + 1)) (rn [(101, 112)]) ?_ ?_ rfl (fixL_spec rfl) ?_ ?_
     · exact (SubF.cons rfl (SubF.cons rfl (SubF.cons rfl (SubF.cons rfl SubF.nil))))
     · exact (SubS.val rfl (by (try dsimp only); first | exact sb_data (by rw [srt_n (by omega) ha hp hnl ⟨by omega, by first | assumption | exact Decidable.not_not.1 (by assumption)⟩]) | exact sb_data (by rw [srt_y (by omega) ha hp hnl (fun q => by first | (have := q.1; omega) | exact absurd q.2 (by assumption))])) SubS.nil)
     ·try dsimp only
      omega
     · (try dsimp only); omega
  ·skip
   first | have hg2p := G.gA5 hg2 | have hg2p := G.gA6 hg2 | have hg2p := hg2
   refine WH.skip (OpOk.not rfl rfl rfl hg2) ?_
   refine WH.skip (OpOk.not rfl rfl rfl hg2) ?_
   refine WH.skip (OpOk.not rfl rfl rfl hg2) ?_
   refine WH.skip (OpOk.not rfl rfl rfl hg2) ?_
   refine WH.skip (OpOk.not rfl rfl rfl hg2) ?_
   refine WH.skip (OpOk.not rfl rfl rfl hg2) ?_
   refine WH.skip (OpOk.not rfl rfl rfl hg2) ?_
   refine WH.skip (OpOk.not rfl rfl rfl hg2) ?_
   refine WH.skip (OpOk.not rfl rfl rfl hg2) ?_
   refine WH.val (O.pick_f rfl (G.ne_t hg2) rfl rfl Taken.no) rfl rfl ?_
   refine WH.nil ?_
   refine E.to ?_
   refine W.cond_f rfl ?_
   refine W.exit ?_
   refine E.th ?_
   refine E.th ?_
   refine E.hit ?_
   refine E.to ?_
   refine W.seq ?_
   refine W.draw [⟨[], [], []⟩, ⟨[101], [], []⟩, ⟨[101], [], []⟩, ⟨[], [], []⟩, ⟨[], [], []⟩, ⟨[101], [], []⟩, ⟨[], [], []⟩, ⟨[101], [], []⟩, ⟨[101], [], []⟩, ⟨[], [], []⟩, ⟨[], [], []⟩, ⟨[], [], []⟩, ⟨[], [], []⟩, ⟨[], [], []⟩, ⟨[], [], []⟩] rfl (by kernel_rfl) (by kernel_rfl) rfl rfl ?_
   have hnl : a < (sortS (l.take k)).length → ¬ lt (sortS (l.take k))[a]! l[k]! := fun h => by first | omega | assumption | exact Bool.eq_false_iff.1 (by assumption)
   refine WH.val (O.move rfl rfl Taken.no) rfl rfl ?_
   refine WH.val (O.move rfl rfl Taken.no) rfl rfl ?_
   refine WH.val (O.lenE (SlOf.own rfl rfl) (by first | exact List.length_map _ | rfl) Try.underlying22 rfl Taken.no) rfl rfl ?_
   refine WH.val (O.det (fun _ => G.R.eql rfl rfl) rfl Taken.no) rfl rfl ?_
   refine WH.val (O.move rfl rfl Taken.no) rfl rfl ?_
   refine WH.case (j := 4) (g := 33) (want := false) rfl rfl (fun hg6 => ?_) (fun hg6 => ?_)
   ·skip
    first | have hg6p := G.gA3 hg6 | have hg6p := G.gA4 hg6 | have hg6p := hg6
    refine WH.val (O.move rfl rfl (Taken.yes rfl rfl hg6)) rfl rfl ?_
    refine WH.val (O.move rfl rfl (Taken.yes rfl rfl hg6)) rfl rfl ?_
    refine WH.val (O.idx_own rfl rfl rfl (rfl) (by simp; omega) Try.underlying22 hi9 hs9 rfl (Taken.yes rfl rfl hg6)) rfl rfl ?_
    refine WH.val (O.ld1 (PtI.ofU (PtU.el rfl rfl (row_get (by omega)))) rfl Try.underlying9 rfl rfl (Taken.yes rfl rfl hg6)) rfl rfl ?_
    refine WH.val (O.move rfl rfl (Taken.yes rfl rfl hg6)) rfl rfl ?_
    refine WH.val (O.move rfl rfl (Taken.yes rfl rfl hg6)) rfl rfl ?_
    refine WH.val (O.idx_fz rfl rfl (rfl) (row_get (by omega)) Try.underlying22 hi9 hs9 rfl (Taken.yes rfl rfl hg6)) rfl rfl ?_
    refine WH.val (O.ld1 (PtI.ofU (PtU.fz rfl)) rfl Try.underlying9 rfl rfl (Taken.yes rfl rfl hg6)) rfl rfl ?_
    refine WH.val (O.det (fun _ => G.R.strneL rfl rfl) rfl (Taken.yes rfl rfl hg6)) rfl rfl ?_
    refine WH.val (O.pick_f rfl hg6 rfl rfl Taken.no) rfl rfl ?_
    refine WH.nil ?_
    refine E.to ?_
    refine W.pick (.cons (t := 0) rfl (.cons (t := 2) rfl (.cons (t := 3) rfl (.cons (t := 4) rfl (.cons (t := 5) rfl (.cons (t := 43) rfl .nil)))))) (.cons (t := 101) rfl .nil) ?_
    first | refine W.cond_d rfl (fun hc7 => ?_) (fun hc7 => ?_) | refine W.cond_nd rfl (fun hc7 => ?_) (fun hc7 => ?_) | refine W.cond rfl (fun hc7 => ?_) (fun hc7 => ?_)
    ·skip
     refine W.draw [⟨[113], [113], [113]⟩, ⟨[101], [], []⟩, ⟨[], [], []⟩, ⟨[101], [], []⟩, ⟨[101, 113, 114], [113, 114], [114]⟩, ⟨[], [], []⟩, ⟨[], [], []⟩, ⟨[], [], []⟩, ⟨[], [], []⟩, ⟨[115], [115], [115]⟩, ⟨[114, 115, 116], [114, 116], [116]⟩, ⟨[101], [], []⟩, ⟨[], [], []⟩, ⟨[101], [], []⟩, ⟨[101, 116, 117], [116, 117], [117]⟩, ⟨[117], [], []⟩] rfl (by kernel_rfl) (by kernel_rfl) rfl rfl ?_
     refine WH.memS (O.buildSlice 113 rfl rfl Try.underlying22 hi9 hz9 hs9 (by decide) rfl (by decide) rfl rfl rfl Taken.no) rfl rfl rfl rfl rfl (S' := (113, _) :: _) rfl ?_
     refine WH.val (O.move rfl rfl Taken.no) rfl rfl ?_
     refine WH.val (O.move rfl rfl Taken.no) rfl rfl ?_
     refine WH.val (O.sub_own (j := a) rfl rfl Bnd.no (Bnd.at rfl (by first | rfl | omega)) (by omega) (by rw [List.length_map]; omega) Try.underlying22 hi9 hs9 rfl Taken.no) rfl rfl ?_
     refine WH.memS (O.app (k' := 114) rfl rfl (SlOf.osl rfl rfl) Try.underlying22 hi9 hz9 hs9 rfl rfl (by show _ = ((sortS (l.take k)).take a).map eStr; simp) (by rw [hb9]; first | omega | (simp only [List.length_map]; omega) | (simp <;> omega)) (by first | omega | (simp only [List.length_map]; omega) | (simp <;> omega)) rfl Taken.no) rfl rfl rfl rfl rfl (S' := (114, _) :: (113, .dead) :: _) rfl ?_
     refine WH.val (O.move rfl rfl Taken.no) rfl rfl ?_
     refine WH.val (O.move rfl rfl Taken.no) rfl rfl ?_
     refine WH.val (O.idx_fz rfl rfl (rfl) (row_get (by omega)) Try.underlying22 hi9 hs9 rfl Taken.no) rfl rfl ?_
     refine WH.val (O.ld1 (PtI.ofU (PtU.fz rfl)) rfl Try.underlying9 rfl rfl Taken.no) rfl rfl ?_
     refine WH.memS (O.buildSlice 115 rfl rfl Try.underlying22 hi9 hz9 hs9 (by decide) rfl (by decide) rfl rfl rfl Taken.no) rfl rfl rfl rfl rfl (S' := (115, _) :: _) rfl ?_
     refine WH.memS (O.app (k' := 116) rfl rfl (SlOf.own rfl rfl) Try.underlying22 hi9 hz9 hs9 rfl rfl (by exact map_snoc (x := l[k]!) rfl) (by rw [hb9]; first | omega | (simp only [List.length_map]; omega) | (simp <;> omega)) (by first | omega | (simp only [List.length_map]; omega) | (simp <;> omega)) rfl Taken.no) rfl rfl rfl rfl rfl (S' := (116, _) :: (114, .dead) :: _) rfl ?_
     refine WH.val (O.move rfl rfl Taken.no) rfl rfl ?_
     refine WH.val (O.move rfl rfl Taken.no) rfl rfl ?_
     refine WH.val (O.sub_own (i := a) rfl rfl (Bnd.at rfl (by first | rfl | omega)) Bnd.no (by rw [List.length_map]; omega) (by exact Nat.le_refl _) Try.underlying22 hi9 hs9 rfl Taken.no) rfl rfl ?_
     refine WH.memS (O.app (k' := 117) rfl rfl (SlOf.osl rfl rfl) Try.underlying22 hi9 hz9 hs9 rfl rfl (by show _ = ((sortS (l.take k)).take a ++ l[k]! :: (sortS (l.take k)).drop a).map eStr; simp [List.take_of_length_le]) (by rw [hb9]; first | omega | (simp only [List.length_map]; omega) | (simp <;> omega)) (by first | omega | (simp only [List.length_map]; omega) | (simp <;> omega)) rfl Taken.no) rfl rfl rfl rfl rfl (S' := (117, _) :: (116, .dead) :: _) rfl ?_
     refine WH.val (O.assign rfl rfl Taken.no) rfl rfl ?_
     refine WH.nil ?_
     refine E.inn ?_
     refine E.to ?_
     refine W.region ?_
     refine SL.val (O.move rfl rfl Taken.no) ?_
     refine SL.val (O.det (fun _ => by first | exact G.R.add64 rfl rfl (by omega) | exact G.R.add rfl rfl) rfl Taken.no) ?_
     refine SL.val (O.assign rfl rfl Taken.no) ?_
     refine SL.nil ?_
     refine E.again ((k + 1)) (rn [(101, 117)]) ?_ ?_ rfl (fixL_spec rfl) ?_ ?_
     · exact (SubF.cons rfl (SubF.cons rfl (SubF.cons rfl (SubF.cons rfl SubF.nil))))
     · exact (SubS.val rfl (by (try dsimp only); first | exact sb_data (by rw [srt_n (by omega) ha hp hnl ⟨by omega, by first | assumption | exact Decidable.not_not.1 (by assumption)⟩]) | exact sb_data (by rw [srt_y (by omega) ha hp hnl (fun q => by first | (have := q.1; omega) | exact absurd q.2 (by assumption))])) SubS.nil)
     ·try dsimp only
      omega
     · (try dsimp only); omega
    ·skip
     refine W.skip ?_
     refine E.inn ?_
     refine E.to ?_
     refine W.region ?_
     refine SL.val (O.move rfl rfl Taken.no) ?_
     refine SL.val (O.det (fun _ => by first | exact G.R.add64 rfl rfl (by omega) | exact G.R.add rfl rfl) rfl Taken.no) ?_
     refine SL.val (O.assign rfl rfl Taken.no) ?_
     refine SL.nil ?_
     refine E.again ((k + 1)) (rn []) ?_ ?_ rfl (fixL_spec rfl) ?_ ?_
     · exact (SubF.cons rfl (SubF.cons rfl (SubF.cons rfl (SubF.cons rfl SubF.nil))))
     · exact (SubS.val rfl (by (try dsimp only); first | exact sb_data (by rw [srt_n (by omega) ha hp hnl ⟨by omega, by first | assumption | exact Decidable.not_not.1 (by assumption)⟩]) | exact sb_data (by rw [srt_y (by omega) ha hp hnl (fun q => by first | (have := q.1; omega) | exact absurd q.2 (by assumption))])) SubS.nil)
     ·try dsimp only
      omega
     · (try dsimp only); omega
   ·skip
    first | have hg6p := G.gA7 hg6 | have hg6p := G.gA8 hg6 | have hg6p := hg6
    refine WH.skip (OpOk.not rfl rfl rfl hg6) ?_
    refine WH.skip (OpOk.not rfl rfl rfl hg6) ?_
    refine WH.skip (OpOk.not rfl rfl rfl hg6) ?_
    refine WH.skip (OpOk.not rfl rfl rfl hg6) ?_
    refine WH.skip (OpOk.not rfl rfl rfl hg6) ?_
    refine WH.skip (OpOk.not rfl rfl rfl hg6) ?_
    refine WH.skip (OpOk.not rfl rfl rfl hg6) ?_
    refine WH.skip (OpOk.not rfl rfl rfl hg6) ?_
    refine WH.skip (OpOk.not rfl rfl rfl hg6) ?_
    refine WH.val (O.pick_t rfl (G.ne_f hg6) rfl rfl Taken.no) rfl rfl ?_
    refine WH.nil ?_
    refine E.to ?_
    refine W.pick (.cons (t := 0) rfl (.cons (t := 2) rfl (.cons (t := 3) rfl (.cons (t := 4) rfl (.cons (t := 5) rfl (.cons (t := 43) rfl .nil)))))) (.cons (t := 101) rfl .nil) ?_
    refine W.cond_t rfl ?_
    refine W.draw [⟨[118], [118], [118]⟩, ⟨[101], [], []⟩, ⟨[], [], []⟩, ⟨[101], [], []⟩, ⟨[101, 118, 119], [118, 119], [119]⟩, ⟨[], [], []⟩, ⟨[], [], []⟩, ⟨[], [], []⟩, ⟨[], [], []⟩, ⟨[120], [120], [120]⟩, ⟨[119, 120, 121], [119, 121], [121]⟩, ⟨[101], [], []⟩, ⟨[], [], []⟩, ⟨[101], [], []⟩, ⟨[101, 121, 122], [121, 122], [122]⟩, ⟨[122], [], []⟩] rfl (by kernel_rfl) (by kernel_rfl) rfl rfl ?_
    refine WH.memS (O.buildSlice 118 rfl rfl Try.underlying22 hi9 hz9 hs9 (by decide) rfl (by decide) rfl rfl rfl Taken.no) rfl rfl rfl rfl rfl (S' := (118, _) :: _) rfl ?_
    refine WH.val (O.move rfl rfl Taken.no) rfl rfl ?_
    refine WH.val (O.move rfl rfl Taken.no) rfl rfl ?_
    refine WH.val (O.sub_own (j := a) rfl rfl Bnd.no (Bnd.at rfl (by first | rfl | omega)) (by omega) (by rw [List.length_map]; omega) Try.underlying22 hi9 hs9 rfl Taken.no) rfl rfl ?_
    refine WH.memS (O.app (k' := 119) rfl rfl (SlOf.osl rfl rfl) Try.underlying22 hi9 hz9 hs9 rfl rfl (by show _ = ((sortS (l.take k)).take a).map eStr; simp) (by rw [hb9]; first | omega | (simp only [List.length_map]; omega) | (simp <;> omega)) (by first | omega | (simp only [List.length_map]; omega) | (simp <;> omega)) rfl Taken.no) rfl rfl rfl rfl rfl (S' := (119, _) :: (118, .dead) :: _) rfl ?_
    refine WH.val (O.move rfl rfl Taken.no) rfl rfl ?_
    refine WH.val (O.move rfl rfl Taken.no) rfl rfl ?_
    refine WH.val (O.idx_fz rfl rfl (rfl) (row_get (by omega)) Try.underlying22 hi9 hs9 rfl Taken.no) rfl rfl ?_
    refine WH.val (O.ld1 (PtI.ofU (PtU.fz rfl)) rfl Try.underlying9 rfl rfl Taken.no) rfl rfl ?_
    refine WH.memS (O.buildSlice 120 rfl rfl Try.underlying22 hi9 hz9 hs9 (by decide) rfl (by decide) rfl rfl rfl Taken.no) rfl rfl rfl rfl rfl (S' := (120, _) :: _) rfl ?_
    refine WH.memS (O.app (k' := 121) rfl rfl (SlOf.own rfl rfl) Try.underlying22 hi9 hz9 hs9 rfl rfl (by exact map_snoc (x := l[k]!) rfl) (by rw [hb9]; first | omega | (simp only [List.length_map]; omega) | (simp <;> omega)) (by first | omega | (simp only [List.length_map]; omega) | (simp <;> omega)) rfl Taken.no) rfl rfl rfl rfl rfl (S' := (121, _) :: (119, .dead) :: _) rfl ?_
    refine WH.val (O.move rfl rfl Taken.no) rfl rfl ?_
    refine WH.val (O.move rfl rfl Taken.no) rfl rfl ?_
    refine WH.val (O.sub_own (i := a) rfl rfl (Bnd.at rfl (by first | rfl | omega)) Bnd.no (by rw [List.length_map]; omega) (by exact Nat.le_refl _) Try.underlying22 hi9 hs9 rfl Taken.no) rfl rfl ?_
    refine WH.memS (O.app (k' := 122) rfl rfl (SlOf.osl rfl rfl) Try.underlying22 hi9 hz9 hs9 rfl rfl (by show _ = ((sortS (l.take k)).take a ++ l[k]! :: (sortS (l.take k)).drop a).map eStr; simp [List.take_of_length_le]) (by rw [hb9]; first | omega | (simp only [List.length_map]; omega) | (simp <;> omega)) (by first | omega | (simp only [List.length_map]; omega) | (simp <;> omega)) rfl Taken.no) rfl rfl rfl rfl rfl (S' := (122, _) :: (121, .dead) :: _) rfl ?_
    refine WH.val (O.assign rfl rfl Taken.no) rfl rfl ?_
    refine WH.nil ?_
    refine E.inn ?_
    refine E.to ?_
    refine W.region ?_
    refine SL.val (O.move rfl rfl Taken.no) ?_
    refine SL.val (O.det (fun _ => by first | exact G.R.add64 rfl rfl (by omega) | exact G.R.add rfl rfl) rfl Taken.no) ?_
    refine SL.val (O.assign rfl rfl Taken.no) ?_
    refine SL.nil ?_
    refine E.again ((k + 1)) (rn [(101, 122)]) ?_ ?_ rfl (fixL_spec rfl) ?_ ?_
    · exact (SubF.cons rfl (SubF.cons rfl (SubF.cons rfl (SubF.cons rfl SubF.nil))))
    · exact (SubS.val rfl (by (try dsimp only); first | exact sb_data (by rw [srt_n (by omega) ha hp hnl ⟨by omega, by first | assumption | exact Decidable.not_not.1 (by assumption)⟩]) | exact sb_data (by rw [srt_y (by omega) ha hp hnl (fun q => by first | (have := q.1; omega) | exact absurd q.2 (by assumption))])) SubS.nil)
    ·try dsimp only
     omega
    · (try dsimp only); omega
 ·skip
  refine W.exit ?_
  refine E.th ?_
  refine E.th ?_
  refine E.hit ?_
  refine E.to ?_
  refine W.seq ?_
  refine W.region ?_
  refine SL.val (O.move rfl rfl Taken.no) ?_
  refine SL.val (O.assign rfl rfl Taken.no) ?_
  refine SL.nil ?_
  refine E.to ?_
  refine W.ret ?_
  refine E.freeze 101 rfl (F' := [(2, _)]) (⟨⟨_, rfl, rfl⟩, trivial⟩) ?_
  refine E.fin (rs := [_]) (rn []) (.inl rfl) rfl (.cons (ResOne.tmp rfl) .nil) ?_ ?_ rfl (fixL_spec rfl)
  ·skip
   obtain rfl : k = l.length := by omega
   rw [List.take_length]; rfl
  · exact SubS.nil

set_option maxRecDepth 8000 in
/-- bookplate/bookplateref41.kids. -/
theorem kids_step {l : List Str} (ha : Asc l) (hn : [] ∉ l) (hl : l.length ≤ 1000) (hw : ∀ w ∈ l, w.length ≤ 1000) (ih : ∀ m : List Str, msr m < msr l → Asc m → [] ∉ m → m.length ≤ 1000 → (∀ w ∈ m, w.length ≤ 1000) → Con Try.prog 44 [vL 1 (m.map eStr)] [] (vL 3 ((kidsR m).map eTr)) []) :
    Con Try.prog 44 [vL 1 (l.map eStr)] [] (vL 3 ((kidsR l).map eTr)) [] := by
 obtain ⟨i9, hi9, hz9, hs9, hb9⟩ := hinf9
 obtain ⟨i33, hi33, hz33, hs33, hb33⟩ := hinf33
 refine Con.enterL (n := 103) Try.func44 rfl rfl rfl (fun τ w ok vs hin => ?_)
 have hl0 := hin.len (i := 0) rfl
 try rw [List.length_map] at hl0
 clear hin
 refine W.seq ?_
 refine W.region ?_
 refine SL.val (O.assign rfl rfl Taken.no) ?_
 refine SL.nil ?_
 refine E.to ?_
 refine W.seq ?_
 refine W.region ?_
 refine SL.val (O.assign rfl rfl Taken.no) ?_
 refine SL.nil ?_
 refine E.to ?_
 refine W.seq ?_
 refine W.seq ?_
 refine W.region ?_
 refine SL.val (O.assign rfl rfl Taken.no) ?_
 refine SL.nil ?_
 refine E.to ?_
 refine W.block ?_
 refine W.adopt 3 102 33 3 (by decide) rfl rfl rfl ?_
 refine W.loopx2 (fun (i : Nat) (pre : List Tr) => [(4, vI (i : Int)), (3, .own 101)]) (fun (i : Nat) (pre : List Tr) => [(101, .data 33 3 (pre.map eTr))]) (fun (i : Nat) (pre : List Tr) => i ≤ l.length ∧ pre.length ≤ i ∧ pre ++ kidsR (l.drop i) = kidsR l) (fun (i : Nat) (pre : List Tr) => l.length - i) (0) ([]) (rn [(101, 102)]) (.cons (t := 0) rfl (.cons (t := 2) rfl .nil)) .nil rfl ?_ ?_ rfl rfl ?_ ?_
 · exact (SubF.cons rfl (SubF.cons rfl SubF.nil))
 · exact (SubS.cons rfl SubS.nil)
 ·skip
  exact ⟨by omega, by simp, rfl⟩
 intro i pre hinv
 obtain ⟨hi, hpl, hpr⟩ := hinv
 refine W.seq ?_
 refine W.seq ?_
 refine W.region ?_
 refine SL.val (O.move rfl rfl Taken.no) ?_
 refine SL.val (O.move rfl rfl Taken.no) ?_
 refine SL.val (O.lenE (SlOf.fz rfl (by decide)) (by first | exact List.length_map _ | rfl) Try.underlying22 rfl Taken.no) ?_
 refine SL.val (O.det (fun _ => G.R.lss rfl rfl) rfl Taken.no) ?_
 refine SL.nil ?_
 refine E.to ?_
 first | refine W.cond_d rfl (fun hc1 => ?_) (fun hc1 => ?_) | refine W.cond_nd rfl (fun hc1 => ?_) (fun hc1 => ?_) | refine W.cond rfl (fun hc1 => ?_) (fun hc1 => ?_)
 ·skip
  refine W.skip ?_
  refine E.to ?_
  refine W.block ?_
  refine W.seq ?_
  refine W.region ?_
  refine SL.val (O.move rfl rfl Taken.no) ?_
  refine SL.val (O.assign rfl rfl Taken.no) ?_
  refine SL.nil ?_
  refine E.to ?_
  refine W.seq ?_
  refine W.block ?_
  refine W.loopx1 (fun (e : Nat) => [(5, vI (e : Int))]) (fun (e : Nat) => []) (fun (e : Nat) => i ≤ e ∧ e ≤ l.length ∧ ∀ j, i ≤ j → j < e → hd0 l[j]! = hd0 l[i]!) (fun (e : Nat) => l.length - e) (i) (rn []) (.cons (t := 0) rfl (.cons (t := 2) rfl (.cons (t := 3) rfl (.cons (t := 4) rfl .nil)))) (.cons (t := 101) rfl .nil) rfl ?_ ?_ rfl rfl ?_ ?_
  · exact (SubF.cons rfl SubF.nil)
  · exact SubS.nil
  ·skip
   exact ⟨by omega, by omega, fun j h1 h2 => by omega⟩
  intro e hinv
  obtain ⟨hie0, he, hg⟩ := hinv
  refine W.seq ?_
  refine W.seq ?_
  refine W.draw [⟨[], [], []⟩, ⟨[], [], []⟩, ⟨[], [], []⟩, ⟨[], [], []⟩, ⟨[], [], []⟩, ⟨[], [], []⟩, ⟨[], [], []⟩, ⟨[], [], []⟩, ⟨[], [], []⟩, ⟨[], [], []⟩, ⟨[], [], []⟩, ⟨[], [], []⟩, ⟨[], [], []⟩, ⟨[], [], []⟩, ⟨[], [], []⟩, ⟨[], [], []⟩, ⟨[], [], []⟩] rfl (by kernel_rfl) (by kernel_rfl) rfl rfl ?_
  refine WH.val (O.move rfl rfl Taken.no) rfl rfl ?_
  refine WH.val (O.move rfl rfl Taken.no) rfl rfl ?_
  refine WH.val (O.lenE (SlOf.fz rfl (by decide)) (by first | exact List.length_map _ | rfl) Try.underlying22 rfl Taken.no) rfl rfl ?_
  refine WH.val (O.det (fun _ => G.R.lss rfl rfl) rfl Taken.no) rfl rfl ?_
  refine WH.val (O.move rfl rfl Taken.no) rfl rfl ?_
  refine WH.case (j := 4) (g := 19) (want := true) rfl rfl (fun hg2 => ?_) (fun hg2 => ?_)
  ·skip
   first | have hg2p := G.gA1 hg2 | have hg2p := G.gA2 hg2 | have hg2p := hg2
   refine WH.val (O.move rfl rfl (Taken.yes rfl rfl hg2)) rfl rfl ?_
   refine WH.val (O.move rfl rfl (Taken.yes rfl rfl hg2)) rfl rfl ?_
   refine WH.val (O.idx_fz (i := e) rfl rfl (rfl) (row_get (by omega)) Try.underlying22 hi9 hs9 rfl (Taken.yes rfl rfl hg2)) rfl rfl ?_
   refine WH.val (O.ld1 (PtI.ofU (PtU.fz rfl)) rfl Try.underlying9 rfl rfl (Taken.yes rfl rfl hg2)) rfl rfl ?_
   refine WH.val (O.det (fun _ => G.R.stridxL (i := 0) rfl rfl Try.underlying9 (by exact ne_pos (ne_at hn (by omega)))) rfl (Taken.yes rfl rfl hg2)) rfl rfl ?_
   refine WH.val (O.move rfl rfl (Taken.yes rfl rfl hg2)) rfl rfl ?_
   refine WH.val (O.move rfl rfl (Taken.yes rfl rfl hg2)) rfl rfl ?_
   refine WH.val (O.idx_fz (i := i) rfl rfl (rfl) (row_get (by omega)) Try.underlying22 hi9 hs9 rfl (Taken.yes rfl rfl hg2)) rfl rfl ?_
   refine WH.val (O.ld1 (PtI.ofU (PtU.fz rfl)) rfl Try.underlying9 rfl rfl (Taken.yes rfl rfl hg2)) rfl rfl ?_
   refine WH.val (O.det (fun _ => G.R.stridxL (i := 0) rfl rfl Try.underlying9 (by exact ne_pos (ne_at hn (by omega)))) rfl (Taken.yes rfl rfl hg2)) rfl rfl ?_
   refine WH.val (O.det (fun _ => G.R.eql rfl rfl) rfl (Taken.yes rfl rfl hg2)) rfl rfl ?_
   refine WH.val (O.pick_t rfl hg2 rfl rfl Taken.no) rfl rfl ?_
   refine WH.nil ?_
   refine E.to ?_
   first | refine W.cond_d rfl (fun hc3 => ?_) (fun hc3 => ?_) | refine W.cond_nd rfl (fun hc3 => ?_) (fun hc3 => ?_) | refine W.cond rfl (fun hc3 => ?_) (fun hc3 => ?_)
   ·skip
    refine W.skip ?_
    refine E.to ?_
    refine W.block ?_
    refine W.region ?_
    refine SL.val (O.move rfl rfl Taken.no) ?_
    refine SL.val (O.det (fun _ => by first | exact G.R.add64 rfl rfl (by omega) | exact G.R.add rfl rfl) rfl Taken.no) ?_
    refine SL.val (O.assign rfl rfl Taken.no) ?_
    refine SL.nil ?_
    refine E.inn ?_
    refine E.again ((e + 1)) (rn []) ?_ ?_ rfl (fixL_spec rfl) ?_ ?_
    · exact (SubF.cons rfl (SubF.cons rfl (SubF.cons rfl (SubF.cons rfl (SubF.cons rfl SubF.nil)))))
    · exact (SubS.cons rfl SubS.nil)
    ·try dsimp only
     exact ⟨by omega, by omega, fun j h1 h2 => by rcases Nat.lt_succ_iff_lt_or_eq.1 h2 with h | h; exact hg j h1 h; subst h; exact hd_eq (ne_at hn (by omega)) (ne_at hn (by omega)) (by assumption)⟩
    · (try dsimp only); omega
   ·skip
    refine W.exit ?_
    refine E.th ?_
    refine E.th ?_
    refine E.hit ?_
    refine E.to ?_
    refine W.seq ?_
    refine W.region ?_
    refine SL.val (O.assign rfl rfl Taken.no) ?_
    refine SL.nil ?_
    refine E.to ?_
    refine W.seq ?_
    refine W.block ?_
    have hx : e < l.length → ¬ hd0 l[e]! = hd0 l[i]! := fun h q => by first | omega | exact absurd (hd_eq2 (ne_at hn h) (ne_at hn (by omega)) q) (by assumption)
    have hie : i < e := by rcases Nat.lt_or_eq_of_le hie0 with q | q; exact q; subst q; exact absurd rfl (hx (by omega))
    obtain ⟨kf1, kf2, kf3, kf4, kf5⟩ := kid_facts ha hn hie he
    have hll := last_e hie he hg hx
    have hge := grp_e hie he hg hx
    have hwi : l[i]!.length ≤ 1000 := hw _ (by rw [getElem!_pos l i (by omega)]; exact List.getElem_mem _)
    refine W.loopx1 (fun (n : Nat) => [(6, vI (n : Int))]) (fun (n : Nat) => []) (fun (n : Nat) => 1 ≤ n ∧ n ≤ comN l[i]! (l.drop (i + 1))) (fun (n : Nat) => comN l[i]! (l.drop (i + 1)) - n) (1) (rn []) (.cons (t := 0) rfl (.cons (t := 2) rfl (.cons (t := 3) rfl (.cons (t := 4) rfl (.cons (t := 5) rfl .nil))))) (.cons (t := 101) rfl .nil) rfl ?_ ?_ rfl rfl ?_ ?_
    · exact (SubF.cons rfl SubF.nil)
    · exact SubS.nil
    ·skip
     exact ⟨by omega, by omega⟩
    intro n hinv
    obtain ⟨hn1, hn2⟩ := hinv
    refine W.seq ?_
    refine W.seq ?_
    refine W.draw [⟨[], [], []⟩, ⟨[], [], []⟩, ⟨[], [], []⟩, ⟨[], [], []⟩, ⟨[], [], []⟩, ⟨[], [], []⟩, ⟨[], [], []⟩, ⟨[], [], []⟩, ⟨[], [], []⟩, ⟨[], [], []⟩, ⟨[], [], []⟩, ⟨[], [], []⟩, ⟨[], [], []⟩, ⟨[], [], []⟩, ⟨[], [], []⟩, ⟨[], [], []⟩, ⟨[], [], []⟩, ⟨[], [], []⟩, ⟨[], [], []⟩, ⟨[], [], []⟩, ⟨[], [], []⟩, ⟨[], [], []⟩] rfl (by kernel_rfl) (by kernel_rfl) rfl rfl ?_
    refine WH.val (O.move rfl rfl Taken.no) rfl rfl ?_
    refine WH.val (O.move rfl rfl Taken.no) rfl rfl ?_
    refine WH.val (O.move rfl rfl Taken.no) rfl rfl ?_
    refine WH.val (O.idx_fz (i := i) rfl rfl (rfl) (row_get (by omega)) Try.underlying22 hi9 hs9 rfl Taken.no) rfl rfl ?_
    refine WH.val (O.ld1 (PtI.ofU (PtU.fz rfl)) rfl Try.underlying9 rfl rfl Taken.no) rfl rfl ?_
    refine WH.val (O.det (fun _ => G.R.lenL rfl Try.underlying9) rfl Taken.no) rfl rfl ?_
    refine WH.val (O.det (fun _ => G.R.lss rfl rfl) rfl Taken.no) rfl rfl ?_
    refine WH.val (O.move rfl rfl Taken.no) rfl rfl ?_
    refine WH.case (j := 7) (g := 41) (want := true) rfl rfl (fun hg4 => ?_) (fun hg4 => ?_)
    ·skip
     first | have hg4p := G.gA1 hg4 | have hg4p := G.gA2 hg4 | have hg4p := hg4
     refine WH.val (O.move rfl rfl (Taken.yes rfl rfl hg4)) rfl rfl ?_
     refine WH.val (O.move rfl rfl (Taken.yes rfl rfl hg4)) rfl rfl ?_
     refine WH.val (O.det (fun _ => by first | exact G.R.sub64 rfl rfl (by omega) | exact G.R.sub rfl rfl) rfl (Taken.yes rfl rfl hg4)) rfl rfl ?_
     refine WH.val (O.idx_fz (i := (e - 1)) rfl rfl (by omega) (row_get (by omega)) Try.underlying22 hi9 hs9 rfl (Taken.yes rfl rfl hg4)) rfl rfl ?_
     refine WH.val (O.ld1 (PtI.ofU (PtU.fz rfl)) rfl Try.underlying9 rfl rfl (Taken.yes rfl rfl hg4)) rfl rfl ?_
     refine WH.val (O.move rfl rfl (Taken.yes rfl rfl hg4)) rfl rfl ?_
     refine WH.val (O.move rfl rfl (Taken.yes rfl rfl hg4)) rfl rfl ?_
     refine WH.val (O.idx_fz (i := i) rfl rfl (rfl) (row_get (by omega)) Try.underlying22 hi9 hs9 rfl (Taken.yes rfl rfl hg4)) rfl rfl ?_
     refine WH.val (O.ld1 (PtI.ofU (PtU.fz rfl)) rfl Try.underlying9 rfl rfl (Taken.yes rfl rfl hg4)) rfl rfl ?_
     refine WH.val (O.move rfl rfl (Taken.yes rfl rfl hg4)) rfl rfl ?_
     refine WH.val (O.det (fun _ => by first | exact G.R.add64 rfl rfl (by omega) | exact G.R.add rfl rfl) rfl (Taken.yes rfl rfl hg4)) rfl rfl ?_
     refine WH.val (O.det (fun _ => G.R.strtoL (j := (n + 1)) rfl rfl Try.underlying9 (by omega)) rfl (Taken.yes rfl rfl hg4)) rfl rfl ?_
     refine WH.val (O.callp rfl rfl rfl (begins_h (s := l[e - 1]!) (p := l[i]!.take (n + 1))) (.cons (ArgOk.same rfl) (.cons (ArgOk.same rfl) .nil)) hcallOk19 rfl (Taken.yes rfl rfl hg4)) rfl rfl ?_
     refine WH.val (O.pick_t rfl hg4 rfl rfl Taken.no) rfl rfl ?_
     refine WH.nil ?_
     refine E.to ?_
     refine W.pick (.cons (t := 0) rfl (.cons (t := 2) rfl (.cons (t := 3) rfl (.cons (t := 4) rfl (.cons (t := 5) rfl (.cons (t := 6) rfl (.cons (t := 55) rfl .nil))))))) (.cons (t := 101) rfl .nil) ?_
     first | refine W.cond_d rfl (fun hc5 => ?_) (fun hc5 => ?_) | refine W.cond_nd rfl (fun hc5 => ?_) (fun hc5 => ?_) | refine W.cond rfl (fun hc5 => ?_) (fun hc5 => ?_)
     ·skip
      refine W.skip ?_
      refine E.to ?_
      refine W.block ?_
      refine W.region ?_
      refine SL.val (O.move rfl rfl Taken.no) ?_
      refine SL.val (O.det (fun _ => by first | exact G.R.add64 rfl rfl (by omega) | exact G.R.add rfl rfl) rfl Taken.no) ?_
      refine SL.val (O.assign rfl rfl Taken.no) ?_
      refine SL.nil ?_
      refine E.inn ?_
      refine E.again ((n + 1)) (rn []) ?_ ?_ rfl (fixL_spec rfl) ?_ ?_
      · exact (SubF.cons rfl (SubF.cons rfl (SubF.cons rfl (SubF.cons rfl (SubF.cons rfl (SubF.cons rfl SubF.nil))))))
      · exact (SubS.cons rfl SubS.nil)
      ·try dsimp only
       exact ⟨by omega, by have := (take_comm (a := l[i]!) (b := l[e - 1]!) (n := n + 1) (by omega)).1 (by assumption); rw [← hll] at this; exact this⟩
      · (try dsimp only); (have := (take_comm (a := l[i]!) (b := l[e - 1]!) (n := n + 1) (by omega)).1 (by assumption); rw [← hll] at this; have h7 : n + 1 ≤ comN l[i]! (l.drop (i + 1)) := this; omega)
     ·skip
      refine W.exit ?_
      refine E.th ?_
      refine E.th ?_
      refine E.hit ?_
      refine E.to ?_
      refine W.seq ?_
      refine W.draw [⟨[], [], []⟩, ⟨[], [], []⟩, ⟨[], [], []⟩, ⟨[], [], []⟩, ⟨[], [], []⟩, ⟨[], [], []⟩, ⟨[], [], []⟩, ⟨[], [], []⟩, ⟨[], [], []⟩, ⟨[], [], []⟩, ⟨[], [], []⟩, ⟨[], [], []⟩, ⟨[], [], []⟩, ⟨[], [], []⟩, ⟨[103], [103], [103]⟩, ⟨[103], [103], []⟩] rfl (by kernel_rfl) (by kernel_rfl) rfl rfl ?_
      obtain rfl : n = comN l[i]! (l.drop (i + 1)) := by first | omega | (have h5 : ¬ l[i]!.take (n + 1) <+: l[e - 1]! := (by first | assumption | exact of_decide_eq_false (by assumption)); have h6 := mt (take_comm (a := l[i]!) (b := l[e - 1]!) (n := n + 1) (by omega)).2 h5; rw [← hll] at h6; have h7 : ¬ n + 1 ≤ comN l[i]! (l.drop (i + 1)) := h6; omega)
      refine WH.val (O.move rfl rfl Taken.no) rfl rfl ?_
      refine WH.val (O.move rfl rfl Taken.no) rfl rfl ?_
      refine WH.val (O.idx_fz (i := i) rfl rfl (rfl) (row_get (by omega)) Try.underlying22 hi9 hs9 rfl Taken.no) rfl rfl ?_
      refine WH.val (O.ld1 (PtI.ofU (PtU.fz rfl)) rfl Try.underlying9 rfl rfl Taken.no) rfl rfl ?_
      refine WH.val (O.move rfl rfl Taken.no) rfl rfl ?_
      refine WH.val (O.det (fun _ => G.R.strtoL (j := comN l[i]! (l.drop (i + 1))) rfl rfl Try.underlying9 (by omega)) rfl Taken.no) rfl rfl ?_
      refine WH.val (O.move rfl rfl Taken.no) rfl rfl ?_
      refine WH.val (O.move rfl rfl Taken.no) rfl rfl ?_
      refine WH.val (O.idx_fz (i := i) rfl rfl (rfl) (row_get (by omega)) Try.underlying22 hi9 hs9 rfl Taken.no) rfl rfl ?_
      refine WH.val (O.ld1 (PtI.ofU (PtU.fz rfl)) rfl Try.underlying9 rfl rfl Taken.no) rfl rfl ?_
      refine WH.val (O.det (fun _ => G.R.lenL rfl Try.underlying9) rfl Taken.no) rfl rfl ?_
      refine WH.val (O.move rfl rfl Taken.no) rfl rfl ?_
      refine WH.val (O.det (fun _ => G.R.eql rfl rfl) rfl Taken.no) rfl rfl ?_
      refine WH.val (O.build (res := [_, _, _]) (z := .agg #[.string (Go.G.bs []), .bool false, .slice none 0 0]) (places := [(0, 1), (1, 1), (2, 1)]) rfl rfl Try.underlying33 (by kernel_rfl) (fun _ => by kernel_rfl) rfl rfl Taken.no) rfl rfl ?_
      refine WH.memS (O.alloc (z := .agg #[.string (Go.G.bs []), .bool false, .slice none 0 0]) (is := [.u (.sc (.string (Go.G.bs []))), .u (.sc (.bool false)), .u (.sc (.slice none 0 0))]) 103 (by kernel_rfl) rfl rfl rfl Taken.no) rfl rfl rfl rfl rfl (S' := (103, _) :: _) rfl ?_
      refine WH.effS (O.st_ref (m := 3) rfl rfl rfl (js := [_, _, _]) rfl rfl (by kernel_rfl) (by simp) (Nat.le_of_ble_eq_true rfl) rfl (is' := [_, _, _]) rfl Taken.no) rfl rfl rfl (S' := (103, _) :: _) rfl ?_
      refine WH.nil ?_
      refine E.to ?_
      refine W.seq ?_
      refine W.region ?_
      refine SL.val (O.assign rfl rfl Taken.no) ?_
      refine SL.nil ?_
      refine E.to ?_
      refine W.seq ?_
      refine W.seq ?_
      refine W.region ?_
      refine SL.val (O.move rfl rfl Taken.no) ?_
      refine SL.val (O.assign rfl rfl Taken.no) ?_
      refine SL.nil ?_
      refine E.to ?_
      refine W.pick (.cons (t := 0) rfl (.cons (t := 2) rfl (.cons (t := 3) rfl (.cons (t := 4) rfl (.cons (t := 5) rfl (.cons (t := 6) rfl (.cons (t := 7) rfl (.cons (t := 8) rfl (.cons (t := 9) rfl .nil))))))))) (.cons (t := 101) rfl (.cons (t := 103) rfl .nil)) ?_
      refine W.block ?_
      refine W.adopt 8 105 9 1 (by decide) rfl rfl rfl ?_
      refine W.loopx1 (fun (k : Nat) => [(9, vI (k : Int)), (8, .own 104)]) (fun (k : Nat) => [(104, .data 9 1 ((cut (comN l[i]! (l.drop (i + 1))) ((l.take k).drop i)).map eStr))]) (fun (k : Nat) => i ≤ k ∧ k ≤ e) (fun (k : Nat) => e - k) (i) (rn [(104, 105)]) (.cons (t := 0) rfl (.cons (t := 2) rfl (.cons (t := 3) rfl (.cons (t := 4) rfl (.cons (t := 5) rfl (.cons (t := 6) rfl (.cons (t := 7) rfl .nil))))))) (.cons (t := 101) rfl (.cons (t := 103) rfl .nil)) rfl ?_ ?_ rfl rfl ?_ ?_
      · exact (SubF.cons rfl (SubF.cons rfl SubF.nil))
      · exact (SubS.val rfl (by exact sb_data (by rw [cut_0]; rfl)) SubS.nil)
      ·skip
       exact ⟨by omega, by omega⟩
      intro k hinv
      obtain ⟨hk1, hk2⟩ := hinv
      have hcl := cut_len (comN l[i]! (l.drop (i + 1))) ((l.take k).drop i)
      have hdl : ((l.take k).drop i).length ≤ k := by rw [List.length_drop, List.length_take]; omega
      refine W.seq ?_
      refine W.seq ?_
      refine W.region ?_
      refine SL.val (O.move rfl rfl Taken.no) ?_
      refine SL.val (O.move rfl rfl Taken.no) ?_
      refine SL.val (O.det (fun _ => G.R.lss rfl rfl) rfl Taken.no) ?_
      refine SL.nil ?_
      refine E.to ?_
      first | refine W.cond_d rfl (fun hc6 => ?_) (fun hc6 => ?_) | refine W.cond_nd rfl (fun hc6 => ?_) (fun hc6 => ?_) | refine W.cond rfl (fun hc6 => ?_) (fun hc6 => ?_)
      ·skip
       refine W.skip ?_
       refine E.to ?_
       refine W.seq ?_
       refine W.block ?_
       refine W.seq ?_
       refine W.region ?_
       refine SL.val (O.move rfl rfl Taken.no) ?_
       refine SL.val (O.move rfl rfl Taken.no) ?_
       refine SL.val (O.idx_fz rfl rfl (rfl) (row_get (by omega)) Try.underlying22 hi9 hs9 rfl Taken.no) ?_
       refine SL.val (O.ld1 (PtI.ofU (PtU.fz rfl)) rfl Try.underlying9 rfl rfl Taken.no) ?_
       refine SL.val (O.det (fun _ => G.R.lenL rfl Try.underlying9) rfl Taken.no) ?_
       refine SL.val (O.move rfl rfl Taken.no) ?_
       refine SL.val (O.det (fun _ => G.R.gtr rfl rfl) rfl Taken.no) ?_
       refine SL.nil ?_
       refine E.to ?_
       first | refine W.cond_d rfl (fun hc7 => ?_) (fun hc7 => ?_) | refine W.cond_nd rfl (fun hc7 => ?_) (fun hc7 => ?_) | refine W.cond rfl (fun hc7 => ?_) (fun hc7 => ?_)
       ·skip
        refine W.region ?_
        refine SL.val (O.move rfl rfl Taken.no) ?_
        refine SL.val (O.move rfl rfl Taken.no) ?_
        refine SL.val (O.move rfl rfl Taken.no) ?_
        refine SL.val (O.idx_fz rfl rfl (rfl) (row_get (by omega)) Try.underlying22 hi9 hs9 rfl Taken.no) ?_
        refine SL.val (O.ld1 (PtI.ofU (PtU.fz rfl)) rfl Try.underlying9 rfl rfl Taken.no) ?_
        refine SL.val (O.move rfl rfl Taken.no) ?_
        refine SL.val (O.det (fun _ => G.R.strfromL (i := comN l[i]! (l.drop (i + 1))) rfl rfl Try.underlying9 (by omega)) rfl Taken.no) ?_
        refine SL.memS (O.buildSlice 106 rfl rfl Try.underlying22 hi9 hz9 hs9 (by decide) rfl (by decide) rfl rfl rfl Taken.no) rfl rfl (S' := (106, _) :: _) rfl ?_
        refine SL.memS (O.app (k' := 107) rfl rfl (SlOf.own rfl rfl) Try.underlying22 hi9 hz9 hs9 rfl rfl (by exact map_snoc (x := l[k]!.drop (comN l[i]! (l.drop (i + 1)))) rfl) (by rw [hb9]; (simp only [List.length_map, List.length_singleton]; omega)) (by (simp only [List.length_map, List.length_singleton]; omega)) rfl Taken.no) rfl rfl (S' := (107, _) :: (104, .dead) :: _) rfl ?_
        refine SL.val (O.assign rfl rfl Taken.no) ?_
        refine SL.nil ?_
        refine E.inn ?_
        refine E.to ?_
        refine W.pick (.cons (t := 0) rfl (.cons (t := 2) rfl (.cons (t := 3) rfl (.cons (t := 4) rfl (.cons (t := 5) rfl (.cons (t := 6) rfl (.cons (t := 7) rfl (.cons (t := 8) rfl (.cons (t := 9) rfl .nil))))))))) (.cons (t := 101) rfl (.cons (t := 103) rfl (.cons (t := 106) rfl (.cons (t := 107) rfl .nil)))) ?_
        refine W.region ?_
        refine SL.val (O.move rfl rfl Taken.no) ?_
        refine SL.val (O.det (fun _ => by first | exact G.R.add64 rfl rfl (by omega) | exact G.R.add rfl rfl) rfl Taken.no) ?_
        refine SL.val (O.assign rfl rfl Taken.no) ?_
        refine SL.nil ?_
        refine E.again ((k + 1)) (rn [(104, 107)]) ?_ ?_ rfl (fixL_spec rfl) ?_ ?_
        · exact (SubF.cons rfl (SubF.cons rfl (SubF.cons rfl (SubF.cons rfl (SubF.cons rfl (SubF.cons rfl (SubF.cons rfl (SubF.cons rfl (SubF.cons rfl SubF.nil)))))))))
        · exact (SubS.val rfl (by (try dsimp only); first | exact sb_data (by rw [cut_y (by omega) (by omega) (by omega)]) | exact sb_data (by rw [cut_n (by omega) (by omega) (by omega)])) (SubS.cons rfl (SubS.cons rfl SubS.nil)))
        ·try dsimp only
         exact ⟨by omega, by omega⟩
        · (try dsimp only); omega
       ·skip
        refine W.skip ?_
        refine E.inn ?_
        refine E.to ?_
        refine W.region ?_
        refine SL.val (O.move rfl rfl Taken.no) ?_
        refine SL.val (O.det (fun _ => by first | exact G.R.add64 rfl rfl (by omega) | exact G.R.add rfl rfl) rfl Taken.no) ?_
        refine SL.val (O.assign rfl rfl Taken.no) ?_
        refine SL.nil ?_
        refine E.again ((k + 1)) (rn []) ?_ ?_ rfl (fixL_spec rfl) ?_ ?_
        · exact (SubF.cons rfl (SubF.cons rfl (SubF.cons rfl (SubF.cons rfl (SubF.cons rfl (SubF.cons rfl (SubF.cons rfl (SubF.cons rfl (SubF.cons rfl SubF.nil)))))))))
        · exact (SubS.val rfl (by (try dsimp only); first | exact sb_data (by rw [cut_y (by omega) (by omega) (by omega)]) | exact sb_data (by rw [cut_n (by omega) (by omega) (by omega)])) (SubS.cons rfl (SubS.cons rfl SubS.nil)))
        ·try dsimp only
         exact ⟨by omega, by omega⟩
        · (try dsimp only); omega
      ·skip
       refine W.exit ?_
       refine E.th ?_
       refine E.th ?_
       refine E.hit ?_
       refine E.to ?_
       refine W.seq ?_
       refine W.region ?_
       obtain rfl : e = k := by omega
       have hc3 : Asc (cut (comN l[i]! (l.drop (i + 1))) ((l.take e).drop i)) := by rw [hge.1]; exact kf3
       have hc4 : [] ∉ cut (comN l[i]! (l.drop (i + 1))) ((l.take e).drop i) := by rw [hge.1]; exact kf4
       have hc5 : msr (cut (comN l[i]! (l.drop (i + 1))) ((l.take e).drop i)) < msr l := by rw [hge.1]; exact kf5
       refine SL.val (O.move rfl rfl Taken.no) ?_
       refine SL.freeze 104 rfl (F' := [(8, _), (94, _)]) (⟨⟨_, rfl, rfl⟩, ⟨_, rfl, rfl⟩, trivial⟩) ?_
       refine SL.val (O.callp rfl rfl rfl (ih _ hc5 hc3 hc4 (by omega) (cut_w hw)) (.cons (ArgOk.same rfl) .nil) hcallOk44 rfl Taken.no) ?_
       refine SL.val (O.fld_ref (o' := 2) rfl Try.underlying33 rfl (m := 0) (by kernel_rfl) rfl rfl Taken.no) ?_
       refine SL.effS (O.st_ref (m := 1) rfl rfl rfl (js := [_]) rfl rfl (by kernel_rfl) (by simp) (Nat.le_of_ble_eq_true rfl) rfl (is' := [_, _, _]) rfl Taken.no) (S' := (103, _) :: _) rfl ?_
       refine SL.nil ?_
       refine E.to ?_
       refine W.seq ?_
       refine W.region ?_
       refine SL.val (O.move rfl rfl Taken.no) ?_
       refine SL.val (O.ldN (m := 3) (PtI.ref rfl rfl) (js := [_, _, _]) rfl (Nat.le_of_ble_eq_true rfl) Try.underlying33 rfl (by kernel_rfl) rfl Taken.no) ?_
       refine SL.memS (O.buildSlice 108 rfl rfl Try.underlying31 hi33 hz33 hs33 (by decide) rfl (by decide) rfl rfl rfl Taken.no) rfl rfl (S' := (108, _) :: _) rfl ?_
       refine SL.memS (O.app (k' := 109) rfl rfl (SlOf.own rfl rfl) Try.underlying31 hi33 hz33 hs33 rfl rfl (by exact map_snoc (x := .nd (l[i]!.take (comN l[i]! (l.drop (i + 1)))) (l[i]!.length == comN l[i]! (l.drop (i + 1))) (kidsR (cut (comN l[i]! (l.drop (i + 1))) ((l.take e).drop i)))) (by rw [eTr_eq]; show [_, uB _, _] = [_, uB _, _]; rw [bq]; rfl)) (by rw [hb33]; first | omega | (simp only [List.length_map]; omega) | (simp <;> omega)) (by first | omega | (simp only [List.length_map]; omega) | (simp <;> omega)) rfl Taken.no) rfl rfl (S' := (109, _) :: (101, .dead) :: _) rfl ?_
       refine SL.val (O.assign rfl rfl Taken.no) ?_
       refine SL.nil ?_
       refine E.to ?_
       refine W.region ?_
       refine SL.val (O.move rfl rfl Taken.no) ?_
       refine SL.val (O.assign rfl rfl Taken.no) ?_
       refine SL.nil ?_
       refine E.inn ?_
       refine E.again ((e), (pre ++ [.nd (l[i]!.take (comN l[i]! (l.drop (i + 1)))) (l[i]!.length == comN l[i]! (l.drop (i + 1))) (kidsR (cut (comN l[i]! (l.drop (i + 1))) ((l.take e).drop i)))])) (rn [(101, 109)]) ?_ ?_ rfl (fixL_spec rfl) ?_ ?_
       · exact (SubF.cons rfl (SubF.cons rfl (SubF.cons rfl (SubF.cons rfl SubF.nil))))
       · exact (SubS.cons rfl SubS.nil)
       ·try dsimp only
        exact ⟨he, by rw [List.length_append, List.length_singleton]; omega, by rw [List.append_assoc]; show pre ++ (_ :: kidsR (l.drop e)) = _; rw [← kids_at ha hn hie he hg hx]; exact hpr⟩
       · (try dsimp only); omega
    ·skip
     first | have hg4p := G.gA5 hg4 | have hg4p := G.gA6 hg4 | have hg4p := hg4
     refine WH.skip (OpOk.not rfl rfl rfl hg4) ?_
     refine WH.skip (OpOk.not rfl rfl rfl hg4) ?_
     refine WH.skip (OpOk.not rfl rfl rfl hg4) ?_
     refine WH.skip (OpOk.not rfl rfl rfl hg4) ?_
     refine WH.skip (OpOk.not rfl rfl rfl hg4) ?_
     refine WH.skip (OpOk.not rfl rfl rfl hg4) ?_
     refine WH.skip (OpOk.not rfl rfl rfl hg4) ?_
     refine WH.skip (OpOk.not rfl rfl rfl hg4) ?_
     refine WH.skip (OpOk.not rfl rfl rfl hg4) ?_
     refine WH.skip (OpOk.not rfl rfl rfl hg4) ?_
     refine WH.skip (OpOk.not rfl rfl rfl hg4) ?_
     refine WH.skip (OpOk.not rfl rfl rfl hg4) ?_
     refine WH.skip (OpOk.not rfl rfl rfl hg4) ?_
     refine WH.val (O.pick_f rfl (G.ne_t hg4) rfl rfl Taken.no) rfl rfl ?_
     refine WH.nil ?_
     refine E.to ?_
     refine W.pick (.cons (t := 0) rfl (.cons (t := 2) rfl (.cons (t := 3) rfl (.cons (t := 4) rfl (.cons (t := 5) rfl (.cons (t := 6) rfl (.cons (t := 55) rfl .nil))))))) (.cons (t := 101) rfl .nil) ?_
     refine W.cond_f rfl ?_
     refine W.exit ?_
     refine E.th ?_
     refine E.th ?_
     refine E.hit ?_
     refine E.to ?_
     refine W.seq ?_
     refine W.draw [⟨[], [], []⟩, ⟨[], [], []⟩, ⟨[], [], []⟩, ⟨[], [], []⟩, ⟨[], [], []⟩, ⟨[], [], []⟩, ⟨[], [], []⟩, ⟨[], [], []⟩, ⟨[], [], []⟩, ⟨[], [], []⟩, ⟨[], [], []⟩, ⟨[], [], []⟩, ⟨[], [], []⟩, ⟨[], [], []⟩, ⟨[110], [110], [110]⟩, ⟨[110], [110], []⟩] rfl (by kernel_rfl) (by kernel_rfl) rfl rfl ?_
     obtain rfl : n = comN l[i]! (l.drop (i + 1)) := by first | omega | (have h5 : ¬ l[i]!.take (n + 1) <+: l[e - 1]! := (by first | assumption | exact of_decide_eq_false (by assumption)); have h6 := mt (take_comm (a := l[i]!) (b := l[e - 1]!) (n := n + 1) (by omega)).2 h5; rw [← hll] at h6; have h7 : ¬ n + 1 ≤ comN l[i]! (l.drop (i + 1)) := h6; omega)
     refine WH.val (O.move rfl rfl Taken.no) rfl rfl ?_
     refine WH.val (O.move rfl rfl Taken.no) rfl rfl ?_
     refine WH.val (O.idx_fz (i := i) rfl rfl (rfl) (row_get (by omega)) Try.underlying22 hi9 hs9 rfl Taken.no) rfl rfl ?_
     refine WH.val (O.ld1 (PtI.ofU (PtU.fz rfl)) rfl Try.underlying9 rfl rfl Taken.no) rfl rfl ?_
     refine WH.val (O.move rfl rfl Taken.no) rfl rfl ?_
     refine WH.val (O.det (fun _ => G.R.strtoL (j := comN l[i]! (l.drop (i + 1))) rfl rfl Try.underlying9 (by omega)) rfl Taken.no) rfl rfl ?_
     refine WH.val (O.move rfl rfl Taken.no) rfl rfl ?_
     refine WH.val (O.move rfl rfl Taken.no) rfl rfl ?_
     refine WH.val (O.idx_fz (i := i) rfl rfl (rfl) (row_get (by omega)) Try.underlying22 hi9 hs9 rfl Taken.no) rfl rfl ?_
     refine WH.val (O.ld1 (PtI.ofU (PtU.fz rfl)) rfl Try.underlying9 rfl rfl Taken.no) rfl rfl ?_
     refine WH.val (O.det (fun _ => G.R.lenL rfl Try.underlying9) rfl Taken.no) rfl rfl ?_
     refine WH.val (O.move rfl rfl Taken.no) rfl rfl ?_
     refine WH.val (O.det (fun _ => G.R.eql rfl rfl) rfl Taken.no) rfl rfl ?_
     refine WH.val (O.build (res := [_, _, _]) (z := .agg #[.string (Go.G.bs []), .bool false, .slice none 0 0]) (places := [(0, 1), (1, 1), (2, 1)]) rfl rfl Try.underlying33 (by kernel_rfl) (fun _ => by kernel_rfl) rfl rfl Taken.no) rfl rfl ?_
     refine WH.memS (O.alloc (z := .agg #[.string (Go.G.bs []), .bool false, .slice none 0 0]) (is := [.u (.sc (.string (Go.G.bs []))), .u (.sc (.bool false)), .u (.sc (.slice none 0 0))]) 110 (by kernel_rfl) rfl rfl rfl Taken.no) rfl rfl rfl rfl rfl (S' := (110, _) :: _) rfl ?_
     refine WH.effS (O.st_ref (m := 3) rfl rfl rfl (js := [_, _, _]) rfl rfl (by kernel_rfl) (by simp) (Nat.le_of_ble_eq_true rfl) rfl (is' := [_, _, _]) rfl Taken.no) rfl rfl rfl (S' := (110, _) :: _) rfl ?_
     refine WH.nil ?_
     refine E.to ?_
     refine W.seq ?_
     refine W.region ?_
     refine SL.val (O.assign rfl rfl Taken.no) ?_
     refine SL.nil ?_
     refine E.to ?_
     refine W.seq ?_
     refine W.seq ?_
     refine W.region ?_
     refine SL.val (O.move rfl rfl Taken.no) ?_
     refine SL.val (O.assign rfl rfl Taken.no) ?_
     refine SL.nil ?_
     refine E.to ?_
     refine W.pick (.cons (t := 0) rfl (.cons (t := 2) rfl (.cons (t := 3) rfl (.cons (t := 4) rfl (.cons (t := 5) rfl (.cons (t := 6) rfl (.cons (t := 7) rfl (.cons (t := 8) rfl (.cons (t := 9) rfl .nil))))))))) (.cons (t := 101) rfl (.cons (t := 110) rfl .nil)) ?_
     refine W.block ?_
     refine W.adopt 8 112 9 1 (by decide) rfl rfl rfl ?_
     refine W.loopx1 (fun (k : Nat) => [(9, vI (k : Int)), (8, .own 111)]) (fun (k : Nat) => [(111, .data 9 1 ((cut (comN l[i]! (l.drop (i + 1))) ((l.take k).drop i)).map eStr))]) (fun (k : Nat) => i ≤ k ∧ k ≤ e) (fun (k : Nat) => e - k) (i) (rn [(111, 112)]) (.cons (t := 0) rfl (.cons (t := 2) rfl (.cons (t := 3) rfl (.cons (t := 4) rfl (.cons (t := 5) rfl (.cons (t := 6) rfl (.cons (t := 7) rfl .nil))))))) (.cons (t := 101) rfl (.cons (t := 110) rfl .nil)) rfl ?_ ?_ rfl rfl ?_ ?_
     · exact (SubF.cons rfl (SubF.cons rfl SubF.nil))
     · exact (SubS.val rfl (by exact sb_data (by rw [cut_0]; rfl)) SubS.nil)
     ·skip
      exact ⟨by omega, by omega⟩
     intro k hinv
     obtain ⟨hk1, hk2⟩ := hinv
     have hcl := cut_len (comN l[i]! (l.drop (i + 1))) ((l.take k).drop i)
     have hdl : ((l.take k).drop i).length ≤ k := by rw [List.length_drop, List.length_take]; omega
     refine W.seq ?_
     refine W.seq ?_
     refine W.region ?_
     refine SL.val (O.move rfl rfl Taken.no) ?_
     refine SL.val (O.move rfl rfl Taken.no) ?_
     refine SL.val (O.det (fun _ => G.R.lss rfl rfl) rfl Taken.no) ?_
     refine SL.nil ?_
     refine E.to ?_
     first | refine W.cond_d rfl (fun hc8 => ?_) (fun hc8 => ?_) | refine W.cond_nd rfl (fun hc8 => ?_) (fun hc8 => ?_) | refine W.cond rfl (fun hc8 => ?_) (fun hc8 => ?_)
     ·skip
      refine W.skip ?_
      refine E.to ?_
      refine W.seq ?_
      refine W.block ?_
      refine W.seq ?_
      refine W.region ?_
      refine SL.val (O.move rfl rfl Taken.no) ?_
      refine SL.val (O.move rfl rfl Taken.no) ?_
      refine SL.val (O.idx_fz rfl rfl (rfl) (row_get (by omega)) Try.underlying22 hi9 hs9 rfl Taken.no) ?_
      refine SL.val (O.ld1 (PtI.ofU (PtU.fz rfl)) rfl Try.underlying9 rfl rfl Taken.no) ?_
      refine SL.val (O.det (fun _ => G.R.lenL rfl Try.underlying9) rfl Taken.no) ?_
      refine SL.val (O.move rfl rfl Taken.no) ?_
      refine SL.val (O.det (fun _ => G.R.gtr rfl rfl) rfl Taken.no) ?_
      refine SL.nil ?_
      refine E.to ?_
      first | refine W.cond_d rfl (fun hc9 => ?_) (fun hc9 => ?_) | refine W.cond_nd rfl (fun hc9 => ?_) (fun hc9 => ?_) | refine W.cond rfl (fun hc9 => ?_) (fun hc9 => ?_)
      ·skip
       refine W.region ?_
       refine SL.val (O.move rfl rfl Taken.no) ?_
       refine SL.val (O.move rfl rfl Taken.no) ?_
       refine SL.val (O.move rfl rfl Taken.no) ?_
       refine SL.val (O.idx_fz rfl rfl (rfl) (row_get (by omega)) Try.underlying22 hi9 hs9 rfl Taken.no) ?_
       refine SL.val (O.ld1 (PtI.ofU (PtU.fz rfl)) rfl Try.underlying9 rfl rfl Taken.no) ?_
       refine SL.val (O.move rfl rfl Taken.no) ?_
       refine SL.val (O.det (fun _ => G.R.strfromL (i := comN l[i]! (l.drop (i + 1))) rfl rfl Try.underlying9 (by omega)) rfl Taken.no) ?_
       refine SL.memS (O.buildSlice 113 rfl rfl Try.underlying22 hi9 hz9 hs9 (by decide) rfl (by decide) rfl rfl rfl Taken.no) rfl rfl (S' := (113, _) :: _) rfl ?_
       refine SL.memS (O.app (k' := 114) rfl rfl (SlOf.own rfl rfl) Try.underlying22 hi9 hz9 hs9 rfl rfl (by exact map_snoc (x := l[k]!.drop (comN l[i]! (l.drop (i + 1)))) rfl) (by rw [hb9]; (simp only [List.length_map, List.length_singleton]; omega)) (by (simp only [List.length_map, List.length_singleton]; omega)) rfl Taken.no) rfl rfl (S' := (114, _) :: (111, .dead) :: _) rfl ?_
       refine SL.val (O.assign rfl rfl Taken.no) ?_
       refine SL.nil ?_
       refine E.inn ?_
       refine E.to ?_
       refine W.pick (.cons (t := 0) rfl (.cons (t := 2) rfl (.cons (t := 3) rfl (.cons (t := 4) rfl (.cons (t := 5) rfl (.cons (t := 6) rfl (.cons (t := 7) rfl (.cons (t := 8) rfl (.cons (t := 9) rfl .nil))))))))) (.cons (t := 101) rfl (.cons (t := 110) rfl (.cons (t := 113) rfl (.cons (t := 114) rfl .nil)))) ?_
       refine W.region ?_
       refine SL.val (O.move rfl rfl Taken.no) ?_
       refine SL.val (O.det (fun _ => by first | exact G.R.add64 rfl rfl (by omega) | exact G.R.add rfl rfl) rfl Taken.no) ?_
       refine SL.val (O.assign rfl rfl Taken.no) ?_
       refine SL.nil ?_
       refine E.again ((k + 1)) (rn [(111, 114)]) ?_ ?_ rfl (fixL_spec rfl) ?_ ?_
       · exact (SubF.cons rfl (SubF.cons rfl (SubF.cons rfl (SubF.cons rfl (SubF.cons rfl (SubF.cons rfl (SubF.cons rfl (SubF.cons rfl (SubF.cons rfl SubF.nil)))))))))
       · exact (SubS.val rfl (by (try dsimp only); first | exact sb_data (by rw [cut_y (by omega) (by omega) (by omega)]) | exact sb_data (by rw [cut_n (by omega) (by omega) (by omega)])) (SubS.cons rfl (SubS.cons rfl SubS.nil)))
       ·try dsimp only
        exact ⟨by omega, by omega⟩
       · (try dsimp only); omega
      ·skip
       refine W.skip ?_
       refine E.inn ?_
       refine E.to ?_
       refine W.region ?_
       refine SL.val (O.move rfl rfl Taken.no) ?_
       refine SL.val (O.det (fun _ => by first | exact G.R.add64 rfl rfl (by omega) | exact G.R.add rfl rfl) rfl Taken.no) ?_
       refine SL.val (O.assign rfl rfl Taken.no) ?_
       refine SL.nil ?_
       refine E.again ((k + 1)) (rn []) ?_ ?_ rfl (fixL_spec rfl) ?_ ?_
       · exact (SubF.cons rfl (SubF.cons rfl (SubF.cons rfl (SubF.cons rfl (SubF.cons rfl (SubF.cons rfl (SubF.cons rfl (SubF.cons rfl (SubF.cons rfl SubF.nil)))))))))
       · exact (SubS.val rfl (by (try dsimp only); first | exact sb_data (by rw [cut_y (by omega) (by omega) (by omega)]) | exact sb_data (by rw [cut_n (by omega) (by omega) (by omega)])) (SubS.cons rfl (SubS.cons rfl SubS.nil)))
       ·try dsimp only
        exact ⟨by omega, by omega⟩
       · (try dsimp only); omega
     ·skip
      refine W.exit ?_
      refine E.th ?_
      refine E.th ?_
      refine E.hit ?_
      refine E.to ?_
      refine W.seq ?_
      refine W.region ?_
      obtain rfl : e = k := by omega
      have hc3 : Asc (cut (comN l[i]! (l.drop (i + 1))) ((l.take e).drop i)) := by rw [hge.1]; exact kf3
      have hc4 : [] ∉ cut (comN l[i]! (l.drop (i + 1))) ((l.take e).drop i) := by rw [hge.1]; exact kf4
      have hc5 : msr (cut (comN l[i]! (l.drop (i + 1))) ((l.take e).drop i)) < msr l := by rw [hge.1]; exact kf5
      refine SL.val (O.move rfl rfl Taken.no) ?_
      refine SL.freeze 111 rfl (F' := [(8, _), (94, _)]) (⟨⟨_, rfl, rfl⟩, ⟨_, rfl, rfl⟩, trivial⟩) ?_
      refine SL.val (O.callp rfl rfl rfl (ih _ hc5 hc3 hc4 (by omega) (cut_w hw)) (.cons (ArgOk.same rfl) .nil) hcallOk44 rfl Taken.no) ?_
      refine SL.val (O.fld_ref (o' := 2) rfl Try.underlying33 rfl (m := 0) (by kernel_rfl) rfl rfl Taken.no) ?_
      refine SL.effS (O.st_ref (m := 1) rfl rfl rfl (js := [_]) rfl rfl (by kernel_rfl) (by simp) (Nat.le_of_ble_eq_true rfl) rfl (is' := [_, _, _]) rfl Taken.no) (S' := (110, _) :: _) rfl ?_
      refine SL.nil ?_
      refine E.to ?_
      refine W.seq ?_
      refine W.region ?_
      refine SL.val (O.move rfl rfl Taken.no) ?_
      refine SL.val (O.ldN (m := 3) (PtI.ref rfl rfl) (js := [_, _, _]) rfl (Nat.le_of_ble_eq_true rfl) Try.underlying33 rfl (by kernel_rfl) rfl Taken.no) ?_
      refine SL.memS (O.buildSlice 115 rfl rfl Try.underlying31 hi33 hz33 hs33 (by decide) rfl (by decide) rfl rfl rfl Taken.no) rfl rfl (S' := (115, _) :: _) rfl ?_
      refine SL.memS (O.app (k' := 116) rfl rfl (SlOf.own rfl rfl) Try.underlying31 hi33 hz33 hs33 rfl rfl (by exact map_snoc (x := .nd (l[i]!.take (comN l[i]! (l.drop (i + 1)))) (l[i]!.length == comN l[i]! (l.drop (i + 1))) (kidsR (cut (comN l[i]! (l.drop (i + 1))) ((l.take e).drop i)))) (by rw [eTr_eq]; show [_, uB _, _] = [_, uB _, _]; rw [bq]; rfl)) (by rw [hb33]; first | omega | (simp only [List.length_map]; omega) | (simp <;> omega)) (by first | omega | (simp only [List.length_map]; omega) | (simp <;> omega)) rfl Taken.no) rfl rfl (S' := (116, _) :: (101, .dead) :: _) rfl ?_
      refine SL.val (O.assign rfl rfl Taken.no) ?_
      refine SL.nil ?_
      refine E.to ?_
      refine W.region ?_
      refine SL.val (O.move rfl rfl Taken.no) ?_
      refine SL.val (O.assign rfl rfl Taken.no) ?_
      refine SL.nil ?_
      refine E.inn ?_
      refine E.again ((e), (pre ++ [.nd (l[i]!.take (comN l[i]! (l.drop (i + 1)))) (l[i]!.length == comN l[i]! (l.drop (i + 1))) (kidsR (cut (comN l[i]! (l.drop (i + 1))) ((l.take e).drop i)))])) (rn [(101, 116)]) ?_ ?_ rfl (fixL_spec rfl) ?_ ?_
      · exact (SubF.cons rfl (SubF.cons rfl (SubF.cons rfl (SubF.cons rfl SubF.nil))))
      · exact (SubS.cons rfl SubS.nil)
      ·try dsimp only
       exact ⟨he, by rw [List.length_append, List.length_singleton]; omega, by rw [List.append_assoc]; show pre ++ (_ :: kidsR (l.drop e)) = _; rw [← kids_at ha hn hie he hg hx]; exact hpr⟩
      · (try dsimp only); omega
  ·skip
   first | have hg2p := G.gA5 hg2 | have hg2p := G.gA6 hg2 | have hg2p := hg2
   refine WH.skip (OpOk.not rfl rfl rfl hg2) ?_
   refine WH.skip (OpOk.not rfl rfl rfl hg2) ?_
   refine WH.skip (OpOk.not rfl rfl rfl hg2) ?_
   refine WH.skip (OpOk.not rfl rfl rfl hg2) ?_
   refine WH.skip (OpOk.not rfl rfl rfl hg2) ?_
   refine WH.skip (OpOk.not rfl rfl rfl hg2) ?_
   refine WH.skip (OpOk.not rfl rfl rfl hg2) ?_
   refine WH.skip (OpOk.not rfl rfl rfl hg2) ?_
   refine WH.skip (OpOk.not rfl rfl rfl hg2) ?_
   refine WH.skip (OpOk.not rfl rfl rfl hg2) ?_
   refine WH.skip (OpOk.not rfl rfl rfl hg2) ?_
   refine WH.val (O.pick_f rfl (G.ne_t hg2) rfl rfl Taken.no) rfl rfl ?_
   refine WH.nil ?_
   refine E.to ?_
   refine W.cond_f rfl ?_
   refine W.exit ?_
   refine E.th ?_
   refine E.th ?_
   refine E.hit ?_
   refine E.to ?_
   refine W.seq ?_
   refine W.region ?_
   refine SL.val (O.assign rfl rfl Taken.no) ?_
   refine SL.nil ?_
   refine E.to ?_
   refine W.seq ?_
   refine W.block ?_
   have hx : e < l.length → ¬ hd0 l[e]! = hd0 l[i]! := fun h q => by first | omega | exact absurd (hd_eq2 (ne_at hn h) (ne_at hn (by omega)) q) (by assumption)
   have hie : i < e := by rcases Nat.lt_or_eq_of_le hie0 with q | q; exact q; subst q; exact absurd rfl (hx (by omega))
   obtain ⟨kf1, kf2, kf3, kf4, kf5⟩ := kid_facts ha hn hie he
   have hll := last_e hie he hg hx
   have hge := grp_e hie he hg hx
   have hwi : l[i]!.length ≤ 1000 := hw _ (by rw [getElem!_pos l i (by omega)]; exact List.getElem_mem _)
   refine W.loopx1 (fun (n : Nat) => [(6, vI (n : Int))]) (fun (n : Nat) => []) (fun (n : Nat) => 1 ≤ n ∧ n ≤ comN l[i]! (l.drop (i + 1))) (fun (n : Nat) => comN l[i]! (l.drop (i + 1)) - n) (1) (rn []) (.cons (t := 0) rfl (.cons (t := 2) rfl (.cons (t := 3) rfl (.cons (t := 4) rfl (.cons (t := 5) rfl .nil))))) (.cons (t := 101) rfl .nil) rfl ?_ ?_ rfl rfl ?_ ?_
   · exact (SubF.cons rfl SubF.nil)
   · exact SubS.nil
   ·skip
    exact ⟨by omega, by omega⟩
   intro n hinv
   obtain ⟨hn1, hn2⟩ := hinv
   refine W.seq ?_
   refine W.seq ?_
   refine W.draw [⟨[], [], []⟩, ⟨[], [], []⟩, ⟨[], [], []⟩, ⟨[], [], []⟩, ⟨[], [], []⟩, ⟨[], [], []⟩, ⟨[], [], []⟩, ⟨[], [], []⟩, ⟨[], [], []⟩, ⟨[], [], []⟩, ⟨[], [], []⟩, ⟨[], [], []⟩, ⟨[], [], []⟩, ⟨[], [], []⟩, ⟨[], [], []⟩, ⟨[], [], []⟩, ⟨[], [], []⟩, ⟨[], [], []⟩, ⟨[], [], []⟩, ⟨[], [], []⟩, ⟨[], [], []⟩, ⟨[], [], []⟩] rfl (by kernel_rfl) (by kernel_rfl) rfl rfl ?_
   refine WH.val (O.move rfl rfl Taken.no) rfl rfl ?_
   refine WH.val (O.move rfl rfl Taken.no) rfl rfl ?_
   refine WH.val (O.move rfl rfl Taken.no) rfl rfl ?_
   refine WH.val (O.idx_fz (i := i) rfl rfl (rfl) (row_get (by omega)) Try.underlying22 hi9 hs9 rfl Taken.no) rfl rfl ?_
   refine WH.val (O.ld1 (PtI.ofU (PtU.fz rfl)) rfl Try.underlying9 rfl rfl Taken.no) rfl rfl ?_
   refine WH.val (O.det (fun _ => G.R.lenL rfl Try.underlying9) rfl Taken.no) rfl rfl ?_
   refine WH.val (O.det (fun _ => G.R.lss rfl rfl) rfl Taken.no) rfl rfl ?_
   refine WH.val (O.move rfl rfl Taken.no) rfl rfl ?_
   refine WH.case (j := 7) (g := 41) (want := true) rfl rfl (fun hg10 => ?_) (fun hg10 => ?_)
   ·skip
    first | have hg10p := G.gA1 hg10 | have hg10p := G.gA2 hg10 | have hg10p := hg10
    refine WH.val (O.move rfl rfl (Taken.yes rfl rfl hg10)) rfl rfl ?_
    refine WH.val (O.move rfl rfl (Taken.yes rfl rfl hg10)) rfl rfl ?_
    refine WH.val (O.det (fun _ => by first | exact G.R.sub64 rfl rfl (by omega) | exact G.R.sub rfl rfl) rfl (Taken.yes rfl rfl hg10)) rfl rfl ?_
    refine WH.val (O.idx_fz (i := (e - 1)) rfl rfl (by omega) (row_get (by omega)) Try.underlying22 hi9 hs9 rfl (Taken.yes rfl rfl hg10)) rfl rfl ?_
    refine WH.val (O.ld1 (PtI.ofU (PtU.fz rfl)) rfl Try.underlying9 rfl rfl (Taken.yes rfl rfl hg10)) rfl rfl ?_
    refine WH.val (O.move rfl rfl (Taken.yes rfl rfl hg10)) rfl rfl ?_
    refine WH.val (O.move rfl rfl (Taken.yes rfl rfl hg10)) rfl rfl ?_
    refine WH.val (O.idx_fz (i := i) rfl rfl (rfl) (row_get (by omega)) Try.underlying22 hi9 hs9 rfl (Taken.yes rfl rfl hg10)) rfl rfl ?_
    refine WH.val (O.ld1 (PtI.ofU (PtU.fz rfl)) rfl Try.underlying9 rfl rfl (Taken.yes rfl rfl hg10)) rfl rfl ?_
    refine WH.val (O.move rfl rfl (Taken.yes rfl rfl hg10)) rfl rfl ?_
    refine WH.val (O.det (fun _ => by first | exact G.R.add64 rfl rfl (by omega) | exact G.R.add rfl rfl) rfl (Taken.yes rfl rfl hg10)) rfl rfl ?_
    refine WH.val (O.det (fun _ => G.R.strtoL (j := (n + 1)) rfl rfl Try.underlying9 (by omega)) rfl (Taken.yes rfl rfl hg10)) rfl rfl ?_
    refine WH.val (O.callp rfl rfl rfl (begins_h (s := l[e - 1]!) (p := l[i]!.take (n + 1))) (.cons (ArgOk.same rfl) (.cons (ArgOk.same rfl) .nil)) hcallOk19 rfl (Taken.yes rfl rfl hg10)) rfl rfl ?_
    refine WH.val (O.pick_t rfl hg10 rfl rfl Taken.no) rfl rfl ?_
    refine WH.nil ?_
    refine E.to ?_
    refine W.pick (.cons (t := 0) rfl (.cons (t := 2) rfl (.cons (t := 3) rfl (.cons (t := 4) rfl (.cons (t := 5) rfl (.cons (t := 6) rfl (.cons (t := 55) rfl .nil))))))) (.cons (t := 101) rfl .nil) ?_
    first | refine W.cond_d rfl (fun hc11 => ?_) (fun hc11 => ?_) | refine W.cond_nd rfl (fun hc11 => ?_) (fun hc11 => ?_) | refine W.cond rfl (fun hc11 => ?_) (fun hc11 => ?_)
    ·skip
     refine W.skip ?_
     refine E.to ?_
     refine W.block ?_
     refine W.region ?_
     refine SL.val (O.move rfl rfl Taken.no) ?_
     refine SL.val (O.det (fun _ => by first | exact G.R.add64 rfl rfl (by omega) | exact G.R.add rfl rfl) rfl Taken.no) ?_
     refine SL.val (O.assign rfl rfl Taken.no) ?_
     refine SL.nil ?_
     refine E.inn ?_
     refine E.again ((n + 1)) (rn []) ?_ ?_ rfl (fixL_spec rfl) ?_ ?_
     · exact (SubF.cons rfl (SubF.cons rfl (SubF.cons rfl (SubF.cons rfl (SubF.cons rfl (SubF.cons rfl SubF.nil))))))
     · exact (SubS.cons rfl SubS.nil)
     ·try dsimp only
      exact ⟨by omega, by have := (take_comm (a := l[i]!) (b := l[e - 1]!) (n := n + 1) (by omega)).1 (by assumption); rw [← hll] at this; exact this⟩
     · (try dsimp only); (have := (take_comm (a := l[i]!) (b := l[e - 1]!) (n := n + 1) (by omega)).1 (by assumption); rw [← hll] at this; have h7 : n + 1 ≤ comN l[i]! (l.drop (i + 1)) := this; omega)
    ·skip
     refine W.exit ?_
     refine E.th ?_
     refine E.th ?_
     refine E.hit ?_
     refine E.to ?_
     refine W.seq ?_
     refine W.draw [⟨[], [], []⟩, ⟨[], [], []⟩, ⟨[], [], []⟩, ⟨[], [], []⟩, ⟨[], [], []⟩, ⟨[], [], []⟩, ⟨[], [], []⟩, ⟨[], [], []⟩, ⟨[], [], []⟩, ⟨[], [], []⟩, ⟨[], [], []⟩, ⟨[], [], []⟩, ⟨[], [], []⟩, ⟨[], [], []⟩, ⟨[117], [117], [117]⟩, ⟨[117], [117], []⟩] rfl (by kernel_rfl) (by kernel_rfl) rfl rfl ?_
     obtain rfl : n = comN l[i]! (l.drop (i + 1)) := by first | omega | (have h5 : ¬ l[i]!.take (n + 1) <+: l[e - 1]! := (by first | assumption | exact of_decide_eq_false (by assumption)); have h6 := mt (take_comm (a := l[i]!) (b := l[e - 1]!) (n := n + 1) (by omega)).2 h5; rw [← hll] at h6; have h7 : ¬ n + 1 ≤ comN l[i]! (l.drop (i + 1)) := h6; omega)
     refine WH.val (O.move rfl rfl Taken.no) rfl rfl ?_
     refine WH.val (O.move rfl rfl Taken.no) rfl rfl ?_
     refine WH.val (O.idx_fz (i := i) rfl rfl (rfl) (row_get (by omega)) Try.underlying22 hi9 hs9 rfl Taken.no) rfl rfl ?_
     refine WH.val (O.ld1 (PtI.ofU (PtU.fz rfl)) rfl Try.underlying9 rfl rfl Taken.no) rfl rfl ?_
     refine WH.val (O.move rfl rfl Taken.no) rfl rfl ?_
     refine WH.val (O.det (fun _ => G.R.strtoL (j := comN l[i]! (l.drop (i + 1))) rfl rfl Try.underlying9 (by omega)) rfl Taken.no) rfl rfl ?_
     refine WH.val (O.move rfl rfl Taken.no) rfl rfl ?_
     refine WH.val (O.move rfl rfl Taken.no) rfl rfl ?_
     refine WH.val (O.idx_fz (i := i) rfl rfl (rfl) (row_get (by omega)) Try.underlying22 hi9 hs9 rfl Taken.no) rfl rfl ?_
     refine WH.val (O.ld1 (PtI.ofU (PtU.fz rfl)) rfl Try.underlying9 rfl rfl Taken.no) rfl rfl ?_
     refine WH.val (O.det (fun _ => G.R.lenL rfl Try.underlying9) rfl Taken.no) rfl rfl ?_
     refine WH.val (O.move rfl rfl Taken.no) rfl rfl ?_
     refine WH.val (O.det (fun _ => G.R.eql rfl rfl) rfl Taken.no) rfl rfl ?_
     refine WH.val (O.build (res := [_, _, _]) (z := .agg #[.string (Go.G.bs []), .bool false, .slice none 0 0]) (places := [(0, 1), (1, 1), (2, 1)]) rfl rfl Try.underlying33 (by kernel_rfl) (fun _ => by kernel_rfl) rfl rfl Taken.no) rfl rfl ?_
     refine WH.memS (O.alloc (z := .agg #[.string (Go.G.bs []), .bool false, .slice none 0 0]) (is := [.u (.sc (.string (Go.G.bs []))), .u (.sc (.bool false)), .u (.sc (.slice none 0 0))]) 117 (by kernel_rfl) rfl rfl rfl Taken.no) rfl rfl rfl rfl rfl (S' := (117, _) :: _) rfl ?_
     refine WH.effS (O.st_ref (m := 3) rfl rfl rfl (js := [_, _, _]) rfl rfl (by kernel_rfl) (by simp) (Nat.le_of_ble_eq_true rfl) rfl (is' := [_, _, _]) rfl Taken.no) rfl rfl rfl (S' := (117, _) :: _) rfl ?_
     refine WH.nil ?_
     refine E.to ?_
     refine W.seq ?_
     refine W.region ?_
     refine SL.val (O.assign rfl rfl Taken.no) ?_
     refine SL.nil ?_
     refine E.to ?_
     refine W.seq ?_
     refine W.seq ?_
     refine W.region ?_
     refine SL.val (O.move rfl rfl Taken.no) ?_
     refine SL.val (O.assign rfl rfl Taken.no) ?_
     refine SL.nil ?_
     refine E.to ?_
     refine W.pick (.cons (t := 0) rfl (.cons (t := 2) rfl (.cons (t := 3) rfl (.cons (t := 4) rfl (.cons (t := 5) rfl (.cons (t := 6) rfl (.cons (t := 7) rfl (.cons (t := 8) rfl (.cons (t := 9) rfl .nil))))))))) (.cons (t := 101) rfl (.cons (t := 117) rfl .nil)) ?_
     refine W.block ?_
     refine W.adopt 8 119 9 1 (by decide) rfl rfl rfl ?_
     refine W.loopx1 (fun (k : Nat) => [(9, vI (k : Int)), (8, .own 118)]) (fun (k : Nat) => [(118, .data 9 1 ((cut (comN l[i]! (l.drop (i + 1))) ((l.take k).drop i)).map eStr))]) (fun (k : Nat) => i ≤ k ∧ k ≤ e) (fun (k : Nat) => e - k) (i) (rn [(118, 119)]) (.cons (t := 0) rfl (.cons (t := 2) rfl (.cons (t := 3) rfl (.cons (t := 4) rfl (.cons (t := 5) rfl (.cons (t := 6) rfl (.cons (t := 7) rfl .nil))))))) (.cons (t := 101) rfl (.cons (t := 117) rfl .nil)) rfl ?_ ?_ rfl rfl ?_ ?_
     · exact (SubF.cons rfl (SubF.cons rfl SubF.nil))
     · exact (SubS.val rfl (by exact sb_data (by rw [cut_0]; rfl)) SubS.nil)
     ·skip
      exact ⟨by omega, by omega⟩
     intro k hinv
     obtain ⟨hk1, hk2⟩ := hinv
     have hcl := cut_len (comN l[i]! (l.drop (i + 1))) ((l.take k).drop i)
     have hdl : ((l.take k).drop i).length ≤ k := by rw [List.length_drop, List.length_take]; omega
     refine W.seq ?_
     refine W.seq ?_
     refine W.region ?_
     refine SL.val (O.move rfl rfl Taken.no) ?_
     refine SL.val (O.move rfl rfl Taken.no) ?_
     refine SL.val (O.det (fun _ => G.R.lss rfl rfl) rfl Taken.no) ?_
     refine SL.nil ?_
     refine E.to ?_
     first | refine W.cond_d rfl (fun hc12 => ?_) (fun hc12 => ?_) | refine W.cond_nd rfl (fun hc12 => ?_) (fun hc12 => ?_) | refine W.cond rfl (fun hc12 => ?_) (fun hc12 => ?_)
     ·skip
      refine W.skip ?_
      refine E.to ?_
      refine W.seq ?_
      refine W.block ?_
      refine W.seq ?_
      refine W.region ?_
      refine SL.val (O.move rfl rfl Taken.no) ?_
      refine SL.val (O.move rfl rfl Taken.no) ?_
      refine SL.val (O.idx_fz rfl rfl (rfl) (row_get (by omega)) Try.underlying22 hi9 hs9 rfl Taken.no) ?_
      refine SL.val (O.ld1 (PtI.ofU (PtU.fz rfl)) rfl Try.underlying9 rfl rfl Taken.no) ?_
      refine SL.val (O.det (fun _ => G.R.lenL rfl Try.underlying9) rfl Taken.no) ?_
      refine SL.val (O.move rfl rfl Taken.no) ?_
      refine SL.val (O.det (fun _ => G.R.gtr rfl rfl) rfl Taken.no) ?_
      refine SL.nil ?_
      refine E.to ?_
      first | refine W.cond_d rfl (fun hc13 => ?_) (fun hc13 => ?_) | refine W.cond_nd rfl (fun hc13 => ?_) (fun hc13 => ?_) | refine W.cond rfl (fun hc13 => ?_) (fun hc13 => ?_)
      ·skip
       refine W.region ?_
       refine SL.val (O.move rfl rfl Taken.no) ?_
       refine SL.val (O.move rfl rfl Taken.no) ?_
       refine SL.val (O.move rfl rfl Taken.no) ?_
       refine SL.val (O.idx_fz rfl rfl (rfl) (row_get (by omega)) Try.underlying22 hi9 hs9 rfl Taken.no) ?_
       refine SL.val (O.ld1 (PtI.ofU (PtU.fz rfl)) rfl Try.underlying9 rfl rfl Taken.no) ?_
       refine SL.val (O.move rfl rfl Taken.no) ?_
       refine SL.val (O.det (fun _ => G.R.strfromL (i := comN l[i]! (l.drop (i + 1))) rfl rfl Try.underlying9 (by omega)) rfl Taken.no) ?_
       refine SL.memS (O.buildSlice 120 rfl rfl Try.underlying22 hi9 hz9 hs9 (by decide) rfl (by decide) rfl rfl rfl Taken.no) rfl rfl (S' := (120, _) :: _) rfl ?_
       refine SL.memS (O.app (k' := 121) rfl rfl (SlOf.own rfl rfl) Try.underlying22 hi9 hz9 hs9 rfl rfl (by exact map_snoc (x := l[k]!.drop (comN l[i]! (l.drop (i + 1)))) rfl) (by rw [hb9]; (simp only [List.length_map, List.length_singleton]; omega)) (by (simp only [List.length_map, List.length_singleton]; omega)) rfl Taken.no) rfl rfl (S' := (121, _) :: (118, .dead) :: _) rfl ?_
       refine SL.val (O.assign rfl rfl Taken.no) ?_
       refine SL.nil ?_
       refine E.inn ?_
       refine E.to ?_
       refine W.pick (.cons (t := 0) rfl (.cons (t := 2) rfl (.cons (t := 3) rfl (.cons (t := 4) rfl (.cons (t := 5) rfl (.cons (t := 6) rfl (.cons (t := 7) rfl (.cons (t := 8) rfl (.cons (t := 9) rfl .nil))))))))) (.cons (t := 101) rfl (.cons (t := 117) rfl (.cons (t := 120) rfl (.cons (t := 121) rfl .nil)))) ?_
       refine W.region ?_
       refine SL.val (O.move rfl rfl Taken.no) ?_
       refine SL.val (O.det (fun _ => by first | exact G.R.add64 rfl rfl (by omega) | exact G.R.add rfl rfl) rfl Taken.no) ?_
       refine SL.val (O.assign rfl rfl Taken.no) ?_
       refine SL.nil ?_
       refine E.again ((k + 1)) (rn [(118, 121)]) ?_ ?_ rfl (fixL_spec rfl) ?_ ?_
       · exact (SubF.cons rfl (SubF.cons rfl (SubF.cons rfl (SubF.cons rfl (SubF.cons rfl (SubF.cons rfl (SubF.cons rfl (SubF.cons rfl (SubF.cons rfl SubF.nil)))))))))
       · exact (SubS.val rfl (by (try dsimp only); first | exact sb_data (by rw [cut_y (by omega) (by omega) (by omega)]) | exact sb_data (by rw [cut_n (by omega) (by omega) (by omega)])) (SubS.cons rfl (SubS.cons rfl SubS.nil)))
       ·try dsimp only
        exact ⟨by omega, by omega⟩
       · (try dsimp only); omega
      ·skip
       refine W.skip ?_
       refine E.inn ?_
       refine E.to ?_
       refine W.region ?_
       refine SL.val (O.move rfl rfl Taken.no) ?_
       refine SL.val (O.det (fun _ => by first | exact G.R.add64 rfl rfl (by omega) | exact G.R.add rfl rfl) rfl Taken.no) ?_
       refine SL.val (O.assign rfl rfl Taken.no) ?_
       refine SL.nil ?_
       refine E.again ((k + 1)) (rn []) ?_ ?_ rfl (fixL_spec rfl) ?_ ?_
       · exact (SubF.cons rfl (SubF.cons rfl (SubF.cons rfl (SubF.cons rfl (SubF.cons rfl (SubF.cons rfl (SubF.cons rfl (SubF.cons rfl (SubF.cons rfl SubF.nil)))))))))
       · exact (SubS.val rfl (by (try dsimp only); first | exact sb_data (by rw [cut_y (by omega) (by omega) (by omega)]) | exact sb_data (by rw [cut_n (by omega) (by omega) (by omega)])) (SubS.cons rfl (SubS.cons rfl SubS.nil)))
       ·try dsimp only
        exact ⟨by omega, by omega⟩
       · (try dsimp only); omega
     ·skip
      refine W.exit ?_
      refine E.th ?_
      refine E.th ?_
      refine E.hit ?_
      refine E.to ?_
      refine W.seq ?_
      refine W.region ?_
      obtain rfl : e = k := by omega
      have hc3 : Asc (cut (comN l[i]! (l.drop (i + 1))) ((l.take e).drop i)) := by rw [hge.1]; exact kf3
      have hc4 : [] ∉ cut (comN l[i]! (l.drop (i + 1))) ((l.take e).drop i) := by rw [hge.1]; exact kf4
      have hc5 : msr (cut (comN l[i]! (l.drop (i + 1))) ((l.take e).drop i)) < msr l := by rw [hge.1]; exact kf5
      refine SL.val (O.move rfl rfl Taken.no) ?_
      refine SL.freeze 118 rfl (F' := [(8, _), (94, _)]) (⟨⟨_, rfl, rfl⟩, ⟨_, rfl, rfl⟩, trivial⟩) ?_
      refine SL.val (O.callp rfl rfl rfl (ih _ hc5 hc3 hc4 (by omega) (cut_w hw)) (.cons (ArgOk.same rfl) .nil) hcallOk44 rfl Taken.no) ?_
      refine SL.val (O.fld_ref (o' := 2) rfl Try.underlying33 rfl (m := 0) (by kernel_rfl) rfl rfl Taken.no) ?_
      refine SL.effS (O.st_ref (m := 1) rfl rfl rfl (js := [_]) rfl rfl (by kernel_rfl) (by simp) (Nat.le_of_ble_eq_true rfl) rfl (is' := [_, _, _]) rfl Taken.no) (S' := (117, _) :: _) rfl ?_
      refine SL.nil ?_
      refine E.to ?_
      refine W.seq ?_
      refine W.region ?_
      refine SL.val (O.move rfl rfl Taken.no) ?_
      refine SL.val (O.ldN (m := 3) (PtI.ref rfl rfl) (js := [_, _, _]) rfl (Nat.le_of_ble_eq_true rfl) Try.underlying33 rfl (by kernel_rfl) rfl Taken.no) ?_
      refine SL.memS (O.buildSlice 122 rfl rfl Try.underlying31 hi33 hz33 hs33 (by decide) rfl (by decide) rfl rfl rfl Taken.no) rfl rfl (S' := (122, _) :: _) rfl ?_
      refine SL.memS (O.app (k' := 123) rfl rfl (SlOf.own rfl rfl) Try.underlying31 hi33 hz33 hs33 rfl rfl (by exact map_snoc (x := .nd (l[i]!.take (comN l[i]! (l.drop (i + 1)))) (l[i]!.length == comN l[i]! (l.drop (i + 1))) (kidsR (cut (comN l[i]! (l.drop (i + 1))) ((l.take e).drop i)))) (by rw [eTr_eq]; show [_, uB _, _] = [_, uB _, _]; rw [bq]; rfl)) (by rw [hb33]; first | omega | (simp only [List.length_map]; omega) | (simp <;> omega)) (by first | omega | (simp only [List.length_map]; omega) | (simp <;> omega)) rfl Taken.no) rfl rfl (S' := (123, _) :: (101, .dead) :: _) rfl ?_
      refine SL.val (O.assign rfl rfl Taken.no) ?_
      refine SL.nil ?_
      refine E.to ?_
      refine W.region ?_
      refine SL.val (O.move rfl rfl Taken.no) ?_
      refine SL.val (O.assign rfl rfl Taken.no) ?_
      refine SL.nil ?_
      refine E.inn ?_
      refine E.again ((e), (pre ++ [.nd (l[i]!.take (comN l[i]! (l.drop (i + 1)))) (l[i]!.length == comN l[i]! (l.drop (i + 1))) (kidsR (cut (comN l[i]! (l.drop (i + 1))) ((l.take e).drop i)))])) (rn [(101, 123)]) ?_ ?_ rfl (fixL_spec rfl) ?_ ?_
      · exact (SubF.cons rfl (SubF.cons rfl (SubF.cons rfl (SubF.cons rfl SubF.nil))))
      · exact (SubS.cons rfl SubS.nil)
      ·try dsimp only
       exact ⟨he, by rw [List.length_append, List.length_singleton]; omega, by rw [List.append_assoc]; show pre ++ (_ :: kidsR (l.drop e)) = _; rw [← kids_at ha hn hie he hg hx]; exact hpr⟩
      · (try dsimp only); omega
   ·skip
    first | have hg10p := G.gA5 hg10 | have hg10p := G.gA6 hg10 | have hg10p := hg10
    refine WH.skip (OpOk.not rfl rfl rfl hg10) ?_
    refine WH.skip (OpOk.not rfl rfl rfl hg10) ?_
    refine WH.skip (OpOk.not rfl rfl rfl hg10) ?_
    refine WH.skip (OpOk.not rfl rfl rfl hg10) ?_
    refine WH.skip (OpOk.not rfl rfl rfl hg10) ?_
    refine WH.skip (OpOk.not rfl rfl rfl hg10) ?_
    refine WH.skip (OpOk.not rfl rfl rfl hg10) ?_
    refine WH.skip (OpOk.not rfl rfl rfl hg10) ?_
    refine WH.skip (OpOk.not rfl rfl rfl hg10) ?_
    refine WH.skip (OpOk.not rfl rfl rfl hg10) ?_
    refine WH.skip (OpOk.not rfl rfl rfl hg10) ?_
    refine WH.skip (OpOk.not rfl rfl rfl hg10) ?_
    refine WH.skip (OpOk.not rfl rfl rfl hg10) ?_
    refine WH.val (O.pick_f rfl (G.ne_t hg10) rfl rfl Taken.no) rfl rfl ?_
    refine WH.nil ?_
    refine E.to ?_
    refine W.pick (.cons (t := 0) rfl (.cons (t := 2) rfl (.cons (t := 3) rfl (.cons (t := 4) rfl (.cons (t := 5) rfl (.cons (t := 6) rfl (.cons (t := 55) rfl .nil))))))) (.cons (t := 101) rfl .nil) ?_
    refine W.cond_f rfl ?_
    refine W.exit ?_
    refine E.th ?_
    refine E.th ?_
    refine E.hit ?_
    refine E.to ?_
    refine W.seq ?_
    refine W.draw [⟨[], [], []⟩, ⟨[], [], []⟩, ⟨[], [], []⟩, ⟨[], [], []⟩, ⟨[], [], []⟩, ⟨[], [], []⟩, ⟨[], [], []⟩, ⟨[], [], []⟩, ⟨[], [], []⟩, ⟨[], [], []⟩, ⟨[], [], []⟩, ⟨[], [], []⟩, ⟨[], [], []⟩, ⟨[], [], []⟩, ⟨[124], [124], [124]⟩, ⟨[124], [124], []⟩] rfl (by kernel_rfl) (by kernel_rfl) rfl rfl ?_
    obtain rfl : n = comN l[i]! (l.drop (i + 1)) := by first | omega | (have h5 : ¬ l[i]!.take (n + 1) <+: l[e - 1]! := (by first | assumption | exact of_decide_eq_false (by assumption)); have h6 := mt (take_comm (a := l[i]!) (b := l[e - 1]!) (n := n + 1) (by omega)).2 h5; rw [← hll] at h6; have h7 : ¬ n + 1 ≤ comN l[i]! (l.drop (i + 1)) := h6; omega)
    refine WH.val (O.move rfl rfl Taken.no) rfl rfl ?_
    refine WH.val (O.move rfl rfl Taken.no) rfl rfl ?_
    refine WH.val (O.idx_fz (i := i) rfl rfl (rfl) (row_get (by omega)) Try.underlying22 hi9 hs9 rfl Taken.no) rfl rfl ?_
    refine WH.val (O.ld1 (PtI.ofU (PtU.fz rfl)) rfl Try.underlying9 rfl rfl Taken.no) rfl rfl ?_
    refine WH.val (O.move rfl rfl Taken.no) rfl rfl ?_
    refine WH.val (O.det (fun _ => G.R.strtoL (j := comN l[i]! (l.drop (i + 1))) rfl rfl Try.underlying9 (by omega)) rfl Taken.no) rfl rfl ?_
    refine WH.val (O.move rfl rfl Taken.no) rfl rfl ?_
    refine WH.val (O.move rfl rfl Taken.no) rfl rfl ?_
    refine WH.val (O.idx_fz (i := i) rfl rfl (rfl) (row_get (by omega)) Try.underlying22 hi9 hs9 rfl Taken.no) rfl rfl ?_
    refine WH.val (O.ld1 (PtI.ofU (PtU.fz rfl)) rfl Try.underlying9 rfl rfl Taken.no) rfl rfl ?_
    refine WH.val (O.det (fun _ => G.R.lenL rfl Try.underlying9) rfl Taken.no) rfl rfl ?_
    refine WH.val (O.move rfl rfl Taken.no) rfl rfl ?_
    refine WH.val (O.det (fun _ => G.R.eql rfl rfl) rfl Taken.no) rfl rfl ?_
    refine WH.val (O.build (res := [_, _, _]) (z := .agg #[.string (Go.G.bs []), .bool false, .slice none 0 0]) (places := [(0, 1), (1, 1), (2, 1)]) rfl rfl Try.underlying33 (by kernel_rfl) (fun _ => by kernel_rfl) rfl rfl Taken.no) rfl rfl ?_
    refine WH.memS (O.alloc (z := .agg #[.string (Go.G.bs []), .bool false, .slice none 0 0]) (is := [.u (.sc (.string (Go.G.bs []))), .u (.sc (.bool false)), .u (.sc (.slice none 0 0))]) 124 (by kernel_rfl) rfl rfl rfl Taken.no) rfl rfl rfl rfl rfl (S' := (124, _) :: _) rfl ?_
    refine WH.effS (O.st_ref (m := 3) rfl rfl rfl (js := [_, _, _]) rfl rfl (by kernel_rfl) (by simp) (Nat.le_of_ble_eq_true rfl) rfl (is' := [_, _, _]) rfl Taken.no) rfl rfl rfl (S' := (124, _) :: _) rfl ?_
    refine WH.nil ?_
    refine E.to ?_
    refine W.seq ?_
    refine W.region ?_
    refine SL.val (O.assign rfl rfl Taken.no) ?_
    refine SL.nil ?_
    refine E.to ?_
    refine W.seq ?_
    refine W.seq ?_
    refine W.region ?_
    refine SL.val (O.move rfl rfl Taken.no) ?_
    refine SL.val (O.assign rfl rfl Taken.no) ?_
    refine SL.nil ?_
    refine E.to ?_
    refine W.pick (.cons (t := 0) rfl (.cons (t := 2) rfl (.cons (t := 3) rfl (.cons (t := 4) rfl (.cons (t := 5) rfl (.cons (t := 6) rfl (.cons (t := 7) rfl (.cons (t := 8) rfl (.cons (t := 9) rfl .nil))))))))) (.cons (t := 101) rfl (.cons (t := 124) rfl .nil)) ?_
    refine W.block ?_
    refine W.adopt 8 126 9 1 (by decide) rfl rfl rfl ?_
    refine W.loopx1 (fun (k : Nat) => [(9, vI (k : Int)), (8, .own 125)]) (fun (k : Nat) => [(125, .data 9 1 ((cut (comN l[i]! (l.drop (i + 1))) ((l.take k).drop i)).map eStr))]) (fun (k : Nat) => i ≤ k ∧ k ≤ e) (fun (k : Nat) => e - k) (i) (rn [(125, 126)]) (.cons (t := 0) rfl (.cons (t := 2) rfl (.cons (t := 3) rfl (.cons (t := 4) rfl (.cons (t := 5) rfl (.cons (t := 6) rfl (.cons (t := 7) rfl .nil))))))) (.cons (t := 101) rfl (.cons (t := 124) rfl .nil)) rfl ?_ ?_ rfl rfl ?_ ?_
    · exact (SubF.cons rfl (SubF.cons rfl SubF.nil))
    · exact (SubS.val rfl (by exact sb_data (by rw [cut_0]; rfl)) SubS.nil)
    ·skip
     exact ⟨by omega, by omega⟩
    intro k hinv
    obtain ⟨hk1, hk2⟩ := hinv
    have hcl := cut_len (comN l[i]! (l.drop (i + 1))) ((l.take k).drop i)
    have hdl : ((l.take k).drop i).length ≤ k := by rw [List.length_drop, List.length_take]; omega
    refine W.seq ?_
    refine W.seq ?_
    refine W.region ?_
    refine SL.val (O.move rfl rfl Taken.no) ?_
    refine SL.val (O.move rfl rfl Taken.no) ?_
    refine SL.val (O.det (fun _ => G.R.lss rfl rfl) rfl Taken.no) ?_
    refine SL.nil ?_
    refine E.to ?_
    first | refine W.cond_d rfl (fun hc14 => ?_) (fun hc14 => ?_) | refine W.cond_nd rfl (fun hc14 => ?_) (fun hc14 => ?_) | refine W.cond rfl (fun hc14 => ?_) (fun hc14 => ?_)
    ·skip
     refine W.skip ?_
     refine E.to ?_
     refine W.seq ?_
     refine W.block ?_
     refine W.seq ?_
     refine W.region ?_
     refine SL.val (O.move rfl rfl Taken.no) ?_
     refine SL.val (O.move rfl rfl Taken.no) ?_
     refine SL.val (O.idx_fz rfl rfl (rfl) (row_get (by omega)) Try.underlying22 hi9 hs9 rfl Taken.no) ?_
     refine SL.val (O.ld1 (PtI.ofU (PtU.fz rfl)) rfl Try.underlying9 rfl rfl Taken.no) ?_
     refine SL.val (O.det (fun _ => G.R.lenL rfl Try.underlying9) rfl Taken.no) ?_
     refine SL.val (O.move rfl rfl Taken.no) ?_
     refine SL.val (O.det (fun _ => G.R.gtr rfl rfl) rfl Taken.no) ?_
     refine SL.nil ?_
     refine E.to ?_
     first | refine W.cond_d rfl (fun hc15 => ?_) (fun hc15 => ?_) | refine W.cond_nd rfl (fun hc15 => ?_) (fun hc15 => ?_) | refine W.cond rfl (fun hc15 => ?_) (fun hc15 => ?_)
     ·skip
      refine W.region ?_
      refine SL.val (O.move rfl rfl Taken.no) ?_
      refine SL.val (O.move rfl rfl Taken.no) ?_
      refine SL.val (O.move rfl rfl Taken.no) ?_
      refine SL.val (O.idx_fz rfl rfl (rfl) (row_get (by omega)) Try.underlying22 hi9 hs9 rfl Taken.no) ?_
      refine SL.val (O.ld1 (PtI.ofU (PtU.fz rfl)) rfl Try.underlying9 rfl rfl Taken.no) ?_
      refine SL.val (O.move rfl rfl Taken.no) ?_
      refine SL.val (O.det (fun _ => G.R.strfromL (i := comN l[i]! (l.drop (i + 1))) rfl rfl Try.underlying9 (by omega)) rfl Taken.no) ?_
      refine SL.memS (O.buildSlice 127 rfl rfl Try.underlying22 hi9 hz9 hs9 (by decide) rfl (by decide) rfl rfl rfl Taken.no) rfl rfl (S' := (127, _) :: _) rfl ?_
      refine SL.memS (O.app (k' := 128) rfl rfl (SlOf.own rfl rfl) Try.underlying22 hi9 hz9 hs9 rfl rfl (by exact map_snoc (x := l[k]!.drop (comN l[i]! (l.drop (i + 1)))) rfl) (by rw [hb9]; (simp only [List.length_map, List.length_singleton]; omega)) (by (simp only [List.length_map, List.length_singleton]; omega)) rfl Taken.no) rfl rfl (S' := (128, _) :: (125, .dead) :: _) rfl ?_
      refine SL.val (O.assign rfl rfl Taken.no) ?_
      refine SL.nil ?_
      refine E.inn ?_
      refine E.to ?_
      refine W.pick (.cons (t := 0) rfl (.cons (t := 2) rfl (.cons (t := 3) rfl (.cons (t := 4) rfl (.cons (t := 5) rfl (.cons (t := 6) rfl (.cons (t := 7) rfl (.cons (t := 8) rfl (.cons (t := 9) rfl .nil))))))))) (.cons (t := 101) rfl (.cons (t := 124) rfl (.cons (t := 127) rfl (.cons (t := 128) rfl .nil)))) ?_
      refine W.region ?_
      refine SL.val (O.move rfl rfl Taken.no) ?_
      refine SL.val (O.det (fun _ => by first | exact G.R.add64 rfl rfl (by omega) | exact G.R.add rfl rfl) rfl Taken.no) ?_
      refine SL.val (O.assign rfl rfl Taken.no) ?_
      refine SL.nil ?_
      refine E.again ((k + 1)) (rn [(125, 128)]) ?_ ?_ rfl (fixL_spec rfl) ?_ ?_
      · exact (SubF.cons rfl (SubF.cons rfl (SubF.cons rfl (SubF.cons rfl (SubF.cons rfl (SubF.cons rfl (SubF.cons rfl (SubF.cons rfl (SubF.cons rfl SubF.nil)))))))))
      · exact (SubS.val rfl (by (try dsimp only); first | exact sb_data (by rw [cut_y (by omega) (by omega) (by omega)]) | exact sb_data (by rw [cut_n (by omega) (by omega) (by omega)])) (SubS.cons rfl (SubS.cons rfl SubS.nil)))
      ·try dsimp only
       exact ⟨by omega, by omega⟩
      · (try dsimp only); omega
     ·skip
      refine W.skip ?_
      refine E.inn ?_
      refine E.to ?_
      refine W.region ?_
      refine SL.val (O.move rfl rfl Taken.no) ?_
      refine SL.val (O.det (fun _ => by first | exact G.R.add64 rfl rfl (by omega) | exact G.R.add rfl rfl) rfl Taken.no) ?_
      refine SL.val (O.assign rfl rfl Taken.no) ?_
      refine SL.nil ?_
      refine E.again ((k + 1)) (rn []) ?_ ?_ rfl (fixL_spec rfl) ?_ ?_
      · exact (SubF.cons rfl (SubF.cons rfl (SubF.cons rfl (SubF.cons rfl (SubF.cons rfl (SubF.cons rfl (SubF.cons rfl (SubF.cons rfl (SubF.cons rfl SubF.nil)))))))))
      · exact (SubS.val rfl (by (try dsimp only); first | exact sb_data (by rw [cut_y (by omega) (by omega) (by omega)]) | exact sb_data (by rw [cut_n (by omega) (by omega) (by omega)])) (SubS.cons rfl (SubS.cons rfl SubS.nil)))
      ·try dsimp only
       exact ⟨by omega, by omega⟩
      · (try dsimp only); omega
    ·skip
     refine W.exit ?_
     refine E.th ?_
     refine E.th ?_
     refine E.hit ?_
     refine E.to ?_
     refine W.seq ?_
     refine W.region ?_
     obtain rfl : e = k := by omega
     have hc3 : Asc (cut (comN l[i]! (l.drop (i + 1))) ((l.take e).drop i)) := by rw [hge.1]; exact kf3
     have hc4 : [] ∉ cut (comN l[i]! (l.drop (i + 1))) ((l.take e).drop i) := by rw [hge.1]; exact kf4
     have hc5 : msr (cut (comN l[i]! (l.drop (i + 1))) ((l.take e).drop i)) < msr l := by rw [hge.1]; exact kf5
     refine SL.val (O.move rfl rfl Taken.no) ?_
     refine SL.freeze 125 rfl (F' := [(8, _), (94, _)]) (⟨⟨_, rfl, rfl⟩, ⟨_, rfl, rfl⟩, trivial⟩) ?_
     refine SL.val (O.callp rfl rfl rfl (ih _ hc5 hc3 hc4 (by omega) (cut_w hw)) (.cons (ArgOk.same rfl) .nil) hcallOk44 rfl Taken.no) ?_
     refine SL.val (O.fld_ref (o' := 2) rfl Try.underlying33 rfl (m := 0) (by kernel_rfl) rfl rfl Taken.no) ?_
     refine SL.effS (O.st_ref (m := 1) rfl rfl rfl (js := [_]) rfl rfl (by kernel_rfl) (by simp) (Nat.le_of_ble_eq_true rfl) rfl (is' := [_, _, _]) rfl Taken.no) (S' := (124, _) :: _) rfl ?_
     refine SL.nil ?_
     refine E.to ?_
     refine W.seq ?_
     refine W.region ?_
     refine SL.val (O.move rfl rfl Taken.no) ?_
     refine SL.val (O.ldN (m := 3) (PtI.ref rfl rfl) (js := [_, _, _]) rfl (Nat.le_of_ble_eq_true rfl) Try.underlying33 rfl (by kernel_rfl) rfl Taken.no) ?_
     refine SL.memS (O.buildSlice 129 rfl rfl Try.underlying31 hi33 hz33 hs33 (by decide) rfl (by decide) rfl rfl rfl Taken.no) rfl rfl (S' := (129, _) :: _) rfl ?_
     refine SL.memS (O.app (k' := 130) rfl rfl (SlOf.own rfl rfl) Try.underlying31 hi33 hz33 hs33 rfl rfl (by exact map_snoc (x := .nd (l[i]!.take (comN l[i]! (l.drop (i + 1)))) (l[i]!.length == comN l[i]! (l.drop (i + 1))) (kidsR (cut (comN l[i]! (l.drop (i + 1))) ((l.take e).drop i)))) (by rw [eTr_eq]; show [_, uB _, _] = [_, uB _, _]; rw [bq]; rfl)) (by rw [hb33]; first | omega | (simp only [List.length_map]; omega) | (simp <;> omega)) (by first | omega | (simp only [List.length_map]; omega) | (simp <;> omega)) rfl Taken.no) rfl rfl (S' := (130, _) :: (101, .dead) :: _) rfl ?_
     refine SL.val (O.assign rfl rfl Taken.no) ?_
     refine SL.nil ?_
     refine E.to ?_
     refine W.region ?_
     refine SL.val (O.move rfl rfl Taken.no) ?_
     refine SL.val (O.assign rfl rfl Taken.no) ?_
     refine SL.nil ?_
     refine E.inn ?_
     refine E.again ((e), (pre ++ [.nd (l[i]!.take (comN l[i]! (l.drop (i + 1)))) (l[i]!.length == comN l[i]! (l.drop (i + 1))) (kidsR (cut (comN l[i]! (l.drop (i + 1))) ((l.take e).drop i)))])) (rn [(101, 130)]) ?_ ?_ rfl (fixL_spec rfl) ?_ ?_
     · exact (SubF.cons rfl (SubF.cons rfl (SubF.cons rfl (SubF.cons rfl SubF.nil))))
     · exact (SubS.cons rfl SubS.nil)
     ·try dsimp only
      exact ⟨he, by rw [List.length_append, List.length_singleton]; omega, by rw [List.append_assoc]; show pre ++ (_ :: kidsR (l.drop e)) = _; rw [← kids_at ha hn hie he hg hx]; exact hpr⟩
     · (try dsimp only); omega
 ·skip
  refine W.exit ?_
  refine E.th ?_
  refine E.th ?_
  refine E.hit ?_
  refine E.to ?_
  refine W.seq ?_
  refine W.region ?_
  refine SL.val (O.move rfl rfl Taken.no) ?_
  refine SL.val (O.assign rfl rfl Taken.no) ?_
  refine SL.nil ?_
  refine E.to ?_
  refine W.ret ?_
  refine E.freeze 101 rfl (F' := [(2, _)]) (⟨⟨_, rfl, rfl⟩, trivial⟩) ?_
  refine E.fin (rs := [_]) (rn []) (.inl rfl) rfl (.cons (ResOne.tmp rfl) .nil) ?_ ?_ rfl (fixL_spec rfl)
  ·skip
   obtain rfl : i = l.length := by omega
   rw [← hpr, List.drop_length, kidsR_nil, List.append_nil]; rfl
  · exact SubS.nil

theorem kids_h {l : List Str} (ha : Asc l) (hn : [] ∉ l) (hl : l.length ≤ 1000) (hw : ∀ w ∈ l, w.length ≤ 1000) : Con Try.prog 44 [vL 1 (l.map eStr)] [] (vL 3 ((kidsR l).map eTr)) [] := by
  induction h : msr l using Nat.strongRecOn generalizing l with
  | _ n ih => exact kids_step ha hn hl hw (fun m hm a b c d => ih (msr m) (by omega) a b c d rfl)

set_option maxRecDepth 8000 in
/-- bookplate/bookplateref41.Of. -/
theorem refOf_h {l : List Str} (hl : l.length ≤ 900) :
    Con Try.prog 13 [vL 1 (l.map eStr)] [] (.tup [.agg [vT (ofT l).lab, vB (ofT l).wd, vL 3 ((ofT l).kids.map eTr)], vI (ofE l)]) [] := by
 obtain ⟨i9, hi9, hz9, hs9, hb9⟩ := hinf9
 refine Con.enterL (n := 22) Try.func13 rfl rfl rfl (fun τ w ok vs hin => ?_)
 have hl0 := hin.len (i := 0) rfl
 try rw [List.length_map] at hl0
 clear hin
 refine W.seq ?_
 refine W.region ?_
 refine SL.memS (O.alloc (z := .agg #[.string (Go.G.bs []), .bool false, .slice none 0 0]) (is := [.u (.sc (.string (Go.G.bs []))), .u (.sc (.bool false)), .u (.sc (.slice none 0 0))]) 101 (by kernel_rfl) rfl rfl rfl Taken.no) rfl rfl (S' := (101, _) :: _) rfl ?_
 refine SL.val (O.assign rfl rfl Taken.no) ?_
 refine SL.nil ?_
 refine E.to ?_
 refine W.seq ?_
 refine W.seq ?_
 refine W.region ?_
 refine SL.val (O.assign rfl rfl Taken.no) ?_
 refine SL.nil ?_
 refine E.to ?_
 refine W.block ?_
 refine W.loopx1 (fun (k : Nat) => [(4, vI (k : Int))]) (fun (k : Nat) => []) (fun (k : Nat) => k ≤ l.length ∧ ∀ j, j < k → wrd l[j]!) (fun (k : Nat) => l.length - k) (0) (rn []) (.cons (t := 0) rfl (.cons (t := 2) rfl .nil)) (.cons (t := 101) rfl .nil) rfl ?_ ?_ rfl rfl ?_ ?_
 · exact (SubF.cons rfl SubF.nil)
 · exact SubS.nil
 ·skip
  exact ⟨by omega, fun j h => by omega⟩
 intro k hinv
 obtain ⟨hk, hp⟩ := hinv
 refine W.seq ?_
 refine W.seq ?_
 refine W.region ?_
 refine SL.val (O.move rfl rfl Taken.no) ?_
 refine SL.val (O.move rfl rfl Taken.no) ?_
 refine SL.val (O.lenE (SlOf.fz rfl (by decide)) (by first | exact List.length_map _ | rfl) Try.underlying22 rfl Taken.no) ?_
 refine SL.val (O.det (fun _ => G.R.lss rfl rfl) rfl Taken.no) ?_
 refine SL.nil ?_
 refine E.to ?_
 first | refine W.cond_d rfl (fun hc1 => ?_) (fun hc1 => ?_) | refine W.cond_nd rfl (fun hc1 => ?_) (fun hc1 => ?_) | refine W.cond rfl (fun hc1 => ?_) (fun hc1 => ?_)
 ·skip
  refine W.skip ?_
  refine E.to ?_
  refine W.seq ?_
  refine W.block ?_
  refine W.seq ?_
  refine W.region ?_
  refine SL.val (O.move rfl rfl Taken.no) ?_
  refine SL.val (O.move rfl rfl Taken.no) ?_
  refine SL.val (O.idx_fz rfl rfl (rfl) (row_get (by omega)) Try.underlying22 hi9 hs9 rfl Taken.no) ?_
  refine SL.val (O.ld1 (PtI.ofU (PtU.fz rfl)) rfl Try.underlying9 rfl rfl Taken.no) ?_
  refine SL.val (O.callp rfl rfl rfl (refWord_h (w := l[k]!)) (.cons (ArgOk.same rfl) .nil) hcallOk43 rfl Taken.no) ?_
  refine SL.val (O.det (fun _ => G.R.not rfl) rfl Taken.no) ?_
  refine SL.nil ?_
  refine E.to ?_
  first | refine W.cond_d rfl (fun hc2 => ?_) (fun hc2 => ?_) | refine W.cond_nd rfl (fun hc2 => ?_) (fun hc2 => ?_) | refine W.cond rfl (fun hc2 => ?_) (fun hc2 => ?_)
  ·skip
   refine W.seq ?_
   refine W.region ?_
   refine SL.val (O.build (res := [_, _, _]) (z := .agg #[.string (Go.G.bs []), .bool false, .slice none 0 0]) (places := [(0, 1), (1, 1), (2, 1)]) rfl rfl Try.underlying33 (by kernel_rfl) (fun _ => by kernel_rfl) rfl rfl Taken.no) ?_
   refine SL.effS (O.st_ref (m := 3) rfl rfl rfl (js := [_, _, _]) rfl rfl (by kernel_rfl) (by simp) (Nat.le_of_ble_eq_true rfl) rfl (is' := [_, _, _]) rfl Taken.no) (S' := (101, _) :: _) rfl ?_
   refine SL.val (O.assign rfl rfl Taken.no) ?_
   refine SL.nil ?_
   refine E.to ?_
   refine W.ret ?_
   refine E.inr ?_
   refine E.thr ?_
   refine E.thr ?_
   refine E.inr ?_
   refine E.thr ?_
   refine E.nilslC 101 2 3 (is' := [_, _, _]) rfl rfl rfl ?_
   refine E.fin (rs := [_, _]) (rn []) (.inl rfl) rfl (.cons (ResOne.cellN (m := 3) (PtI.ref rfl rfl) (js := [_, _, _]) rfl (Nat.le_of_ble_eq_true rfl) Try.underlying33 rfl (by kernel_rfl)) (.cons (ResOne.tmp rfl) .nil)) ?_ ?_ rfl (fixL_spec rfl)
   ·skip
    have hn : ¬ wrds l := fun q => absurd (q l[k]! (by rw [getElem!_pos l k (by omega)]; exact List.getElem_mem _)) (by first | assumption | exact of_decide_eq_false (nb_t (by assumption)))
    rw [(of_1 hn).1, (of_1 hn).2]; rfl
   · exact SubS.nil
  ·skip
   refine W.skip ?_
   refine E.inn ?_
   refine E.to ?_
   refine W.region ?_
   refine SL.val (O.move rfl rfl Taken.no) ?_
   refine SL.val (O.det (fun _ => by first | exact G.R.add64 rfl rfl (by omega) | exact G.R.add rfl rfl) rfl Taken.no) ?_
   refine SL.val (O.assign rfl rfl Taken.no) ?_
   refine SL.nil ?_
   refine E.again ((k + 1)) (rn []) ?_ ?_ rfl (fixL_spec rfl) ?_ ?_
   · exact (SubF.cons rfl (SubF.cons rfl (SubF.cons rfl SubF.nil)))
   · exact (SubS.cons rfl SubS.nil)
   ·try dsimp only
    exact ⟨by omega, fun j hj => by rcases Nat.lt_succ_iff_lt_or_eq.1 hj with h | h; exact hp j h; subst h; first | assumption | exact of_decide_eq_true (nb_f (by assumption)) | simp_all⟩
   · (try dsimp only); omega
 ·skip
  refine W.exit ?_
  refine E.th ?_
  refine E.th ?_
  refine E.hit ?_
  refine E.to ?_
  refine W.seq ?_
  refine W.region ?_
  have hws : wrds l := fun w hm => by obtain ⟨j, hj, rfl⟩ := List.getElem_of_mem hm; rw [← getElem!_pos l j hj]; exact hp j (by omega)
  have hsl := sort_len (l := l)
  refine SL.val (O.move rfl rfl Taken.no) ?_
  refine SL.val (O.callp rfl rfl rfl (sorted_h (by omega)) (.cons (ArgOk.same rfl) .nil) hcallOk38 rfl Taken.no) ?_
  refine SL.val (O.callp rfl rfl rfl (kids_h (l := sortS l) (sortS_asc l) (sort_ne hws) (by omega) (wrd_sort hws)) (.cons (ArgOk.same rfl) .nil) hcallOk44 rfl Taken.no) ?_
  refine SL.val (O.build (res := [_, _, _]) (z := .agg #[.string (Go.G.bs []), .bool false, .slice none 0 0]) (places := [(0, 1), (1, 1), (2, 1)]) rfl rfl Try.underlying33 (by kernel_rfl) (fun _ => by kernel_rfl) rfl rfl Taken.no) ?_
  refine SL.effS (O.st_ref (m := 3) rfl rfl rfl (js := [_, _, _]) rfl rfl (by kernel_rfl) (by simp) (Nat.le_of_ble_eq_true rfl) rfl (is' := [_, _, _]) rfl Taken.no) (S' := (101, _) :: _) rfl ?_
  refine SL.val (O.assign rfl rfl Taken.no) ?_
  refine SL.nil ?_
  refine E.to ?_
  refine W.ret ?_
  refine E.fin (rs := [_, _]) (rn []) (.inl rfl) rfl (.cons (ResOne.cellN (m := 3) (PtI.ref rfl rfl) (js := [_, _, _]) rfl (Nat.le_of_ble_eq_true rfl) Try.underlying33 rfl (by kernel_rfl)) (.cons (ResOne.tmp rfl) .nil)) ?_ ?_ rfl (fixL_spec rfl)
  ·skip
   rw [(of_0 hws).1, (of_0 hws).2, mkT_sort hws]; rfl
  · exact SubS.nil

end Go.Proofs.Ytfmgpocbpbfalaa
