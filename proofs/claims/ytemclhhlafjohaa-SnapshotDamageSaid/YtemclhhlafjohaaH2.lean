/-
  The walks.
-/
import Derived.Test.YtemclhhlafjohaaH1
namespace Go.Proofs.Ytemclhhlafjohaa
open Go Go.RowKit Go.H Go.D20 Go.D02

theorem hcallOk32 : G.callOk Try.prog 32 = true := by kernel_rfl
theorem hcallOk57 : G.callOk Try.prog 57 = true := by kernel_rfl
theorem hcallOk63 : G.callOk Try.prog 63 = true := by kernel_rfl
theorem hcallOk67 : G.callOk Try.prog 67 = true := by kernel_rfl
theorem hcallOk68 : G.callOk Try.prog 68 = true := by kernel_rfl
theorem hcallOk69 : G.callOk Try.prog 69 = true := by kernel_rfl

set_option maxRecDepth 8000 in
/-- bookplate/bookplateref20.whole. -/
theorem refwhole_h {l : List UInt8} (hb : l.length ≤ 100000000) :
    Con Try.prog 58 [vL 1 (l.map eB)] [] (.tup [.own 0, .own 1]) [(0, .data 22 1 ((wholeL l).1.map eL)), (1, .data 3 1 ((wholeL l).2.map eI))] := by
 obtain ⟨i3, hi3, hz3, hs3, hb3⟩ := hinf3
 obtain ⟨i5, hi5, hz5, hs5, hb5⟩ := hinf5
 obtain ⟨i22, hi22, hz22, hs22, hb22⟩ := hinf22
 refine Con.enterL (n := 80) Try.func58 rfl rfl rfl (fun τ w ok vs hin => ?_)
 have hl0 := hin.len (i := 0) rfl
 try rw [List.length_map] at hl0
 clear hin
 refine W.seq ?_
 refine W.region ?_
 refine SL.val (O.assign rfl rfl Taken.no) ?_
 refine SL.val (O.assign rfl rfl Taken.no) ?_
 refine SL.nil ?_
 refine E.to ?_
 refine W.seq ?_
 refine W.region ?_
 refine SL.val (O.assign rfl rfl Taken.no) ?_
 refine SL.nil ?_
 refine E.to ?_
 refine W.seq ?_
 refine W.region ?_
 refine SL.val (O.assign rfl rfl Taken.no) ?_
 refine SL.nil ?_
 refine E.to ?_
 refine W.seq ?_
 refine W.region ?_
 refine SL.val (O.assign rfl rfl Taken.no) ?_
 refine SL.nil ?_
 refine E.to ?_
 refine W.seq ?_
 refine W.region ?_
 refine SL.val (O.assign rfl rfl Taken.no) ?_
 refine SL.nil ?_
 refine E.to ?_
 refine W.seq ?_
 refine W.block ?_
 refine W.adopt 4 103 22 1 (by decide) rfl rfl rfl ?_
 refine W.adopt 5 104 3 1 (by decide) rfl rfl rfl ?_
 refine W.loopx4 (fun (a : Nat) (last : Int) (ps : List (List UInt8)) (ends : List Int) => [(4, .own 101), (5, .own 102), (6, vN .u32 last), (7, vI (a : Int))]) (fun (a : Nat) (last : Int) (ps : List (List UInt8)) (ends : List Int) => [(101, .data 22 1 (ps.map eL)), (102, .data 3 1 (ends.map eI))]) (fun (a : Nat) (last : Int) (ps : List (List UInt8)) (ends : List Int) => wInv l a last ps ends) (fun (a : Nat) (last : Int) (ps : List (List UInt8)) (ends : List Int) => l.length + 1 - a) (0) (0) ([]) ([]) (rn [(101, 103), (102, 104)]) (.cons (t := 0) rfl (.cons (t := 2) rfl (.cons (t := 3) rfl .nil))) .nil rfl ?_ ?_ rfl rfl ?_ ?_
 · exact (SubF.cons rfl (SubF.cons rfl (SubF.cons rfl (SubF.cons rfl SubF.nil))))
 · exact (SubS.cons rfl (SubS.cons rfl SubS.nil))
 ·skip
  exact wInv_0 _
 intro a last ps ends hinv
 have hI := hinv
 obtain ⟨ha, hlast, hpe, he8, -, -, -⟩ := id hI
 obtain ⟨nn, hnn⟩ : ∃ nn : Nat, numI (l.drop a) = nn := ⟨(numI (l.drop a)).toNat, (Int.toNat_of_nonneg (numI_R _).1).symm⟩
 have hn := numI_R (l.drop a)
 rw [hnn] at hn
 unfold R32 at hn
 have hlm : limW l a = (60000 < (nn : Int) ∨ (l.length : Int) - a - 8 < nn ∨ 1048576 < (a : Int) + 8 + nn) := by rw [limW, hnn]
 have hpw : payW l a = ((l.take (a + 8 + nn)).drop (a + 8)) := by rw [payW, hnn, Int.toNat_natCast]
 have hrs := fun k q => refsum (file := l) (a := a) hlast k q
 rw [hpw] at hrs
 have hnx := fun k r q => wInv_next hI k r q
 rw [hpw, hnn, Int.toNat_natCast] at hnx
 have hss := fun q => stepW_sum (file := l) (a := a) (last := last) q
 rw [hpw] at hss
 refine W.seq ?_
 refine W.seq ?_
 refine W.region ?_
 refine SL.val (O.move rfl rfl Taken.no) ?_
 refine SL.val (O.lenE (SlOf.fz rfl (by decide)) (by first | exact List.length_map _ | rfl) Try.underlying22 rfl Taken.no) ?_
 refine SL.val (O.move rfl rfl Taken.no) ?_
 refine SL.val (O.det (fun _ => by first | exact G.R.sub64 rfl rfl (by omega) | exact G.R.sub rfl rfl) rfl Taken.no) ?_
 refine SL.val (O.det (fun _ => G.R.geq rfl rfl) rfl Taken.no) ?_
 refine SL.nil ?_
 refine E.to ?_
 first | refine W.cond_d rfl (fun hc1 => ?_) (fun hc1 => ?_) | refine W.cond_nd rfl (fun hc1 => ?_) (fun hc1 => ?_) | refine W.cond rfl (fun hc1 => ?_) (fun hc1 => ?_)
 ·skip
  refine W.skip ?_
  refine E.to ?_
  refine W.block ?_
  refine W.seq ?_
  refine W.region ?_
  refine SL.val (O.move rfl rfl Taken.no) ?_
  refine SL.val (O.move rfl rfl Taken.no) ?_
  refine SL.val (O.sub_fz (i := a) rfl (Bnd.at rfl (by first | rfl | omega)) Bnd.no (by first | omega | (simp only [List.length_map] <;> omega) | (simp <;> omega)) (by first | omega | (simp only [List.length_map, Nat.le_refl, Nat.zero_le] <;> omega) | (simp <;> omega)) sub_lo Try.underlying22 hi5 hs5 rfl Taken.no) ?_
  refine SL.val (O.callp rfl rfl rfl (refnumber_h (by first | omega | (simp <;> omega))) (.cons (ArgOk.same rfl) .nil) hcallOk69 rfl Taken.no) ?_
  refine SL.val (O.det (fun _ => G.R.mv (G.R.conv64 rfl Try.underlying90 Try.underlying3 (by rw [hnn]; omega)) (by rw [hnn])) rfl Taken.no) ?_
  refine SL.val (O.assign rfl rfl Taken.no) ?_
  refine SL.nil ?_
  refine E.to ?_
  refine W.seq ?_
  refine W.seq ?_
  refine W.region ?_
  refine SL.val (O.move rfl rfl Taken.no) ?_
  refine SL.val (O.det (fun _ => G.R.gtr rfl rfl) rfl Taken.no) ?_
  refine SL.val (O.move rfl rfl Taken.no) ?_
  refine SL.case (j := 2) (g := 23) (want := false) rfl rfl (fun hg2 => ?_) (fun hg2 => ?_)
  ·skip
   first | have hg2p := G.gA3 hg2 | have hg2p := G.gA4 hg2 | have hg2p := hg2
   refine SL.val (O.move rfl rfl (Taken.yes rfl rfl hg2)) ?_
   refine SL.val (O.lenE (SlOf.fz rfl (by decide)) (by first | exact List.length_map _ | rfl) Try.underlying22 rfl (Taken.yes rfl rfl hg2)) ?_
   refine SL.val (O.move rfl rfl (Taken.yes rfl rfl hg2)) ?_
   refine SL.val (O.det (fun _ => by first | exact G.R.sub64 rfl rfl (by omega) | exact G.R.sub rfl rfl) rfl (Taken.yes rfl rfl hg2)) ?_
   refine SL.val (O.det (fun _ => by first | exact G.R.sub64 rfl rfl (by omega) | exact G.R.sub rfl rfl) rfl (Taken.yes rfl rfl hg2)) ?_
   refine SL.val (O.move rfl rfl (Taken.yes rfl rfl hg2)) ?_
   refine SL.val (O.det (fun _ => G.R.lss rfl rfl) rfl (Taken.yes rfl rfl hg2)) ?_
   refine SL.val (O.pick_f rfl hg2 rfl rfl Taken.no) ?_
   refine SL.val (O.move rfl rfl Taken.no) ?_
   refine SL.case (j := 11) (g := 32) (want := false) rfl rfl (fun hg3 => ?_) (fun hg3 => ?_)
   ·skip
    first | have hg3p := G.gA3 hg3 | have hg3p := G.gA4 hg3 | have hg3p := hg3
    refine SL.val (O.move rfl rfl (Taken.yes rfl rfl hg3)) ?_
    refine SL.val (O.det (fun _ => by first | exact G.R.add64 rfl rfl (by omega) | exact G.R.add rfl rfl) rfl (Taken.yes rfl rfl hg3)) ?_
    refine SL.val (O.move rfl rfl (Taken.yes rfl rfl hg3)) ?_
    refine SL.val (O.det (fun _ => by first | exact G.R.add64 rfl rfl (by omega) | exact G.R.add rfl rfl) rfl (Taken.yes rfl rfl hg3)) ?_
    refine SL.val (O.det (fun _ => G.R.gtr rfl rfl) rfl (Taken.yes rfl rfl hg3)) ?_
    refine SL.val (O.pick_f rfl hg3 rfl rfl Taken.no) ?_
    refine SL.nil ?_
    refine E.to ?_
    refine W.pick (.cons (t := 0) rfl (.cons (t := 2) rfl (.cons (t := 3) rfl (.cons (t := 4) rfl (.cons (t := 5) rfl (.cons (t := 6) rfl (.cons (t := 7) rfl (.cons (t := 8) rfl (.cons (t := 38) rfl .nil))))))))) (.cons (t := 101) rfl (.cons (t := 102) rfl .nil)) ?_
    first | refine W.cond_d rfl (fun hc4 => ?_) (fun hc4 => ?_) | refine W.cond_nd rfl (fun hc4 => ?_) (fun hc4 => ?_) | refine W.cond rfl (fun hc4 => ?_) (fun hc4 => ?_)
    ·skip
     refine W.exit ?_
     refine E.th ?_
     refine E.miss rfl ?_
     refine E.th ?_
     refine E.hit ?_
     refine E.to ?_
     refine W.seq ?_
     refine W.region ?_
     refine SL.val (O.move rfl rfl Taken.no) ?_
     refine SL.val (O.move rfl rfl Taken.no) ?_
     refine SL.val (O.assign rfl rfl Taken.no) ?_
     refine SL.val (O.assign rfl rfl Taken.no) ?_
     refine SL.nil ?_
     refine E.to ?_
     refine W.ret ?_
     refine E.fin (rs := [_, _]) (rn [(0, 101), (1, 102)]) (.inl rfl) rfl (.cons (ResOne.tmp rfl) (.cons (ResOne.tmp rfl) .nil)) ?_ ?_ rfl (fixL_spec rfl)
     ·skip
      rfl
     · exact (SubS.val rfl (by exact sb_data (by rw [(wInv_end hI (by first | exact stepW_len (by omega) | exact stepW_lim (by rw [hlm]; omega) | exact hss (by first | assumption | (rw [← hrs (by omega) (by rw [hlm]; omega)]; assumption)))).1])) (SubS.val rfl (by exact sb_data (by rw [(wInv_end hI (by first | exact stepW_len (by omega) | exact stepW_lim (by rw [hlm]; omega) | exact hss (by first | assumption | (rw [← hrs (by omega) (by rw [hlm]; omega)]; assumption)))).2])) SubS.nil))
    ·skip
     refine W.skip ?_
     refine E.to ?_
     refine W.seq ?_
     refine W.region ?_
     refine SL.val (O.move rfl rfl Taken.no) ?_
     refine SL.val (O.move rfl rfl Taken.no) ?_
     refine SL.val (O.det (fun _ => by first | exact G.R.add64 rfl rfl (by omega) | exact G.R.add rfl rfl) rfl Taken.no) ?_
     refine SL.val (O.move rfl rfl Taken.no) ?_
     refine SL.val (O.det (fun _ => by first | exact G.R.add64 rfl rfl (by omega) | exact G.R.add rfl rfl) rfl Taken.no) ?_
     refine SL.val (O.move rfl rfl Taken.no) ?_
     refine SL.val (O.det (fun _ => by first | exact G.R.add64 rfl rfl (by omega) | exact G.R.add rfl rfl) rfl Taken.no) ?_
     refine SL.val (O.sub_fz (i := (a + 8)) (j := (a + 8 + nn)) rfl (Bnd.at rfl (by first | rfl | omega)) (Bnd.at rfl (by first | rfl | omega)) (by first | omega | (simp only [List.length_map, Nat.le_refl, Nat.zero_le] <;> omega) | (simp <;> omega)) (by first | omega | (simp only [List.length_map] <;> omega) | (simp <;> omega)) sub_map Try.underlying22 hi5 hs5 rfl Taken.no) ?_
     refine SL.val (O.assign rfl rfl Taken.no) ?_
     refine SL.nil ?_
     refine E.to ?_
     refine W.seq ?_
     refine W.region ?_
     refine SL.val (O.move rfl rfl Taken.no) ?_
     refine SL.val (O.move rfl rfl Taken.no) ?_
     refine SL.val (O.move rfl rfl Taken.no) ?_
     refine SL.val (O.move rfl rfl Taken.no) ?_
     refine SL.val (O.det (fun _ => by first | exact G.R.add64 rfl rfl (by omega) | exact G.R.add rfl rfl) rfl Taken.no) ?_
     refine SL.val (O.sub_fz (i := a) (j := (a + 4)) rfl (Bnd.at rfl (by first | rfl | omega)) (Bnd.at rfl (by first | rfl | omega)) (by first | omega | (simp only [List.length_map, Nat.le_refl, Nat.zero_le] <;> omega) | (simp <;> omega)) (by first | omega | (simp only [List.length_map] <;> omega) | (simp <;> omega)) sub_map Try.underlying22 hi5 hs5 rfl Taken.no) ?_
     refine SL.val (O.callp rfl rfl rfl (refmore_h _ _) (.cons (ArgOk.same rfl) (.cons (ArgOk.same rfl) .nil)) hcallOk67 rfl Taken.no) ?_
     refine SL.val (O.move rfl rfl Taken.no) ?_
     refine SL.val (O.callp rfl rfl rfl (refmore_h _ _) (.cons (ArgOk.same rfl) (.cons (ArgOk.same rfl) .nil)) hcallOk67 rfl Taken.no) ?_
     refine SL.val (O.assign rfl rfl Taken.no) ?_
     refine SL.nil ?_
     refine E.to ?_
     refine W.pick (.cons (t := 0) rfl (.cons (t := 2) rfl (.cons (t := 3) rfl (.cons (t := 4) rfl (.cons (t := 5) rfl (.cons (t := 6) rfl (.cons (t := 7) rfl (.cons (t := 8) rfl (.cons (t := 9) rfl (.cons (t := 10) rfl .nil)))))))))) (.cons (t := 101) rfl (.cons (t := 102) rfl .nil)) ?_
     refine W.seq ?_
     refine W.seq ?_
     refine W.region ?_
     refine SL.val (O.move rfl rfl Taken.no) ?_
     refine SL.val (O.move rfl rfl Taken.no) ?_
     refine SL.val (O.move rfl rfl Taken.no) ?_
     refine SL.val (O.det (fun _ => by first | exact G.R.add64 rfl rfl (by omega) | exact G.R.add rfl rfl) rfl Taken.no) ?_
     refine SL.val (O.sub_fz (i := (a + 4)) rfl (Bnd.at rfl (by first | rfl | omega)) Bnd.no (by first | omega | (simp only [List.length_map] <;> omega) | (simp <;> omega)) (by first | omega | (simp only [List.length_map, Nat.le_refl, Nat.zero_le] <;> omega) | (simp <;> omega)) sub_lo Try.underlying22 hi5 hs5 rfl Taken.no) ?_
     refine SL.val (O.callp rfl rfl rfl (refnumber_h (by first | omega | (simp <;> omega))) (.cons (ArgOk.same rfl) .nil) hcallOk69 rfl Taken.no) ?_
     refine SL.val (O.det (fun _ => G.R.neq rfl rfl) rfl Taken.no) ?_
     refine SL.nil ?_
     refine E.to ?_
     first | refine W.cond_d rfl (fun hc5 => ?_) (fun hc5 => ?_) | refine W.cond_nd rfl (fun hc5 => ?_) (fun hc5 => ?_) | refine W.cond rfl (fun hc5 => ?_) (fun hc5 => ?_)
     ·skip
      refine W.exit ?_
      refine E.th ?_
      refine E.miss rfl ?_
      refine E.th ?_
      refine E.hit ?_
      refine E.to ?_
      refine W.seq ?_
      refine W.region ?_
      refine SL.val (O.move rfl rfl Taken.no) ?_
      refine SL.val (O.move rfl rfl Taken.no) ?_
      refine SL.val (O.assign rfl rfl Taken.no) ?_
      refine SL.val (O.assign rfl rfl Taken.no) ?_
      refine SL.nil ?_
      refine E.to ?_
      refine W.ret ?_
      refine E.fin (rs := [_, _]) (rn [(0, 101), (1, 102)]) (.inl rfl) rfl (.cons (ResOne.tmp rfl) (.cons (ResOne.tmp rfl) .nil)) ?_ ?_ rfl (fixL_spec rfl)
      ·skip
       rfl
      · exact (SubS.val rfl (by exact sb_data (by rw [(wInv_end hI (by first | exact stepW_len (by omega) | exact stepW_lim (by rw [hlm]; omega) | exact hss (by first | assumption | (rw [← hrs (by omega) (by rw [hlm]; omega)]; assumption)))).1])) (SubS.val rfl (by exact sb_data (by rw [(wInv_end hI (by first | exact stepW_len (by omega) | exact stepW_lim (by rw [hlm]; omega) | exact hss (by first | assumption | (rw [← hrs (by omega) (by rw [hlm]; omega)]; assumption)))).2])) SubS.nil))
     ·skip
      refine W.skip ?_
      refine E.to ?_
      refine W.seq ?_
      refine W.region ?_
      refine SL.val (O.move rfl rfl Taken.no) ?_
      refine SL.val (O.assign rfl rfl Taken.no) ?_
      refine SL.nil ?_
      refine E.to ?_
      refine W.seq ?_
      refine W.region ?_
      refine SL.val (O.move rfl rfl Taken.no) ?_
      refine SL.val (O.move rfl rfl Taken.no) ?_
      refine SL.val (O.det (fun _ => by first | exact G.R.add64 rfl rfl (by omega) | exact G.R.add rfl rfl) rfl Taken.no) ?_
      refine SL.val (O.det (fun _ => by first | exact G.R.add64 rfl rfl (by omega) | exact G.R.add rfl rfl) rfl Taken.no) ?_
      refine SL.val (O.assign rfl rfl Taken.no) ?_
      refine SL.nil ?_
      refine E.to ?_
      refine W.region ?_
      refine SL.val (O.move rfl rfl Taken.no) ?_
      refine SL.memS (O.buildSlice 105 rfl rfl Try.underlying22 hi5 hz5 hs5 (by decide) rfl (by decide) rfl rfl rfl Taken.no) rfl rfl (S' := (105, _) :: _) rfl ?_
      refine SL.val (O.move rfl rfl Taken.no) ?_
      refine SL.memS (O.app (k' := 106) rfl rfl (SlOf.fz rfl (by decide)) Try.underlying22 hi5 hz5 hs5 rfl rfl (by first | exact map_snoc rfl | exact app_map | exact List.nil_append _ | rfl) (by rw [hb5]; first | omega | (simp only [List.length_map]; omega) | (simp <;> omega)) (by first | omega | (simp only [List.length_map]; omega) | (simp <;> omega)) rfl Taken.no) rfl rfl (S' := (106, _) :: (105, .dead) :: _) rfl ?_
      refine SL.freeze 106 rfl (F' := [(71, _)]) (⟨⟨_, rfl, rfl⟩, trivial⟩) ?_
      refine SL.memS (O.buildSlice 107 rfl rfl Try.underlying32 hi22 hz22 hs22 (by decide) rfl (by decide) rfl rfl rfl Taken.no) rfl rfl (S' := (107, _) :: _) rfl ?_
      refine SL.memS (O.app (k' := 108) rfl rfl (SlOf.own rfl rfl) Try.underlying32 hi22 hz22 hs22 rfl rfl (by first | exact map_snoc rfl | exact app_map | exact List.nil_append _ | rfl) (by rw [hb22]; first | omega | (simp only [List.length_map]; omega) | (simp <;> omega)) (by first | omega | (simp only [List.length_map]; omega) | (simp <;> omega)) rfl Taken.no) rfl rfl (S' := (108, _) :: (101, .dead) :: _) rfl ?_
      refine SL.val (O.move rfl rfl Taken.no) ?_
      refine SL.val (O.move rfl rfl Taken.no) ?_
      refine SL.memS (O.buildSlice 109 rfl rfl Try.underlying102 hi3 hz3 hs3 (by decide) rfl (by decide) rfl rfl rfl Taken.no) rfl rfl (S' := (109, _) :: _) rfl ?_
      refine SL.memS (O.app (k' := 110) rfl rfl (SlOf.own rfl rfl) Try.underlying102 hi3 hz3 hs3 rfl rfl (by first | exact map_snoc rfl | exact app_map | exact List.nil_append _ | rfl) (by rw [hb3]; first | omega | (simp only [List.length_map]; omega) | (simp <;> omega)) (by first | omega | (simp only [List.length_map]; omega) | (simp <;> omega)) rfl Taken.no) rfl rfl (S' := (110, _) :: (102, .dead) :: _) rfl ?_
      refine SL.val (O.assign rfl rfl Taken.no) ?_
      refine SL.val (O.assign rfl rfl Taken.no) ?_
      refine SL.nil ?_
      refine E.inn ?_
      refine E.again ((a + 8 + nn), (sumI last ((l.take (a + 8 + nn)).drop (a + 8))), (ps ++ [((l.take (a + 8 + nn)).drop (a + 8))]), (ends ++ [((a + 8 + nn : Nat) : Int)])) (rn [(101, 108), (102, 110)]) ?_ ?_ rfl (fixL_spec rfl) ?_ ?_
      · exact (SubF.cons rfl (SubF.cons rfl (SubF.val rfl (by (try dsimp only); exact congrArg (fun x => IV.u (.sc (.int .u32 x))) (hrs (by omega) (by rw [hlm]; omega))) (SubF.val rfl (by (try dsimp only); exact iv_int (by omega)) (SubF.cons rfl (SubF.cons rfl (SubF.cons rfl SubF.nil)))))))
      · exact (SubS.cons rfl (SubS.val rfl (by (try dsimp only); exact sb_data (by simp [eI]; omega)) SubS.nil))
      ·try dsimp only
       exact hnx (by omega) (by rw [hlm]; omega) (by rw [← hrs (by omega) (by rw [hlm]; omega)]; exact Decidable.not_not.1 (by assumption))
      · (try dsimp only); omega
   ·skip
    first | have hg3p := G.gA7 hg3 | have hg3p := G.gA8 hg3 | have hg3p := hg3
    refine SL.skip (OpOk.not rfl rfl rfl hg3) ?_
    refine SL.skip (OpOk.not rfl rfl rfl hg3) ?_
    refine SL.skip (OpOk.not rfl rfl rfl hg3) ?_
    refine SL.skip (OpOk.not rfl rfl rfl hg3) ?_
    refine SL.skip (OpOk.not rfl rfl rfl hg3) ?_
    refine SL.val (O.pick_t rfl (G.ne_f hg3) rfl rfl Taken.no) ?_
    refine SL.nil ?_
    refine E.to ?_
    refine W.pick (.cons (t := 0) rfl (.cons (t := 2) rfl (.cons (t := 3) rfl (.cons (t := 4) rfl (.cons (t := 5) rfl (.cons (t := 6) rfl (.cons (t := 7) rfl (.cons (t := 8) rfl (.cons (t := 38) rfl .nil))))))))) (.cons (t := 101) rfl (.cons (t := 102) rfl .nil)) ?_
    refine W.cond_t rfl ?_
    refine W.exit ?_
    refine E.th ?_
    refine E.miss rfl ?_
    refine E.th ?_
    refine E.hit ?_
    refine E.to ?_
    refine W.seq ?_
    refine W.region ?_
    refine SL.val (O.move rfl rfl Taken.no) ?_
    refine SL.val (O.move rfl rfl Taken.no) ?_
    refine SL.val (O.assign rfl rfl Taken.no) ?_
    refine SL.val (O.assign rfl rfl Taken.no) ?_
    refine SL.nil ?_
    refine E.to ?_
    refine W.ret ?_
    refine E.fin (rs := [_, _]) (rn [(0, 101), (1, 102)]) (.inl rfl) rfl (.cons (ResOne.tmp rfl) (.cons (ResOne.tmp rfl) .nil)) ?_ ?_ rfl (fixL_spec rfl)
    ·skip
     rfl
    · exact (SubS.val rfl (by exact sb_data (by rw [(wInv_end hI (by first | exact stepW_len (by omega) | exact stepW_lim (by rw [hlm]; omega) | exact hss (by first | assumption | (rw [← hrs (by omega) (by rw [hlm]; omega)]; assumption)))).1])) (SubS.val rfl (by exact sb_data (by rw [(wInv_end hI (by first | exact stepW_len (by omega) | exact stepW_lim (by rw [hlm]; omega) | exact hss (by first | assumption | (rw [← hrs (by omega) (by rw [hlm]; omega)]; assumption)))).2])) SubS.nil))
  ·skip
   first | have hg2p := G.gA7 hg2 | have hg2p := G.gA8 hg2 | have hg2p := hg2
   refine SL.skip (OpOk.not rfl rfl rfl hg2) ?_
   refine SL.skip (OpOk.not rfl rfl rfl hg2) ?_
   refine SL.skip (OpOk.not rfl rfl rfl hg2) ?_
   refine SL.skip (OpOk.not rfl rfl rfl hg2) ?_
   refine SL.skip (OpOk.not rfl rfl rfl hg2) ?_
   refine SL.skip (OpOk.not rfl rfl rfl hg2) ?_
   refine SL.skip (OpOk.not rfl rfl rfl hg2) ?_
   refine SL.val (O.pick_t rfl (G.ne_f hg2) rfl rfl Taken.no) ?_
   refine SL.val (O.move rfl rfl Taken.no) ?_
   have hg6 : true ≠ false := by decide
   refine SL.skip (OpOk.not rfl rfl rfl hg6) ?_
   refine SL.skip (OpOk.not rfl rfl rfl hg6) ?_
   refine SL.skip (OpOk.not rfl rfl rfl hg6) ?_
   refine SL.skip (OpOk.not rfl rfl rfl hg6) ?_
   refine SL.skip (OpOk.not rfl rfl rfl hg6) ?_
   refine SL.val (O.pick_t rfl rfl rfl rfl Taken.no) ?_
   refine SL.nil ?_
   refine E.to ?_
   refine W.pick (.cons (t := 0) rfl (.cons (t := 2) rfl (.cons (t := 3) rfl (.cons (t := 4) rfl (.cons (t := 5) rfl (.cons (t := 6) rfl (.cons (t := 7) rfl (.cons (t := 8) rfl (.cons (t := 38) rfl .nil))))))))) (.cons (t := 101) rfl (.cons (t := 102) rfl .nil)) ?_
   refine W.cond_t rfl ?_
   refine W.exit ?_
   refine E.th ?_
   refine E.miss rfl ?_
   refine E.th ?_
   refine E.hit ?_
   refine E.to ?_
   refine W.seq ?_
   refine W.region ?_
   refine SL.val (O.move rfl rfl Taken.no) ?_
   refine SL.val (O.move rfl rfl Taken.no) ?_
   refine SL.val (O.assign rfl rfl Taken.no) ?_
   refine SL.val (O.assign rfl rfl Taken.no) ?_
   refine SL.nil ?_
   refine E.to ?_
   refine W.ret ?_
   refine E.fin (rs := [_, _]) (rn [(0, 101), (1, 102)]) (.inl rfl) rfl (.cons (ResOne.tmp rfl) (.cons (ResOne.tmp rfl) .nil)) ?_ ?_ rfl (fixL_spec rfl)
   ·skip
    rfl
   · exact (SubS.val rfl (by exact sb_data (by rw [(wInv_end hI (by first | exact stepW_len (by omega) | exact stepW_lim (by rw [hlm]; omega) | exact hss (by first | assumption | (rw [← hrs (by omega) (by rw [hlm]; omega)]; assumption)))).1])) (SubS.val rfl (by exact sb_data (by rw [(wInv_end hI (by first | exact stepW_len (by omega) | exact stepW_lim (by rw [hlm]; omega) | exact hss (by first | assumption | (rw [← hrs (by omega) (by rw [hlm]; omega)]; assumption)))).2])) SubS.nil))
 ·skip
  refine W.exit ?_
  refine E.th ?_
  refine E.th ?_
  refine E.hit ?_
  refine E.to ?_
  refine W.seq ?_
  refine W.region ?_
  refine SL.val (O.move rfl rfl Taken.no) ?_
  refine SL.val (O.move rfl rfl Taken.no) ?_
  refine SL.val (O.assign rfl rfl Taken.no) ?_
  refine SL.val (O.assign rfl rfl Taken.no) ?_
  refine SL.nil ?_
  refine E.to ?_
  refine W.ret ?_
  refine E.fin (rs := [_, _]) (rn [(0, 101), (1, 102)]) (.inl rfl) rfl (.cons (ResOne.tmp rfl) (.cons (ResOne.tmp rfl) .nil)) ?_ ?_ rfl (fixL_spec rfl)
  ·skip
   rfl
  · exact (SubS.val rfl (by exact sb_data (by rw [(wInv_end hI (by first | exact stepW_len (by omega) | exact stepW_lim (by rw [hlm]; omega) | exact hss (by first | assumption | (rw [← hrs (by omega) (by rw [hlm]; omega)]; assumption)))).1])) (SubS.val rfl (by exact sb_data (by rw [(wInv_end hI (by first | exact stepW_len (by omega) | exact stepW_lim (by rw [hlm]; omega) | exact hss (by first | assumption | (rw [← hrs (by omega) (by rw [hlm]; omega)]; assumption)))).2])) SubS.nil))

set_option maxRecDepth 8000 in
/-- bookplate/wal.whole. -/
theorem whole_h {l : List UInt8} (hb : l.length ≤ 100000000) :
    Con Try.prog 56 [vL 1 (l.map eB)] [] (.agg [.own 0, .own 1, vN .u32 (lastW l)]) [(0, .data 22 1 ((wholeL l).1.map eL)), (1, .data 3 1 ((wholeL l).2.map eI))] := by
 obtain ⟨i3, hi3, hz3, hs3, hb3⟩ := hinf3
 obtain ⟨i5, hi5, hz5, hs5, hb5⟩ := hinf5
 obtain ⟨i22, hi22, hz22, hs22, hb22⟩ := hinf22
 refine Con.enterL (n := 79) Try.func56 rfl rfl rfl (fun τ w ok vs hin => ?_)
 have hl0 := hin.len (i := 0) rfl
 try rw [List.length_map] at hl0
 clear hin
 refine W.seq ?_
 refine W.region ?_
 refine SL.memS (O.alloc (z := .agg #[.slice none 0 0, .slice none 0 0, .int .u32 0]) (is := [.u (.sc (.slice none 0 0)), .u (.sc (.slice none 0 0)), .u (.sc (.int .u32 0))]) 101 (by kernel_rfl) rfl rfl rfl Taken.no) rfl rfl (S' := (101, _) :: _) rfl ?_
 refine SL.nil ?_
 refine E.to ?_
 refine W.seq ?_
 refine W.region ?_
 refine SL.memS (O.alloc (z := .agg #[.slice none 0 0, .slice none 0 0, .int .u32 0]) (is := [.u (.sc (.slice none 0 0)), .u (.sc (.slice none 0 0)), .u (.sc (.int .u32 0))]) 102 (by kernel_rfl) rfl rfl rfl Taken.no) rfl rfl (S' := (102, _) :: _) rfl ?_
 refine SL.nil ?_
 refine E.to ?_
 refine W.seq ?_
 refine W.seq ?_
 refine W.region ?_
 refine SL.val (O.assign rfl rfl Taken.no) ?_
 refine SL.nil ?_
 refine E.to ?_
 refine W.block ?_
 refine W.adoptC 102 0 105 22 1 (is' := [_, _, _]) (by decide) rfl rfl rfl rfl rfl ?_
 refine W.adoptC 102 1 106 3 1 (is' := [_, _, _]) (by decide) rfl rfl rfl rfl rfl ?_
 refine W.loopx4 (fun (a : Nat) (last : Int) (ps : List (List UInt8)) (ends : List Int) => [(4, vI (a : Int))]) (fun (a : Nat) (last : Int) (ps : List (List UInt8)) (ends : List Int) => [(103, .data 22 1 (ps.map eL)), (104, .data 3 1 (ends.map eI)), (102, .cells 104 [.own 103, .own 104, vN .u32 last])]) (fun (a : Nat) (last : Int) (ps : List (List UInt8)) (ends : List Int) => wInv l a last ps ends ∧ lInv l a last) (fun (a : Nat) (last : Int) (ps : List (List UInt8)) (ends : List Int) => l.length + 1 - a) (0) (0) ([]) ([]) (rn [(103, 105), (104, 106)]) (.cons (t := 0) rfl (.cons (t := 2) rfl (.cons (t := 3) rfl .nil))) (.cons (t := 101) rfl .nil) rfl ?_ ?_ rfl rfl ?_ ?_
 · exact (SubF.cons rfl SubF.nil)
 · exact (SubS.cons rfl (SubS.cons rfl (SubS.cons rfl SubS.nil)))
 ·skip
  exact ⟨wInv_0 _, lInv_0 _⟩
 intro a last ps ends hinv
 obtain ⟨hI, hL⟩ := hinv
 obtain ⟨ha, hlast, hpe, he8, -, -, -⟩ := id hI
 obtain ⟨nn, hnn⟩ : ∃ nn : Nat, numI (l.drop a) = nn := ⟨(numI (l.drop a)).toNat, (Int.toNat_of_nonneg (numI_R _).1).symm⟩
 have hn := numI_R (l.drop a)
 rw [hnn] at hn
 unfold R32 at hn
 have hlm : limW l a = (60000 < (nn : Int) ∨ (l.length : Int) - a - 8 < nn ∨ 1048576 < (a : Int) + 8 + nn) := by rw [limW, hnn]
 have hpw : payW l a = ((l.take (a + 8 + nn)).drop (a + 8)) := by rw [payW, hnn, Int.toNat_natCast]
 have hnx := fun k r q => wInv_next hI k r q
 rw [hpw, hnn, Int.toNat_natCast] at hnx
 have hss := fun q => stepW_sum (file := l) (a := a) (last := last) q
 rw [hpw] at hss
 have hIL := hL
 have hlx := fun k r q => lInv_next hL k r q
 rw [hpw, hnn, Int.toNat_natCast] at hlx
 refine W.seq ?_
 refine W.seq ?_
 refine W.region ?_
 refine SL.val (O.move rfl rfl Taken.no) ?_
 refine SL.val (O.lenE (SlOf.fz rfl (by decide)) (by first | exact List.length_map _ | rfl) Try.underlying22 rfl Taken.no) ?_
 refine SL.val (O.move rfl rfl Taken.no) ?_
 refine SL.val (O.det (fun _ => by first | exact G.R.sub64 rfl rfl (by omega) | exact G.R.sub rfl rfl) rfl Taken.no) ?_
 refine SL.val (O.det (fun _ => G.R.geq rfl rfl) rfl Taken.no) ?_
 refine SL.nil ?_
 refine E.to ?_
 first | refine W.cond_d rfl (fun hc1 => ?_) (fun hc1 => ?_) | refine W.cond_nd rfl (fun hc1 => ?_) (fun hc1 => ?_) | refine W.cond rfl (fun hc1 => ?_) (fun hc1 => ?_)
 ·skip
  refine W.skip ?_
  refine E.to ?_
  refine W.seq ?_
  refine W.block ?_
  refine W.seq ?_
  refine W.region ?_
  refine SL.val (O.move rfl rfl Taken.no) ?_
  refine SL.val (O.move rfl rfl Taken.no) ?_
  refine SL.val (O.sub_fz (i := a) rfl (Bnd.at rfl (by first | rfl | omega)) Bnd.no (by first | omega | (simp only [List.length_map] <;> omega) | (simp <;> omega)) (by first | omega | (simp only [List.length_map, Nat.le_refl, Nat.zero_le] <;> omega) | (simp <;> omega)) sub_lo Try.underlying22 hi5 hs5 rfl Taken.no) ?_
  refine SL.val (O.callp rfl rfl rfl (number_h (by first | omega | (simp <;> omega))) (.cons (ArgOk.same rfl) .nil) hcallOk68 rfl Taken.no) ?_
  refine SL.val (O.assign rfl rfl Taken.no) ?_
  refine SL.nil ?_
  refine E.to ?_
  refine W.seq ?_
  refine W.seq ?_
  refine W.region ?_
  refine SL.val (O.move rfl rfl Taken.no) ?_
  refine SL.val (O.det (fun _ => G.R.gtr rfl rfl) rfl Taken.no) ?_
  refine SL.val (O.move rfl rfl Taken.no) ?_
  refine SL.case (j := 2) (g := 21) (want := false) rfl rfl (fun hg2 => ?_) (fun hg2 => ?_)
  ·skip
   first | have hg2p := G.gA3 hg2 | have hg2p := G.gA4 hg2 | have hg2p := hg2
   refine SL.val (O.move rfl rfl (Taken.yes rfl rfl hg2)) ?_
   refine SL.val (O.det (fun _ => G.R.mv (G.R.conv64 rfl Try.underlying90 Try.underlying3 (by rw [hnn]; omega)) (by rw [hnn])) rfl (Taken.yes rfl rfl hg2)) ?_
   refine SL.val (O.move rfl rfl (Taken.yes rfl rfl hg2)) ?_
   refine SL.val (O.lenE (SlOf.fz rfl (by decide)) (by first | exact List.length_map _ | rfl) Try.underlying22 rfl (Taken.yes rfl rfl hg2)) ?_
   refine SL.val (O.move rfl rfl (Taken.yes rfl rfl hg2)) ?_
   refine SL.val (O.det (fun _ => by first | exact G.R.sub64 rfl rfl (by omega) | exact G.R.sub rfl rfl) rfl (Taken.yes rfl rfl hg2)) ?_
   refine SL.val (O.det (fun _ => by first | exact G.R.sub64 rfl rfl (by omega) | exact G.R.sub rfl rfl) rfl (Taken.yes rfl rfl hg2)) ?_
   refine SL.val (O.det (fun _ => G.R.gtr rfl rfl) rfl (Taken.yes rfl rfl hg2)) ?_
   refine SL.val (O.pick_f rfl hg2 rfl rfl Taken.no) ?_
   refine SL.val (O.move rfl rfl Taken.no) ?_
   refine SL.case (j := 12) (g := 31) (want := false) rfl rfl (fun hg3 => ?_) (fun hg3 => ?_)
   ·skip
    first | have hg3p := G.gA3 hg3 | have hg3p := G.gA4 hg3 | have hg3p := hg3
    refine SL.val (O.move rfl rfl (Taken.yes rfl rfl hg3)) ?_
    refine SL.val (O.det (fun _ => by first | exact G.R.add64 rfl rfl (by omega) | exact G.R.add rfl rfl) rfl (Taken.yes rfl rfl hg3)) ?_
    refine SL.val (O.move rfl rfl (Taken.yes rfl rfl hg3)) ?_
    refine SL.val (O.det (fun _ => G.R.mv (G.R.conv64 rfl Try.underlying90 Try.underlying3 (by rw [hnn]; omega)) (by rw [hnn])) rfl (Taken.yes rfl rfl hg3)) ?_
    refine SL.val (O.det (fun _ => by first | exact G.R.add64 rfl rfl (by omega) | exact G.R.add rfl rfl) rfl (Taken.yes rfl rfl hg3)) ?_
    refine SL.val (O.det (fun _ => G.R.gtr rfl rfl) rfl (Taken.yes rfl rfl hg3)) ?_
    refine SL.val (O.pick_f rfl hg3 rfl rfl Taken.no) ?_
    refine SL.nil ?_
    refine E.to ?_
    refine W.pick (.cons (t := 0) rfl (.cons (t := 2) rfl (.cons (t := 3) rfl (.cons (t := 4) rfl (.cons (t := 5) rfl (.cons (t := 38) rfl .nil)))))) (.cons (t := 101) rfl (.cons (t := 102) rfl (.cons (t := 103) rfl (.cons (t := 104) rfl .nil)))) ?_
    first | refine W.cond_d rfl (fun hc4 => ?_) (fun hc4 => ?_) | refine W.cond_nd rfl (fun hc4 => ?_) (fun hc4 => ?_) | refine W.cond rfl (fun hc4 => ?_) (fun hc4 => ?_)
    ·skip
     refine W.exit ?_
     refine E.th ?_
     refine E.miss rfl ?_
     refine E.th ?_
     refine E.th ?_
     refine E.hit ?_
     refine E.to ?_
     refine W.seq ?_
     refine W.region ?_
     refine SL.val (O.ldN (m := 3) (PtI.ref rfl rfl) (js := [_, _, _]) rfl (Nat.le_of_ble_eq_true rfl) Try.underlying104 rfl (by kernel_rfl) rfl Taken.no) ?_
     refine SL.effS (O.st_ref (m := 3) rfl rfl rfl (js := [_, _, _]) rfl rfl (by kernel_rfl) (by simp) (Nat.le_of_ble_eq_true rfl) rfl (is' := [_, _, _]) rfl Taken.no) (S' := (101, _) :: _) rfl ?_
     refine SL.nil ?_
     refine E.to ?_
     refine W.ret ?_
     refine E.fin (rs := [_]) (rn [(0, 103), (1, 104)]) (.inl rfl) rfl (.cons (ResOne.cellN (m := 3) (PtI.ref rfl rfl) (js := [_, _, _]) rfl (Nat.le_of_ble_eq_true rfl) Try.underlying104 rfl (by kernel_rfl)) .nil) ?_ ?_ rfl (fixL_spec rfl)
     ·skip
      rw [← lInv_end hL (by first | exact stepW_len (by omega) | exact stepW_lim (by rw [hlm]; omega) | exact hss (by assumption))]; rfl
     · exact (SubS.val rfl (by exact sb_data (by rw [(wInv_end hI (by first | exact stepW_len (by omega) | exact stepW_lim (by rw [hlm]; omega) | exact hss (by assumption))).1])) (SubS.val rfl (by exact sb_data (by rw [(wInv_end hI (by first | exact stepW_len (by omega) | exact stepW_lim (by rw [hlm]; omega) | exact hss (by assumption))).2])) SubS.nil))
    ·skip
     refine W.skip ?_
     refine E.to ?_
     refine W.seq ?_
     refine W.region ?_
     refine SL.val (O.move rfl rfl Taken.no) ?_
     refine SL.val (O.move rfl rfl Taken.no) ?_
     refine SL.val (O.det (fun _ => by first | exact G.R.add64 rfl rfl (by omega) | exact G.R.add rfl rfl) rfl Taken.no) ?_
     refine SL.val (O.move rfl rfl Taken.no) ?_
     refine SL.val (O.det (fun _ => by first | exact G.R.add64 rfl rfl (by omega) | exact G.R.add rfl rfl) rfl Taken.no) ?_
     refine SL.val (O.move rfl rfl Taken.no) ?_
     refine SL.val (O.det (fun _ => G.R.mv (G.R.conv64 rfl Try.underlying90 Try.underlying3 (by rw [hnn]; omega)) (by rw [hnn])) rfl Taken.no) ?_
     refine SL.val (O.det (fun _ => by first | exact G.R.add64 rfl rfl (by omega) | exact G.R.add rfl rfl) rfl Taken.no) ?_
     refine SL.val (O.sub_fz (i := (a + 8)) (j := (a + 8 + nn)) rfl (Bnd.at rfl (by first | rfl | omega)) (Bnd.at rfl (by first | rfl | omega)) (by first | omega | (simp only [List.length_map, Nat.le_refl, Nat.zero_le] <;> omega) | (simp <;> omega)) (by first | omega | (simp only [List.length_map] <;> omega) | (simp <;> omega)) sub_map Try.underlying22 hi5 hs5 rfl Taken.no) ?_
     refine SL.val (O.assign rfl rfl Taken.no) ?_
     refine SL.nil ?_
     refine E.to ?_
     refine W.seq ?_
     refine W.region ?_
     refine SL.val (O.fld_ref (o' := 2) rfl Try.underlying104 rfl (m := 0) (by kernel_rfl) rfl rfl Taken.no) ?_
     refine SL.val (O.ld1 (PtI.ref rfl rfl) rfl Try.underlying90 rfl rfl Taken.no) ?_
     refine SL.val (O.move rfl rfl Taken.no) ?_
     refine SL.val (O.callp rfl rfl rfl (sum_h _ (by first | omega | (simp <;> omega))) (.cons (ArgOk.same rfl) (.cons (ArgOk.same rfl) .nil)) hcallOk63 rfl Taken.no) ?_
     refine SL.val (O.assign rfl rfl Taken.no) ?_
     refine SL.nil ?_
     refine E.to ?_
     refine W.seq ?_
     refine W.seq ?_
     refine W.region ?_
     refine SL.val (O.move rfl rfl Taken.no) ?_
     refine SL.val (O.move rfl rfl Taken.no) ?_
     refine SL.val (O.move rfl rfl Taken.no) ?_
     refine SL.val (O.det (fun _ => by first | exact G.R.add64 rfl rfl (by omega) | exact G.R.add rfl rfl) rfl Taken.no) ?_
     refine SL.val (O.sub_fz (i := (a + 4)) rfl (Bnd.at rfl (by first | rfl | omega)) Bnd.no (by first | omega | (simp only [List.length_map] <;> omega) | (simp <;> omega)) (by first | omega | (simp only [List.length_map, Nat.le_refl, Nat.zero_le] <;> omega) | (simp <;> omega)) sub_lo Try.underlying22 hi5 hs5 rfl Taken.no) ?_
     refine SL.val (O.callp rfl rfl rfl (number_h (by first | omega | (simp <;> omega))) (.cons (ArgOk.same rfl) .nil) hcallOk68 rfl Taken.no) ?_
     refine SL.val (O.det (fun _ => G.R.neq rfl rfl) rfl Taken.no) ?_
     refine SL.nil ?_
     refine E.to ?_
     refine W.pick (.cons (t := 0) rfl (.cons (t := 2) rfl (.cons (t := 3) rfl (.cons (t := 4) rfl (.cons (t := 5) rfl (.cons (t := 6) rfl (.cons (t := 7) rfl (.cons (t := 58) rfl .nil)))))))) (.cons (t := 101) rfl (.cons (t := 102) rfl (.cons (t := 103) rfl (.cons (t := 104) rfl .nil)))) ?_
     first | refine W.cond_d rfl (fun hc5 => ?_) (fun hc5 => ?_) | refine W.cond_nd rfl (fun hc5 => ?_) (fun hc5 => ?_) | refine W.cond rfl (fun hc5 => ?_) (fun hc5 => ?_)
     ·skip
      refine W.exit ?_
      refine E.th ?_
      refine E.miss rfl ?_
      refine E.th ?_
      refine E.th ?_
      refine E.hit ?_
      refine E.to ?_
      refine W.seq ?_
      refine W.region ?_
      refine SL.val (O.ldN (m := 3) (PtI.ref rfl rfl) (js := [_, _, _]) rfl (Nat.le_of_ble_eq_true rfl) Try.underlying104 rfl (by kernel_rfl) rfl Taken.no) ?_
      refine SL.effS (O.st_ref (m := 3) rfl rfl rfl (js := [_, _, _]) rfl rfl (by kernel_rfl) (by simp) (Nat.le_of_ble_eq_true rfl) rfl (is' := [_, _, _]) rfl Taken.no) (S' := (101, _) :: _) rfl ?_
      refine SL.nil ?_
      refine E.to ?_
      refine W.ret ?_
      refine E.fin (rs := [_]) (rn [(0, 103), (1, 104)]) (.inl rfl) rfl (.cons (ResOne.cellN (m := 3) (PtI.ref rfl rfl) (js := [_, _, _]) rfl (Nat.le_of_ble_eq_true rfl) Try.underlying104 rfl (by kernel_rfl)) .nil) ?_ ?_ rfl (fixL_spec rfl)
      ·skip
       rw [← lInv_end hL (by first | exact stepW_len (by omega) | exact stepW_lim (by rw [hlm]; omega) | exact hss (by assumption))]; rfl
      · exact (SubS.val rfl (by exact sb_data (by rw [(wInv_end hI (by first | exact stepW_len (by omega) | exact stepW_lim (by rw [hlm]; omega) | exact hss (by assumption))).1])) (SubS.val rfl (by exact sb_data (by rw [(wInv_end hI (by first | exact stepW_len (by omega) | exact stepW_lim (by rw [hlm]; omega) | exact hss (by assumption))).2])) SubS.nil))
     ·skip
      refine W.skip ?_
      refine E.to ?_
      refine W.draw [⟨[], [], [], [102]⟩, ⟨[102], [], [], [103]⟩, ⟨[], [], [], []⟩, ⟨[], [], [], []⟩, ⟨[107], [107], [107], []⟩, ⟨[103, 107, 108], [103, 108], [108], []⟩, ⟨[], [], [], [102]⟩, ⟨[102], [], [], [104]⟩, ⟨[], [], [], []⟩, ⟨[], [], [], []⟩, ⟨[], [], [], []⟩, ⟨[], [], [], []⟩, ⟨[], [], [], []⟩, ⟨[109], [109], [109], []⟩, ⟨[104, 109, 110], [104, 110], [110], []⟩, ⟨[], [], [], []⟩, ⟨[], [], [], [102]⟩, ⟨[102, 104, 108], [102], [], []⟩, ⟨[], [], [], [102]⟩, ⟨[102, 108, 110], [102], [], []⟩, ⟨[], [], [], [102]⟩, ⟨[102, 108, 110], [102], [], []⟩] rfl (by kernel_rfl) (by kernel_rfl) rfl rfl ?_
      refine WH.val (O.fld_ref (o' := 0) rfl Try.underlying104 rfl (m := 0) (by kernel_rfl) rfl rfl Taken.no) rfl rfl ?_
      refine WH.val (O.ld1 (PtI.ref rfl rfl) rfl Try.underlying32 rfl rfl Taken.no) rfl rfl ?_
      refine WH.val (O.move rfl rfl Taken.no) rfl rfl ?_
      refine WH.val (O.callp rfl rfl rfl (Con.fz (clone_h (by first | omega | (simp <;> omega))) rfl rfl) (.cons (ArgOk.same rfl) .nil) hcallOk32 rfl Taken.no) rfl rfl ?_
      refine WH.memS (O.buildSlice 107 rfl rfl Try.underlying32 hi22 hz22 hs22 (by decide) rfl (by decide) rfl rfl rfl Taken.no) rfl rfl rfl rfl rfl (S' := (107, _) :: _) rfl ?_
      refine WH.memS (O.app (k' := 108) rfl rfl (SlOf.own rfl rfl) Try.underlying32 hi22 hz22 hs22 rfl rfl (by first | exact map_snoc rfl | exact app_map | exact List.nil_append _ | rfl) (by rw [hb22]; first | omega | (simp only [List.length_map]; omega) | (simp <;> omega)) (by first | omega | (simp only [List.length_map]; omega) | (simp <;> omega)) rfl Taken.no) rfl rfl rfl rfl rfl (S' := (108, _) :: (103, .dead) :: _) rfl ?_
      refine WH.val (O.fld_ref (o' := 1) rfl Try.underlying104 rfl (m := 0) (by kernel_rfl) rfl rfl Taken.no) rfl rfl ?_
      refine WH.val (O.ld1 (PtI.ref rfl rfl) rfl Try.underlying102 rfl rfl Taken.no) rfl rfl ?_
      refine WH.val (O.move rfl rfl Taken.no) rfl rfl ?_
      refine WH.val (O.det (fun _ => by first | exact G.R.add64 rfl rfl (by omega) | exact G.R.add rfl rfl) rfl Taken.no) rfl rfl ?_
      refine WH.val (O.move rfl rfl Taken.no) rfl rfl ?_
      refine WH.val (O.det (fun _ => G.R.mv (G.R.conv64 rfl Try.underlying90 Try.underlying3 (by rw [hnn]; omega)) (by rw [hnn])) rfl Taken.no) rfl rfl ?_
      refine WH.val (O.det (fun _ => by first | exact G.R.add64 rfl rfl (by omega) | exact G.R.add rfl rfl) rfl Taken.no) rfl rfl ?_
      refine WH.memS (O.buildSlice 109 rfl rfl Try.underlying102 hi3 hz3 hs3 (by decide) rfl (by decide) rfl rfl rfl Taken.no) rfl rfl rfl rfl rfl (S' := (109, _) :: _) rfl ?_
      refine WH.memS (O.app (k' := 110) rfl rfl (SlOf.own rfl rfl) Try.underlying102 hi3 hz3 hs3 rfl rfl (by first | exact map_snoc rfl | exact app_map | exact List.nil_append _ | rfl) (by rw [hb3]; first | omega | (simp only [List.length_map]; omega) | (simp <;> omega)) (by first | omega | (simp only [List.length_map]; omega) | (simp <;> omega)) rfl Taken.no) rfl rfl rfl rfl rfl (S' := (110, _) :: (104, .dead) :: _) rfl ?_
      refine WH.val (O.move rfl rfl Taken.no) rfl rfl ?_
      refine WH.val (O.fld_ref (o' := 0) rfl Try.underlying104 rfl (m := 0) (by kernel_rfl) rfl rfl Taken.no) rfl rfl ?_
      refine WH.effS (O.st_ref (m := 1) rfl rfl rfl (js := [_]) rfl rfl (by kernel_rfl) (by simp) (Nat.le_of_ble_eq_true rfl) rfl (is' := [_, _, _]) rfl Taken.no) rfl rfl rfl (S' := (102, _) :: _) rfl ?_
      refine WH.val (O.fld_ref (o' := 1) rfl Try.underlying104 rfl (m := 0) (by kernel_rfl) rfl rfl Taken.no) rfl rfl ?_
      refine WH.effS (O.st_ref (m := 1) rfl rfl rfl (js := [_]) rfl rfl (by kernel_rfl) (by simp) (Nat.le_of_ble_eq_true rfl) rfl (is' := [_, _, _]) rfl Taken.no) rfl rfl rfl (S' := (102, _) :: _) rfl ?_
      refine WH.val (O.fld_ref (o' := 2) rfl Try.underlying104 rfl (m := 0) (by kernel_rfl) rfl rfl Taken.no) rfl rfl ?_
      refine WH.effS (O.st_ref (m := 1) rfl rfl rfl (js := [_]) rfl rfl (by kernel_rfl) (by simp) (Nat.le_of_ble_eq_true rfl) rfl (is' := [_, _, _]) rfl Taken.no) rfl rfl rfl (S' := (102, _) :: _) rfl ?_
      refine WH.nil ?_
      refine E.inn ?_
      refine E.to ?_
      refine W.pick (.cons (t := 0) rfl (.cons (t := 2) rfl (.cons (t := 3) rfl (.cons (t := 4) rfl .nil)))) (.cons (t := 101) rfl (.cons (t := 102) rfl (.cons (t := 107) rfl (.cons (t := 108) rfl (.cons (t := 109) rfl (.cons (t := 110) rfl .nil)))))) ?_
      refine W.region ?_
      refine SL.val (O.ldN (m := 3) (PtI.ref rfl rfl) (js := [_, _, _]) rfl (Nat.le_of_ble_eq_true rfl) Try.underlying104 rfl (by kernel_rfl) rfl Taken.no) ?_
      refine SL.memS (O.call (rn []) [108, 110] rfl rfl rfl (length_h _) (.cons (ArgOk.aggU (.cons (ArgOk.own rfl rfl) (.cons (ArgOk.own rfl rfl) (.cons (ArgOk.same rfl) .nil)))) .nil) SubS.nil rfl rfl rfl rfl rfl (.inr ⟨rfl, fun x hx => by simp at hx⟩) hcallOk57 (r' := .u _) rfl rfl Taken.no) rfl rfl (S' := _) rfl ?_
      refine SL.val (O.assign rfl rfl Taken.no) ?_
      refine SL.nil ?_
      refine E.again ((a + 8 + nn), (sumI last ((l.take (a + 8 + nn)).drop (a + 8))), (ps ++ [((l.take (a + 8 + nn)).drop (a + 8))]), (ends ++ [((a + 8 + nn : Nat) : Int)])) (rn [(103, 108), (104, 110)]) ?_ ?_ rfl (fixL_spec rfl) ?_ ?_
      · exact (SubF.val rfl (by (try dsimp only); exact iv_int (by rw [endI_snoc]; omega)) (SubF.cons rfl (SubF.cons rfl (SubF.cons rfl SubF.nil))))
      · exact (SubS.cons rfl (SubS.val rfl (by (try dsimp only); exact sb_data (by simp [eI] <;> omega)) (SubS.cons rfl (SubS.cons rfl SubS.nil))))
      ·try dsimp only
       exact ⟨hnx (by omega) (by rw [hlm]; omega) (Decidable.not_not.1 (by assumption)), hlx (by omega) (by rw [hlm]; omega) (Decidable.not_not.1 (by assumption))⟩
      · (try dsimp only); omega
   ·skip
    first | have hg3p := G.gA7 hg3 | have hg3p := G.gA8 hg3 | have hg3p := hg3
    refine SL.skip (OpOk.not rfl rfl rfl hg3) ?_
    refine SL.skip (OpOk.not rfl rfl rfl hg3) ?_
    refine SL.skip (OpOk.not rfl rfl rfl hg3) ?_
    refine SL.skip (OpOk.not rfl rfl rfl hg3) ?_
    refine SL.skip (OpOk.not rfl rfl rfl hg3) ?_
    refine SL.skip (OpOk.not rfl rfl rfl hg3) ?_
    refine SL.val (O.pick_t rfl (G.ne_f hg3) rfl rfl Taken.no) ?_
    refine SL.nil ?_
    refine E.to ?_
    refine W.pick (.cons (t := 0) rfl (.cons (t := 2) rfl (.cons (t := 3) rfl (.cons (t := 4) rfl (.cons (t := 5) rfl (.cons (t := 38) rfl .nil)))))) (.cons (t := 101) rfl (.cons (t := 102) rfl (.cons (t := 103) rfl (.cons (t := 104) rfl .nil)))) ?_
    refine W.cond_t rfl ?_
    refine W.exit ?_
    refine E.th ?_
    refine E.miss rfl ?_
    refine E.th ?_
    refine E.th ?_
    refine E.hit ?_
    refine E.to ?_
    refine W.seq ?_
    refine W.region ?_
    refine SL.val (O.ldN (m := 3) (PtI.ref rfl rfl) (js := [_, _, _]) rfl (Nat.le_of_ble_eq_true rfl) Try.underlying104 rfl (by kernel_rfl) rfl Taken.no) ?_
    refine SL.effS (O.st_ref (m := 3) rfl rfl rfl (js := [_, _, _]) rfl rfl (by kernel_rfl) (by simp) (Nat.le_of_ble_eq_true rfl) rfl (is' := [_, _, _]) rfl Taken.no) (S' := (101, _) :: _) rfl ?_
    refine SL.nil ?_
    refine E.to ?_
    refine W.ret ?_
    refine E.fin (rs := [_]) (rn [(0, 103), (1, 104)]) (.inl rfl) rfl (.cons (ResOne.cellN (m := 3) (PtI.ref rfl rfl) (js := [_, _, _]) rfl (Nat.le_of_ble_eq_true rfl) Try.underlying104 rfl (by kernel_rfl)) .nil) ?_ ?_ rfl (fixL_spec rfl)
    ·skip
     rw [← lInv_end hL (by first | exact stepW_len (by omega) | exact stepW_lim (by rw [hlm]; omega) | exact hss (by assumption))]; rfl
    · exact (SubS.val rfl (by exact sb_data (by rw [(wInv_end hI (by first | exact stepW_len (by omega) | exact stepW_lim (by rw [hlm]; omega) | exact hss (by assumption))).1])) (SubS.val rfl (by exact sb_data (by rw [(wInv_end hI (by first | exact stepW_len (by omega) | exact stepW_lim (by rw [hlm]; omega) | exact hss (by assumption))).2])) SubS.nil))
  ·skip
   first | have hg2p := G.gA7 hg2 | have hg2p := G.gA8 hg2 | have hg2p := hg2
   refine SL.skip (OpOk.not rfl rfl rfl hg2) ?_
   refine SL.skip (OpOk.not rfl rfl rfl hg2) ?_
   refine SL.skip (OpOk.not rfl rfl rfl hg2) ?_
   refine SL.skip (OpOk.not rfl rfl rfl hg2) ?_
   refine SL.skip (OpOk.not rfl rfl rfl hg2) ?_
   refine SL.skip (OpOk.not rfl rfl rfl hg2) ?_
   refine SL.skip (OpOk.not rfl rfl rfl hg2) ?_
   refine SL.skip (OpOk.not rfl rfl rfl hg2) ?_
   refine SL.val (O.pick_t rfl (G.ne_f hg2) rfl rfl Taken.no) ?_
   refine SL.val (O.move rfl rfl Taken.no) ?_
   have hg6 : true ≠ false := by decide
   refine SL.skip (OpOk.not rfl rfl rfl hg6) ?_
   refine SL.skip (OpOk.not rfl rfl rfl hg6) ?_
   refine SL.skip (OpOk.not rfl rfl rfl hg6) ?_
   refine SL.skip (OpOk.not rfl rfl rfl hg6) ?_
   refine SL.skip (OpOk.not rfl rfl rfl hg6) ?_
   refine SL.skip (OpOk.not rfl rfl rfl hg6) ?_
   refine SL.val (O.pick_t rfl rfl rfl rfl Taken.no) ?_
   refine SL.nil ?_
   refine E.to ?_
   refine W.pick (.cons (t := 0) rfl (.cons (t := 2) rfl (.cons (t := 3) rfl (.cons (t := 4) rfl (.cons (t := 5) rfl (.cons (t := 38) rfl .nil)))))) (.cons (t := 101) rfl (.cons (t := 102) rfl (.cons (t := 103) rfl (.cons (t := 104) rfl .nil)))) ?_
   refine W.cond_t rfl ?_
   refine W.exit ?_
   refine E.th ?_
   refine E.miss rfl ?_
   refine E.th ?_
   refine E.th ?_
   refine E.hit ?_
   refine E.to ?_
   refine W.seq ?_
   refine W.region ?_
   refine SL.val (O.ldN (m := 3) (PtI.ref rfl rfl) (js := [_, _, _]) rfl (Nat.le_of_ble_eq_true rfl) Try.underlying104 rfl (by kernel_rfl) rfl Taken.no) ?_
   refine SL.effS (O.st_ref (m := 3) rfl rfl rfl (js := [_, _, _]) rfl rfl (by kernel_rfl) (by simp) (Nat.le_of_ble_eq_true rfl) rfl (is' := [_, _, _]) rfl Taken.no) (S' := (101, _) :: _) rfl ?_
   refine SL.nil ?_
   refine E.to ?_
   refine W.ret ?_
   refine E.fin (rs := [_]) (rn [(0, 103), (1, 104)]) (.inl rfl) rfl (.cons (ResOne.cellN (m := 3) (PtI.ref rfl rfl) (js := [_, _, _]) rfl (Nat.le_of_ble_eq_true rfl) Try.underlying104 rfl (by kernel_rfl)) .nil) ?_ ?_ rfl (fixL_spec rfl)
   ·skip
    rw [← lInv_end hL (by first | exact stepW_len (by omega) | exact stepW_lim (by rw [hlm]; omega) | exact hss (by assumption))]; rfl
   · exact (SubS.val rfl (by exact sb_data (by rw [(wInv_end hI (by first | exact stepW_len (by omega) | exact stepW_lim (by rw [hlm]; omega) | exact hss (by assumption))).1])) (SubS.val rfl (by exact sb_data (by rw [(wInv_end hI (by first | exact stepW_len (by omega) | exact stepW_lim (by rw [hlm]; omega) | exact hss (by assumption))).2])) SubS.nil))
 ·skip
  refine W.exit ?_
  refine E.th ?_
  refine E.th ?_
  refine E.hit ?_
  refine E.to ?_
  refine W.seq ?_
  refine W.region ?_
  refine SL.val (O.ldN (m := 3) (PtI.ref rfl rfl) (js := [_, _, _]) rfl (Nat.le_of_ble_eq_true rfl) Try.underlying104 rfl (by kernel_rfl) rfl Taken.no) ?_
  refine SL.effS (O.st_ref (m := 3) rfl rfl rfl (js := [_, _, _]) rfl rfl (by kernel_rfl) (by simp) (Nat.le_of_ble_eq_true rfl) rfl (is' := [_, _, _]) rfl Taken.no) (S' := (101, _) :: _) rfl ?_
  refine SL.nil ?_
  refine E.to ?_
  refine W.ret ?_
  refine E.fin (rs := [_]) (rn [(0, 103), (1, 104)]) (.inl rfl) rfl (.cons (ResOne.cellN (m := 3) (PtI.ref rfl rfl) (js := [_, _, _]) rfl (Nat.le_of_ble_eq_true rfl) Try.underlying104 rfl (by kernel_rfl)) .nil) ?_ ?_ rfl (fixL_spec rfl)
  ·skip
   rw [← lInv_end hL (by first | exact stepW_len (by omega) | exact stepW_lim (by rw [hlm]; omega) | exact hss (by assumption))]; rfl
  · exact (SubS.val rfl (by exact sb_data (by rw [(wInv_end hI (by first | exact stepW_len (by omega) | exact stepW_lim (by rw [hlm]; omega) | exact hss (by assumption))).1])) (SubS.val rfl (by exact sb_data (by rw [(wInv_end hI (by first | exact stepW_len (by omega) | exact stepW_lim (by rw [hlm]; omega) | exact hss (by assumption))).2])) SubS.nil))

end Go.Proofs.Ytemclhhlafjohaa
