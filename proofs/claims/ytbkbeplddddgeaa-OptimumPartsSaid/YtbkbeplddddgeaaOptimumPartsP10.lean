/-
  What the proof rests on: part 10 of 12.
-/
import Derived.Test.YtbkbeplddddgeaaOptimumPartsP9
section
namespace Go.Proofs.Ytbkbeplddddgeaa
open Go Go.RowKit Go.H Go.D33

theorem hcallOk56 : G.callOk Try.prog 56 = true := by kernel_rfl
theorem hcallOk58 : G.callOk Try.prog 58 = true := by kernel_rfl

set_option maxRecDepth 8000 in
theorem value_h {n : Nat} {wt : Nat → Nat → Int} {lk : Nat → Nat → Bool} {bar : List Ru} {atm : List Nat} {l : List Nat} (hw : ∀ i j, -1000 ≤ wt i j ∧ wt i j ≤ 1000) (hl : l.length ≤ 1000) (hu : ∀ u ∈ l, u < n) :
    Con Try.prog 57 [.u (.ptr [uI (n : Int), .sl 1 (gridU (gridF n fun i j => uI (wt i j))), .sl 1 (gridU (gridF n fun i j => uB (lk i j))), .sl 3 (bar.map eRu), .sl 1 (atm.map eN), .sl 1 ((List.range n).map eN)]), vL 1 (l.map eN)] [] (vI (valF wt l)) [] := by
 obtain ⟨i3, hi3, hz3, hs3, hb3⟩ := hinf3
 obtain ⟨i32, hi32, hz32, hs32, hb32⟩ := hinf32
 refine Con.enterL (n := 41) Try.func57 rfl rfl rfl (fun τ w ok vs hin => ?_)
 have hl1 := hin.len (i := 1) rfl
 try rw [List.length_map] at hl1
 clear hin
 refine W.rg (SL.an rfl rfl (E.fo (W.rg (SL.an rfl rfl (E.fo (W.seq (W.rg (SL.mv rfl rfl ?_))))))))
 refine SL.val (O.lenE (SlOf.fz rfl (by decide)) (by first | exact List.length_map _ | rfl) Try.underlying32 rfl Taken.no) ?_
 refine SL.mv rfl rfl (E.fo (W.block ?_))
 refine W.loopx1 (fun (k : Nat) => [(12, vI (k : Int)), (5, vI (valK wt l k))]) (fun (k : Nat) => []) (fun (k : Nat) => k ≤ l.length) (fun (k : Nat) => l.length - k) (0) (rn []) (.cons (t := 0) rfl (.cons (t := 1) rfl (.cons (t := 4) rfl (.cons (t := 10) rfl (.cons (t := 11) rfl .nil))))) .nil rfl ?_ ?_ rfl rfl ?_ ?_
 · exact (SubF.cons rfl (SubF.cons rfl SubF.nil))
 · exact SubS.nil
 ·skip
  omega
 intro k hinv
 have hk := hinv
 have hvb := valK_b hw hl k
 refine W.rg ?_
 refine SL.val (O.det (fun _ => G.R.lss rfl rfl) rfl Taken.no) ?_
 refine E.fo (W.seq ?_)
 first | refine W.cond_d rfl (fun hc1 => ?_) (fun hc1 => ?_) | refine W.cond_nd rfl (fun hc1 => ?_) (fun hc1 => ?_) | refine W.cond rfl (fun hc1 => ?_) (fun hc1 => ?_)
 ·skip
  have huk := hu l[k]! (mem_at (by omega))
  have hdl : (l.drop (k + 1)).length = l.length - (k + 1) := List.length_drop
  refine W.skip (E.to (W.seq (W.block (W.rg (SL.mv rfl rfl ?_)))))
  refine SL.val (O.idx_fz rfl rfl (rfl) (row_get (by omega)) Try.underlying32 hi3 hs3 rfl Taken.no) ?_
  refine SL.val (O.ld1 (PtI.ofU (PtU.fz rfl)) rfl Try.underlying3 rfl rfl Taken.no) ?_
  refine SL.an rfl rfl (SL.an rfl rfl (E.fo (W.rg (SL.mv rfl rfl (SL.mv rfl rfl ?_)))))
  refine SL.val (O.det (fun _ => by first | exact G.R.add64 rfl rfl (by omega) | exact G.R.add rfl rfl) rfl Taken.no) ?_
  refine SL.val (O.sub_fz (i := (k + 1)) rfl (Bnd.at rfl (by omega)) Bnd.no (by rw [List.length_map]; omega) (by first | omega | (simp only [List.length_map, Nat.le_refl, Nat.zero_le] <;> omega) | (simp <;> omega)) sub_lo Try.underlying32 hi3 hs3 rfl Taken.no) ?_
  refine SL.val (O.lenE (SlOf.fz rfl (by decide)) (by first | exact List.length_map _ | rfl) Try.underlying32 rfl Taken.no) ?_
  refine SL.mv rfl rfl (E.fo (W.block ?_))
  refine W.loopx1 (fun (j : Nat) => [(22, vI (j : Int)), (5, vI (valK wt l k + sumR wt l[k]! ((l.drop (k + 1)).take j)))]) (fun (j : Nat) => []) (fun (j : Nat) => j ≤ (l.drop (k + 1)).length) (fun (j : Nat) => (l.drop (k + 1)).length - j) (0) (rn []) (.cons (t := 0) rfl (.cons (t := 1) rfl (.cons (t := 4) rfl (.cons (t := 7) rfl (.cons (t := 10) rfl (.cons (t := 11) rfl (.cons (t := 12) rfl (.cons (t := 20) rfl (.cons (t := 21) rfl .nil))))))))) .nil rfl ?_ ?_ rfl rfl ?_ ?_
  · exact (SubF.cons rfl (SubF.val rfl (by exact iv_int (by rw [List.take_zero]; show valK wt l k = valK wt l k + 0; omega)) SubF.nil))
  · exact SubS.nil
  ·skip
   omega
  intro j hinv
  have hj := hinv
  have hsb := sumR_b hw (u := l[k]!) (r := (l.drop (k + 1))) j hj
  refine W.rg ?_
  refine SL.val (O.det (fun _ => G.R.lss rfl rfl) rfl Taken.no) ?_
  refine E.fo (W.seq ?_)
  first | refine W.cond_d rfl (fun hc2 => ?_) (fun hc2 => ?_) | refine W.cond_nd rfl (fun hc2 => ?_) (fun hc2 => ?_) | refine W.cond rfl (fun hc2 => ?_) (fun hc2 => ?_)
  ·skip
   have huj := hu (l.drop (k + 1))[j]! (List.mem_of_mem_drop (mem_at (by omega)))
   have hwb := hw l[k]! (l.drop (k + 1))[j]!
   refine W.skip (E.to (W.seq (W.block (W.rg ?_))))
   refine SL.val (O.idx_fz rfl rfl (rfl) (row_get (by omega)) Try.underlying32 hi3 hs3 rfl Taken.no) ?_
   refine SL.val (O.ld1 (PtI.ofU (PtU.fz rfl)) rfl Try.underlying3 rfl rfl Taken.no) ?_
   refine SL.an rfl rfl (E.fo (W.region (SL.mv rfl rfl (SL.mv rfl rfl ?_))))
   refine SL.val (O.nilCheck rfl rfl rfl Taken.no) ?_
   refine SL.val (O.fld_fz rfl Try.underlying90 rfl (m := 0) (by kernel_rfl) rfl rfl Taken.no) ?_
   refine SL.val (O.ld1 (PtI.ofU (PtU.fz rfl)) rfl Try.underlying68 rfl rfl Taken.no) ?_
   refine SL.mv rfl rfl ?_
   refine SL.val (O.idx_fz (i := (l[k]!)) rfl rfl (rfl) (gridU_get (g := fun i j => uI (wt i j)) huk) Try.underlying68 hi32 hs32 rfl Taken.no) ?_
   refine SL.val (O.ld1 (PtI.ofU (PtU.fz rfl)) rfl Try.underlying32 rfl rfl Taken.no) ?_
   refine SL.mv rfl rfl ?_
   refine SL.val (O.idx_fz (i := ((l.drop (k + 1))[j]!)) rfl rfl (rfl) (gridR_get (g := fun i j => uI (wt i j)) (i := l[k]!) huj) Try.underlying32 hi3 hs3 rfl Taken.no) ?_
   refine SL.val (O.ld1 (PtI.ofU (PtU.fz rfl)) rfl Try.underlying3 rfl rfl Taken.no) ?_
   refine SL.val (O.det (fun _ => by first | exact G.R.add64 rfl rfl (by omega) | exact G.R.add rfl rfl) rfl Taken.no) ?_
   refine SL.an rfl rfl (SL.nil (E.inn (E.to ?_)))
   refine W.pick (K:=[(0,_),(1,_),(4,_),(5,_),(7,_),(10,_),(11,_),(12,_),(20,_),(21,_),(22,_)]) (Z:=[]) ⟨rfl,rfl,rfl,rfl,rfl,rfl,rfl,rfl,rfl,rfl,rfl,trivial⟩ trivial ?_
   refine W.region ?_
   refine SL.val (O.det (fun _ => by first | exact G.R.add64 rfl rfl (by omega) | exact G.R.add rfl rfl) rfl Taken.no) ?_
   refine SL.mv rfl rfl (SL.nil ?_)
   refine E.again ((j + 1)) (rn []) ?_ ?_ rfl (fixL_spec rfl) ?_ ?_
   · exact (SubF.cons rfl (SubF.val rfl (by (try dsimp only); exact iv_int (by rw [sumR_s (by omega)]; omega)) (SubF.cons rfl (SubF.cons rfl (SubF.cons rfl (SubF.cons rfl (SubF.cons rfl (SubF.cons rfl (SubF.cons rfl (SubF.cons rfl (SubF.cons rfl SubF.nil)))))))))))
   · exact SubS.nil
   ·try dsimp only
    omega
   · (try dsimp only); omega
  refine W.exit (E.th (E.th (E.hit (E.inn (E.to (W.region ?_))))))
  refine SL.val (O.det (fun _ => by first | exact G.R.add64 rfl rfl (by omega) | exact G.R.add rfl rfl) rfl Taken.no) ?_
  refine SL.mv rfl rfl (SL.nil ?_)
  refine E.again ((k + 1)) (rn []) ?_ ?_ rfl (fixL_spec rfl) ?_ ?_
  · exact (SubF.cons rfl (SubF.val rfl (by (try dsimp only); exact iv_int (by rw [valK, show j = (l.drop (k + 1)).length by omega, List.take_length])) (SubF.cons rfl (SubF.cons rfl (SubF.cons rfl (SubF.cons rfl (SubF.cons rfl SubF.nil)))))))
  · exact SubS.nil
  ·try dsimp only
   omega
  · (try dsimp only); omega
 refine W.exit (E.th (E.th (E.hit (E.to (W.rg (SL.mv rfl rfl (SL.an rfl rfl (E.fo (W.ret ?_)))))))))
 refine E.fin (rs := [_]) (rn []) (.inl rfl) rfl (.cons (ResOne.tmp rfl) .nil) ?_ ?_ rfl (fixL_spec rfl)
 ·skip
  (obtain rfl : k = l.length := (by omega)); rfl
 · exact SubS.nil

set_option maxRecDepth 8000 in
set_option maxHeartbeats 1600000 in
theorem permitted_h {n : Nat} {wt : Nat → Nat → Int} {lk : Nat → Nat → Bool} {bar : List Ru} {atm : List Nat} {l : List Int} (hn : n ≤ 200) (ha : atm.length = n ∧ ∀ i, i < n → atm[i]! < n) (hb : ∀ x ∈ bar, 0 ≤ x.a ∧ x.a < (n : Int) ∧ 0 ≤ x.b ∧ x.b < (n : Int)) :
    Con Try.prog 59 [.u (.ptr [uI (n : Int), .sl 1 (gridU (gridF n fun i j => uI (wt i j))), .sl 1 (gridU (gridF n fun i j => uB (lk i j))), .sl 3 (bar.map eRu), .sl 1 (atm.map eN), .sl 1 ((List.range n).map eN)]), vL 1 (l.map eI)] [] (vB (decide (permI n lk bar atm l))) [] := by
 obtain ⟨i3, hi3, hz3, hs3, hb3⟩ := hinf3
 refine Con.enterL (n := 61) Try.func59 rfl rfl rfl (fun τ w ok vs hin => ?_)
 have hl1 := hin.len (i := 1) rfl
 try rw [List.length_map] at hl1
 clear hin
 refine W.rg (SL.an rfl rfl (E.fo (W.seq (W.rg (SL.mv rfl rfl (SL.mv rfl rfl ?_))))))
 refine SL.val (O.callp rfl rfl rfl (partition_h (l := l)) (.cons (ArgOk.same rfl) (.cons (ArgOk.same rfl) .nil)) hcallOk56 rfl Taken.no) ?_
 refine SL.val (O.det (fun _ => G.R.not rfl) rfl Taken.no) ?_
 refine SL.mv rfl rfl ?_
 refine SL.case (j := 4) (g := 13) (want := false) rfl rfl (fun hg1 => ?_) (fun hg1 => ?_)
 ·skip
  first | have hg1p := G.gA3 hg1 | have hg1p := G.gA4 hg1 | have hg1p := hg1
  have hP : isPart n l := by first | assumption | simp_all
  obtain ⟨m, rfl⟩ := cast_of fun i hi => (hP.2 i hi).1
  have hQ := isPart_cast.1 hP
  rw [eI_eN]
  have hml := hQ.1
  refine SL.val (O.move rfl rfl (Taken.yes rfl rfl hg1)) ?_
  refine SL.val (O.move rfl rfl (Taken.yes rfl rfl hg1)) ?_
  refine SL.val (O.callp rfl rfl rfl (contra_h (m := m) (by rw [hml]; exact hb)) (.cons (ArgOk.same rfl) (.cons (ArgOk.same rfl) .nil)) hcallOk73 rfl (Taken.yes rfl rfl hg1)) ?_
  refine SL.val (O.pick_f rfl hg1 rfl rfl Taken.no) ?_
  refine E.fo ?_
  first | refine W.cond_d rfl (fun hc2 => ?_) (fun hc2 => ?_) | refine W.cond_nd rfl (fun hc2 => ?_) (fun hc2 => ?_) | refine W.cond rfl (fun hc2 => ?_) (fun hc2 => ?_)
  ·skip
   refine W.rg (SL.an rfl rfl (E.fo (W.ret (E.thr ?_))))
   refine E.fin (rs := [_]) (rn []) (.inl rfl) rfl (.cons (ResOne.tmp rfl) .nil) ?_ ?_ rfl (fixL_spec rfl)
   ·skip
    first | (have hcl : clash bar m = true := by assumption); exact iv_bool (dec_f fun q => absurd ((permI_cast.1 q).2.1.symm.trans hcl) (by decide)) | (have hnp : ¬ isPart n l := by first | assumption | simp_all); exact iv_bool (dec_f fun q => hnp q.1)
   · exact SubS.nil
  have hc0 : clash bar m = false := by first | assumption | simp_all
  refine W.skip (E.to (W.seq (W.rg (SL.mv rfl rfl ?_))))
  refine SL.val (O.nilCheck rfl rfl rfl Taken.no) ?_
  refine SL.val (O.fld_fz rfl Try.underlying90 rfl (m := 0) (by kernel_rfl) rfl rfl Taken.no) ?_
  refine SL.val (O.ld1 (PtI.ofU (PtU.fz rfl)) rfl Try.underlying32 rfl rfl Taken.no) ?_
  refine SL.val (O.lenE (SlOf.fz rfl (by decide)) (by first | exact List.length_map _ | rfl) Try.underlying32 rfl Taken.no) ?_
  refine SL.mv rfl rfl (E.fo (W.block ?_))
  have hal := ha.1
  refine W.loopx1 (fun (k : Nat) => [(23, vI (k : Int))]) (fun (k : Nat) => []) (fun (k : Nat) => k ≤ n ∧ ∀ i, i < k → m[i]! = m[atm[i]!]!) (fun (k : Nat) => n - k) (0) (rn []) (.cons (t := 0) rfl (.cons (t := 1) rfl (.cons (t := 21) rfl (.cons (t := 22) rfl .nil)))) .nil rfl ?_ ?_ rfl rfl ?_ ?_
  · exact (SubF.cons rfl SubF.nil)
  · exact SubS.nil
  ·skip
   exact ⟨by omega, fun i h => by omega⟩
  intro k hinv
  obtain ⟨hk, hp⟩ := hinv
  refine W.rg ?_
  refine SL.val (O.det (fun _ => G.R.lss rfl rfl) rfl Taken.no) ?_
  refine E.fo (W.seq ?_)
  first | refine W.cond_d rfl (fun hc3 => ?_) (fun hc3 => ?_) | refine W.cond_nd rfl (fun hc3 => ?_) (fun hc3 => ?_) | refine W.cond rfl (fun hc3 => ?_) (fun hc3 => ?_)
  ·skip
   have hak := ha.2 k (by omega)
   refine W.skip (E.to (W.seq (W.block (W.rg (SL.mv rfl rfl ?_)))))
   refine SL.val (O.idx_fz rfl rfl (rfl) (row_get (by omega)) Try.underlying32 hi3 hs3 rfl Taken.no) ?_
   refine SL.val (O.ld1 (PtI.ofU (PtU.fz rfl)) rfl Try.underlying3 rfl rfl Taken.no) ?_
   refine SL.an rfl rfl (SL.an rfl rfl (E.fo (W.seq ?_)))
   refine W.draw [⟨[], [], [], []⟩, ⟨[], [], [], []⟩, ⟨[], [], [], []⟩, ⟨[], [], [], []⟩, ⟨[], [], [], []⟩, ⟨[], [], [], []⟩, ⟨[], [], [], []⟩, ⟨[], [], [], []⟩, ⟨[], [], [], []⟩] rfl (by kernel_rfl) (by kernel_rfl) rfl rfl ?_
   refine WH.mv rfl rfl rfl (WH.mv rfl rfl rfl ?_)
   refine WH.val (O.idx_fz (i := k) rfl rfl (rfl) (row_get (by omega)) Try.underlying32 hi3 hs3 rfl Taken.no) rfl rfl ?_
   refine WH.val (O.ld1 (PtI.ofU (PtU.fz rfl)) rfl Try.underlying3 rfl rfl Taken.no) rfl rfl ?_
   refine WH.mv rfl rfl rfl (WH.mv rfl rfl rfl ?_)
   refine WH.val (O.idx_fz (i := (atm[k]!)) rfl rfl (rfl) (row_get (by omega)) Try.underlying32 hi3 hs3 rfl Taken.no) rfl rfl ?_
   refine WH.val (O.ld1 (PtI.ofU (PtU.fz rfl)) rfl Try.underlying3 rfl rfl Taken.no) rfl rfl ?_
   refine WH.val (O.det (fun _ => G.R.neq rfl rfl) rfl Taken.no) rfl rfl ?_
   refine WH.nil (E.to ?_)
   first | refine W.cond_d rfl (fun hc4 => ?_) (fun hc4 => ?_) | refine W.cond_nd rfl (fun hc4 => ?_) (fun hc4 => ?_) | refine W.cond rfl (fun hc4 => ?_) (fun hc4 => ?_)
   ·skip
    refine W.rg (SL.an rfl rfl (E.fo (W.ret ?_)))
    refine E.inr ?_
    refine E.thr (E.thr ?_)
    refine E.inr ?_
    refine E.thr ?_
    refine E.fin (rs := [_]) (rn []) (.inl rfl) rfl (.cons (ResOne.tmp rfl) .nil) ?_ ?_ rfl (fixL_spec rfl)
    ·skip
     exact iv_bool (dec_f fun q => by have := (permI_cast.1 q).2.2.1 k (by omega); omega)
    · exact SubS.nil
   refine W.skip (E.inn (E.to (W.region ?_)))
   refine SL.val (O.det (fun _ => by first | exact G.R.add64 rfl rfl (by omega) | exact G.R.add rfl rfl) rfl Taken.no) ?_
   refine SL.mv rfl rfl (SL.nil ?_)
   refine E.again ((k + 1)) (rn []) ?_ ?_ rfl (fixL_spec rfl) ?_ ?_
   · exact (SubF.cons rfl (SubF.cons rfl (SubF.cons rfl (SubF.cons rfl (SubF.cons rfl SubF.nil)))))
   · exact SubS.nil
   ·try dsimp only
    exact ⟨by omega, fun j hj => by rcases Nat.lt_succ_iff_lt_or_eq.1 hj with h | h; exact hp j h; subst h; omega⟩
   · (try dsimp only); omega
  refine W.exit (E.th (E.th (E.hit (E.to (W.seq (W.rg (SL.mv rfl rfl ?_)))))))
  refine SL.val (O.lenE (SlOf.fz rfl (by decide)) (by first | exact List.length_map _ | rfl) Try.underlying32 rfl Taken.no) ?_
  refine SL.mv rfl rfl (E.fo (W.block ?_))
  have hkn : k = n := by omega
  refine W.loopx1 (fun (j : Nat) => [(40, vI (j : Int))]) (fun (j : Nat) => []) (fun (j : Nat) => j ≤ n ∧ ∀ i, i < j → i = m[i]! → (partsL lk (unitsL m m[i]!)).length = 1) (fun (j : Nat) => n - j) (0) (rn []) (.cons (t := 0) rfl (.cons (t := 1) rfl (.cons (t := 38) rfl (.cons (t := 39) rfl .nil)))) .nil rfl ?_ ?_ rfl rfl ?_ ?_
  · exact (SubF.cons rfl SubF.nil)
  · exact SubS.nil
  ·skip
   exact ⟨by omega, fun i h => by omega⟩
  intro j hinv
  obtain ⟨hj, hq⟩ := hinv
  refine W.rg ?_
  refine SL.val (O.det (fun _ => G.R.lss rfl rfl) rfl Taken.no) ?_
  refine E.fo (W.seq ?_)
  first | refine W.cond_d rfl (fun hc5 => ?_) (fun hc5 => ?_) | refine W.cond_nd rfl (fun hc5 => ?_) (fun hc5 => ?_) | refine W.cond rfl (fun hc5 => ?_) (fun hc5 => ?_)
  ·skip
   have hul := units_len m m[j]!
   refine W.skip (E.to (W.seq (W.block (W.rg (SL.mv rfl rfl ?_)))))
   refine SL.val (O.idx_fz rfl rfl (rfl) (row_get (by omega)) Try.underlying32 hi3 hs3 rfl Taken.no) ?_
   refine SL.val (O.ld1 (PtI.ofU (PtU.fz rfl)) rfl Try.underlying3 rfl rfl Taken.no) ?_
   refine SL.an rfl rfl (SL.an rfl rfl (E.fo (W.seq ?_)))
   refine W.draw [⟨[], [], [], []⟩, ⟨[], [], [], []⟩, ⟨[], [], [], []⟩, ⟨[], [], [], []⟩, ⟨[], [], [], []⟩, ⟨[], [], [], []⟩, ⟨[], [], [], []⟩, ⟨[], [], [], []⟩, ⟨[], [], [], []⟩, ⟨[], [], [], []⟩, ⟨[], [], [], []⟩, ⟨[], [], [], []⟩, ⟨[], [], [], []⟩, ⟨[], [], [], []⟩, ⟨[], [], [], []⟩] rfl (by kernel_rfl) (by kernel_rfl) rfl rfl ?_
   refine WH.mv rfl rfl rfl (WH.mv rfl rfl rfl ?_)
   refine WH.val (O.det (fun _ => G.R.eql rfl rfl) rfl Taken.no) rfl rfl ?_
   refine WH.mv rfl rfl rfl ?_
   refine WH.case (j := 3) (g := 48) (want := true) rfl rfl (fun hg6 => ?_) (fun hg6 => ?_)
   ·skip
    first | have hg6p := G.gA1 hg6 | have hg6p := G.gA2 hg6 | have hg6p := hg6
    refine WH.val (O.move rfl rfl (Taken.yes rfl rfl hg6)) rfl rfl ?_
    refine WH.val (O.move rfl rfl (Taken.yes rfl rfl hg6)) rfl rfl ?_
    refine WH.val (O.callp rfl rfl rfl (Con.fz (units_h (l := m) (c := m[j]!) (by omega)) rfl rfl) (.cons (ArgOk.same rfl) (.cons (ArgOk.same rfl) .nil)) hcallOk58 rfl (Taken.yes rfl rfl hg6)) rfl rfl ?_
    refine WH.val (O.move rfl rfl (Taken.yes rfl rfl hg6)) rfl rfl ?_
    refine WH.val (O.nilCheck rfl rfl rfl (Taken.yes rfl rfl hg6)) rfl rfl ?_
    refine WH.val (O.fld_fz rfl Try.underlying90 rfl (m := 0) (by kernel_rfl) rfl rfl (Taken.yes rfl rfl hg6)) rfl rfl ?_
    refine WH.val (O.ld1 (PtI.ofU (PtU.fz rfl)) rfl Try.underlying88 rfl rfl (Taken.yes rfl rfl hg6)) rfl rfl ?_
    refine WH.val (O.callp rfl rfl rfl (parts_h (n := n) (us := unitsL m m[j]!) (by omega) (fun u hu => by have := (units_lt hu).1; omega)) (.cons (ArgOk.same rfl) (.cons (ArgOk.same rfl) .nil)) hcallOk76 rfl (Taken.yes rfl rfl hg6)) rfl rfl ?_
    refine WH.val (O.lenE (n := (partsL lk (unitsL m m[j]!)).length) (SlOf.fz rfl (by decide)) (by exact List.length_map _) Try.underlying68 rfl (Taken.yes rfl rfl hg6)) rfl rfl ?_
    refine WH.val (O.det (fun _ => G.R.neq rfl rfl) rfl (Taken.yes rfl rfl hg6)) rfl rfl ?_
    refine WH.val (O.pick_t rfl hg6 rfl rfl Taken.no) rfl rfl ?_
    refine WH.nil (E.to ?_)
    refine W.pick (K:=[(0,_),(1,_),(38,_),(39,_),(40,_),(59,_)]) (Z:=[]) ⟨rfl,rfl,rfl,rfl,rfl,rfl,trivial⟩ trivial ?_
    first | refine W.cond_d rfl (fun hc7 => ?_) (fun hc7 => ?_) | refine W.cond_nd rfl (fun hc7 => ?_) (fun hc7 => ?_) | refine W.cond rfl (fun hc7 => ?_) (fun hc7 => ?_)
    ·skip
     refine W.rg (SL.an rfl rfl (E.fo (W.ret ?_)))
     refine E.inr ?_
     refine E.thr (E.thr ?_)
     refine E.inr ?_
     refine E.thr ?_
     refine E.fin (rs := [_]) (rn []) (.inl rfl) rfl (.cons (ResOne.tmp rfl) .nil) ?_ ?_ rfl (fixL_spec rfl)
     ·skip
      exact iv_bool (dec_f fun q => by have := (permI_cast.1 q).2.2.2 j (by omega) (by omega); omega)
     · exact SubS.nil
    refine W.skip (E.inn (E.to (W.region ?_)))
    refine SL.val (O.det (fun _ => by first | exact G.R.add64 rfl rfl (by omega) | exact G.R.add rfl rfl) rfl Taken.no) ?_
    refine SL.mv rfl rfl (SL.nil ?_)
    refine E.again ((j + 1)) (rn []) ?_ ?_ rfl (fixL_spec rfl) ?_ ?_
    · exact (SubF.cons rfl (SubF.cons rfl (SubF.cons rfl (SubF.cons rfl (SubF.cons rfl SubF.nil)))))
    · exact SubS.nil
    ·try dsimp only
     exact ⟨by omega, fun i hi => by rcases Nat.lt_succ_iff_lt_or_eq.1 hi with h | h; exact hq i h; subst h; intro e; omega⟩
    · (try dsimp only); omega
   first | have hg6p := G.gA5 hg6 | have hg6p := G.gA6 hg6 | have hg6p := hg6
   refine WH.sk rfl rfl rfl hg6 (WH.sk rfl rfl rfl hg6 (WH.sk rfl rfl rfl hg6 (WH.sk rfl rfl rfl hg6 (WH.sk rfl rfl rfl hg6 (WH.sk rfl rfl rfl hg6 (WH.sk rfl rfl rfl hg6 (WH.sk rfl rfl rfl hg6 (WH.sk rfl rfl rfl hg6 (WH.sk rfl rfl rfl hg6 ?_)))))))))
   refine WH.val (O.pick_f rfl (G.ne_t hg6) rfl rfl Taken.no) rfl rfl ?_
   refine WH.nil (E.to ?_)
   refine W.pick (K:=[(0,_),(1,_),(38,_),(39,_),(40,_),(59,_)]) (Z:=[]) ⟨rfl,rfl,rfl,rfl,rfl,rfl,trivial⟩ trivial ?_
   refine W.cond_f rfl ?_
   refine W.skip (E.inn (E.to (W.region ?_)))
   refine SL.val (O.det (fun _ => by first | exact G.R.add64 rfl rfl (by omega) | exact G.R.add rfl rfl) rfl Taken.no) ?_
   refine SL.mv rfl rfl (SL.nil ?_)
   refine E.again ((j + 1)) (rn []) ?_ ?_ rfl (fixL_spec rfl) ?_ ?_
   · exact (SubF.cons rfl (SubF.cons rfl (SubF.cons rfl (SubF.cons rfl (SubF.cons rfl SubF.nil)))))
   · exact SubS.nil
   ·try dsimp only
    exact ⟨by omega, fun i hi => by rcases Nat.lt_succ_iff_lt_or_eq.1 hi with h | h; exact hq i h; subst h; intro e; omega⟩
   · (try dsimp only); omega
  refine W.exit (E.th (E.th (E.hit (E.to (W.rg (SL.an rfl rfl (E.fo (W.ret ?_))))))))
  refine E.fin (rs := [_]) (rn []) (.inl rfl) rfl (.cons (ResOne.tmp rfl) .nil) ?_ ?_ rfl (fixL_spec rfl)
  ·skip
   exact iv_bool (dec_t (permI_cast.2 ⟨hQ, hc0, fun i hi => hp i (by omega), fun i hi => hq i (by omega)⟩))
  · exact SubS.nil
 first | have hg1p := G.gA7 hg1 | have hg1p := G.gA8 hg1 | have hg1p := hg1
 refine SL.sk rfl rfl rfl hg1 (SL.sk rfl rfl rfl hg1 (SL.sk rfl rfl rfl hg1 ?_))
 refine SL.val (O.pick_t rfl (G.ne_f hg1) rfl rfl Taken.no) ?_
 refine E.fo ?_
 refine W.cond_t rfl ?_
 refine W.rg (SL.an rfl rfl (E.fo (W.ret (E.thr ?_))))
 refine E.fin (rs := [_]) (rn []) (.inl rfl) rfl (.cons (ResOne.tmp rfl) .nil) ?_ ?_ rfl (fixL_spec rfl)
 ·skip
  first | (have hcl : clash bar m = true := by assumption); exact iv_bool (dec_f fun q => absurd ((permI_cast.1 q).2.1.symm.trans hcl) (by decide)) | (have hnp : ¬ isPart n l := by first | assumption | simp_all); exact iv_bool (dec_f fun q => hnp q.1)
 · exact SubS.nil

end Go.Proofs.Ytbkbeplddddgeaa
end
section
namespace Go.D33
open Go Go.RowKit Go.H
theorem upd2_sym {α : Type} {f : Nat → Nat → α} (h : ∀ i j, f i j = f j i) (a b : Nat) (x : α) : ∀ i j, upd2 f a b x i j = upd2 f a b x j i := fun i j => by
  unfold upd2
  by_cases e : (i = a ∧ j = b) ∨ (i = b ∧ j = a)
  · rw [if_pos e, if_pos (e.elim (fun q => .inr ⟨q.2, q.1⟩) fun q => .inl ⟨q.2, q.1⟩)]
  · rw [if_neg e, if_neg fun q => e (q.elim (fun q => .inr ⟨q.2, q.1⟩) fun q => .inl ⟨q.2, q.1⟩), h]
theorem mF_sym : ∀ (rs : List Ru) {f : Nat → Nat → Bool}, (∀ i j, f i j = f j i) → ∀ i j, mF f rs i j = mF f rs j i
  | [], f, h => h
  | r :: rs, f, h => mF_sym rs (f := addM f r) fun i j => by
    unfold addM
    split
    · exact h i j
    · exact upd2_sym h _ _ _ i j
theorem mu_sym (rs : List Ru) : ∀ i j, mu rs i j = mu rs j i := mF_sym rs fun _ _ => rfl
theorem lF_sym (ps : List Pr) : ∀ i j, lF ps i j = lF ps j i := by
  have key : ∀ (ps : List Pr) (f : Nat → Nat → Bool), (∀ i j, f i j = f j i) → ∀ i j, ps.foldl addL f i j = ps.foldl addL f j i := by
    intro ps
    induction ps with
    | nil => intro f h; exact h
    | cons p ps ih =>
      intro f h
      refine ih (addL f p) fun i j => ?_
      unfold addL
      split
      · exact upd2_sym h _ _ _ i j
      · exact h i j
  exact key ps _ fun _ _ => rfl
theorem lk_sym (ps : List Pr) (rs : List Ru) : ∀ i j, mF (lF ps) rs i j = mF (lF ps) rs j i := mF_sym rs (lF_sym ps)
theorem wF_b : ∀ {ps : List Pr} {f : Nat → Nat → Int}, (∀ i j, -1000 ≤ f i j ∧ f i j ≤ 1000) → (∀ x ∈ ps, -1000 ≤ x.w ∧ x.w ≤ 1000) → ∀ i j, -1000 ≤ ps.foldl addW f i j ∧ ps.foldl addW f i j ≤ 1000
  | [], f, h, _ => h
  | p :: ps, f, h, hp => wF_b (ps := ps) (f := addW f p) (fun i j => by
    unfold addW upd2
    split
    · exact hp p (by simp)
    · exact h i j) fun x hx => hp x (by simp [hx])
theorem formed_pr {p : Prob} (h : p.formed) {x : Pr} (hx : x ∈ p.ps) : prOk p.n x := by
  obtain ⟨i, hi, rfl⟩ := List.getElem_of_mem hx
  have := (h.2.2.2.1 i hi).1
  rwa [getElem!_pos _ i hi] at this
theorem w_b {n : Nat} {ps : List Pr} {rs : List Ru} (h : (Prob.mk (n : Int) ps rs).formed) : ∀ i j, -1000 ≤ wF ps i j ∧ wF ps i j ≤ 1000 := wF_b (fun _ _ => by decide) fun x hx => by
  have := formed_pr h hx
  exact ⟨this.2.2.2.1, this.2.2.2.2⟩
theorem atm_ok (n : Nat) (rs : List Ru) : (namedL n (partsL (mu rs) (List.range n))).length = n ∧ ∀ i, i < n → (namedL n (partsL (mu rs) (List.range n)))[i]! < n := by
  have := comp_parts (n := n) (mu_sym rs)
  exact ⟨this.len, fun i hi => this.lt hi⟩
def valQ (w : Nat → Nat → Int) (m : List Nat) : Nat → Int
  | 0 => 0
  | k + 1 => valQ w m k + if k = m[k]! then valF w (unitsL m m[k]!) else 0
theorem valF_b {w : Nat → Nat → Int} (hw : ∀ i j, -1000 ≤ w i j ∧ w i j ≤ 1000) {l : List Nat} (hl : l.length ≤ 1000) : -1000000000 ≤ valF w l ∧ valF w l ≤ 1000000000 := by
  have := valK_b hw hl l.length
  unfold valF; omega
theorem valQ_b {w : Nat → Nat → Int} (hw : ∀ i j, -1000 ≤ w i j ∧ w i j ≤ 1000) {m : List Nat} (hm : m.length ≤ 1000) : ∀ k : Nat, -1000000000 * (k : Int) ≤ valQ w m k ∧ valQ w m k ≤ 1000000000 * (k : Int)
  | 0 => by simp [valQ]
  | k + 1 => by
    have ih := valQ_b hw hm k
    have := valF_b hw (l := unitsL m m[k]!) (Nat.le_trans (units_len _ _) hm)
    rw [valQ]
    split <;> omega
theorem valQ_y {w : Nat → Nat → Int} {m : List Nat} {k : Nat} (h : k = m[k]!) : valQ w m (k + 1) = valQ w m k + valF w (unitsL m m[k]!) := by rw [valQ, if_pos h]
theorem valQ_n {w : Nat → Nat → Int} {m : List Nat} {k : Nat} (h : ¬ k = m[k]!) : valQ w m (k + 1) = valQ w m k := by rw [valQ, if_neg h]; omega
def valI (n : Nat) (w : Nat → Nat → Int) (l : List Int) : Int := if isPart n l then valQ w (l.map Int.toNat) n else 0
def valE (n : Nat) (l : List Int) : Int := if isPart n l then 0 else 11
theorem valI_y {n : Nat} {w : Nat → Nat → Int} {m : List Nat} (h : isP n m) : valI n w (m.map fun x : Nat => (x : Int)) = valQ w m n ∧ valE n (m.map fun x : Nat => (x : Int)) = 0 := by
  have hp := isPart_cast.2 h
  exact ⟨by rw [valI, if_pos hp, cast_back], if_pos hp⟩
theorem valI_n {n : Nat} {w : Nat → Nat → Int} {l : List Int} (h : ¬ isPart n l) : valI n w l = 0 ∧ valE n l = 11 := ⟨if_neg h, if_neg h⟩
def jf (l : List Nat) (a b x : Nat) : Nat := if x = max l[a]! l[b]! then min l[a]! l[b]! else x
def joinP (l : List Nat) (a b k : Nat) : List Nat := (l.take k).map (jf l a b) ++ l.drop k
theorem joinP_0 (l : List Nat) (a b : Nat) : joinP l a b 0 = l := by simp [joinP]
theorem joinP_n (l : List Nat) (a b : Nat) : joinP l a b l.length = joinL l a b := by
  rw [joinP, List.take_length, List.drop_length, List.append_nil]; rfl
theorem joinP_len {l : List Nat} {a b k : Nat} (h : k ≤ l.length) : (joinP l a b k).length = l.length := by
  rw [joinP, List.length_append, List.length_map, List.length_take, List.length_drop]; omega
theorem joinP_get {l : List Nat} {a b k : Nat} (h : k < l.length) : (joinP l a b k)[k]! = l[k]! := by
  have hl : ((l.take k).map (jf l a b)).length = k := by rw [List.length_map, List.length_take]; omega
  rw [getElem!_pos _ _ (by rw [joinP_len (by omega)]; exact h), getElem!_pos l k h]
  simp only [joinP]
  rw [List.getElem_append_right (by omega)]
  simp only [hl, Nat.sub_self, List.getElem_drop, Nat.add_zero]
theorem joinP_s {l : List Nat} {a b k : Nat} (h : k < l.length) : joinP l a b (k + 1) = (joinP l a b k).set k (jf l a b l[k]!) := by
  have hl : ((l.take k).map (jf l a b)).length = k := by rw [List.length_map, List.length_take]; omega
  have hd : l.drop k = l[k]! :: l.drop (k + 1) := by rw [getElem!_pos l k h]; exact List.drop_eq_getElem_cons h
  rw [joinP, joinP, hd, snocP h, List.map_append, List.set_append_right _ _ (by omega), hl, Nat.sub_self, List.set_cons_zero, List.append_assoc]; rfl
theorem joinP_y {l : List Nat} {a b k : Nat} (h : k < l.length) (e : l[k]! = max l[a]! l[b]!) : joinP l a b (k + 1) = (joinP l a b k).set k (min l[a]! l[b]!) := by
  rw [joinP_s h, jf, if_pos e]
theorem joinP_no {l : List Nat} {a b k : Nat} (h : k < l.length) (e : ¬ l[k]! = max l[a]! l[b]!) : joinP l a b (k + 1) = joinP l a b k := by
  have h1 := joinP_len (l := l) (a := a) (b := b) (k := k) (by omega)
  rw [joinP_s h, jf, if_neg e]
  apply List.ext_getElem
  · simp
  · intro i h2 h3
    rw [List.getElem_set]
    split
    · rename_i q; subst q
      have := joinP_get (a := a) (b := b) h
      rw [getElem!_pos (joinP l a b k) k h3] at this
      exact this.symm
    · rfl
def muE (rs : List Ru) : List (Nat × Nat) := (rs.filter fun x => decide (x.k = 1)).map fun x => (x.a.toNat, x.b.toNat)
def psE (m : List Nat) (ps : List Pr) : List (Nat × Nat) := (ps.filter fun x => decide (0 < x.w ∧ m[x.a.toNat]! = m[x.b.toNat]!)).map fun x => (x.a.toNat, x.b.toNat)
def rsE (m : List Nat) (rs : List Ru) : List (Nat × Nat) := (rs.filter fun x => decide (x.k = 1 ∧ m[x.a.toNat]! = m[x.b.toNat]!)).map fun x => (x.a.toNat, x.b.toNat)
def atomsL (n : Nat) (rs : List Ru) : List Nat := joinsL (List.range n) (muE rs)
def connL (n : Nat) (ps : List Pr) (rs : List Ru) (m : List Nat) : List Nat := joinsL (joinsL (List.range n) (psE m ps)) (rsE m rs)
theorem joins_len : ∀ {es : List (Nat × Nat)} {l : List Nat}, (joinsL l es).length = l.length
  | [], l => rfl
  | e :: es, l => by
    show (joinsL (joinL l e.1 e.2) es).length = _
    rw [joins_len, join_len]
theorem muE_y {rs : List Ru} {k : Nat} (h : k < rs.length) (e : rs[k]!.k = 1) (l : List Nat) : joinsL l (muE (rs.take (k + 1))) = joinL (joinsL l (muE (rs.take k))) rs[k]!.a.toNat rs[k]!.b.toNat := by
  rw [muE, snocP h, List.filter_append, List.filter_cons, if_pos (decide_eq_true e), List.filter_nil, List.map_append, List.map_cons, List.map_nil, joins_snoc]; rfl
theorem muE_n {rs : List Ru} {k : Nat} (h : k < rs.length) (e : ¬ rs[k]!.k = 1) (l : List Nat) : joinsL l (muE (rs.take (k + 1))) = joinsL l (muE (rs.take k)) := by
  rw [muE, snocP h, List.filter_append, List.filter_cons, if_neg (by simpa using e), List.filter_nil, List.append_nil]; rfl
theorem psE_y {m : List Nat} {ps : List Pr} {k : Nat} (h : k < ps.length) (e : 0 < ps[k]!.w ∧ m[ps[k]!.a.toNat]! = m[ps[k]!.b.toNat]!) (l : List Nat) : joinsL l (psE m (ps.take (k + 1))) = joinL (joinsL l (psE m (ps.take k))) ps[k]!.a.toNat ps[k]!.b.toNat := by
  rw [psE, snocP h, List.filter_append, List.filter_cons, if_pos (decide_eq_true e), List.filter_nil, List.map_append, List.map_cons, List.map_nil, joins_snoc]; rfl
theorem psE_n {m : List Nat} {ps : List Pr} {k : Nat} (h : k < ps.length) (e : ¬ (0 < ps[k]!.w ∧ m[ps[k]!.a.toNat]! = m[ps[k]!.b.toNat]!)) (l : List Nat) : joinsL l (psE m (ps.take (k + 1))) = joinsL l (psE m (ps.take k)) := by
  rw [psE, snocP h, List.filter_append, List.filter_cons, if_neg (by simpa using e), List.filter_nil, List.append_nil]; rfl
theorem rsE_y {m : List Nat} {rs : List Ru} {k : Nat} (h : k < rs.length) (e : rs[k]!.k = 1 ∧ m[rs[k]!.a.toNat]! = m[rs[k]!.b.toNat]!) (l : List Nat) : joinsL l (rsE m (rs.take (k + 1))) = joinL (joinsL l (rsE m (rs.take k))) rs[k]!.a.toNat rs[k]!.b.toNat := by
  rw [rsE, snocP h, List.filter_append, List.filter_cons, if_pos (decide_eq_true e), List.filter_nil, List.map_append, List.map_cons, List.map_nil, joins_snoc]; rfl
theorem rsE_n {m : List Nat} {rs : List Ru} {k : Nat} (h : k < rs.length) (e : ¬ (rs[k]!.k = 1 ∧ m[rs[k]!.a.toNat]! = m[rs[k]!.b.toNat]!)) (l : List Nat) : joinsL l (rsE m (rs.take (k + 1))) = joinsL l (rsE m (rs.take k)) := by
  rw [rsE, snocP h, List.filter_append, List.filter_cons, if_neg (by simpa using e), List.filter_nil, List.append_nil]; rfl
theorem alone_s {n k : Nat} (h : k < n) : List.range (k + 1) ++ List.replicate (n - (k + 1)) 0 = (List.range k ++ List.replicate (n - k) 0).set k k := by
  have e : List.replicate (n - k) 0 = 0 :: List.replicate (n - (k + 1)) 0 := by rw [show n - k = (n - (k + 1)) + 1 by omega]; rfl
  rw [e, List.set_append_right _ _ (by simp), List.length_range, Nat.sub_self, List.set_cons_zero, List.range_succ, List.append_assoc]; rfl
theorem clash_s {rs : List Ru} {m : List Nat} {k : Nat} (hk : k < rs.length) (h : clash (barL (rs.take k)) m = false) (e : rs[k]!.k = 2 → clashR m rs[k]! = false) : clash (barL (rs.take (k + 1))) m = false := by
  by_cases q : rs[k]!.k = 2
  · rw [bar_y hk q, clash, List.any_append, show (barL (rs.take k)).any (clashR m) = false from h, List.any_cons, e q]; rfl
  · rw [bar_n hk q]; exact h
theorem clash_here {rs : List Ru} {m : List Nat} {k : Nat} (hk : k < rs.length) (q : rs[k]!.k = 2) (e : m[rs[k]!.a.toNat]! = m[rs[k]!.b.toNat]!) : clash (barL rs) m = true := by
  rw [clash, List.any_eq_true]
  exact ⟨rs[k]!, List.mem_filter.2 ⟨mem_at hk, decide_eq_true q⟩, decide_eq_true e⟩
end Go.D33
end
section
namespace Go.Proofs.Ytbkbeplddddgeaa
open Go Go.RowKit Go.H Go.D33

theorem hcallOk57 : G.callOk Try.prog 57 = true := by kernel_rfl
theorem hcallOk59 : G.callOk Try.prog 59 = true := by kernel_rfl

set_option maxRecDepth 8000 in
theorem valueC_ok {n : Nat} {ps : List Pr} {rs : List Ru} {l : List Int} (hok : (Prob.mk (n : Int) ps rs).ok) :
    Con Try.prog 30 [vA [uI (n : Int), .sl 3 (ps.map ePr), .sl 3 (rs.map eRu)], vL 1 (l.map eI)] [] (.tup [vI (valI n (wF ps) l), vI (valE n l)]) [] := by
 have hf := hok.1
 have hn2 : (n : Int) ≤ 200 := hf.2.1
 obtain ⟨i3, hi3, hz3, hs3, hb3⟩ := hinf3
 refine Con.enterL (n := 44) Try.func30 rfl rfl rfl (fun τ w ok vs hin => ?_)
 have hl0_1 := hin.lenA (i := 0) (j := 1) rfl rfl
 try rw [List.length_map] at hl0_1
 have hl0_2 := hin.lenA (i := 0) (j := 2) rfl rfl
 try rw [List.length_map] at hl0_2
 have hl1 := hin.len (i := 1) rfl
 try rw [List.length_map] at hl1
 clear hin
 refine W.rg ?_
 refine SL.memS (O.box (is := [_, _, _]) 101 rfl rfl (by simp) rfl rfl Taken.no) rfl rfl (S' := (101, _) :: _) rfl ?_
 refine SL.an rfl rfl (SL.an rfl rfl (E.fo (W.rg ?_)))
 refine SL.val (O.ldN (m := 3) (PtI.ref rfl rfl) (js := [_, _, _]) rfl (Nat.le_of_ble_eq_true rfl) Try.underlying30 rfl (by kernel_rfl) rfl Taken.no) ?_
 refine SL.memS (O.call (rn []) [] rfl rfl rfl (check_ok hok) (.cons (ArgOk.aggU (.cons (ArgOk.same rfl) (.cons (ArgOk.same rfl) (.cons (ArgOk.same rfl) .nil)))) .nil) SubS.nil rfl rfl rfl rfl rfl (.inl rfl) hcallOk53 (r' := .tup [.u _, .u _]) rfl rfl Taken.no) rfl rfl (S' := _) rfl ?_
 refine SL.mv rfl rfl ?_
 refine SL.val (O.extract rfl rfl rfl Taken.no) ?_
 refine SL.val (O.extract rfl rfl rfl Taken.no) ?_
 refine SL.an rfl rfl (SL.an rfl rfl (E.fo (W.seq (W.block (W.rg (SL.mv rfl rfl ?_))))))
 refine SL.val (O.det (fun _ => G.R.mv (G.R.neq rfl rfl) (congrArg Value.bool (decide_eq_false (by decide)))) rfl Taken.no) ?_
 refine SL.an rfl rfl (E.fo ?_)
 refine W.cond_f rfl ?_
 refine W.rg (SL.mv rfl rfl (SL.mv rfl rfl ?_))
 refine SL.val (O.callp rfl rfl rfl (partition_h (l := l)) (.cons (ArgOk.same rfl) (.cons (ArgOk.same rfl) .nil)) hcallOk56 rfl Taken.no) ?_
 refine SL.val (O.det (fun _ => G.R.not rfl) rfl Taken.no) ?_
 refine SL.an rfl rfl (E.fo ?_)
 first | refine W.cond_d rfl (fun hc1 => ?_) (fun hc1 => ?_) | refine W.cond_nd rfl (fun hc1 => ?_) (fun hc1 => ?_) | refine W.cond rfl (fun hc1 => ?_) (fun hc1 => ?_)
 ·skip
  refine W.rg (SL.an rfl rfl (SL.an rfl rfl (E.fo (W.ret ?_))))
  refine E.inr ?_
  refine E.thr ?_
  refine E.fin (rs := [_, _]) (rn []) (.inl rfl) rfl (.cons (ResOne.tmp rfl) (.cons (ResOne.tmp rfl) .nil)) ?_ ?_ rfl (fixL_spec rfl)
  ·skip
   rw [(valI_n (w := wF ps) (by assumption)).1, (valI_n (w := wF ps) (by assumption)).2]; rfl
  · exact SubS.nil
 have hP : isPart n l := by first | assumption | simp_all
 obtain ⟨m, rfl⟩ := cast_of fun i hi => (hP.2 i hi).1
 have hQ := isPart_cast.1 hP
 rw [eI_eN]
 have hml := hQ.1
 have hwb := w_b hf
 refine W.skip (E.inn (E.to (W.rg (SL.an rfl rfl (E.fo (W.seq (W.rg (SL.mv rfl rfl ?_))))))))
 refine SL.val (O.lenE (SlOf.fz rfl (by decide)) (by first | exact List.length_map _ | rfl) Try.underlying32 rfl Taken.no) ?_
 refine SL.mv rfl rfl (E.fo (W.block ?_))
 refine W.loopx1 (fun (k : Nat) => [(27, vI (k : Int)), (8, vI (valQ (wF ps) m k))]) (fun (k : Nat) => []) (fun (k : Nat) => k ≤ n) (fun (k : Nat) => n - k) (0) (rn []) (.cons (t := 1) rfl (.cons (t := 4) rfl (.cons (t := 5) rfl (.cons (t := 6) rfl (.cons (t := 25) rfl (.cons (t := 26) rfl .nil)))))) (.cons (t := 101) rfl .nil) rfl ?_ ?_ rfl rfl ?_ ?_
 · exact (SubF.cons rfl (SubF.cons rfl SubF.nil))
 · exact SubS.nil
 ·skip
  omega
 intro k hinv
 have hk := hinv
 have hvb := valQ_b hwb (m := m) (by omega) k
 refine W.rg ?_
 refine SL.val (O.det (fun _ => G.R.lss rfl rfl) rfl Taken.no) ?_
 refine E.fo (W.seq ?_)
 first | refine W.cond_d rfl (fun hc2 => ?_) (fun hc2 => ?_) | refine W.cond_nd rfl (fun hc2 => ?_) (fun hc2 => ?_) | refine W.cond rfl (fun hc2 => ?_) (fun hc2 => ?_)
 ·skip
  have hul := units_len m m[k]!
  have hfb := valF_b hwb (l := unitsL m m[k]!) (by omega)
  refine W.skip (E.to (W.seq (W.block (W.rg (SL.mv rfl rfl ?_)))))
  refine SL.val (O.idx_fz rfl rfl (rfl) (row_get (by omega)) Try.underlying32 hi3 hs3 rfl Taken.no) ?_
  refine SL.val (O.ld1 (PtI.ofU (PtU.fz rfl)) rfl Try.underlying3 rfl rfl Taken.no) ?_
  refine SL.an rfl rfl (SL.an rfl rfl (E.fo (W.rg (SL.mv rfl rfl (SL.mv rfl rfl ?_)))))
  refine SL.val (O.det (fun _ => G.R.eql rfl rfl) rfl Taken.no) ?_
  refine E.fo ?_
  first | refine W.cond_d rfl (fun hc3 => ?_) (fun hc3 => ?_) | refine W.cond_nd rfl (fun hc3 => ?_) (fun hc3 => ?_) | refine W.cond rfl (fun hc3 => ?_) (fun hc3 => ?_)
  ·skip
   refine W.region (SL.mv rfl rfl (SL.mv rfl rfl (SL.mv rfl rfl (SL.mv rfl rfl ?_))))
   refine SL.val (O.callp rfl rfl rfl (Con.fz (units_h (l := m) (c := m[k]!) (by omega)) rfl rfl) (.cons (ArgOk.same rfl) (.cons (ArgOk.same rfl) .nil)) hcallOk58 rfl Taken.no) ?_
   refine SL.val (O.callp rfl rfl rfl (value_h (l := unitsL m m[k]!) hwb (by omega) (fun u hu => by have := (units_lt hu).1; omega)) (.cons (ArgOk.same rfl) (.cons (ArgOk.same rfl) .nil)) hcallOk57 rfl Taken.no) ?_
   refine SL.val (O.det (fun _ => by first | exact G.R.add64 rfl rfl (by omega) | exact G.R.add rfl rfl) rfl Taken.no) ?_
   refine SL.an rfl rfl (SL.nil (E.inn (E.to ?_)))
   refine W.pick (K:=[(1,_),(4,_),(5,_),(6,_),(8,_),(25,_),(26,_),(27,_)]) (Z:=[(101,_)]) ⟨rfl,rfl,rfl,rfl,rfl,rfl,rfl,rfl,trivial⟩ ⟨rfl,trivial⟩ ?_
   refine W.region ?_
   refine SL.val (O.det (fun _ => by first | exact G.R.add64 rfl rfl (by omega) | exact G.R.add rfl rfl) rfl Taken.no) ?_
   refine SL.mv rfl rfl (SL.nil ?_)
   refine E.again ((k + 1)) (rn []) ?_ ?_ rfl (fixL_spec rfl) ?_ ?_
   · exact (SubF.cons rfl (SubF.val rfl (by (try dsimp only); first | exact iv_int (by rw [valQ_y (by omega)]) | exact iv_int (by rw [valQ_n (by omega)])) (SubF.cons rfl (SubF.cons rfl (SubF.cons rfl (SubF.cons rfl (SubF.cons rfl (SubF.cons rfl SubF.nil))))))))
   · exact (SubS.cons rfl SubS.nil)
   ·try dsimp only
    omega
   · (try dsimp only); omega
  refine W.skip (E.inn (E.to (W.region ?_)))
  refine SL.val (O.det (fun _ => by first | exact G.R.add64 rfl rfl (by omega) | exact G.R.add rfl rfl) rfl Taken.no) ?_
  refine SL.mv rfl rfl (SL.nil ?_)
  refine E.again ((k + 1)) (rn []) ?_ ?_ rfl (fixL_spec rfl) ?_ ?_
  · exact (SubF.cons rfl (SubF.val rfl (by (try dsimp only); first | exact iv_int (by rw [valQ_y (by omega)]) | exact iv_int (by rw [valQ_n (by omega)])) (SubF.cons rfl (SubF.cons rfl (SubF.cons rfl (SubF.cons rfl (SubF.cons rfl (SubF.cons rfl SubF.nil))))))))
  · exact (SubS.cons rfl SubS.nil)
  ·try dsimp only
   omega
  · (try dsimp only); omega
 refine W.exit (E.th (E.th (E.hit (E.to (W.rg (SL.mv rfl rfl (SL.an rfl rfl (SL.an rfl rfl (E.fo (W.ret ?_))))))))))
 refine E.fin (rs := [_, _]) (rn []) (.inl rfl) rfl (.cons (ResOne.tmp rfl) (.cons (ResOne.tmp rfl) .nil)) ?_ ?_ rfl (fixL_spec rfl)
 ·skip
  first | (obtain rfl : k = n := (by omega); rw [(valI_y (w := wF ps) hQ).1, (valI_y (w := wF ps) hQ).2]; rfl) | rfl
 · exact SubS.nil


set_option maxRecDepth 8000 in
theorem permC_ok {n : Nat} {ps : List Pr} {rs : List Ru} {l : List Int} (hok : (Prob.mk (n : Int) ps rs).ok) :
    Con Try.prog 49 [vA [uI (n : Int), .sl 3 (ps.map ePr), .sl 3 (rs.map eRu)], vL 1 (l.map eI)] [] (vB (decide (permI n (mF (lF ps) rs) (barL rs) (namedL n (partsL (mu rs) (List.range n))) l))) [] := by
 have hf := hok.1
 have hn2 : (n : Int) ≤ 200 := hf.2.1
 refine Con.enterL (n := 19) Try.func49 rfl rfl rfl (fun τ w ok vs hin => ?_)
 have hl0_1 := hin.lenA (i := 0) (j := 1) rfl rfl
 try rw [List.length_map] at hl0_1
 have hl0_2 := hin.lenA (i := 0) (j := 2) rfl rfl
 try rw [List.length_map] at hl0_2
 have hl1 := hin.len (i := 1) rfl
 try rw [List.length_map] at hl1
 clear hin
 refine W.rg ?_
 refine SL.memS (O.box (is := [_, _, _]) 101 rfl rfl (by simp) rfl rfl Taken.no) rfl rfl (S' := (101, _) :: _) rfl ?_
 refine SL.an rfl rfl (E.fo (W.rg ?_))
 refine SL.val (O.ldN (m := 3) (PtI.ref rfl rfl) (js := [_, _, _]) rfl (Nat.le_of_ble_eq_true rfl) Try.underlying30 rfl (by kernel_rfl) rfl Taken.no) ?_
 refine SL.memS (O.call (rn []) [] rfl rfl rfl (check_ok hok) (.cons (ArgOk.aggU (.cons (ArgOk.same rfl) (.cons (ArgOk.same rfl) (.cons (ArgOk.same rfl) .nil)))) .nil) SubS.nil rfl rfl rfl rfl rfl (.inl rfl) hcallOk53 (r' := .tup [.u _, .u _]) rfl rfl Taken.no) rfl rfl (S' := _) rfl ?_
 refine SL.mv rfl rfl ?_
 refine SL.val (O.extract rfl rfl rfl Taken.no) ?_
 refine SL.val (O.extract rfl rfl rfl Taken.no) ?_
 refine SL.an rfl rfl (SL.an rfl rfl (E.fo (W.rg (SL.mv rfl rfl ?_))))
 refine SL.val (O.det (fun _ => G.R.mv (G.R.eql rfl rfl) (congrArg Value.bool (decide_eq_true (by decide)))) rfl Taken.no) ?_
 refine SL.mv rfl rfl ?_
 have hg1 : true = true := by decide
 refine SL.val (O.move rfl rfl (Taken.yes rfl rfl hg1)) ?_
 refine SL.val (O.move rfl rfl (Taken.yes rfl rfl hg1)) ?_
 refine SL.val (O.callp rfl rfl rfl (permitted_h (l := l) (by omega) (atm_ok n rs) (bar_rng hf)) (.cons (ArgOk.same rfl) (.cons (ArgOk.same rfl) .nil)) hcallOk59 rfl (Taken.yes rfl rfl hg1)) ?_
 refine SL.val (O.pick_t rfl rfl rfl rfl Taken.no) ?_
 refine SL.an rfl rfl (E.fo (W.ret ?_))
 refine E.fin (rs := [_]) (rn []) (.inl rfl) rfl (.cons (ResOne.tmp rfl) .nil) ?_ ?_ rfl (fixL_spec rfl)
 ·skip
  rfl
 · exact SubS.nil


end Go.Proofs.Ytbkbeplddddgeaa
end
section
namespace Go.Proofs.Ytbkbeplddddgeaa
open Go Go.RowKit Go.H Go.D33

theorem hinf64 : ∃ i, Try.prog.info? 64 = some i ∧ i.zero = some (.agg #[.int .i64 0, .int .i64 0, .int .i64 0]) ∧ i.size = 3 ∧ i.bytes = 24 := G.info_of (by kernel_rfl)
theorem hcallOk67 : G.callOk Try.prog 67 = true := by kernel_rfl
theorem hcallOk68 : G.callOk Try.prog 68 = true := by kernel_rfl

set_option maxRecDepth 8000 in
theorem join_h {l : List Nat} (x y : Int) (ha : 0 ≤ x ∧ x < (l.length : Int)) (hb : 0 ≤ y ∧ y < (l.length : Int)) (hl : l.length ≤ 1000) :
    Con Try.prog 68 [.own 0, vI x, vI y] [(0, .data 3 1 (l.map eN))] (.tup []) [(0, .data 3 1 ((joinL l x.toNat y.toNat).map eN))] := by
 obtain ⟨i3, hi3, hz3, hs3, hb3⟩ := hinf3
 refine Con.enterL (n := 43) Try.func68 rfl rfl rfl (fun τ w ok vs hin => ?_)
 clear hin
 refine W.seq ?_
 refine W.draw [⟨[], [], [], [0]⟩, ⟨[], [], [], []⟩, ⟨[0], [], [], []⟩, ⟨[0], [], [], []⟩, ⟨[], [], [], [0]⟩, ⟨[], [], [], []⟩, ⟨[0], [], [], []⟩, ⟨[0], [], [], []⟩, ⟨[], [], [], []⟩, ⟨[], [], [], [0]⟩, ⟨[], [], [], []⟩, ⟨[0], [], [], []⟩, ⟨[0], [], [], []⟩, ⟨[], [], [], [0]⟩, ⟨[], [], [], []⟩, ⟨[0], [], [], []⟩, ⟨[0], [], [], []⟩, ⟨[], [], [], []⟩, ⟨[], [], [], []⟩, ⟨[], [], [], []⟩] rfl (by kernel_rfl) (by kernel_rfl) rfl rfl ?_
 refine WH.mv rfl rfl rfl (WH.mv rfl rfl rfl ?_)
 refine WH.val (O.idx_own (i := x.toNat) rfl rfl rfl (by omega) (by rw [List.length_map]; omega) Try.underlying32 hi3 hs3 rfl Taken.no) rfl rfl ?_
 refine WH.val (O.ld1 (PtI.ofU (PtU.el rfl rfl (row_get (by omega)))) rfl Try.underlying3 rfl rfl Taken.no) rfl rfl ?_
 refine WH.mv rfl rfl rfl (WH.mv rfl rfl rfl ?_)
 refine WH.val (O.idx_own (i := y.toNat) rfl rfl rfl (by omega) (by rw [List.length_map]; omega) Try.underlying32 hi3 hs3 rfl Taken.no) rfl rfl ?_
 refine WH.val (O.ld1 (PtI.ofU (PtU.el rfl rfl (row_get (by omega)))) rfl Try.underlying3 rfl rfl Taken.no) rfl rfl ?_
 refine WH.val (O.det (fun _ => G.R.mv (G.R.min2 rfl rfl) (congrArg (Value.int .i64) (show _ = ((min l[x.toNat]! l[y.toNat]! : Nat) : Int) by omega))) rfl Taken.no) rfl rfl ?_
 refine WH.mv rfl rfl rfl (WH.mv rfl rfl rfl ?_)
 refine WH.val (O.idx_own (i := x.toNat) rfl rfl rfl (by omega) (by rw [List.length_map]; omega) Try.underlying32 hi3 hs3 rfl Taken.no) rfl rfl ?_
 refine WH.val (O.ld1 (PtI.ofU (PtU.el rfl rfl (row_get (by omega)))) rfl Try.underlying3 rfl rfl Taken.no) rfl rfl ?_
 refine WH.mv rfl rfl rfl (WH.mv rfl rfl rfl ?_)
 refine WH.val (O.idx_own (i := y.toNat) rfl rfl rfl (by omega) (by rw [List.length_map]; omega) Try.underlying32 hi3 hs3 rfl Taken.no) rfl rfl ?_
 refine WH.val (O.ld1 (PtI.ofU (PtU.el rfl rfl (row_get (by omega)))) rfl Try.underlying3 rfl rfl Taken.no) rfl rfl ?_
 refine WH.val (O.det (fun _ => G.R.mv (G.R.max2 rfl rfl) (congrArg (Value.int .i64) (show _ = ((max l[x.toNat]! l[y.toNat]! : Nat) : Int) by omega))) rfl Taken.no) rfl rfl ?_
 refine WH.val (O.assign rfl rfl Taken.no) rfl rfl ?_
 refine WH.val (O.assign rfl rfl Taken.no) rfl rfl ?_
 refine WH.nil (E.to (W.rg (SL.an rfl rfl (E.fo (W.block ?_)))))
 refine W.loopx1 (fun (k : Nat) => [(8, vI (k : Int)), (0, .own 0)]) (fun (k : Nat) => [(0, .data 3 1 ((joinP l x.toNat y.toNat k).map eN))]) (fun (k : Nat) => k ≤ l.length) (fun (k : Nat) => l.length - k) (0) (rn []) (.cons (t := 6) rfl (.cons (t := 7) rfl .nil)) .nil rfl ?_ ?_ rfl rfl ?_ ?_
 · exact (SubF.cons rfl (SubF.cons rfl SubF.nil))
 · exact (SubS.val rfl (by exact sb_data (by rw [joinP_0])) SubS.nil)
 ·skip
  omega
 intro k hinv
 have hk := hinv
 have hjl := joinP_len (l := l) (a := x.toNat) (b := y.toNat) hk
 refine W.seq (W.rg (SL.mv rfl rfl (SL.mv rfl rfl ?_)))
 refine SL.val (O.lenE (SlOf.own rfl rfl) (by first | exact List.length_map _ | rfl) Try.underlying32 rfl Taken.no) ?_
 refine SL.val (O.det (fun _ => G.R.lss rfl rfl) rfl Taken.no) ?_
 refine E.fo ?_
 first | refine W.cond_d rfl (fun hc1 => ?_) (fun hc1 => ?_) | refine W.cond_nd rfl (fun hc1 => ?_) (fun hc1 => ?_) | refine W.cond rfl (fun hc1 => ?_) (fun hc1 => ?_)
 ·skip
  have hjg := joinP_get (l := l) (a := x.toNat) (b := y.toNat) (k := k) (by omega)
  refine W.skip (E.to (W.seq (W.block (W.rg (SL.mv rfl rfl (SL.mv rfl rfl ?_))))))
  refine SL.val (O.idx_own (i := k) rfl rfl rfl (rfl) (by rw [List.length_map]; omega) Try.underlying32 hi3 hs3 rfl Taken.no) ?_
  refine SL.val (O.ld1 (PtI.ofU (PtU.el rfl rfl (row_get (by omega)))) rfl Try.underlying3 rfl rfl Taken.no) ?_
  refine SL.mv rfl rfl ?_
  refine SL.val (O.det (fun _ => G.R.eql rfl rfl) rfl Taken.no) ?_
  refine E.fo ?_
  first | refine W.cond_d rfl (fun hc2 => ?_) (fun hc2 => ?_) | refine W.cond_nd rfl (fun hc2 => ?_) (fun hc2 => ?_) | refine W.cond rfl (fun hc2 => ?_) (fun hc2 => ?_)
  ·skip
   refine W.region (SL.mv rfl rfl (SL.mv rfl rfl (SL.mv rfl rfl ?_)))
   refine SL.val (O.idx_own (i := k) rfl rfl rfl (rfl) (by rw [List.length_map]; omega) Try.underlying32 hi3 hs3 rfl Taken.no) ?_
   refine SL.effS (O.st_els (m := 1) rfl rfl rfl (us := [_]) rfl rfl (by kernel_rfl) (by simp) (row_get (by omega)) (by exact Nat.le_of_ble_eq_true rfl) rfl rfl (rows' := ((joinP l x.toNat y.toNat k).set k (min l[x.toNat]! l[y.toNat]!)).map eN) (by exact set_map rfl) Taken.no) (S' := (0, _) :: _) rfl ?_
   refine SL.nil (E.inn (E.to (W.region (SL.mv rfl rfl ?_))))
   refine SL.val (O.det (fun _ => by first | exact G.R.add64 rfl rfl (by omega) | exact G.R.add rfl rfl) rfl Taken.no) ?_
   refine SL.an rfl rfl (SL.nil ?_)
   refine E.again ((k + 1)) (rn []) ?_ ?_ rfl (fixL_spec rfl) ?_ ?_
   · exact (SubF.cons rfl (SubF.cons rfl (SubF.cons rfl (SubF.cons rfl SubF.nil))))
   · exact (SubS.val rfl (by (try dsimp only); first | exact sb_data (by rw [joinP_y (by omega) (by omega)]) | exact sb_data (by rw [joinP_no (by omega) (by omega)])) SubS.nil)
   ·try dsimp only
    omega
   · (try dsimp only); omega
  refine W.skip (E.inn (E.to (W.region (SL.mv rfl rfl ?_))))
  refine SL.val (O.det (fun _ => by first | exact G.R.add64 rfl rfl (by omega) | exact G.R.add rfl rfl) rfl Taken.no) ?_
  refine SL.an rfl rfl (SL.nil ?_)
  refine E.again ((k + 1)) (rn []) ?_ ?_ rfl (fixL_spec rfl) ?_ ?_
  · exact (SubF.cons rfl (SubF.cons rfl (SubF.cons rfl (SubF.cons rfl SubF.nil))))
  · exact (SubS.val rfl (by (try dsimp only); first | exact sb_data (by rw [joinP_y (by omega) (by omega)]) | exact sb_data (by rw [joinP_no (by omega) (by omega)])) SubS.nil)
  ·try dsimp only
   omega
  · (try dsimp only); omega
 refine W.exit (E.th (E.th (E.hit ?_)))
 refine E.fin (rs := []) (rn []) (.inr rfl) rfl .nil ?_ ?_ rfl (fixL_spec rfl)
 ·skip
  rfl
 · exact (SubS.val rfl (by exact sb_data (by rw [← joinP_n, show k = l.length by omega])) SubS.nil)

set_option maxRecDepth 8000 in
theorem alone_h {n : Nat} (hn : n ≤ 1000) :
    Con Try.prog 67 [vI (n : Int)] [] (.own 0) [(0, .data 3 1 ((List.range n).map eN))] := by
 obtain ⟨i3, hi3, hz3, hs3, hb3⟩ := hinf3
 refine Con.enterL (n := 17) Try.func67 rfl rfl rfl (fun τ w ok vs hin => ?_)
 clear hin
 refine W.rg (SL.an rfl rfl (E.fo (W.rg (SL.mv rfl rfl ?_))))
 refine SL.memS (O.make (m := n) (kk := 101) rfl rfl (by rfl) (by rfl) Try.underlying32 hi3 hz3 hs3 rfl rfl (by decide) rfl (by rw [hb3]; omega) (by omega) rfl Taken.no) rfl rfl (S' := (101, _) :: _) rfl ?_
 refine SL.an rfl rfl (E.fo (W.seq (W.rg (SL.an rfl rfl (E.fo (W.block ?_))))))
 refine W.loopx1 (fun (k : Nat) => [(4, vI (k : Int)), (3, .own 102)]) (fun (k : Nat) => [(102, .data 3 1 ((List.range k ++ List.replicate (n - k) 0).map eN))]) (fun (k : Nat) => k ≤ n) (fun (k : Nat) => n - k) (0) (rn [(102, 101)]) (.cons (t := 0) rfl (.cons (t := 2) rfl .nil)) .nil rfl ?_ ?_ rfl rfl ?_ ?_
 · exact (SubF.cons rfl (SubF.cons rfl SubF.nil))
 · exact (SubS.val rfl (by exact sb_data (by show _ = List.map eN (List.replicate n 0); rw [List.map_replicate]; rfl)) SubS.nil)
 ·skip
  omega
 intro k hinv
 have hk := hinv
 have hol : (List.range k ++ List.replicate (n - k) 0).length = n := by simp; omega
 refine W.seq (W.rg (SL.mv rfl rfl (SL.mv rfl rfl ?_)))
 refine SL.val (O.det (fun _ => G.R.lss rfl rfl) rfl Taken.no) ?_
 refine E.fo ?_
 first | refine W.cond_d rfl (fun hc1 => ?_) (fun hc1 => ?_) | refine W.cond_nd rfl (fun hc1 => ?_) (fun hc1 => ?_) | refine W.cond rfl (fun hc1 => ?_) (fun hc1 => ?_)
 ·skip
  refine W.skip (E.to (W.seq (W.block (W.region (SL.mv rfl rfl (SL.mv rfl rfl (SL.mv rfl rfl ?_)))))))
  refine SL.val (O.idx_own (i := k) rfl rfl rfl (rfl) (by rw [List.length_map]; omega) Try.underlying32 hi3 hs3 rfl Taken.no) ?_
  refine SL.effS (O.st_els (m := 1) rfl rfl rfl (us := [_]) rfl rfl (by kernel_rfl) (by simp) (row_get (by omega)) (by exact Nat.le_of_ble_eq_true rfl) rfl rfl (rows' := ((List.range k ++ List.replicate (n - k) 0).set k k).map eN) (by exact set_map rfl) Taken.no) (S' := (102, _) :: _) rfl ?_
  refine SL.nil (E.inn (E.to (W.region (SL.mv rfl rfl ?_))))
  refine SL.val (O.det (fun _ => by first | exact G.R.add64 rfl rfl (by omega) | exact G.R.add rfl rfl) rfl Taken.no) ?_
  refine SL.an rfl rfl (SL.nil ?_)
  refine E.again ((k + 1)) (rn []) ?_ ?_ rfl (fixL_spec rfl) ?_ ?_
  · exact (SubF.cons rfl (SubF.cons rfl (SubF.cons rfl (SubF.cons rfl SubF.nil))))
  · exact (SubS.val rfl (by (try dsimp only); exact sb_data (by rw [alone_s (by omega)])) SubS.nil)
  ·try dsimp only
   omega
  · (try dsimp only); omega
 refine W.exit (E.th (E.th (E.hit (E.to (W.rg (SL.mv rfl rfl (SL.an rfl rfl (E.fo (W.ret ?_)))))))))
 refine E.fin (rs := [_]) (rn [(0, 102)]) (.inl rfl) rfl (.cons (ResOne.tmp rfl) .nil) ?_ ?_ rfl (fixL_spec rfl)
 ·skip
  rfl
 · exact (SubS.val rfl (by exact sb_data (by rw [show k = n by omega, Nat.sub_self]; simp)) SubS.nil)

set_option maxRecDepth 8000 in
theorem refatoms_h {n : Nat} {ps : List Pr} {rs : List Ru} (hf : (Prob.mk (n : Int) ps rs).formed) :
    Con Try.prog 45 [vA [uI (n : Int), .sl 3 (ps.map ePr), .sl 3 (rs.map eRu)]] [] (.own 0) [(0, .data 3 1 ((atomsL n rs).map eN))] := by
 have hn2 : (n : Int) ≤ 200 := hf.2.1
 have hr4 : rs.length ≤ 400 := hf.2.2.1
 obtain ⟨i51, hi51, hz51, hs51, hb51⟩ := hinf51
 refine Con.enterL (n := 37) Try.func45 rfl rfl rfl (fun τ w ok vs hin => ?_)
 have hl0_1 := hin.lenA (i := 0) (j := 1) rfl rfl
 try rw [List.length_map] at hl0_1
 have hl0_2 := hin.lenA (i := 0) (j := 2) rfl rfl
 try rw [List.length_map] at hl0_2
 clear hin
 refine W.rg ?_
 refine SL.memS (O.box (is := [_, _, _]) 101 rfl rfl (by simp) rfl rfl Taken.no) rfl rfl (S' := (101, _) :: _) rfl ?_
 refine SL.an rfl rfl (E.fo (W.rg ?_))
 refine SL.val (O.fld_ref (o' := 0) rfl Try.underlying25 rfl (m := 0) (by kernel_rfl) rfl rfl Taken.no) ?_
 refine SL.val (O.ld1 (PtI.ref rfl rfl) rfl Try.underlying3 rfl rfl Taken.no) ?_
 refine SL.memS (O.call (rn [(0, 102)]) [] rfl rfl rfl (alone_h (n := n) (by omega)) (.cons (ArgOk.same rfl) .nil) SubS.nil rfl rfl rfl rfl rfl (.inl rfl) hcallOk67 (r' := .own 102) rfl rfl Taken.no) rfl rfl (S' := (102, .data _ _ _) :: _) rfl ?_
 refine SL.an rfl rfl (E.fo (W.seq (W.rg (SL.an rfl rfl (E.fo (W.block ?_))))))
 refine W.loopx1 (fun (k : Nat) => [(4, vI (k : Int)), (3, .own 103)]) (fun (k : Nat) => [(103, .data 3 1 ((joinsL (List.range n) (muE (rs.take k))).map eN))]) (fun (k : Nat) => k ≤ rs.length) (fun (k : Nat) => rs.length - k) (0) (rn [(103, 102)]) (.cons (t := 1) rfl (.cons (t := 2) rfl .nil)) (.cons (t := 101) rfl .nil) rfl ?_ ?_ rfl rfl ?_ ?_
 · exact (SubF.cons rfl (SubF.cons rfl SubF.nil))
 · exact (SubS.val rfl (by exact sb_data (by rw [List.take_zero]; rfl)) SubS.nil)
 ·skip
  omega
 intro k hinv
 have hk := hinv
 have hol : (joinsL (List.range n) (muE (rs.take k))).length = n := by rw [joins_len, List.length_range]
 refine W.seq (W.rg (SL.mv rfl rfl ?_))
 refine SL.val (O.fld_ref (o' := 2) rfl Try.underlying25 rfl (m := 0) (by kernel_rfl) rfl rfl Taken.no) ?_
 refine SL.val (O.ld1 (PtI.ref rfl rfl) rfl Try.underlying23 rfl rfl Taken.no) ?_
 refine SL.val (O.lenE (SlOf.fz rfl (by decide)) (by first | exact List.length_map _ | rfl) Try.underlying23 rfl Taken.no) ?_
 refine SL.val (O.det (fun _ => G.R.lss rfl rfl) rfl Taken.no) ?_
 refine E.fo ?_
 first | refine W.cond_d rfl (fun hc1 => ?_) (fun hc1 => ?_) | refine W.cond_nd rfl (fun hc1 => ?_) (fun hc1 => ?_) | refine W.cond rfl (fun hc1 => ?_) (fun hc1 => ?_)
 ·skip
  have hrk : ruOk (n : Int) rs[k]! := hf.2.2.2.2 k (by show k < rs.length; omega)
  unfold ruOk at hrk
  refine W.skip (E.to (W.seq (W.block (W.rg ?_))))
  refine SL.val (O.fld_ref (o' := 2) rfl Try.underlying25 rfl (m := 0) (by kernel_rfl) rfl rfl Taken.no) ?_
  refine SL.val (O.ld1 (PtI.ref rfl rfl) rfl Try.underlying23 rfl rfl Taken.no) ?_
  refine SL.mv rfl rfl ?_
  refine SL.val (O.idx_fz rfl rfl (rfl) (row_get (by omega)) Try.underlying23 hi51 hs51 rfl Taken.no) ?_
  refine SL.val (O.fld_fz rfl Try.underlying51 rfl (m := 0) (by kernel_rfl) rfl rfl Taken.no) ?_
  refine SL.val (O.ld1 (PtI.ofU (PtU.fz rfl)) rfl Try.underlying3 rfl rfl Taken.no) ?_
  refine SL.val (O.det (fun _ => G.R.eql rfl rfl) rfl Taken.no) ?_
  refine E.fo ?_
  first | refine W.cond_d rfl (fun hc2 => ?_) (fun hc2 => ?_) | refine W.cond_nd rfl (fun hc2 => ?_) (fun hc2 => ?_) | refine W.cond rfl (fun hc2 => ?_) (fun hc2 => ?_)
  ·skip
   refine W.draw [⟨[], [], [], [103]⟩, ⟨[], [], [], [101]⟩, ⟨[101], [], [], []⟩, ⟨[], [], [], []⟩, ⟨[], [], [], []⟩, ⟨[], [], [], []⟩, ⟨[], [], [], []⟩, ⟨[], [], [], [101]⟩, ⟨[101], [], [], []⟩, ⟨[], [], [], []⟩, ⟨[], [], [], []⟩, ⟨[], [], [], []⟩, ⟨[], [], [], []⟩, ⟨[103], [103], [], []⟩] rfl (by kernel_rfl) (by kernel_rfl) rfl rfl ?_
   refine WH.mv rfl rfl rfl ?_
   refine WH.val (O.fld_ref (o' := 2) rfl Try.underlying25 rfl (m := 0) (by kernel_rfl) rfl rfl Taken.no) rfl rfl ?_
   refine WH.val (O.ld1 (PtI.ref rfl rfl) rfl Try.underlying23 rfl rfl Taken.no) rfl rfl ?_
   refine WH.mv rfl rfl rfl ?_
   refine WH.val (O.idx_fz rfl rfl (rfl) (row_get (by omega)) Try.underlying23 hi51 hs51 rfl Taken.no) rfl rfl ?_
   refine WH.val (O.fld_fz rfl Try.underlying51 rfl (m := 0) (by kernel_rfl) rfl rfl Taken.no) rfl rfl ?_
   refine WH.val (O.ld1 (PtI.ofU (PtU.fz rfl)) rfl Try.underlying3 rfl rfl Taken.no) rfl rfl ?_
   refine WH.val (O.fld_ref (o' := 2) rfl Try.underlying25 rfl (m := 0) (by kernel_rfl) rfl rfl Taken.no) rfl rfl ?_
   refine WH.val (O.ld1 (PtI.ref rfl rfl) rfl Try.underlying23 rfl rfl Taken.no) rfl rfl ?_
   refine WH.mv rfl rfl rfl ?_
   refine WH.val (O.idx_fz rfl rfl (rfl) (row_get (by omega)) Try.underlying23 hi51 hs51 rfl Taken.no) rfl rfl ?_
   refine WH.val (O.fld_fz rfl Try.underlying51 rfl (m := 0) (by kernel_rfl) rfl rfl Taken.no) rfl rfl ?_
   refine WH.val (O.ld1 (PtI.ofU (PtU.fz rfl)) rfl Try.underlying3 rfl rfl Taken.no) rfl rfl ?_
   refine WH.memS (O.call (rn [(0, 103)]) [] rfl rfl rfl (join_h (l := (joinsL (List.range n) (muE (rs.take k)))) rs[k]!.a rs[k]!.b (by omega) (by omega) (by omega)) (.cons (ArgOk.same rfl) (.cons (ArgOk.same rfl) (.cons (ArgOk.same rfl) .nil))) (SubS.cons rfl SubS.nil) rfl rfl rfl rfl rfl (.inl rfl) hcallOk68 (r' := .tup []) rfl rfl Taken.no) rfl rfl rfl rfl rfl (S' := (103, .data _ _ _) :: _) rfl ?_
   refine WH.nil (E.inn (E.to ?_))
   refine W.pick (K:=[(1,_),(2,_),(3,_),(4,_)]) (Z:=[(101,_),(103,_)]) ⟨rfl,rfl,rfl,rfl,trivial⟩ ⟨rfl,rfl,trivial⟩ ?_
   refine W.region (SL.mv rfl rfl ?_)
   refine SL.val (O.det (fun _ => by first | exact G.R.add64 rfl rfl (by omega) | exact G.R.add rfl rfl) rfl Taken.no) ?_
   refine SL.an rfl rfl (SL.nil ?_)
   refine E.again ((k + 1)) (rn []) ?_ ?_ rfl (fixL_spec rfl) ?_ ?_
   · exact (SubF.cons rfl (SubF.cons rfl (SubF.cons rfl (SubF.cons rfl SubF.nil))))
   · exact (SubS.val rfl (by (try dsimp only); first | exact sb_data (by rw [muE_y (by omega) (by omega)]) | exact sb_data (by rw [muE_n (by omega) (by omega)])) (SubS.cons rfl SubS.nil))
   ·try dsimp only
    omega
   · (try dsimp only); omega
  refine W.skip (E.inn (E.to (W.region (SL.mv rfl rfl ?_))))
  refine SL.val (O.det (fun _ => by first | exact G.R.add64 rfl rfl (by omega) | exact G.R.add rfl rfl) rfl Taken.no) ?_
  refine SL.an rfl rfl (SL.nil ?_)
  refine E.again ((k + 1)) (rn []) ?_ ?_ rfl (fixL_spec rfl) ?_ ?_
  · exact (SubF.cons rfl (SubF.cons rfl (SubF.cons rfl (SubF.cons rfl SubF.nil))))
  · exact (SubS.val rfl (by (try dsimp only); first | exact sb_data (by rw [muE_y (by omega) (by omega)]) | exact sb_data (by rw [muE_n (by omega) (by omega)])) (SubS.cons rfl SubS.nil))
  ·try dsimp only
   omega
  · (try dsimp only); omega
 refine W.exit (E.th (E.th (E.hit (E.to (W.rg (SL.mv rfl rfl (SL.an rfl rfl (E.fo (W.ret ?_)))))))))
 refine E.fin (rs := [_]) (rn [(0, 103)]) (.inl rfl) rfl (.cons (ResOne.tmp rfl) .nil) ?_ ?_ rfl (fixL_spec rfl)
 ·skip
  rfl
 · exact (SubS.val rfl (by exact sb_data (by rw [show k = rs.length by omega, List.take_length]; rfl)) SubS.nil)

set_option maxRecDepth 8000 in
set_option maxHeartbeats 1600000 in
theorem refconn_h {n : Nat} {ps : List Pr} {rs : List Ru} {m : List Nat} (hf : (Prob.mk (n : Int) ps rs).formed) (hm : m.length = n) :
    Con Try.prog 46 [vA [uI (n : Int), .sl 3 (ps.map ePr), .sl 3 (rs.map eRu)], vL 1 (m.map eN)] [] (.own 0) [(0, .data 3 1 ((connL n ps rs m).map eN))] := by
 have hn2 : (n : Int) ≤ 200 := hf.2.1
 have hr4 : rs.length ≤ 400 := hf.2.2.1
 obtain ⟨i3, hi3, hz3, hs3, hb3⟩ := hinf3
 obtain ⟨i51, hi51, hz51, hs51, hb51⟩ := hinf51
 obtain ⟨i64, hi64, hz64, hs64, hb64⟩ := hinf64
 refine Con.enterL (n := 82) Try.func46 rfl rfl rfl (fun τ w ok vs hin => ?_)
 have hl0_1 := hin.lenA (i := 0) (j := 1) rfl rfl
 try rw [List.length_map] at hl0_1
 have hl0_2 := hin.lenA (i := 0) (j := 2) rfl rfl
 try rw [List.length_map] at hl0_2
 have hl1 := hin.len (i := 1) rfl
 try rw [List.length_map] at hl1
 clear hin
 refine W.rg ?_
 refine SL.memS (O.box (is := [_, _, _]) 101 rfl rfl (by simp) rfl rfl Taken.no) rfl rfl (S' := (101, _) :: _) rfl ?_
 refine SL.an rfl rfl (E.fo (W.rg ?_))
 refine SL.val (O.fld_ref (o' := 0) rfl Try.underlying25 rfl (m := 0) (by kernel_rfl) rfl rfl Taken.no) ?_
 refine SL.val (O.ld1 (PtI.ref rfl rfl) rfl Try.underlying3 rfl rfl Taken.no) ?_
 refine SL.memS (O.call (rn [(0, 102)]) [] rfl rfl rfl (alone_h (n := n) (by omega)) (.cons (ArgOk.same rfl) .nil) SubS.nil rfl rfl rfl rfl rfl (.inl rfl) hcallOk67 (r' := .own 102) rfl rfl Taken.no) rfl rfl (S' := (102, .data _ _ _) :: _) rfl ?_
 refine SL.an rfl rfl (E.fo (W.seq (W.rg (SL.an rfl rfl (E.fo (W.block ?_))))))
 refine W.loopx1 (fun (k : Nat) => [(6, vI (k : Int)), (5, .own 103)]) (fun (k : Nat) => [(103, .data 3 1 ((joinsL (List.range n) (psE m (ps.take k))).map eN))]) (fun (k : Nat) => k ≤ ps.length) (fun (k : Nat) => ps.length - k) (0) (rn [(103, 102)]) (.cons (t := 1) rfl (.cons (t := 2) rfl (.cons (t := 4) rfl .nil))) (.cons (t := 101) rfl .nil) rfl ?_ ?_ rfl rfl ?_ ?_
 · exact (SubF.cons rfl (SubF.cons rfl SubF.nil))
 · exact (SubS.val rfl (by exact sb_data (by rw [List.take_zero]; rfl)) SubS.nil)
 ·skip
  omega
 intro k hinv
 have hk := hinv
 have hol : (joinsL (List.range n) (psE m (ps.take k))).length = n := by rw [joins_len, List.length_range]
 refine W.seq (W.rg (SL.mv rfl rfl ?_))
 refine SL.val (O.fld_ref (o' := 1) rfl Try.underlying25 rfl (m := 0) (by kernel_rfl) rfl rfl Taken.no) ?_
 refine SL.val (O.ld1 (PtI.ref rfl rfl) rfl Try.underlying22 rfl rfl Taken.no) ?_
 refine SL.val (O.lenE (SlOf.fz rfl (by decide)) (by first | exact List.length_map _ | rfl) Try.underlying22 rfl Taken.no) ?_
 refine SL.val (O.det (fun _ => G.R.lss rfl rfl) rfl Taken.no) ?_
 refine E.fo ?_
 first | refine W.cond_d rfl (fun hc1 => ?_) (fun hc1 => ?_) | refine W.cond_nd rfl (fun hc1 => ?_) (fun hc1 => ?_) | refine W.cond rfl (fun hc1 => ?_) (fun hc1 => ?_)
 ·skip
  have hpk : prOk (n : Int) ps[k]! := (hf.2.2.2.1 k (by show k < ps.length; omega)).1
  unfold prOk at hpk
  refine W.skip (E.to (W.seq (W.block (W.rg ?_))))
  refine SL.val (O.fld_ref (o' := 1) rfl Try.underlying25 rfl (m := 0) (by kernel_rfl) rfl rfl Taken.no) ?_
  refine SL.val (O.ld1 (PtI.ref rfl rfl) rfl Try.underlying22 rfl rfl Taken.no) ?_
  refine SL.mv rfl rfl ?_
  refine SL.val (O.idx_fz rfl rfl (rfl) (row_get (by omega)) Try.underlying22 hi64 hs64 rfl Taken.no) ?_
  refine SL.val (O.ldU (m := 3) (PtU.fz rfl) rfl Try.underlying64 rfl (by kernel_rfl) rfl Taken.no) ?_
  refine SL.memS (O.alloc (z := .agg #[.int .i64 0, .int .i64 0, .int .i64 0]) (is := [.u (.sc (.int .i64 0)), .u (.sc (.int .i64 0)), .u (.sc (.int .i64 0))]) 104 (by kernel_rfl) rfl rfl rfl Taken.no) rfl rfl (S' := (104, _) :: _) rfl ?_
  refine SL.effS (O.st_ref (m := 3) rfl rfl rfl (js := [_, _, _]) rfl rfl (by kernel_rfl) (by simp) (Nat.le_of_ble_eq_true rfl) rfl (is' := [_, _, _]) rfl Taken.no) (S' := (104, _) :: _) rfl ?_
  refine E.fo (W.seq ?_)
  refine W.draw [⟨[], [], [], [104]⟩, ⟨[104], [], [], []⟩, ⟨[], [], [], []⟩, ⟨[], [], [], []⟩, ⟨[], [], [], []⟩, ⟨[], [], [], [104]⟩, ⟨[104], [], [], []⟩, ⟨[], [], [], []⟩, ⟨[], [], [], []⟩, ⟨[], [], [], []⟩, ⟨[], [], [], [104]⟩, ⟨[104], [], [], []⟩, ⟨[], [], [], []⟩, ⟨[], [], [], []⟩, ⟨[], [], [], []⟩, ⟨[], [], [], []⟩] rfl (by kernel_rfl) (by kernel_rfl) rfl rfl ?_
  refine WH.val (O.fld_ref (o' := 2) rfl Try.underlying64 rfl (m := 0) (by kernel_rfl) rfl rfl Taken.no) rfl rfl ?_
  refine WH.val (O.ld1 (PtI.ref rfl rfl) rfl Try.underlying3 rfl rfl Taken.no) rfl rfl ?_
  refine WH.val (O.det (fun _ => G.R.gtr rfl rfl) rfl Taken.no) rfl rfl ?_
  refine WH.mv rfl rfl rfl ?_
  refine WH.case (j := 3) (g := 28) (want := true) rfl rfl (fun hg2 => ?_) (fun hg2 => ?_)
  ·skip
   first | have hg2p := G.gA1 hg2 | have hg2p := G.gA2 hg2 | have hg2p := hg2
   refine WH.val (O.move rfl rfl (Taken.yes rfl rfl hg2)) rfl rfl ?_
   refine WH.val (O.fld_ref (o' := 0) rfl Try.underlying64 rfl (m := 0) (by kernel_rfl) rfl rfl (Taken.yes rfl rfl hg2)) rfl rfl ?_
   refine WH.val (O.ld1 (PtI.ref rfl rfl) rfl Try.underlying3 rfl rfl (Taken.yes rfl rfl hg2)) rfl rfl ?_
   refine WH.val (O.idx_fz (i := ps[k]!.a.toNat) rfl rfl (by omega) (row_get (by omega)) Try.underlying32 hi3 hs3 rfl (Taken.yes rfl rfl hg2)) rfl rfl ?_
   refine WH.val (O.ld1 (PtI.ofU (PtU.fz rfl)) rfl Try.underlying3 rfl rfl (Taken.yes rfl rfl hg2)) rfl rfl ?_
   refine WH.val (O.move rfl rfl (Taken.yes rfl rfl hg2)) rfl rfl ?_
   refine WH.val (O.fld_ref (o' := 1) rfl Try.underlying64 rfl (m := 0) (by kernel_rfl) rfl rfl (Taken.yes rfl rfl hg2)) rfl rfl ?_
   refine WH.val (O.ld1 (PtI.ref rfl rfl) rfl Try.underlying3 rfl rfl (Taken.yes rfl rfl hg2)) rfl rfl ?_
   refine WH.val (O.idx_fz (i := ps[k]!.b.toNat) rfl rfl (by omega) (row_get (by omega)) Try.underlying32 hi3 hs3 rfl (Taken.yes rfl rfl hg2)) rfl rfl ?_
   refine WH.val (O.ld1 (PtI.ofU (PtU.fz rfl)) rfl Try.underlying3 rfl rfl (Taken.yes rfl rfl hg2)) rfl rfl ?_
   refine WH.val (O.det (fun _ => G.R.eql rfl rfl) rfl (Taken.yes rfl rfl hg2)) rfl rfl ?_
   refine WH.val (O.pick_t rfl hg2 rfl rfl Taken.no) rfl rfl ?_
   refine WH.nil (E.to ?_)
   refine W.pick (K:=[(1,_),(2,_),(4,_),(5,_),(6,_),(7,_),(40,_)]) (Z:=[(101,_),(103,_),(104,_)]) ⟨rfl,rfl,rfl,rfl,rfl,rfl,rfl,trivial⟩ ⟨rfl,rfl,rfl,trivial⟩ ?_
   first | refine W.cond_d rfl (fun hc3 => ?_) (fun hc3 => ?_) | refine W.cond_nd rfl (fun hc3 => ?_) (fun hc3 => ?_) | refine W.cond rfl (fun hc3 => ?_) (fun hc3 => ?_)
   ·skip
    refine W.region (SL.mv rfl rfl ?_)
    refine SL.val (O.fld_ref (o' := 0) rfl Try.underlying64 rfl (m := 0) (by kernel_rfl) rfl rfl Taken.no) ?_
    refine SL.val (O.ld1 (PtI.ref rfl rfl) rfl Try.underlying3 rfl rfl Taken.no) ?_
    refine SL.val (O.fld_ref (o' := 1) rfl Try.underlying64 rfl (m := 0) (by kernel_rfl) rfl rfl Taken.no) ?_
    refine SL.val (O.ld1 (PtI.ref rfl rfl) rfl Try.underlying3 rfl rfl Taken.no) ?_
    refine SL.memS (O.call (rn [(0, 103)]) [] rfl rfl rfl (join_h (l := (joinsL (List.range n) (psE m (ps.take k)))) ps[k]!.a ps[k]!.b (by omega) (by omega) (by omega)) (.cons (ArgOk.same rfl) (.cons (ArgOk.same rfl) (.cons (ArgOk.same rfl) .nil))) (SubS.cons rfl SubS.nil) rfl rfl rfl rfl rfl (.inl rfl) hcallOk68 (r' := .tup []) rfl rfl Taken.no) rfl rfl (S' := (103, .data _ _ _) :: _) rfl ?_
    refine SL.nil (E.inn (E.to (W.region (SL.mv rfl rfl ?_))))
    refine SL.val (O.det (fun _ => by first | exact G.R.add64 rfl rfl (by omega) | exact G.R.add rfl rfl) rfl Taken.no) ?_
    refine SL.an rfl rfl (SL.nil ?_)
    refine E.again ((k + 1)) (rn []) ?_ ?_ rfl (fixL_spec rfl) ?_ ?_
    · exact (SubF.cons rfl (SubF.cons rfl (SubF.cons rfl (SubF.cons rfl (SubF.cons rfl SubF.nil)))))
    · exact (SubS.val rfl (by (try dsimp only); first | exact sb_data (by rw [psE_y (by omega) ⟨by omega, by omega⟩]) | exact sb_data (by rw [psE_n (by omega) (fun q => by have := q.1; have := q.2; omega)])) (SubS.cons rfl SubS.nil))
    ·try dsimp only
     omega
    · (try dsimp only); omega
   refine W.skip (E.inn (E.to (W.region (SL.mv rfl rfl ?_))))
   refine SL.val (O.det (fun _ => by first | exact G.R.add64 rfl rfl (by omega) | exact G.R.add rfl rfl) rfl Taken.no) ?_
   refine SL.an rfl rfl (SL.nil ?_)
   refine E.again ((k + 1)) (rn []) ?_ ?_ rfl (fixL_spec rfl) ?_ ?_
   · exact (SubF.cons rfl (SubF.cons rfl (SubF.cons rfl (SubF.cons rfl (SubF.cons rfl SubF.nil)))))
   · exact (SubS.val rfl (by (try dsimp only); first | exact sb_data (by rw [psE_y (by omega) ⟨by omega, by omega⟩]) | exact sb_data (by rw [psE_n (by omega) (fun q => by have := q.1; have := q.2; omega)])) (SubS.cons rfl SubS.nil))
   ·try dsimp only
    omega
   · (try dsimp only); omega
  first | have hg2p := G.gA5 hg2 | have hg2p := G.gA6 hg2 | have hg2p := hg2
  refine WH.sk rfl rfl rfl hg2 (WH.sk rfl rfl rfl hg2 (WH.sk rfl rfl rfl hg2 (WH.sk rfl rfl rfl hg2 (WH.sk rfl rfl rfl hg2 (WH.sk rfl rfl rfl hg2 (WH.sk rfl rfl rfl hg2 (WH.sk rfl rfl rfl hg2 (WH.sk rfl rfl rfl hg2 (WH.sk rfl rfl rfl hg2 (WH.sk rfl rfl rfl hg2 ?_))))))))))
  refine WH.val (O.pick_f rfl (G.ne_t hg2) rfl rfl Taken.no) rfl rfl ?_
  refine WH.nil (E.to ?_)
  refine W.pick (K:=[(1,_),(2,_),(4,_),(5,_),(6,_),(7,_),(40,_)]) (Z:=[(101,_),(103,_),(104,_)]) ⟨rfl,rfl,rfl,rfl,rfl,rfl,rfl,trivial⟩ ⟨rfl,rfl,rfl,trivial⟩ ?_
  refine W.cond_f rfl ?_
  refine W.skip (E.inn (E.to (W.region (SL.mv rfl rfl ?_))))
  refine SL.val (O.det (fun _ => by first | exact G.R.add64 rfl rfl (by omega) | exact G.R.add rfl rfl) rfl Taken.no) ?_
  refine SL.an rfl rfl (SL.nil ?_)
  refine E.again ((k + 1)) (rn []) ?_ ?_ rfl (fixL_spec rfl) ?_ ?_
  · exact (SubF.cons rfl (SubF.cons rfl (SubF.cons rfl (SubF.cons rfl (SubF.cons rfl SubF.nil)))))
  · exact (SubS.val rfl (by (try dsimp only); first | exact sb_data (by rw [psE_y (by omega) ⟨by omega, by omega⟩]) | exact sb_data (by rw [psE_n (by omega) (fun q => by have := q.1; have := q.2; omega)])) (SubS.cons rfl SubS.nil))
  ·try dsimp only
   omega
  · (try dsimp only); omega
 refine W.exit (E.th (E.th (E.hit (E.to (W.seq (W.rg (SL.an rfl rfl (E.fo (W.block ?_)))))))))
 obtain rfl : k = ps.length := by omega
 refine W.loopx1 (fun (k : Nat) => [(8, vI (k : Int)), (5, .own 105)]) (fun (k : Nat) => [(105, .data 3 1 ((joinsL (joinsL (List.range n) (psE m ps)) (rsE m (rs.take k))).map eN))]) (fun (k : Nat) => k ≤ rs.length) (fun (k : Nat) => rs.length - k) (0) (rn [(105, 103)]) (.cons (t := 1) rfl (.cons (t := 2) rfl (.cons (t := 4) rfl .nil))) (.cons (t := 101) rfl .nil) rfl ?_ ?_ rfl rfl ?_ ?_
 · exact (SubF.cons rfl (SubF.cons rfl SubF.nil))
 · exact (SubS.val rfl (by exact sb_data (by rw [List.take_length, List.take_zero]; rfl)) SubS.nil)
 ·skip
  omega
 intro k hinv
 have hk := hinv
 have hol : (joinsL (joinsL (List.range n) (psE m ps)) (rsE m (rs.take k))).length = n := by rw [joins_len, joins_len, List.length_range]
 refine W.seq (W.rg (SL.mv rfl rfl ?_))
 refine SL.val (O.fld_ref (o' := 2) rfl Try.underlying25 rfl (m := 0) (by kernel_rfl) rfl rfl Taken.no) ?_
 refine SL.val (O.ld1 (PtI.ref rfl rfl) rfl Try.underlying23 rfl rfl Taken.no) ?_
 refine SL.val (O.lenE (SlOf.fz rfl (by decide)) (by first | exact List.length_map _ | rfl) Try.underlying23 rfl Taken.no) ?_
 refine SL.val (O.det (fun _ => G.R.lss rfl rfl) rfl Taken.no) ?_
 refine E.fo ?_
 first | refine W.cond_d rfl (fun hc4 => ?_) (fun hc4 => ?_) | refine W.cond_nd rfl (fun hc4 => ?_) (fun hc4 => ?_) | refine W.cond rfl (fun hc4 => ?_) (fun hc4 => ?_)
 ·skip
  have hrk : ruOk (n : Int) rs[k]! := hf.2.2.2.2 k (by show k < rs.length; omega)
  unfold ruOk at hrk
  refine W.skip (E.to (W.seq (W.block (W.rg ?_))))
  refine SL.val (O.fld_ref (o' := 2) rfl Try.underlying25 rfl (m := 0) (by kernel_rfl) rfl rfl Taken.no) ?_
  refine SL.val (O.ld1 (PtI.ref rfl rfl) rfl Try.underlying23 rfl rfl Taken.no) ?_
  refine SL.mv rfl rfl ?_
  refine SL.val (O.idx_fz rfl rfl (rfl) (row_get (by omega)) Try.underlying23 hi51 hs51 rfl Taken.no) ?_
  refine SL.val (O.ldU (m := 3) (PtU.fz rfl) rfl Try.underlying51 rfl (by kernel_rfl) rfl Taken.no) ?_
  refine SL.memS (O.alloc (z := .agg #[.int .i64 0, .int .i64 0, .int .i64 0]) (is := [.u (.sc (.int .i64 0)), .u (.sc (.int .i64 0)), .u (.sc (.int .i64 0))]) 106 (by kernel_rfl) rfl rfl rfl Taken.no) rfl rfl (S' := (106, _) :: _) rfl ?_
  refine SL.effS (O.st_ref (m := 3) rfl rfl rfl (js := [_, _, _]) rfl rfl (by kernel_rfl) (by simp) (Nat.le_of_ble_eq_true rfl) rfl (is' := [_, _, _]) rfl Taken.no) (S' := (106, _) :: _) rfl ?_
  refine E.fo (W.seq ?_)
  refine W.draw [⟨[], [], [], [106]⟩, ⟨[106], [], [], []⟩, ⟨[], [], [], []⟩, ⟨[], [], [], []⟩, ⟨[], [], [], []⟩, ⟨[], [], [], [106]⟩, ⟨[106], [], [], []⟩, ⟨[], [], [], []⟩, ⟨[], [], [], []⟩, ⟨[], [], [], []⟩, ⟨[], [], [], [106]⟩, ⟨[106], [], [], []⟩, ⟨[], [], [], []⟩, ⟨[], [], [], []⟩, ⟨[], [], [], []⟩, ⟨[], [], [], []⟩] rfl (by kernel_rfl) (by kernel_rfl) rfl rfl ?_
  refine WH.val (O.fld_ref (o' := 0) rfl Try.underlying51 rfl (m := 0) (by kernel_rfl) rfl rfl Taken.no) rfl rfl ?_
  refine WH.val (O.ld1 (PtI.ref rfl rfl) rfl Try.underlying3 rfl rfl Taken.no) rfl rfl ?_
  refine WH.val (O.det (fun _ => G.R.eql rfl rfl) rfl Taken.no) rfl rfl ?_
  refine WH.mv rfl rfl rfl ?_
  refine WH.case (j := 3) (g := 62) (want := true) rfl rfl (fun hg5 => ?_) (fun hg5 => ?_)
  ·skip
   first | have hg5p := G.gA1 hg5 | have hg5p := G.gA2 hg5 | have hg5p := hg5
   refine WH.val (O.move rfl rfl (Taken.yes rfl rfl hg5)) rfl rfl ?_
   refine WH.val (O.fld_ref (o' := 1) rfl Try.underlying51 rfl (m := 0) (by kernel_rfl) rfl rfl (Taken.yes rfl rfl hg5)) rfl rfl ?_
   refine WH.val (O.ld1 (PtI.ref rfl rfl) rfl Try.underlying3 rfl rfl (Taken.yes rfl rfl hg5)) rfl rfl ?_
   refine WH.val (O.idx_fz (i := rs[k]!.a.toNat) rfl rfl (by omega) (row_get (by omega)) Try.underlying32 hi3 hs3 rfl (Taken.yes rfl rfl hg5)) rfl rfl ?_
   refine WH.val (O.ld1 (PtI.ofU (PtU.fz rfl)) rfl Try.underlying3 rfl rfl (Taken.yes rfl rfl hg5)) rfl rfl ?_
   refine WH.val (O.move rfl rfl (Taken.yes rfl rfl hg5)) rfl rfl ?_
   refine WH.val (O.fld_ref (o' := 2) rfl Try.underlying51 rfl (m := 0) (by kernel_rfl) rfl rfl (Taken.yes rfl rfl hg5)) rfl rfl ?_
   refine WH.val (O.ld1 (PtI.ref rfl rfl) rfl Try.underlying3 rfl rfl (Taken.yes rfl rfl hg5)) rfl rfl ?_
   refine WH.val (O.idx_fz (i := rs[k]!.b.toNat) rfl rfl (by omega) (row_get (by omega)) Try.underlying32 hi3 hs3 rfl (Taken.yes rfl rfl hg5)) rfl rfl ?_
   refine WH.val (O.ld1 (PtI.ofU (PtU.fz rfl)) rfl Try.underlying3 rfl rfl (Taken.yes rfl rfl hg5)) rfl rfl ?_
   refine WH.val (O.det (fun _ => G.R.eql rfl rfl) rfl (Taken.yes rfl rfl hg5)) rfl rfl ?_
   refine WH.val (O.pick_t rfl hg5 rfl rfl Taken.no) rfl rfl ?_
   refine WH.nil (E.to ?_)
   refine W.pick (K:=[(1,_),(2,_),(4,_),(5,_),(8,_),(9,_),(74,_)]) (Z:=[(101,_),(105,_),(106,_)]) ⟨rfl,rfl,rfl,rfl,rfl,rfl,rfl,trivial⟩ ⟨rfl,rfl,rfl,trivial⟩ ?_
   first | refine W.cond_d rfl (fun hc6 => ?_) (fun hc6 => ?_) | refine W.cond_nd rfl (fun hc6 => ?_) (fun hc6 => ?_) | refine W.cond rfl (fun hc6 => ?_) (fun hc6 => ?_)
   ·skip
    refine W.region (SL.mv rfl rfl ?_)
    refine SL.val (O.fld_ref (o' := 1) rfl Try.underlying51 rfl (m := 0) (by kernel_rfl) rfl rfl Taken.no) ?_
    refine SL.val (O.ld1 (PtI.ref rfl rfl) rfl Try.underlying3 rfl rfl Taken.no) ?_
    refine SL.val (O.fld_ref (o' := 2) rfl Try.underlying51 rfl (m := 0) (by kernel_rfl) rfl rfl Taken.no) ?_
    refine SL.val (O.ld1 (PtI.ref rfl rfl) rfl Try.underlying3 rfl rfl Taken.no) ?_
    refine SL.memS (O.call (rn [(0, 105)]) [] rfl rfl rfl (join_h (l := (joinsL (joinsL (List.range n) (psE m ps)) (rsE m (rs.take k)))) rs[k]!.a rs[k]!.b (by omega) (by omega) (by omega)) (.cons (ArgOk.same rfl) (.cons (ArgOk.same rfl) (.cons (ArgOk.same rfl) .nil))) (SubS.cons rfl SubS.nil) rfl rfl rfl rfl rfl (.inl rfl) hcallOk68 (r' := .tup []) rfl rfl Taken.no) rfl rfl (S' := (105, .data _ _ _) :: _) rfl ?_
    refine SL.nil (E.inn (E.to (W.region (SL.mv rfl rfl ?_))))
    refine SL.val (O.det (fun _ => by first | exact G.R.add64 rfl rfl (by omega) | exact G.R.add rfl rfl) rfl Taken.no) ?_
    refine SL.an rfl rfl (SL.nil ?_)
    refine E.again ((k + 1)) (rn []) ?_ ?_ rfl (fixL_spec rfl) ?_ ?_
    · exact (SubF.cons rfl (SubF.cons rfl (SubF.cons rfl (SubF.cons rfl (SubF.cons rfl SubF.nil)))))
    · exact (SubS.val rfl (by (try dsimp only); first | exact sb_data (by rw [rsE_y (by omega) ⟨by omega, by omega⟩]) | exact sb_data (by rw [rsE_n (by omega) (fun q => by have := q.1; have := q.2; omega)])) (SubS.cons rfl SubS.nil))
    ·try dsimp only
     omega
    · (try dsimp only); omega
   refine W.skip (E.inn (E.to (W.region (SL.mv rfl rfl ?_))))
   refine SL.val (O.det (fun _ => by first | exact G.R.add64 rfl rfl (by omega) | exact G.R.add rfl rfl) rfl Taken.no) ?_
   refine SL.an rfl rfl (SL.nil ?_)
   refine E.again ((k + 1)) (rn []) ?_ ?_ rfl (fixL_spec rfl) ?_ ?_
   · exact (SubF.cons rfl (SubF.cons rfl (SubF.cons rfl (SubF.cons rfl (SubF.cons rfl SubF.nil)))))
   · exact (SubS.val rfl (by (try dsimp only); first | exact sb_data (by rw [rsE_y (by omega) ⟨by omega, by omega⟩]) | exact sb_data (by rw [rsE_n (by omega) (fun q => by have := q.1; have := q.2; omega)])) (SubS.cons rfl SubS.nil))
   ·try dsimp only
    omega
   · (try dsimp only); omega
  first | have hg5p := G.gA5 hg5 | have hg5p := G.gA6 hg5 | have hg5p := hg5
  refine WH.sk rfl rfl rfl hg5 (WH.sk rfl rfl rfl hg5 (WH.sk rfl rfl rfl hg5 (WH.sk rfl rfl rfl hg5 (WH.sk rfl rfl rfl hg5 (WH.sk rfl rfl rfl hg5 (WH.sk rfl rfl rfl hg5 (WH.sk rfl rfl rfl hg5 (WH.sk rfl rfl rfl hg5 (WH.sk rfl rfl rfl hg5 (WH.sk rfl rfl rfl hg5 ?_))))))))))
  refine WH.val (O.pick_f rfl (G.ne_t hg5) rfl rfl Taken.no) rfl rfl ?_
  refine WH.nil (E.to ?_)
  refine W.pick (K:=[(1,_),(2,_),(4,_),(5,_),(8,_),(9,_),(74,_)]) (Z:=[(101,_),(105,_),(106,_)]) ⟨rfl,rfl,rfl,rfl,rfl,rfl,rfl,trivial⟩ ⟨rfl,rfl,rfl,trivial⟩ ?_
  refine W.cond_f rfl ?_
  refine W.skip (E.inn (E.to (W.region (SL.mv rfl rfl ?_))))
  refine SL.val (O.det (fun _ => by first | exact G.R.add64 rfl rfl (by omega) | exact G.R.add rfl rfl) rfl Taken.no) ?_
  refine SL.an rfl rfl (SL.nil ?_)
  refine E.again ((k + 1)) (rn []) ?_ ?_ rfl (fixL_spec rfl) ?_ ?_
  · exact (SubF.cons rfl (SubF.cons rfl (SubF.cons rfl (SubF.cons rfl (SubF.cons rfl SubF.nil)))))
  · exact (SubS.val rfl (by (try dsimp only); first | exact sb_data (by rw [rsE_y (by omega) ⟨by omega, by omega⟩]) | exact sb_data (by rw [rsE_n (by omega) (fun q => by have := q.1; have := q.2; omega)])) (SubS.cons rfl SubS.nil))
  ·try dsimp only
   omega
  · (try dsimp only); omega
 refine W.exit (E.th (E.th (E.hit (E.to (W.rg (SL.mv rfl rfl (SL.an rfl rfl (E.fo (W.ret ?_)))))))))
 refine E.fin (rs := [_]) (rn [(0, 105)]) (.inl rfl) rfl (.cons (ResOne.tmp rfl) .nil) ?_ ?_ rfl (fixL_spec rfl)
 ·skip
  rfl
 · exact (SubS.val rfl (by exact sb_data (by rw [show k = rs.length by omega, List.take_length]; rfl)) SubS.nil)

set_option maxRecDepth 8000 in
theorem refapart_h {n : Nat} {ps : List Pr} {rs : List Ru} {m : List Nat} (hf : (Prob.mk (n : Int) ps rs).formed) (hm : m.length = n) :
    Con Try.prog 44 [vA [uI (n : Int), .sl 3 (ps.map ePr), .sl 3 (rs.map eRu)], vL 1 (m.map eN)] [] (vB (!clash (barL rs) m)) [] := by
 have hn2 : (n : Int) ≤ 200 := hf.2.1
 have hr4 : rs.length ≤ 400 := hf.2.2.1
 obtain ⟨i3, hi3, hz3, hs3, hb3⟩ := hinf3
 obtain ⟨i51, hi51, hz51, hs51, hb51⟩ := hinf51
 refine Con.enterL (n := 41) Try.func44 rfl rfl rfl (fun τ w ok vs hin => ?_)
 have hl0_1 := hin.lenA (i := 0) (j := 1) rfl rfl
 try rw [List.length_map] at hl0_1
 have hl0_2 := hin.lenA (i := 0) (j := 2) rfl rfl
 try rw [List.length_map] at hl0_2
 have hl1 := hin.len (i := 1) rfl
 try rw [List.length_map] at hl1
 clear hin
 refine W.rg ?_
 refine SL.memS (O.box (is := [_, _, _]) 101 rfl rfl (by simp) rfl rfl Taken.no) rfl rfl (S' := (101, _) :: _) rfl ?_
 refine SL.an rfl rfl (E.fo (W.seq (W.rg (SL.an rfl rfl (E.fo (W.block ?_))))))
 refine W.loopx1 (fun (k : Nat) => [(5, vI (k : Int))]) (fun (k : Nat) => []) (fun (k : Nat) => k ≤ rs.length ∧ clash (barL (rs.take k)) m = false) (fun (k : Nat) => rs.length - k) (0) (rn []) (.cons (t := 1) rfl (.cons (t := 2) rfl .nil)) (.cons (t := 101) rfl .nil) rfl ?_ ?_ rfl rfl ?_ ?_
 · exact (SubF.cons rfl SubF.nil)
 · exact SubS.nil
 ·skip
  exact ⟨by omega, by rw [List.take_zero]; rfl⟩
 intro k hinv
 obtain ⟨hk, hp⟩ := hinv
 refine W.seq (W.rg (SL.mv rfl rfl ?_))
 refine SL.val (O.fld_ref (o' := 2) rfl Try.underlying25 rfl (m := 0) (by kernel_rfl) rfl rfl Taken.no) ?_
 refine SL.val (O.ld1 (PtI.ref rfl rfl) rfl Try.underlying23 rfl rfl Taken.no) ?_
 refine SL.val (O.lenE (SlOf.fz rfl (by decide)) (by first | exact List.length_map _ | rfl) Try.underlying23 rfl Taken.no) ?_
 refine SL.val (O.det (fun _ => G.R.lss rfl rfl) rfl Taken.no) ?_
 refine E.fo ?_
 first | refine W.cond_d rfl (fun hc1 => ?_) (fun hc1 => ?_) | refine W.cond_nd rfl (fun hc1 => ?_) (fun hc1 => ?_) | refine W.cond rfl (fun hc1 => ?_) (fun hc1 => ?_)
 ·skip
  have hrk : ruOk (n : Int) rs[k]! := hf.2.2.2.2 k (by show k < rs.length; omega)
  unfold ruOk at hrk
  refine W.skip (E.to (W.seq (W.block (W.seq ?_))))
  refine W.draw [⟨[], [], [], [101]⟩, ⟨[101], [], [], []⟩, ⟨[], [], [], []⟩, ⟨[], [], [], []⟩, ⟨[], [], [], []⟩, ⟨[], [], [], []⟩, ⟨[], [], [], []⟩, ⟨[], [], [], []⟩, ⟨[], [], [], []⟩, ⟨[], [], [], [101]⟩, ⟨[101], [], [], []⟩, ⟨[], [], [], []⟩, ⟨[], [], [], []⟩, ⟨[], [], [], []⟩, ⟨[], [], [], []⟩, ⟨[], [], [], []⟩, ⟨[], [], [], []⟩, ⟨[], [], [], []⟩, ⟨[], [], [], [101]⟩, ⟨[101], [], [], []⟩, ⟨[], [], [], []⟩, ⟨[], [], [], []⟩, ⟨[], [], [], []⟩, ⟨[], [], [], []⟩, ⟨[], [], [], []⟩, ⟨[], [], [], []⟩, ⟨[], [], [], []⟩, ⟨[], [], [], []⟩] rfl (by kernel_rfl) (by kernel_rfl) rfl rfl ?_
  refine WH.val (O.fld_ref (o' := 2) rfl Try.underlying25 rfl (m := 0) (by kernel_rfl) rfl rfl Taken.no) rfl rfl ?_
  refine WH.val (O.ld1 (PtI.ref rfl rfl) rfl Try.underlying23 rfl rfl Taken.no) rfl rfl ?_
  refine WH.mv rfl rfl rfl ?_
  refine WH.val (O.idx_fz rfl rfl (rfl) (row_get (by omega)) Try.underlying23 hi51 hs51 rfl Taken.no) rfl rfl ?_
  refine WH.val (O.fld_fz rfl Try.underlying51 rfl (m := 0) (by kernel_rfl) rfl rfl Taken.no) rfl rfl ?_
  refine WH.val (O.ld1 (PtI.ofU (PtU.fz rfl)) rfl Try.underlying3 rfl rfl Taken.no) rfl rfl ?_
  refine WH.val (O.det (fun _ => G.R.eql rfl rfl) rfl Taken.no) rfl rfl ?_
  refine WH.mv rfl rfl rfl ?_
  refine WH.case (j := 7) (g := 20) (want := true) rfl rfl (fun hg2 => ?_) (fun hg2 => ?_)
  ·skip
   first | have hg2p := G.gA1 hg2 | have hg2p := G.gA2 hg2 | have hg2p := hg2
   refine WH.val (O.move rfl rfl (Taken.yes rfl rfl hg2)) rfl rfl ?_
   refine WH.val (O.fld_ref (o' := 2) rfl Try.underlying25 rfl (m := 0) (by kernel_rfl) rfl rfl (Taken.yes rfl rfl hg2)) rfl rfl ?_
   refine WH.val (O.ld1 (PtI.ref rfl rfl) rfl Try.underlying23 rfl rfl (Taken.yes rfl rfl hg2)) rfl rfl ?_
   refine WH.val (O.move rfl rfl (Taken.yes rfl rfl hg2)) rfl rfl ?_
   refine WH.val (O.idx_fz rfl rfl (rfl) (row_get (by omega)) Try.underlying23 hi51 hs51 rfl (Taken.yes rfl rfl hg2)) rfl rfl ?_
   refine WH.val (O.fld_fz rfl Try.underlying51 rfl (m := 0) (by kernel_rfl) rfl rfl (Taken.yes rfl rfl hg2)) rfl rfl ?_
   refine WH.val (O.ld1 (PtI.ofU (PtU.fz rfl)) rfl Try.underlying3 rfl rfl (Taken.yes rfl rfl hg2)) rfl rfl ?_
   refine WH.val (O.idx_fz (i := rs[k]!.a.toNat) rfl rfl (by omega) (row_get (by omega)) Try.underlying32 hi3 hs3 rfl (Taken.yes rfl rfl hg2)) rfl rfl ?_
   refine WH.val (O.ld1 (PtI.ofU (PtU.fz rfl)) rfl Try.underlying3 rfl rfl (Taken.yes rfl rfl hg2)) rfl rfl ?_
   refine WH.val (O.move rfl rfl (Taken.yes rfl rfl hg2)) rfl rfl ?_
   refine WH.val (O.fld_ref (o' := 2) rfl Try.underlying25 rfl (m := 0) (by kernel_rfl) rfl rfl (Taken.yes rfl rfl hg2)) rfl rfl ?_
   refine WH.val (O.ld1 (PtI.ref rfl rfl) rfl Try.underlying23 rfl rfl (Taken.yes rfl rfl hg2)) rfl rfl ?_
   refine WH.val (O.move rfl rfl (Taken.yes rfl rfl hg2)) rfl rfl ?_
   refine WH.val (O.idx_fz (i := k) rfl rfl (rfl) (row_get (by omega)) Try.underlying23 hi51 hs51 rfl (Taken.yes rfl rfl hg2)) rfl rfl ?_
   refine WH.val (O.fld_fz rfl Try.underlying51 rfl (m := 0) (by kernel_rfl) rfl rfl (Taken.yes rfl rfl hg2)) rfl rfl ?_
   refine WH.val (O.ld1 (PtI.ofU (PtU.fz rfl)) rfl Try.underlying3 rfl rfl (Taken.yes rfl rfl hg2)) rfl rfl ?_
   refine WH.val (O.idx_fz (i := rs[k]!.b.toNat) rfl rfl (by omega) (row_get (by omega)) Try.underlying32 hi3 hs3 rfl (Taken.yes rfl rfl hg2)) rfl rfl ?_
   refine WH.val (O.ld1 (PtI.ofU (PtU.fz rfl)) rfl Try.underlying3 rfl rfl (Taken.yes rfl rfl hg2)) rfl rfl ?_
   refine WH.val (O.det (fun _ => G.R.eql rfl rfl) rfl (Taken.yes rfl rfl hg2)) rfl rfl ?_
   refine WH.val (O.pick_t rfl hg2 rfl rfl Taken.no) rfl rfl ?_
   refine WH.nil (E.to ?_)
   refine W.pick (K:=[(1,_),(2,_),(5,_),(40,_)]) (Z:=[(101,_)]) ⟨rfl,rfl,rfl,rfl,trivial⟩ ⟨rfl,trivial⟩ ?_
   first | refine W.cond_d rfl (fun hc3 => ?_) (fun hc3 => ?_) | refine W.cond_nd rfl (fun hc3 => ?_) (fun hc3 => ?_) | refine W.cond rfl (fun hc3 => ?_) (fun hc3 => ?_)
   ·skip
    refine W.rg (SL.an rfl rfl (E.fo (W.ret ?_)))
    refine E.inr ?_
    refine E.thr (E.thr ?_)
    refine E.inr ?_
    refine E.thr ?_
    refine E.fin (rs := [_]) (rn []) (.inl rfl) rfl (.cons (ResOne.tmp rfl) .nil) ?_ ?_ rfl (fixL_spec rfl)
    ·skip
     exact iv_bool (by rw [clash_here (k := k) (m := m) (by omega) (by omega) (by omega)]; rfl)
    · exact SubS.nil
   refine W.skip (E.inn (E.to (W.region (SL.mv rfl rfl ?_))))
   refine SL.val (O.det (fun _ => by first | exact G.R.add64 rfl rfl (by omega) | exact G.R.add rfl rfl) rfl Taken.no) ?_
   refine SL.an rfl rfl (SL.nil ?_)
   refine E.again ((k + 1)) (rn []) ?_ ?_ rfl (fixL_spec rfl) ?_ ?_
   · exact (SubF.cons rfl (SubF.cons rfl (SubF.cons rfl SubF.nil)))
   · exact (SubS.cons rfl SubS.nil)
   ·try dsimp only
    exact ⟨by omega, clash_s (by omega) hp (fun e => by unfold clashR; exact decide_eq_false (by omega))⟩
   · (try dsimp only); omega
  first | have hg2p := G.gA5 hg2 | have hg2p := G.gA6 hg2 | have hg2p := hg2
  refine WH.sk rfl rfl rfl hg2 (WH.sk rfl rfl rfl hg2 (WH.sk rfl rfl rfl hg2 (WH.sk rfl rfl rfl hg2 (WH.sk rfl rfl rfl hg2 (WH.sk rfl rfl rfl hg2 (WH.sk rfl rfl rfl hg2 (WH.sk rfl rfl rfl hg2 (WH.sk rfl rfl rfl hg2 (WH.sk rfl rfl rfl hg2 (WH.sk rfl rfl rfl hg2 (WH.sk rfl rfl rfl hg2 (WH.sk rfl rfl rfl hg2 (WH.sk rfl rfl rfl hg2 (WH.sk rfl rfl rfl hg2 (WH.sk rfl rfl rfl hg2 (WH.sk rfl rfl rfl hg2 (WH.sk rfl rfl rfl hg2 (WH.sk rfl rfl rfl hg2 ?_))))))))))))))))))
  refine WH.val (O.pick_f rfl (G.ne_t hg2) rfl rfl Taken.no) rfl rfl ?_
  refine WH.nil (E.to ?_)
  refine W.pick (K:=[(1,_),(2,_),(5,_),(40,_)]) (Z:=[(101,_)]) ⟨rfl,rfl,rfl,rfl,trivial⟩ ⟨rfl,trivial⟩ ?_
  refine W.cond_f rfl ?_
  refine W.skip (E.inn (E.to (W.region (SL.mv rfl rfl ?_))))
  refine SL.val (O.det (fun _ => by first | exact G.R.add64 rfl rfl (by omega) | exact G.R.add rfl rfl) rfl Taken.no) ?_
  refine SL.an rfl rfl (SL.nil ?_)
  refine E.again ((k + 1)) (rn []) ?_ ?_ rfl (fixL_spec rfl) ?_ ?_
  · exact (SubF.cons rfl (SubF.cons rfl (SubF.cons rfl SubF.nil)))
  · exact (SubS.cons rfl SubS.nil)
  ·try dsimp only
   exact ⟨by omega, clash_s (by omega) hp (fun e => by unfold clashR; exact decide_eq_false (by omega))⟩
  · (try dsimp only); omega
 refine W.exit (E.th (E.th (E.hit (E.to (W.rg (SL.an rfl rfl (E.fo (W.ret ?_))))))))
 refine E.fin (rs := [_]) (rn []) (.inl rfl) rfl (.cons (ResOne.tmp rfl) .nil) ?_ ?_ rfl (fixL_spec rfl)
 ·skip
  exact iv_bool (by rw [show k = rs.length by omega, List.take_length] at hp; rw [hp]; rfl)
 · exact SubS.nil

end Go.Proofs.Ytbkbeplddddgeaa
end
section
namespace Go.D33
open Go Go.RowKit Go.H
theorem upd2_iff {f : Nat → Nat → Bool} {a b i j : Nat} : upd2 f a b true i j = true ↔ ((i = a ∧ j = b) ∨ (i = b ∧ j = a)) ∨ f i j = true := by
  unfold upd2
  split
  · rename_i h; exact ⟨fun _ => .inl h, fun _ => rfl⟩
  · rename_i h; exact ⟨.inr, fun q => q.resolve_left h⟩
theorem mF_iff : ∀ (rs : List Ru) {f : Nat → Nat → Bool} {i j : Nat}, mF f rs i j = true ↔ f i j = true ∨ ∃ r ∈ rs, r.k ≠ 2 ∧ ((i = r.a.toNat ∧ j = r.b.toNat) ∨ (i = r.b.toNat ∧ j = r.a.toNat))
  | [], f, i, j => by simp [mF]
  | r :: rs, f, i, j => by
    show mF (addM f r) rs i j = true ↔ _
    rw [mF_iff rs]
    by_cases h : r.k = 2
    · rw [addM_n h]
      refine or_congr Iff.rfl ⟨fun ⟨x, hx, q⟩ => ⟨x, List.mem_cons_of_mem _ hx, q⟩, fun ⟨x, hx, q⟩ => ?_⟩
      rcases List.mem_cons.1 hx with e | hx
      · subst e; exact absurd h q.1
      · exact ⟨x, hx, q⟩
    · rw [addM_y h, upd2_iff]
      constructor
      · rintro ((q | q) | ⟨x, hx, q⟩)
        · exact .inr ⟨r, List.mem_cons_self, h, q⟩
        · exact .inl q
        · exact .inr ⟨x, List.mem_cons_of_mem _ hx, q⟩
      · rintro (q | ⟨x, hx, q⟩)
        · exact .inl (.inr q)
        · rcases List.mem_cons.1 hx with e | hx
          · subst e; exact .inl (.inl q.2)
          · exact .inr ⟨x, hx, q⟩
theorem lF_iff {ps : List Pr} {i j : Nat} : lF ps i j = true ↔ ∃ x ∈ ps, 0 < x.w ∧ ((i = x.a.toNat ∧ j = x.b.toNat) ∨ (i = x.b.toNat ∧ j = x.a.toNat)) := by
  have key : ∀ (ps : List Pr) (f : Nat → Nat → Bool), ps.foldl addL f i j = true ↔ f i j = true ∨ ∃ x ∈ ps, 0 < x.w ∧ ((i = x.a.toNat ∧ j = x.b.toNat) ∨ (i = x.b.toNat ∧ j = x.a.toNat)) := by
    intro ps
    induction ps with
    | nil => intro f; simp
    | cons r ps ih =>
      intro f
      rw [List.foldl_cons, ih]
      by_cases h : 0 < r.w
      · rw [addL_y h, upd2_iff]
        constructor
        · rintro ((q | q) | ⟨x, hx, q⟩)
          · exact .inr ⟨r, List.mem_cons_self, h, q⟩
          · exact .inl q
          · exact .inr ⟨x, List.mem_cons_of_mem _ hx, q⟩
        · rintro (q | ⟨x, hx, q⟩)
          · exact .inl (.inr q)
          · rcases List.mem_cons.1 hx with e | hx
            · subst e; exact .inl (.inl q.2)
            · exact .inr ⟨x, hx, q⟩
      · rw [addL_n h]
        refine or_congr Iff.rfl ⟨fun ⟨x, hx, q⟩ => ⟨x, List.mem_cons_of_mem _ hx, q⟩, fun ⟨x, hx, q⟩ => ?_⟩
        rcases List.mem_cons.1 hx with e | hx
        · subst e; exact absurd q.1 h
        · exact ⟨x, hx, q⟩
  rw [lF, key]; simp
section
variable {n : Nat} {ps : List Pr} {rs : List Ru}
theorem ru_lt (h : (Prob.mk (n : Int) ps rs).formed) {x : Ru} (hx : x ∈ rs) : x.a.toNat < n ∧ x.b.toNat < n ∧ (x.k ≠ 2 ↔ x.k = 1) := by
  have := formed_ru h hx
  unfold ruOk at this
  have h2 : (Prob.mk (n : Int) ps rs).n = (n : Int) := rfl
  rw [h2] at this
  omega
theorem pr_lt (h : (Prob.mk (n : Int) ps rs).formed) {x : Pr} (hx : x ∈ ps) : x.a.toNat < n ∧ x.b.toNat < n := by
  have := formed_pr h hx
  unfold prOk at this
  have h2 : (Prob.mk (n : Int) ps rs).n = (n : Int) := rfl
  rw [h2] at this
  omega
theorem mem_muE {e : Nat × Nat} : e ∈ muE rs ↔ ∃ r ∈ rs, r.k = 1 ∧ e = (r.a.toNat, r.b.toNat) := by
  unfold muE
  rw [List.mem_map]
  constructor
  · rintro ⟨r, hr, rfl⟩
    have := List.mem_filter.1 hr
    exact ⟨r, this.1, of_decide_eq_true this.2, rfl⟩
  · rintro ⟨r, hr, e1, rfl⟩
    exact ⟨r, List.mem_filter.2 ⟨hr, decide_eq_true e1⟩, rfl⟩
theorem mem_psE {m : List Nat} {e : Nat × Nat} : e ∈ psE m ps ↔ ∃ x ∈ ps, (0 < x.w ∧ m[x.a.toNat]! = m[x.b.toNat]!) ∧ e = (x.a.toNat, x.b.toNat) := by
  unfold psE
  rw [List.mem_map]
  constructor
  · rintro ⟨r, hr, rfl⟩
    have := List.mem_filter.1 hr
    exact ⟨r, this.1, of_decide_eq_true this.2, rfl⟩
  · rintro ⟨r, hr, e1, rfl⟩
    exact ⟨r, List.mem_filter.2 ⟨hr, decide_eq_true e1⟩, rfl⟩
theorem mem_rsE {m : List Nat} {e : Nat × Nat} : e ∈ rsE m rs ↔ ∃ x ∈ rs, (x.k = 1 ∧ m[x.a.toNat]! = m[x.b.toNat]!) ∧ e = (x.a.toNat, x.b.toNat) := by
  unfold rsE
  rw [List.mem_map]
  constructor
  · rintro ⟨r, hr, rfl⟩
    have := List.mem_filter.1 hr
    exact ⟨r, this.1, of_decide_eq_true this.2, rfl⟩
  · rintro ⟨r, hr, e1, rfl⟩
    exact ⟨r, List.mem_filter.2 ⟨hr, decide_eq_true e1⟩, rfl⟩
theorem atoms_eq (h : (Prob.mk (n : Int) ps rs).formed) : atomsL n rs = namedL n (partsL (mu rs) (List.range n)) := by
  have hb : ∀ e ∈ muE rs, e.1 < n ∧ e.2 < n := fun e he => by
    obtain ⟨r, hr, _, rfl⟩ := mem_muE.1 he
    exact ⟨(ru_lt h hr).1, (ru_lt h hr).2.1⟩
  have h1 := Comp.joins0 (n := n) hb
  have h2 := comp_parts (n := n) (mu_sym rs)
  refine h1.uniq (h2.congr (fun i j q => hb _ q) (fun i j q => ?_) fun i j q => ?_)
  · obtain ⟨r, hr, e, e2⟩ := mem_muE.1 q
    cases e2
    obtain ⟨l1, l2, l3⟩ := ru_lt h hr
    exact .base ⟨(mF_iff rs).2 (.inr ⟨r, hr, l3.2 e, .inl ⟨rfl, rfl⟩⟩), l1, l2⟩
  · obtain ⟨q1, q2, q3⟩ := q
    rcases (mF_iff rs).1 q1 with q1 | ⟨r, hr, hk, q | q⟩
    · cases q1
    · obtain ⟨rfl, rfl⟩ := q
      exact .base (mem_muE.2 ⟨r, hr, (ru_lt h hr).2.2.1 hk, rfl⟩)
    · obtain ⟨rfl, rfl⟩ := q
      exact .symm (.base (mem_muE.2 ⟨r, hr, (ru_lt h hr).2.2.1 hk, rfl⟩))
theorem conn_comp (h : (Prob.mk (n : Int) ps rs).formed) (m : List Nat) : Comp n (fun i j => (i, j) ∈ psE m ps ∨ (i, j) ∈ rsE m rs) (connL n ps rs m) := by
  have h1 := Comp.joins0 (n := n) (es := psE m ps) fun e he => by
    obtain ⟨r, hr, _, rfl⟩ := mem_psE.1 he
    exact pr_lt h hr
  exact h1.joins (es := rsE m rs) fun e he => by
    obtain ⟨r, hr, _, rfl⟩ := mem_rsE.1 he
    exact ⟨(ru_lt h hr).1, (ru_lt h hr).2.1⟩
theorem parts_eq (h : (Prob.mk (n : Int) ps rs).formed) : connL n ps rs (List.replicate n 0) = namedL n (partsL (mF (lF ps) rs) (List.range n)) := by
  have h1 := conn_comp h (List.replicate n 0)
  have h2 := comp_parts (n := n) (lk_sym ps rs)
  have hz : ∀ i j, i < n → j < n → (List.replicate n 0)[i]! = (List.replicate n 0)[j]! := fun i j hi hj => by
    rw [getElem!_pos _ i (by simpa using hi), getElem!_pos _ j (by simpa using hj), List.getElem_replicate, List.getElem_replicate]
  refine h1.uniq (h2.congr (fun i j q => h1.bnd i j q) (fun i j q => ?_) fun i j q => ?_)
  · rcases q with q | q
    · obtain ⟨x, hx, e, e2⟩ := mem_psE.1 q
      cases e2
      obtain ⟨l1, l2⟩ := pr_lt h hx
      exact .base ⟨(mF_iff rs).2 (.inl (lF_iff.2 ⟨x, hx, e.1, .inl ⟨rfl, rfl⟩⟩)), l1, l2⟩
    · obtain ⟨x, hx, e, e2⟩ := mem_rsE.1 q
      cases e2
      obtain ⟨l1, l2, l3⟩ := ru_lt h hx
      exact .base ⟨(mF_iff rs).2 (.inr ⟨x, hx, l3.2 e.1, .inl ⟨rfl, rfl⟩⟩), l1, l2⟩
  · obtain ⟨q1, q2, q3⟩ := q
    rcases (mF_iff rs).1 q1 with q1 | ⟨r, hr, hk, q | q⟩
    · obtain ⟨x, hx, hw, q | q⟩ := lF_iff.1 q1
      · obtain ⟨rfl, rfl⟩ := q
        exact .base (.inl (mem_psE.2 ⟨x, hx, ⟨hw, hz _ _ q2 q3⟩, rfl⟩))
      · obtain ⟨rfl, rfl⟩ := q
        exact .symm (.base (.inl (mem_psE.2 ⟨x, hx, ⟨hw, hz _ _ q3 q2⟩, rfl⟩)))
    · obtain ⟨rfl, rfl⟩ := q
      exact .base (.inr (mem_rsE.2 ⟨r, hr, ⟨(ru_lt h hr).2.2.1 hk, hz _ _ q2 q3⟩, rfl⟩))
    · obtain ⟨rfl, rfl⟩ := q
      exact .symm (.base (.inr (mem_rsE.2 ⟨r, hr, ⟨(ru_lt h hr).2.2.1 hk, hz _ _ q3 q2⟩, rfl⟩)))
theorem bad_eq (h : (Prob.mk (n : Int) ps rs).formed) : (Prob.mk (n : Int) ps rs).bad = clash (barL rs) (atomsL n rs) := by
  rw [atoms_eq h]; rfl
end
def addV (m : List Nat) (n : Int) (x : Pr) : Int := if m[x.a.toNat]! = m[x.b.toNat]! then n + x.w else n
def valR (m : List Nat) (ps : List Pr) : Int := ps.foldl (addV m) 0
theorem valR_s {m : List Nat} {ps : List Pr} {k : Nat} (h : k < ps.length) : valR m (ps.take (k + 1)) = addV m (valR m (ps.take k)) ps[k]! := by rw [valR, snocP h, List.foldl_append]; rfl
theorem valR_b {m : List Nat} {ps : List Pr} (hp : ∀ x ∈ ps, -1000 ≤ x.w ∧ x.w ≤ 1000) : ∀ k : Nat, k ≤ ps.length → -1000 * (k : Int) ≤ valR m (ps.take k) ∧ valR m (ps.take k) ≤ 1000 * (k : Int)
  | 0, _ => by simp [valR]
  | k + 1, h => by
    have ih := valR_b (m := m) hp k (by omega)
    have := hp ps[k]! (mem_at (by omega))
    rw [valR_s (by omega), addV]
    split <;> omega
def permR (n : Nat) (ps : List Pr) (rs : List Ru) (m : List Nat) : Prop := clash (barL rs) m = false ∧ (∀ i, i < n → m[i]! = m[(atomsL n rs)[i]!]!) ∧ connL n ps rs m = m
instance (n : Nat) (ps : List Pr) (rs : List Ru) (m : List Nat) : Decidable (permR n ps rs m) := by unfold permR; infer_instance
def permS (n : Nat) (ps : List Pr) (rs : List Ru) (l : List Int) : Prop := isPart n l ∧ permR n ps rs (l.map Int.toNat)
instance (n : Nat) (ps : List Pr) (rs : List Ru) (l : List Int) : Decidable (permS n ps rs l) := by unfold permS; infer_instance
theorem permS_cast {n : Nat} {ps : List Pr} {rs : List Ru} {m : List Nat} : permS n ps rs (m.map fun x : Nat => (x : Int)) ↔ isP n m ∧ permR n ps rs m := by
  unfold permS; rw [isPart_cast, cast_back]
def valSI (n : Nat) (ps : List Pr) (l : List Int) : Int := if isPart n l then valR (l.map Int.toNat) ps else 0
theorem valSI_y {n : Nat} {ps : List Pr} {m : List Nat} (h : isP n m) : valSI n ps (m.map fun x : Nat => (x : Int)) = valR m ps ∧ valE n (m.map fun x : Nat => (x : Int)) = 0 := by
  have hp := isPart_cast.2 h
  exact ⟨by rw [valSI, if_pos hp, cast_back], if_pos hp⟩
theorem valSI_n {n : Nat} {ps : List Pr} {l : List Int} (h : ¬ isPart n l) : valSI n ps l = 0 ∧ valE n l = 11 := ⟨if_neg h, if_neg h⟩
end Go.D33
end
section
namespace Go.Proofs.Ytbkbeplddddgeaa
open Go Go.RowKit Go.H Go.D33

theorem hcallOk44 : G.callOk Try.prog 44 = true := by kernel_rfl
theorem hcallOk45 : G.callOk Try.prog 45 = true := by kernel_rfl
theorem hcallOk60 : G.callOk Try.prog 60 = true := by kernel_rfl

set_option maxRecDepth 8000 in
set_option maxHeartbeats 3200000 in
theorem refformed_h {N : Int} {ps : List Pr} {rs : List Ru} :
    Con Try.prog 60 [vA [uI N, .sl 3 (ps.map ePr), .sl 3 (rs.map eRu)]] [] (vB (decide (Prob.mk N ps rs).formed)) [] := by
 obtain ⟨i51, hi51, hz51, hs51, hb51⟩ := hinf51
 obtain ⟨i64, hi64, hz64, hs64, hb64⟩ := hinf64
 refine Con.enterL (n := 149) Try.func60 rfl rfl rfl (fun τ w ok vs hin => ?_)
 have hl0_1 := hin.lenA (i := 0) (j := 1) rfl rfl
 try rw [List.length_map] at hl0_1
 have hl0_2 := hin.lenA (i := 0) (j := 2) rfl rfl
 try rw [List.length_map] at hl0_2
 clear hin
 refine W.rg ?_
 refine SL.memS (O.box (is := [_, _, _]) 101 rfl rfl (by simp) rfl rfl Taken.no) rfl rfl (S' := (101, _) :: _) rfl ?_
 refine SL.an rfl rfl (E.fo (W.seq (W.rg ?_)))
 refine SL.val (O.fld_ref (o' := 0) rfl Try.underlying25 rfl (m := 0) (by kernel_rfl) rfl rfl Taken.no) ?_
 refine SL.val (O.ld1 (PtI.ref rfl rfl) rfl Try.underlying3 rfl rfl Taken.no) ?_
 refine SL.val (O.det (fun _ => G.R.lss rfl rfl) rfl Taken.no) ?_
 refine SL.mv rfl rfl ?_
 refine SL.case (j := 3) (g := 10) (want := false) rfl rfl (fun hg1 => ?_) (fun hg1 => ?_)
 ·skip
  first | have hg1p := G.gA3 hg1 | have hg1p := G.gA4 hg1 | have hg1p := hg1
  refine SL.val (O.fld_ref (o' := 0) rfl Try.underlying25 rfl (m := 0) (by kernel_rfl) rfl rfl (Taken.yes rfl rfl hg1)) ?_
  refine SL.val (O.ld1 (PtI.ref rfl rfl) rfl Try.underlying3 rfl rfl (Taken.yes rfl rfl hg1)) ?_
  refine SL.val (O.det (fun _ => G.R.gtr rfl rfl) rfl (Taken.yes rfl rfl hg1)) ?_
  refine SL.val (O.pick_f rfl hg1 rfl rfl Taken.no) ?_
  refine SL.mv rfl rfl ?_
  refine SL.case (j := 8) (g := 15) (want := false) rfl rfl (fun hg2 => ?_) (fun hg2 => ?_)
  ·skip
   first | have hg2p := G.gA3 hg2 | have hg2p := G.gA4 hg2 | have hg2p := hg2
   refine SL.val (O.fld_ref (o' := 2) rfl Try.underlying25 rfl (m := 0) (by kernel_rfl) rfl rfl (Taken.yes rfl rfl hg2)) ?_
   refine SL.val (O.ld1 (PtI.ref rfl rfl) rfl Try.underlying23 rfl rfl (Taken.yes rfl rfl hg2)) ?_
   refine SL.val (O.lenE (SlOf.fz rfl (by decide)) (by first | exact List.length_map _ | rfl) Try.underlying23 rfl (Taken.yes rfl rfl hg2)) ?_
   refine SL.val (O.det (fun _ => G.R.gtr rfl rfl) rfl (Taken.yes rfl rfl hg2)) ?_
   refine SL.val (O.pick_f rfl hg2 rfl rfl Taken.no) ?_
   refine E.fo ?_
   first | refine W.cond_d rfl (fun hc3 => ?_) (fun hc3 => ?_) | refine W.cond_nd rfl (fun hc3 => ?_) (fun hc3 => ?_) | refine W.cond rfl (fun hc3 => ?_) (fun hc3 => ?_)
   ·skip
    refine W.rg (SL.an rfl rfl (E.fo (W.ret (E.thr ?_))))
    refine E.fin (rs := [_]) (rn []) (.inl rfl) rfl (.cons (ResOne.tmp rfl) .nil) ?_ ?_ rfl (fixL_spec rfl)
    ·skip
     exact iv_bool (dec_f fun q => by have q1 : 0 ≤ N := q.1; have q2 : N ≤ 200 := q.2.1; have q3 : rs.length ≤ 400 := q.2.2.1; omega)
    · exact SubS.nil
   have hN0 : 0 ≤ N := by omega
   have hN2 : N ≤ 200 := by omega
   have hr4 : rs.length ≤ 400 := by omega
   refine W.skip (E.to (W.seq (W.rg (SL.an rfl rfl (E.fo (W.block ?_))))))
   refine W.loopx1 (fun (k : Nat) => [(3, vI (k : Int))]) (fun (k : Nat) => []) (fun (k : Nat) => k ≤ ps.length ∧ pOk (Prob.mk N ps rs) k) (fun (k : Nat) => ps.length - k) (0) (rn []) (.cons (t := 1) rfl .nil) (.cons (t := 101) rfl .nil) rfl ?_ ?_ rfl rfl ?_ ?_
   · exact (SubF.cons rfl SubF.nil)
   · exact SubS.nil
   ·skip
    exact ⟨by omega, fun i h => by omega⟩
   intro k hinv
   obtain ⟨hk, hp⟩ := hinv
   refine W.seq (W.rg (SL.mv rfl rfl ?_))
   refine SL.val (O.fld_ref (o' := 1) rfl Try.underlying25 rfl (m := 0) (by kernel_rfl) rfl rfl Taken.no) ?_
   refine SL.val (O.ld1 (PtI.ref rfl rfl) rfl Try.underlying22 rfl rfl Taken.no) ?_
   refine SL.val (O.lenE (SlOf.fz rfl (by decide)) (by first | exact List.length_map _ | rfl) Try.underlying22 rfl Taken.no) ?_
   refine SL.val (O.det (fun _ => G.R.lss rfl rfl) rfl Taken.no) ?_
   refine E.fo ?_
   first | refine W.cond_d rfl (fun hc4 => ?_) (fun hc4 => ?_) | refine W.cond_nd rfl (fun hc4 => ?_) (fun hc4 => ?_) | refine W.cond rfl (fun hc4 => ?_) (fun hc4 => ?_)
   ·skip
    refine W.skip (E.to (W.seq (W.block (W.rg ?_))))
    refine SL.val (O.fld_ref (o' := 1) rfl Try.underlying25 rfl (m := 0) (by kernel_rfl) rfl rfl Taken.no) ?_
    refine SL.val (O.ld1 (PtI.ref rfl rfl) rfl Try.underlying22 rfl rfl Taken.no) ?_
    refine SL.mv rfl rfl ?_
    refine SL.val (O.idx_fz rfl rfl (rfl) (row_get (by omega)) Try.underlying22 hi64 hs64 rfl Taken.no) ?_
    refine SL.val (O.ldU (m := 3) (PtU.fz rfl) rfl Try.underlying64 rfl (by kernel_rfl) rfl Taken.no) ?_
    refine SL.memS (O.alloc (z := .agg #[.int .i64 0, .int .i64 0, .int .i64 0]) (is := [.u (.sc (.int .i64 0)), .u (.sc (.int .i64 0)), .u (.sc (.int .i64 0))]) 102 (by kernel_rfl) rfl rfl rfl Taken.no) rfl rfl (S' := (102, _) :: _) rfl ?_
    refine SL.effS (O.st_ref (m := 3) rfl rfl rfl (js := [_, _, _]) rfl rfl (by kernel_rfl) (by simp) (Nat.le_of_ble_eq_true rfl) rfl (is' := [_, _, _]) rfl Taken.no) (S' := (102, _) :: _) rfl ?_
    refine E.fo (W.seq (W.rg ?_))
    refine SL.val (O.fld_ref (o' := 0) rfl Try.underlying64 rfl (m := 0) (by kernel_rfl) rfl rfl Taken.no) ?_
    refine SL.val (O.ld1 (PtI.ref rfl rfl) rfl Try.underlying3 rfl rfl Taken.no) ?_
    refine SL.val (O.det (fun _ => G.R.lss rfl rfl) rfl Taken.no) ?_
    refine SL.mv rfl rfl ?_
    refine SL.case (j := 3) (g := 36) (want := false) rfl rfl (fun hg5 => ?_) (fun hg5 => ?_)
    ·skip
     first | have hg5p := G.gA3 hg5 | have hg5p := G.gA4 hg5 | have hg5p := hg5
     refine SL.val (O.fld_ref (o' := 0) rfl Try.underlying64 rfl (m := 0) (by kernel_rfl) rfl rfl (Taken.yes rfl rfl hg5)) ?_
     refine SL.val (O.ld1 (PtI.ref rfl rfl) rfl Try.underlying3 rfl rfl (Taken.yes rfl rfl hg5)) ?_
     refine SL.val (O.fld_ref (o' := 1) rfl Try.underlying64 rfl (m := 0) (by kernel_rfl) rfl rfl (Taken.yes rfl rfl hg5)) ?_
     refine SL.val (O.ld1 (PtI.ref rfl rfl) rfl Try.underlying3 rfl rfl (Taken.yes rfl rfl hg5)) ?_
     refine SL.val (O.det (fun _ => G.R.geq rfl rfl) rfl (Taken.yes rfl rfl hg5)) ?_
     refine SL.val (O.pick_f rfl hg5 rfl rfl Taken.no) ?_
     refine SL.mv rfl rfl ?_
     refine SL.case (j := 10) (g := 43) (want := false) rfl rfl (fun hg6 => ?_) (fun hg6 => ?_)
     ·skip
      first | have hg6p := G.gA3 hg6 | have hg6p := G.gA4 hg6 | have hg6p := hg6
      refine SL.val (O.fld_ref (o' := 1) rfl Try.underlying64 rfl (m := 0) (by kernel_rfl) rfl rfl (Taken.yes rfl rfl hg6)) ?_
      refine SL.val (O.ld1 (PtI.ref rfl rfl) rfl Try.underlying3 rfl rfl (Taken.yes rfl rfl hg6)) ?_
      refine SL.val (O.fld_ref (o' := 0) rfl Try.underlying25 rfl (m := 0) (by kernel_rfl) rfl rfl (Taken.yes rfl rfl hg6)) ?_
      refine SL.val (O.ld1 (PtI.ref rfl rfl) rfl Try.underlying3 rfl rfl (Taken.yes rfl rfl hg6)) ?_
      refine SL.val (O.det (fun _ => G.R.geq rfl rfl) rfl (Taken.yes rfl rfl hg6)) ?_
      refine SL.val (O.pick_f rfl hg6 rfl rfl Taken.no) ?_
      refine SL.mv rfl rfl ?_
      refine SL.case (j := 17) (g := 50) (want := false) rfl rfl (fun hg7 => ?_) (fun hg7 => ?_)
      ·skip
       first | have hg7p := G.gA3 hg7 | have hg7p := G.gA4 hg7 | have hg7p := hg7
       refine SL.val (O.fld_ref (o' := 2) rfl Try.underlying64 rfl (m := 0) (by kernel_rfl) rfl rfl (Taken.yes rfl rfl hg7)) ?_
       refine SL.val (O.ld1 (PtI.ref rfl rfl) rfl Try.underlying3 rfl rfl (Taken.yes rfl rfl hg7)) ?_
       refine SL.val (O.det (fun _ => G.R.lss rfl rfl) rfl (Taken.yes rfl rfl hg7)) ?_
       refine SL.val (O.pick_f rfl hg7 rfl rfl Taken.no) ?_
       refine SL.mv rfl rfl ?_
       refine SL.case (j := 22) (g := 55) (want := false) rfl rfl (fun hg8 => ?_) (fun hg8 => ?_)
       ·skip
        first | have hg8p := G.gA3 hg8 | have hg8p := G.gA4 hg8 | have hg8p := hg8
        refine SL.val (O.fld_ref (o' := 2) rfl Try.underlying64 rfl (m := 0) (by kernel_rfl) rfl rfl (Taken.yes rfl rfl hg8)) ?_
        refine SL.val (O.ld1 (PtI.ref rfl rfl) rfl Try.underlying3 rfl rfl (Taken.yes rfl rfl hg8)) ?_
        refine SL.val (O.det (fun _ => G.R.gtr rfl rfl) rfl (Taken.yes rfl rfl hg8)) ?_
        refine SL.val (O.pick_f rfl hg8 rfl rfl Taken.no) ?_
        refine E.fo ?_
        refine W.pick (K:=[(1,_),(3,_),(4,_),(59,_)]) (Z:=[(101,_),(102,_)]) ⟨rfl,rfl,rfl,rfl,trivial⟩ ⟨rfl,rfl,trivial⟩ ?_
        first | refine W.cond_d rfl (fun hc9 => ?_) (fun hc9 => ?_) | refine W.cond_nd rfl (fun hc9 => ?_) (fun hc9 => ?_) | refine W.cond rfl (fun hc9 => ?_) (fun hc9 => ?_)
        ·skip
         refine W.rg (SL.an rfl rfl (E.fo (W.ret (E.thr ?_))))
         refine E.inr ?_
         refine E.thr (E.thr ?_)
         refine E.inr ?_
         refine E.thr ?_
         refine E.fin (rs := [_]) (rn []) (.inl rfl) rfl (.cons (ResOne.tmp rfl) .nil) ?_ ?_ rfl (fixL_spec rfl)
         ·skip
          exact iv_bool (dec_f (formed_no (p := (Prob.mk N ps rs)) (i := k) (show k < ps.length by omega) (fun q : prOk N ps[k]! => by unfold prOk at q; omega)))
         · exact SubS.nil
        have hpk : prOk N ps[k]! := by unfold prOk; omega
        refine W.skip (E.to (W.seq ?_))
        refine W.draw [⟨[], [], [], []⟩, ⟨[], [], [], []⟩, ⟨[], [], [], []⟩, ⟨[], [], [], [101]⟩, ⟨[101], [], [], []⟩, ⟨[], [], [], []⟩, ⟨[], [], [], []⟩, ⟨[], [], [], []⟩, ⟨[], [], [], []⟩, ⟨[], [], [], []⟩, ⟨[], [], [], [102]⟩, ⟨[102], [], [], []⟩, ⟨[], [], [], []⟩, ⟨[], [], [], []⟩, ⟨[], [], [], [101]⟩, ⟨[101], [], [], []⟩, ⟨[], [], [], []⟩, ⟨[], [], [], []⟩, ⟨[], [], [], []⟩, ⟨[], [], [], []⟩, ⟨[], [], [], []⟩, ⟨[], [], [], [102]⟩, ⟨[102], [], [], []⟩, ⟨[], [], [], []⟩, ⟨[], [], [], []⟩, ⟨[], [], [], [101]⟩, ⟨[101], [], [], []⟩, ⟨[], [], [], []⟩, ⟨[], [], [], []⟩, ⟨[], [], [], []⟩, ⟨[], [], [], []⟩, ⟨[], [], [], []⟩, ⟨[], [], [], [102]⟩, ⟨[102], [], [], []⟩, ⟨[], [], [], []⟩, ⟨[], [], [], []⟩, ⟨[], [], [], []⟩, ⟨[], [], [], []⟩] rfl (by kernel_rfl) (by kernel_rfl) rfl rfl ?_
        refine WH.mv rfl rfl rfl ?_
        refine WH.val (O.det (fun _ => G.R.gtr rfl rfl) rfl Taken.no) rfl rfl ?_
        refine WH.mv rfl rfl rfl ?_
        refine WH.case (j := 2) (g := 62) (want := true) rfl rfl (fun hg10 => ?_) (fun hg10 => ?_)
        ·skip
         first | have hg10p := G.gA1 hg10 | have hg10p := G.gA2 hg10 | have hg10p := hg10
         refine WH.val (O.fld_ref (o' := 1) rfl Try.underlying25 rfl (m := 0) (by kernel_rfl) rfl rfl (Taken.yes rfl rfl hg10)) rfl rfl ?_
         refine WH.val (O.ld1 (PtI.ref rfl rfl) rfl Try.underlying22 rfl rfl (Taken.yes rfl rfl hg10)) rfl rfl ?_
         refine WH.val (O.move rfl rfl (Taken.yes rfl rfl hg10)) rfl rfl ?_
         refine WH.val (O.det (fun _ => by first | exact G.R.sub64 rfl rfl (by omega) | exact G.R.sub rfl rfl) rfl (Taken.yes rfl rfl hg10)) rfl rfl ?_
         refine WH.val (O.idx_fz (i := (k - 1)) rfl rfl (by omega) (row_get (by omega)) Try.underlying22 hi64 hs64 rfl (Taken.yes rfl rfl hg10)) rfl rfl ?_
         refine WH.val (O.fld_fz rfl Try.underlying64 rfl (m := 0) (by kernel_rfl) rfl rfl (Taken.yes rfl rfl hg10)) rfl rfl ?_
         refine WH.val (O.ld1 (PtI.ofU (PtU.fz rfl)) rfl Try.underlying3 rfl rfl (Taken.yes rfl rfl hg10)) rfl rfl ?_
         refine WH.val (O.fld_ref (o' := 0) rfl Try.underlying64 rfl (m := 0) (by kernel_rfl) rfl rfl (Taken.yes rfl rfl hg10)) rfl rfl ?_
         refine WH.val (O.ld1 (PtI.ref rfl rfl) rfl Try.underlying3 rfl rfl (Taken.yes rfl rfl hg10)) rfl rfl ?_
         refine WH.val (O.det (fun _ => G.R.gtr rfl rfl) rfl (Taken.yes rfl rfl hg10)) rfl rfl ?_
         refine WH.val (O.move rfl rfl (Taken.yes rfl rfl hg10)) rfl rfl ?_
         refine WH.case (j := 13) (g := 73) (want := false) rfl rfl (fun hg11 => ?_) (fun hg11 => ?_)
         ·skip
          first | have hg11p := G.gA3 hg11 | have hg11p := G.gA4 hg11 | have hg11p := hg11
          refine WH.val (O.fld_ref (o' := 1) rfl Try.underlying25 rfl (m := 0) (by kernel_rfl) rfl rfl (Taken.yes rfl rfl hg11)) rfl rfl ?_
          refine WH.val (O.ld1 (PtI.ref rfl rfl) rfl Try.underlying22 rfl rfl (Taken.yes rfl rfl hg11)) rfl rfl ?_
          refine WH.val (O.move rfl rfl (Taken.yes rfl rfl hg11)) rfl rfl ?_
          refine WH.val (O.det (fun _ => by first | exact G.R.sub64 rfl rfl (by omega) | exact G.R.sub rfl rfl) rfl (Taken.yes rfl rfl hg11)) rfl rfl ?_
          refine WH.val (O.idx_fz (i := (k - 1)) rfl rfl (by omega) (row_get (by omega)) Try.underlying22 hi64 hs64 rfl (Taken.yes rfl rfl hg11)) rfl rfl ?_
          refine WH.val (O.fld_fz rfl Try.underlying64 rfl (m := 0) (by kernel_rfl) rfl rfl (Taken.yes rfl rfl hg11)) rfl rfl ?_
          refine WH.val (O.ld1 (PtI.ofU (PtU.fz rfl)) rfl Try.underlying3 rfl rfl (Taken.yes rfl rfl hg11)) rfl rfl ?_
          refine WH.val (O.fld_ref (o' := 0) rfl Try.underlying64 rfl (m := 0) (by kernel_rfl) rfl rfl (Taken.yes rfl rfl hg11)) rfl rfl ?_
          refine WH.val (O.ld1 (PtI.ref rfl rfl) rfl Try.underlying3 rfl rfl (Taken.yes rfl rfl hg11)) rfl rfl ?_
          refine WH.val (O.det (fun _ => G.R.eql rfl rfl) rfl (Taken.yes rfl rfl hg11)) rfl rfl ?_
          refine WH.val (O.move rfl rfl (Taken.yes rfl rfl hg11)) rfl rfl ?_
          refine WH.case (j := 24) (g := 84) (want := true) rfl rfl (fun hg12 => ?_) (fun hg12 => ?_)
          ·skip
           first | have hg12p := G.gA1 hg12 | have hg12p := G.gA2 hg12 | have hg12p := hg12
           refine WH.val (O.fld_ref (o' := 1) rfl Try.underlying25 rfl (m := 0) (by kernel_rfl) rfl rfl (Taken.yes rfl rfl hg12)) rfl rfl ?_
           refine WH.val (O.ld1 (PtI.ref rfl rfl) rfl Try.underlying22 rfl rfl (Taken.yes rfl rfl hg12)) rfl rfl ?_
           refine WH.val (O.move rfl rfl (Taken.yes rfl rfl hg12)) rfl rfl ?_
           refine WH.val (O.det (fun _ => by first | exact G.R.sub64 rfl rfl (by omega) | exact G.R.sub rfl rfl) rfl (Taken.yes rfl rfl hg12)) rfl rfl ?_
           refine WH.val (O.idx_fz (i := (k - 1)) rfl rfl (by omega) (row_get (by omega)) Try.underlying22 hi64 hs64 rfl (Taken.yes rfl rfl hg12)) rfl rfl ?_
           refine WH.val (O.fld_fz rfl Try.underlying64 rfl (m := 0) (by kernel_rfl) rfl rfl (Taken.yes rfl rfl hg12)) rfl rfl ?_
           refine WH.val (O.ld1 (PtI.ofU (PtU.fz rfl)) rfl Try.underlying3 rfl rfl (Taken.yes rfl rfl hg12)) rfl rfl ?_
           refine WH.val (O.fld_ref (o' := 1) rfl Try.underlying64 rfl (m := 0) (by kernel_rfl) rfl rfl (Taken.yes rfl rfl hg12)) rfl rfl ?_
           refine WH.val (O.ld1 (PtI.ref rfl rfl) rfl Try.underlying3 rfl rfl (Taken.yes rfl rfl hg12)) rfl rfl ?_
           refine WH.val (O.det (fun _ => G.R.geq rfl rfl) rfl (Taken.yes rfl rfl hg12)) rfl rfl ?_
           refine WH.val (O.pick_t rfl hg12 rfl rfl (Taken.yes rfl rfl hg11)) rfl rfl ?_
           refine WH.val (O.pick_f rfl hg11 rfl rfl (Taken.yes rfl rfl hg10)) rfl rfl ?_
           refine WH.val (O.pick_t rfl hg10 rfl rfl Taken.no) rfl rfl ?_
           refine WH.nil (E.to ?_)
           refine W.pick (K:=[(1,_),(3,_),(97,_)]) (Z:=[(101,_),(102,_)]) ⟨rfl,rfl,rfl,trivial⟩ ⟨rfl,rfl,trivial⟩ ?_
           first | refine W.cond_d rfl (fun hc13 => ?_) (fun hc13 => ?_) | refine W.cond_nd rfl (fun hc13 => ?_) (fun hc13 => ?_) | refine W.cond rfl (fun hc13 => ?_) (fun hc13 => ?_)
           ·skip
            refine W.rg (SL.an rfl rfl (E.fo (W.ret ?_)))
            refine E.inr ?_
            refine E.thr (E.thr ?_)
            refine E.inr ?_
            refine E.thr ?_
            refine E.fin (rs := [_]) (rn []) (.inl rfl) rfl (.cons (ResOne.tmp rfl) .nil) ?_ ?_ rfl (fixL_spec rfl)
            ·skip
             exact iv_bool (dec_f (formed_na (p := (Prob.mk N ps rs)) (i := k) (show k < ps.length by omega) (by omega) (fun q : prAsc ps[k - 1]! ps[k]! => by unfold prAsc at q; omega)))
            · exact SubS.nil
           refine W.skip (E.inn (E.to (W.region (SL.mv rfl rfl ?_))))
           refine SL.val (O.det (fun _ => by first | exact G.R.add64 rfl rfl (by omega) | exact G.R.add rfl rfl) rfl Taken.no) ?_
           refine SL.an rfl rfl (SL.nil ?_)
           refine E.again ((k + 1)) (rn []) ?_ ?_ rfl (fixL_spec rfl) ?_ ?_
           · exact (SubF.cons rfl (SubF.cons rfl SubF.nil))
           · exact (SubS.cons rfl SubS.nil)
           ·try dsimp only
            exact ⟨by omega, pOk_s hp hpk (fun h0 => by show prAsc ps[k - 1]! ps[k]!; unfold prAsc; omega)⟩
           · (try dsimp only); omega
          first | have hg12p := G.gA5 hg12 | have hg12p := G.gA6 hg12 | have hg12p := hg12
          refine WH.sk rfl rfl rfl hg12 (WH.sk rfl rfl rfl hg12 (WH.sk rfl rfl rfl hg12 (WH.sk rfl rfl rfl hg12 (WH.sk rfl rfl rfl hg12 (WH.sk rfl rfl rfl hg12 (WH.sk rfl rfl rfl hg12 (WH.sk rfl rfl rfl hg12 (WH.sk rfl rfl rfl hg12 (WH.sk rfl rfl rfl hg12 ?_)))))))))
          refine WH.val (O.pick_f rfl (G.ne_t hg12) rfl rfl (Taken.yes rfl rfl hg11)) rfl rfl ?_
          refine WH.val (O.pick_f rfl hg11 rfl rfl (Taken.yes rfl rfl hg10)) rfl rfl ?_
          refine WH.val (O.pick_t rfl hg10 rfl rfl Taken.no) rfl rfl ?_
          refine WH.nil (E.to ?_)
          refine W.pick (K:=[(1,_),(3,_),(97,_)]) (Z:=[(101,_),(102,_)]) ⟨rfl,rfl,rfl,trivial⟩ ⟨rfl,rfl,trivial⟩ ?_
          refine W.cond_f rfl ?_
          refine W.skip (E.inn (E.to (W.region (SL.mv rfl rfl ?_))))
          refine SL.val (O.det (fun _ => by first | exact G.R.add64 rfl rfl (by omega) | exact G.R.add rfl rfl) rfl Taken.no) ?_
          refine SL.an rfl rfl (SL.nil ?_)
          refine E.again ((k + 1)) (rn []) ?_ ?_ rfl (fixL_spec rfl) ?_ ?_
          · exact (SubF.cons rfl (SubF.cons rfl SubF.nil))
          · exact (SubS.cons rfl SubS.nil)
          ·try dsimp only
           exact ⟨by omega, pOk_s hp hpk (fun h0 => by show prAsc ps[k - 1]! ps[k]!; unfold prAsc; omega)⟩
          · (try dsimp only); omega
         first | have hg11p := G.gA7 hg11 | have hg11p := G.gA8 hg11 | have hg11p := hg11
         refine WH.sk rfl rfl rfl hg11 (WH.sk rfl rfl rfl hg11 (WH.sk rfl rfl rfl hg11 (WH.sk rfl rfl rfl hg11 (WH.sk rfl rfl rfl hg11 (WH.sk rfl rfl rfl hg11 (WH.sk rfl rfl rfl hg11 (WH.sk rfl rfl rfl hg11 (WH.sk rfl rfl rfl hg11 (WH.sk rfl rfl rfl hg11 (WH.sk rfl rfl rfl hg11 ?_))))))))))
         refine WH.skip (OpOk.not2 rfl rfl rfl) ?_
         refine WH.skip (OpOk.not2 rfl rfl rfl) ?_
         refine WH.skip (OpOk.not2 rfl rfl rfl) ?_
         refine WH.skip (OpOk.not2 rfl rfl rfl) ?_
         refine WH.skip (OpOk.not2 rfl rfl rfl) ?_
         refine WH.skip (OpOk.not2 rfl rfl rfl) ?_
         refine WH.skip (OpOk.not2 rfl rfl rfl) ?_
         refine WH.skip (OpOk.not2 rfl rfl rfl) ?_
         refine WH.skip (OpOk.not2 rfl rfl rfl) ?_
         refine WH.skip (OpOk.not2 rfl rfl rfl) ?_
         refine WH.sk rfl rfl rfl hg11 ?_
         refine WH.val (O.pick_t rfl (G.ne_f hg11) rfl rfl (Taken.yes rfl rfl hg10)) rfl rfl ?_
         refine WH.val (O.pick_t rfl hg10 rfl rfl Taken.no) rfl rfl ?_
         refine WH.nil (E.to ?_)
         refine W.pick (K:=[(1,_),(3,_),(97,_)]) (Z:=[(101,_),(102,_)]) ⟨rfl,rfl,rfl,trivial⟩ ⟨rfl,rfl,trivial⟩ ?_
         refine W.cond_t rfl ?_
         refine W.rg (SL.an rfl rfl (E.fo (W.ret ?_)))
         refine E.inr ?_
         refine E.thr (E.thr ?_)
         refine E.inr ?_
         refine E.thr ?_
         refine E.fin (rs := [_]) (rn []) (.inl rfl) rfl (.cons (ResOne.tmp rfl) .nil) ?_ ?_ rfl (fixL_spec rfl)
         ·skip
          exact iv_bool (dec_f (formed_na (p := (Prob.mk N ps rs)) (i := k) (show k < ps.length by omega) (by omega) (fun q : prAsc ps[k - 1]! ps[k]! => by unfold prAsc at q; omega)))
         · exact SubS.nil
        first | have hg10p := G.gA5 hg10 | have hg10p := G.gA6 hg10 | have hg10p := hg10
        refine WH.sk rfl rfl rfl hg10 (WH.sk rfl rfl rfl hg10 (WH.sk rfl rfl rfl hg10 (WH.sk rfl rfl rfl hg10 (WH.sk rfl rfl rfl hg10 (WH.sk rfl rfl rfl hg10 (WH.sk rfl rfl rfl hg10 (WH.sk rfl rfl rfl hg10 (WH.sk rfl rfl rfl hg10 (WH.sk rfl rfl rfl hg10 (WH.sk rfl rfl rfl hg10 ?_))))))))))
        refine WH.skip (OpOk.not2 rfl rfl rfl) ?_
        refine WH.skip (OpOk.not2 rfl rfl rfl) ?_
        refine WH.skip (OpOk.not2 rfl rfl rfl) ?_
        refine WH.skip (OpOk.not2 rfl rfl rfl) ?_
        refine WH.skip (OpOk.not2 rfl rfl rfl) ?_
        refine WH.skip (OpOk.not2 rfl rfl rfl) ?_
        refine WH.skip (OpOk.not2 rfl rfl rfl) ?_
        refine WH.skip (OpOk.not2 rfl rfl rfl) ?_
        refine WH.skip (OpOk.not2 rfl rfl rfl) ?_
        refine WH.skip (OpOk.not2 rfl rfl rfl) ?_
        refine WH.skip (OpOk.not2 rfl rfl rfl) ?_
        refine WH.skip (OpOk.not2 rfl rfl rfl) ?_
        refine WH.skip (OpOk.not2 rfl rfl rfl) ?_
        refine WH.skip (OpOk.not2 rfl rfl rfl) ?_
        refine WH.skip (OpOk.not2 rfl rfl rfl) ?_
        refine WH.skip (OpOk.not2 rfl rfl rfl) ?_
        refine WH.skip (OpOk.not2 rfl rfl rfl) ?_
        refine WH.skip (OpOk.not2 rfl rfl rfl) ?_
        refine WH.skip (OpOk.not2 rfl rfl rfl) ?_
        refine WH.skip (OpOk.not2 rfl rfl rfl) ?_
        refine WH.skip (OpOk.not2 rfl rfl rfl) ?_
        refine WH.skip (OpOk.not2 rfl rfl rfl) ?_
        refine WH.sk rfl rfl rfl hg10 ?_
        refine WH.val (O.pick_f rfl (G.ne_t hg10) rfl rfl Taken.no) rfl rfl ?_
        refine WH.nil (E.to ?_)
        refine W.pick (K:=[(1,_),(3,_),(97,_)]) (Z:=[(101,_),(102,_)]) ⟨rfl,rfl,rfl,trivial⟩ ⟨rfl,rfl,trivial⟩ ?_
        refine W.cond_f rfl ?_
        refine W.skip (E.inn (E.to (W.region (SL.mv rfl rfl ?_))))
        refine SL.val (O.det (fun _ => by first | exact G.R.add64 rfl rfl (by omega) | exact G.R.add rfl rfl) rfl Taken.no) ?_
        refine SL.an rfl rfl (SL.nil ?_)
        refine E.again ((k + 1)) (rn []) ?_ ?_ rfl (fixL_spec rfl) ?_ ?_
        · exact (SubF.cons rfl (SubF.cons rfl SubF.nil))
        · exact (SubS.cons rfl SubS.nil)
        ·try dsimp only
         exact ⟨by omega, pOk_s hp hpk (fun h0 => by show prAsc ps[k - 1]! ps[k]!; unfold prAsc; omega)⟩
        · (try dsimp only); omega
       first | have hg8p := G.gA7 hg8 | have hg8p := G.gA8 hg8 | have hg8p := hg8
       refine SL.sk rfl rfl rfl hg8 (SL.sk rfl rfl rfl hg8 (SL.sk rfl rfl rfl hg8 ?_))
       refine SL.val (O.pick_t rfl (G.ne_f hg8) rfl rfl Taken.no) ?_
       refine E.fo ?_
       refine W.pick (K:=[(1,_),(3,_),(4,_),(59,_)]) (Z:=[(101,_),(102,_)]) ⟨rfl,rfl,rfl,rfl,trivial⟩ ⟨rfl,rfl,trivial⟩ ?_
       refine W.cond_t rfl ?_
       refine W.rg (SL.an rfl rfl (E.fo (W.ret (E.thr ?_))))
       refine E.inr ?_
       refine E.thr (E.thr ?_)
       refine E.inr ?_
       refine E.thr ?_
       refine E.fin (rs := [_]) (rn []) (.inl rfl) rfl (.cons (ResOne.tmp rfl) .nil) ?_ ?_ rfl (fixL_spec rfl)
       ·skip
        exact iv_bool (dec_f (formed_no (p := (Prob.mk N ps rs)) (i := k) (show k < ps.length by omega) (fun q : prOk N ps[k]! => by unfold prOk at q; omega)))
       · exact SubS.nil
      first | have hg7p := G.gA7 hg7 | have hg7p := G.gA8 hg7 | have hg7p := hg7
      refine SL.sk rfl rfl rfl hg7 (SL.sk rfl rfl rfl hg7 (SL.sk rfl rfl rfl hg7 ?_))
      refine SL.val (O.pick_t rfl (G.ne_f hg7) rfl rfl Taken.no) ?_
      refine SL.mv rfl rfl ?_
      have hg14 : true ≠ false := by decide
      refine SL.sk rfl rfl rfl hg14 (SL.sk rfl rfl rfl hg14 (SL.sk rfl rfl rfl hg14 ?_))
      refine SL.val (O.pick_t rfl rfl rfl rfl Taken.no) ?_
      refine E.fo ?_
      refine W.pick (K:=[(1,_),(3,_),(4,_),(59,_)]) (Z:=[(101,_),(102,_)]) ⟨rfl,rfl,rfl,rfl,trivial⟩ ⟨rfl,rfl,trivial⟩ ?_
      refine W.cond_t rfl ?_
      refine W.rg (SL.an rfl rfl (E.fo (W.ret (E.thr ?_))))
      refine E.inr ?_
      refine E.thr (E.thr ?_)
      refine E.inr ?_
      refine E.thr ?_
      refine E.fin (rs := [_]) (rn []) (.inl rfl) rfl (.cons (ResOne.tmp rfl) .nil) ?_ ?_ rfl (fixL_spec rfl)
      ·skip
       exact iv_bool (dec_f (formed_no (p := (Prob.mk N ps rs)) (i := k) (show k < ps.length by omega) (fun q : prOk N ps[k]! => by unfold prOk at q; omega)))
      · exact SubS.nil
     first | have hg6p := G.gA7 hg6 | have hg6p := G.gA8 hg6 | have hg6p := hg6
     refine SL.sk rfl rfl rfl hg6 (SL.sk rfl rfl rfl hg6 (SL.sk rfl rfl rfl hg6 (SL.sk rfl rfl rfl hg6 (SL.sk rfl rfl rfl hg6 ?_))))
     refine SL.val (O.pick_t rfl (G.ne_f hg6) rfl rfl Taken.no) ?_
     refine SL.mv rfl rfl ?_
     have hg15 : true ≠ false := by decide
     refine SL.sk rfl rfl rfl hg15 (SL.sk rfl rfl rfl hg15 (SL.sk rfl rfl rfl hg15 ?_))
     refine SL.val (O.pick_t rfl rfl rfl rfl Taken.no) ?_
     refine SL.mv rfl rfl ?_
     have hg16 : true ≠ false := by decide
     refine SL.sk rfl rfl rfl hg16 (SL.sk rfl rfl rfl hg16 (SL.sk rfl rfl rfl hg16 ?_))
     refine SL.val (O.pick_t rfl rfl rfl rfl Taken.no) ?_
     refine E.fo ?_
     refine W.pick (K:=[(1,_),(3,_),(4,_),(59,_)]) (Z:=[(101,_),(102,_)]) ⟨rfl,rfl,rfl,rfl,trivial⟩ ⟨rfl,rfl,trivial⟩ ?_
     refine W.cond_t rfl ?_
     refine W.rg (SL.an rfl rfl (E.fo (W.ret (E.thr ?_))))
     refine E.inr ?_
     refine E.thr (E.thr ?_)
     refine E.inr ?_
     refine E.thr ?_
     refine E.fin (rs := [_]) (rn []) (.inl rfl) rfl (.cons (ResOne.tmp rfl) .nil) ?_ ?_ rfl (fixL_spec rfl)
     ·skip
      exact iv_bool (dec_f (formed_no (p := (Prob.mk N ps rs)) (i := k) (show k < ps.length by omega) (fun q : prOk N ps[k]! => by unfold prOk at q; omega)))
     · exact SubS.nil
    first | have hg5p := G.gA7 hg5 | have hg5p := G.gA8 hg5 | have hg5p := hg5
    refine SL.sk rfl rfl rfl hg5 (SL.sk rfl rfl rfl hg5 (SL.sk rfl rfl rfl hg5 (SL.sk rfl rfl rfl hg5 (SL.sk rfl rfl rfl hg5 ?_))))
    refine SL.val (O.pick_t rfl (G.ne_f hg5) rfl rfl Taken.no) ?_
    refine SL.mv rfl rfl ?_
    have hg17 : true ≠ false := by decide
    refine SL.sk rfl rfl rfl hg17 (SL.sk rfl rfl rfl hg17 (SL.sk rfl rfl rfl hg17 (SL.sk rfl rfl rfl hg17 (SL.sk rfl rfl rfl hg17 ?_))))
    refine SL.val (O.pick_t rfl rfl rfl rfl Taken.no) ?_
    refine SL.mv rfl rfl ?_
    have hg18 : true ≠ false := by decide
    refine SL.sk rfl rfl rfl hg18 (SL.sk rfl rfl rfl hg18 (SL.sk rfl rfl rfl hg18 ?_))
    refine SL.val (O.pick_t rfl rfl rfl rfl Taken.no) ?_
    refine SL.mv rfl rfl ?_
    have hg19 : true ≠ false := by decide
    refine SL.sk rfl rfl rfl hg19 (SL.sk rfl rfl rfl hg19 (SL.sk rfl rfl rfl hg19 ?_))
    refine SL.val (O.pick_t rfl rfl rfl rfl Taken.no) ?_
    refine E.fo ?_
    refine W.pick (K:=[(1,_),(3,_),(4,_),(59,_)]) (Z:=[(101,_),(102,_)]) ⟨rfl,rfl,rfl,rfl,trivial⟩ ⟨rfl,rfl,trivial⟩ ?_
    refine W.cond_t rfl ?_
    refine W.rg (SL.an rfl rfl (E.fo (W.ret (E.thr ?_))))
    refine E.inr ?_
    refine E.thr (E.thr ?_)
    refine E.inr ?_
    refine E.thr ?_
    refine E.fin (rs := [_]) (rn []) (.inl rfl) rfl (.cons (ResOne.tmp rfl) .nil) ?_ ?_ rfl (fixL_spec rfl)
    ·skip
     exact iv_bool (dec_f (formed_no (p := (Prob.mk N ps rs)) (i := k) (show k < ps.length by omega) (fun q : prOk N ps[k]! => by unfold prOk at q; omega)))
    · exact SubS.nil
   refine W.exit (E.th (E.th (E.hit (E.to (W.seq (W.rg (SL.an rfl rfl (E.fo (W.block ?_)))))))))
   obtain rfl : k = ps.length := by omega
   refine W.loopx1 (fun (j : Nat) => [(5, vI (j : Int))]) (fun (j : Nat) => []) (fun (j : Nat) => j ≤ rs.length ∧ rOk (Prob.mk N ps rs) j) (fun (j : Nat) => rs.length - j) (0) (rn []) (.cons (t := 1) rfl .nil) (.cons (t := 101) rfl .nil) rfl ?_ ?_ rfl rfl ?_ ?_
   · exact (SubF.cons rfl SubF.nil)
   · exact SubS.nil
   ·skip
    exact ⟨by omega, fun i h => by omega⟩
   intro j hinv
   obtain ⟨hj, hq⟩ := hinv
   refine W.seq (W.rg (SL.mv rfl rfl ?_))
   refine SL.val (O.fld_ref (o' := 2) rfl Try.underlying25 rfl (m := 0) (by kernel_rfl) rfl rfl Taken.no) ?_
   refine SL.val (O.ld1 (PtI.ref rfl rfl) rfl Try.underlying23 rfl rfl Taken.no) ?_
   refine SL.val (O.lenE (SlOf.fz rfl (by decide)) (by first | exact List.length_map _ | rfl) Try.underlying23 rfl Taken.no) ?_
   refine SL.val (O.det (fun _ => G.R.lss rfl rfl) rfl Taken.no) ?_
   refine E.fo ?_
   first | refine W.cond_d rfl (fun hc20 => ?_) (fun hc20 => ?_) | refine W.cond_nd rfl (fun hc20 => ?_) (fun hc20 => ?_) | refine W.cond rfl (fun hc20 => ?_) (fun hc20 => ?_)
   ·skip
    refine W.skip (E.to (W.seq (W.block (W.rg ?_))))
    refine SL.val (O.fld_ref (o' := 2) rfl Try.underlying25 rfl (m := 0) (by kernel_rfl) rfl rfl Taken.no) ?_
    refine SL.val (O.ld1 (PtI.ref rfl rfl) rfl Try.underlying23 rfl rfl Taken.no) ?_
    refine SL.mv rfl rfl ?_
    refine SL.val (O.idx_fz rfl rfl (rfl) (row_get (by omega)) Try.underlying23 hi51 hs51 rfl Taken.no) ?_
    refine SL.val (O.ldU (m := 3) (PtU.fz rfl) rfl Try.underlying51 rfl (by kernel_rfl) rfl Taken.no) ?_
    refine SL.memS (O.alloc (z := .agg #[.int .i64 0, .int .i64 0, .int .i64 0]) (is := [.u (.sc (.int .i64 0)), .u (.sc (.int .i64 0)), .u (.sc (.int .i64 0))]) 103 (by kernel_rfl) rfl rfl rfl Taken.no) rfl rfl (S' := (103, _) :: _) rfl ?_
    refine SL.effS (O.st_ref (m := 3) rfl rfl rfl (js := [_, _, _]) rfl rfl (by kernel_rfl) (by simp) (Nat.le_of_ble_eq_true rfl) rfl (is' := [_, _, _]) rfl Taken.no) (S' := (103, _) :: _) rfl ?_
    refine E.fo (W.rg ?_)
    refine SL.val (O.fld_ref (o' := 0) rfl Try.underlying51 rfl (m := 0) (by kernel_rfl) rfl rfl Taken.no) ?_
    refine SL.val (O.ld1 (PtI.ref rfl rfl) rfl Try.underlying3 rfl rfl Taken.no) ?_
    refine SL.val (O.det (fun _ => G.R.neq rfl rfl) rfl Taken.no) ?_
    refine SL.mv rfl rfl ?_
    refine SL.case (j := 3) (g := 113) (want := true) rfl rfl (fun hg21 => ?_) (fun hg21 => ?_)
    ·skip
     first | have hg21p := G.gA1 hg21 | have hg21p := G.gA2 hg21 | have hg21p := hg21
     refine SL.val (O.fld_ref (o' := 0) rfl Try.underlying51 rfl (m := 0) (by kernel_rfl) rfl rfl (Taken.yes rfl rfl hg21)) ?_
     refine SL.val (O.ld1 (PtI.ref rfl rfl) rfl Try.underlying3 rfl rfl (Taken.yes rfl rfl hg21)) ?_
     refine SL.val (O.det (fun _ => G.R.neq rfl rfl) rfl (Taken.yes rfl rfl hg21)) ?_
     refine SL.val (O.pick_t rfl hg21 rfl rfl Taken.no) ?_
     refine SL.mv rfl rfl ?_
     refine SL.case (j := 8) (g := 118) (want := false) rfl rfl (fun hg22 => ?_) (fun hg22 => ?_)
     ·skip
      first | have hg22p := G.gA3 hg22 | have hg22p := G.gA4 hg22 | have hg22p := hg22
      refine SL.val (O.fld_ref (o' := 1) rfl Try.underlying51 rfl (m := 0) (by kernel_rfl) rfl rfl (Taken.yes rfl rfl hg22)) ?_
      refine SL.val (O.ld1 (PtI.ref rfl rfl) rfl Try.underlying3 rfl rfl (Taken.yes rfl rfl hg22)) ?_
      refine SL.val (O.det (fun _ => G.R.lss rfl rfl) rfl (Taken.yes rfl rfl hg22)) ?_
      refine SL.val (O.pick_f rfl hg22 rfl rfl Taken.no) ?_
      refine SL.mv rfl rfl ?_
      refine SL.case (j := 13) (g := 123) (want := false) rfl rfl (fun hg23 => ?_) (fun hg23 => ?_)
      ·skip
       first | have hg23p := G.gA3 hg23 | have hg23p := G.gA4 hg23 | have hg23p := hg23
       refine SL.val (O.fld_ref (o' := 1) rfl Try.underlying51 rfl (m := 0) (by kernel_rfl) rfl rfl (Taken.yes rfl rfl hg23)) ?_
       refine SL.val (O.ld1 (PtI.ref rfl rfl) rfl Try.underlying3 rfl rfl (Taken.yes rfl rfl hg23)) ?_
       refine SL.val (O.fld_ref (o' := 0) rfl Try.underlying25 rfl (m := 0) (by kernel_rfl) rfl rfl (Taken.yes rfl rfl hg23)) ?_
       refine SL.val (O.ld1 (PtI.ref rfl rfl) rfl Try.underlying3 rfl rfl (Taken.yes rfl rfl hg23)) ?_
       refine SL.val (O.det (fun _ => G.R.geq rfl rfl) rfl (Taken.yes rfl rfl hg23)) ?_
       refine SL.val (O.pick_f rfl hg23 rfl rfl Taken.no) ?_
       refine SL.mv rfl rfl ?_
       refine SL.case (j := 20) (g := 130) (want := false) rfl rfl (fun hg24 => ?_) (fun hg24 => ?_)
       ·skip
        first | have hg24p := G.gA3 hg24 | have hg24p := G.gA4 hg24 | have hg24p := hg24
        refine SL.val (O.fld_ref (o' := 2) rfl Try.underlying51 rfl (m := 0) (by kernel_rfl) rfl rfl (Taken.yes rfl rfl hg24)) ?_
        refine SL.val (O.ld1 (PtI.ref rfl rfl) rfl Try.underlying3 rfl rfl (Taken.yes rfl rfl hg24)) ?_
        refine SL.val (O.det (fun _ => G.R.lss rfl rfl) rfl (Taken.yes rfl rfl hg24)) ?_
        refine SL.val (O.pick_f rfl hg24 rfl rfl Taken.no) ?_
        refine SL.mv rfl rfl ?_
        refine SL.case (j := 25) (g := 135) (want := false) rfl rfl (fun hg25 => ?_) (fun hg25 => ?_)
        ·skip
         first | have hg25p := G.gA3 hg25 | have hg25p := G.gA4 hg25 | have hg25p := hg25
         refine SL.val (O.fld_ref (o' := 2) rfl Try.underlying51 rfl (m := 0) (by kernel_rfl) rfl rfl (Taken.yes rfl rfl hg25)) ?_
         refine SL.val (O.ld1 (PtI.ref rfl rfl) rfl Try.underlying3 rfl rfl (Taken.yes rfl rfl hg25)) ?_
         refine SL.val (O.fld_ref (o' := 0) rfl Try.underlying25 rfl (m := 0) (by kernel_rfl) rfl rfl (Taken.yes rfl rfl hg25)) ?_
         refine SL.val (O.ld1 (PtI.ref rfl rfl) rfl Try.underlying3 rfl rfl (Taken.yes rfl rfl hg25)) ?_
         refine SL.val (O.det (fun _ => G.R.geq rfl rfl) rfl (Taken.yes rfl rfl hg25)) ?_
         refine SL.val (O.pick_f rfl hg25 rfl rfl Taken.no) ?_
         refine SL.mv rfl rfl ?_
         refine SL.case (j := 32) (g := 142) (want := false) rfl rfl (fun hg26 => ?_) (fun hg26 => ?_)
         ·skip
          first | have hg26p := G.gA3 hg26 | have hg26p := G.gA4 hg26 | have hg26p := hg26
          refine SL.val (O.fld_ref (o' := 1) rfl Try.underlying51 rfl (m := 0) (by kernel_rfl) rfl rfl (Taken.yes rfl rfl hg26)) ?_
          refine SL.val (O.ld1 (PtI.ref rfl rfl) rfl Try.underlying3 rfl rfl (Taken.yes rfl rfl hg26)) ?_
          refine SL.val (O.fld_ref (o' := 2) rfl Try.underlying51 rfl (m := 0) (by kernel_rfl) rfl rfl (Taken.yes rfl rfl hg26)) ?_
          refine SL.val (O.ld1 (PtI.ref rfl rfl) rfl Try.underlying3 rfl rfl (Taken.yes rfl rfl hg26)) ?_
          refine SL.val (O.det (fun _ => G.R.eql rfl rfl) rfl (Taken.yes rfl rfl hg26)) ?_
          refine SL.val (O.pick_f rfl hg26 rfl rfl Taken.no) ?_
          refine E.fo ?_
          refine W.pick (K:=[(1,_),(5,_),(148,_)]) (Z:=[(101,_),(103,_)]) ⟨rfl,rfl,rfl,trivial⟩ ⟨rfl,rfl,trivial⟩ ?_
          first | refine W.cond_d rfl (fun hc27 => ?_) (fun hc27 => ?_) | refine W.cond_nd rfl (fun hc27 => ?_) (fun hc27 => ?_) | refine W.cond rfl (fun hc27 => ?_) (fun hc27 => ?_)
          ·skip
           refine W.rg (SL.an rfl rfl (E.fo (W.ret ?_)))
           refine E.inr ?_
           refine E.thr (E.thr ?_)
           refine E.inr ?_
           refine E.thr ?_
           refine E.fin (rs := [_]) (rn []) (.inl rfl) rfl (.cons (ResOne.tmp rfl) .nil) ?_ ?_ rfl (fixL_spec rfl)
           ·skip
            exact iv_bool (dec_f (formed_nr (p := (Prob.mk N ps rs)) (i := j) (show j < rs.length by omega) (fun q : ruOk N rs[j]! => by unfold ruOk at q; omega)))
           · exact SubS.nil
          have hrk : ruOk N rs[j]! := by unfold ruOk; omega
          refine W.skip (E.inn (E.to (W.region (SL.mv rfl rfl ?_))))
          refine SL.val (O.det (fun _ => by first | exact G.R.add64 rfl rfl (by omega) | exact G.R.add rfl rfl) rfl Taken.no) ?_
          refine SL.an rfl rfl (SL.nil ?_)
          refine E.again ((j + 1)) (rn []) ?_ ?_ rfl (fixL_spec rfl) ?_ ?_
          · exact (SubF.cons rfl (SubF.cons rfl SubF.nil))
          · exact (SubS.cons rfl SubS.nil)
          ·try dsimp only
           exact ⟨by omega, rOk_s hq hrk⟩
          · (try dsimp only); omega
         first | have hg26p := G.gA7 hg26 | have hg26p := G.gA8 hg26 | have hg26p := hg26
         refine SL.sk rfl rfl rfl hg26 (SL.sk rfl rfl rfl hg26 (SL.sk rfl rfl rfl hg26 (SL.sk rfl rfl rfl hg26 (SL.sk rfl rfl rfl hg26 ?_))))
         refine SL.val (O.pick_t rfl (G.ne_f hg26) rfl rfl Taken.no) ?_
         refine E.fo ?_
         refine W.pick (K:=[(1,_),(5,_),(148,_)]) (Z:=[(101,_),(103,_)]) ⟨rfl,rfl,rfl,trivial⟩ ⟨rfl,rfl,trivial⟩ ?_
         refine W.cond_t rfl ?_
         refine W.rg (SL.an rfl rfl (E.fo (W.ret ?_)))
         refine E.inr ?_
         refine E.thr (E.thr ?_)
         refine E.inr ?_
         refine E.thr ?_
         refine E.fin (rs := [_]) (rn []) (.inl rfl) rfl (.cons (ResOne.tmp rfl) .nil) ?_ ?_ rfl (fixL_spec rfl)
         ·skip
          exact iv_bool (dec_f (formed_nr (p := (Prob.mk N ps rs)) (i := j) (show j < rs.length by omega) (fun q : ruOk N rs[j]! => by unfold ruOk at q; omega)))
         · exact SubS.nil
        first | have hg25p := G.gA7 hg25 | have hg25p := G.gA8 hg25 | have hg25p := hg25
        refine SL.sk rfl rfl rfl hg25 (SL.sk rfl rfl rfl hg25 (SL.sk rfl rfl rfl hg25 (SL.sk rfl rfl rfl hg25 (SL.sk rfl rfl rfl hg25 ?_))))
        refine SL.val (O.pick_t rfl (G.ne_f hg25) rfl rfl Taken.no) ?_
        refine SL.mv rfl rfl ?_
        have hg28 : true ≠ false := by decide
        refine SL.sk rfl rfl rfl hg28 (SL.sk rfl rfl rfl hg28 (SL.sk rfl rfl rfl hg28 (SL.sk rfl rfl rfl hg28 (SL.sk rfl rfl rfl hg28 ?_))))
        refine SL.val (O.pick_t rfl rfl rfl rfl Taken.no) ?_
        refine E.fo ?_
        refine W.pick (K:=[(1,_),(5,_),(148,_)]) (Z:=[(101,_),(103,_)]) ⟨rfl,rfl,rfl,trivial⟩ ⟨rfl,rfl,trivial⟩ ?_
        refine W.cond_t rfl ?_
        refine W.rg (SL.an rfl rfl (E.fo (W.ret ?_)))
        refine E.inr ?_
        refine E.thr (E.thr ?_)
        refine E.inr ?_
        refine E.thr ?_
        refine E.fin (rs := [_]) (rn []) (.inl rfl) rfl (.cons (ResOne.tmp rfl) .nil) ?_ ?_ rfl (fixL_spec rfl)
        ·skip
         exact iv_bool (dec_f (formed_nr (p := (Prob.mk N ps rs)) (i := j) (show j < rs.length by omega) (fun q : ruOk N rs[j]! => by unfold ruOk at q; omega)))
        · exact SubS.nil
       first | have hg24p := G.gA7 hg24 | have hg24p := G.gA8 hg24 | have hg24p := hg24
       refine SL.sk rfl rfl rfl hg24 (SL.sk rfl rfl rfl hg24 (SL.sk rfl rfl rfl hg24 ?_))
       refine SL.val (O.pick_t rfl (G.ne_f hg24) rfl rfl Taken.no) ?_
       refine SL.mv rfl rfl ?_
       have hg29 : true ≠ false := by decide
       refine SL.sk rfl rfl rfl hg29 (SL.sk rfl rfl rfl hg29 (SL.sk rfl rfl rfl hg29 (SL.sk rfl rfl rfl hg29 (SL.sk rfl rfl rfl hg29 ?_))))
       refine SL.val (O.pick_t rfl rfl rfl rfl Taken.no) ?_
       refine SL.mv rfl rfl ?_
       have hg30 : true ≠ false := by decide
       refine SL.sk rfl rfl rfl hg30 (SL.sk rfl rfl rfl hg30 (SL.sk rfl rfl rfl hg30 (SL.sk rfl rfl rfl hg30 (SL.sk rfl rfl rfl hg30 ?_))))
       refine SL.val (O.pick_t rfl rfl rfl rfl Taken.no) ?_
       refine E.fo ?_
       refine W.pick (K:=[(1,_),(5,_),(148,_)]) (Z:=[(101,_),(103,_)]) ⟨rfl,rfl,rfl,trivial⟩ ⟨rfl,rfl,trivial⟩ ?_
       refine W.cond_t rfl ?_
       refine W.rg (SL.an rfl rfl (E.fo (W.ret ?_)))
       refine E.inr ?_
       refine E.thr (E.thr ?_)
       refine E.inr ?_
       refine E.thr ?_
       refine E.fin (rs := [_]) (rn []) (.inl rfl) rfl (.cons (ResOne.tmp rfl) .nil) ?_ ?_ rfl (fixL_spec rfl)
       ·skip
        exact iv_bool (dec_f (formed_nr (p := (Prob.mk N ps rs)) (i := j) (show j < rs.length by omega) (fun q : ruOk N rs[j]! => by unfold ruOk at q; omega)))
       · exact SubS.nil
      first | have hg23p := G.gA7 hg23 | have hg23p := G.gA8 hg23 | have hg23p := hg23
      refine SL.sk rfl rfl rfl hg23 (SL.sk rfl rfl rfl hg23 (SL.sk rfl rfl rfl hg23 (SL.sk rfl rfl rfl hg23 (SL.sk rfl rfl rfl hg23 ?_))))
      refine SL.val (O.pick_t rfl (G.ne_f hg23) rfl rfl Taken.no) ?_
      refine SL.mv rfl rfl ?_
      have hg31 : true ≠ false := by decide
      refine SL.sk rfl rfl rfl hg31 (SL.sk rfl rfl rfl hg31 (SL.sk rfl rfl rfl hg31 ?_))
      refine SL.val (O.pick_t rfl rfl rfl rfl Taken.no) ?_
      refine SL.mv rfl rfl ?_
      have hg32 : true ≠ false := by decide
      refine SL.sk rfl rfl rfl hg32 (SL.sk rfl rfl rfl hg32 (SL.sk rfl rfl rfl hg32 (SL.sk rfl rfl rfl hg32 (SL.sk rfl rfl rfl hg32 ?_))))
      refine SL.val (O.pick_t rfl rfl rfl rfl Taken.no) ?_
      refine SL.mv rfl rfl ?_
      have hg33 : true ≠ false := by decide
      refine SL.sk rfl rfl rfl hg33 (SL.sk rfl rfl rfl hg33 (SL.sk rfl rfl rfl hg33 (SL.sk rfl rfl rfl hg33 (SL.sk rfl rfl rfl hg33 ?_))))
      refine SL.val (O.pick_t rfl rfl rfl rfl Taken.no) ?_
      refine E.fo ?_
      refine W.pick (K:=[(1,_),(5,_),(148,_)]) (Z:=[(101,_),(103,_)]) ⟨rfl,rfl,rfl,trivial⟩ ⟨rfl,rfl,trivial⟩ ?_
      refine W.cond_t rfl ?_
      refine W.rg (SL.an rfl rfl (E.fo (W.ret ?_)))
      refine E.inr ?_
      refine E.thr (E.thr ?_)
      refine E.inr ?_
      refine E.thr ?_
      refine E.fin (rs := [_]) (rn []) (.inl rfl) rfl (.cons (ResOne.tmp rfl) .nil) ?_ ?_ rfl (fixL_spec rfl)
      ·skip
       exact iv_bool (dec_f (formed_nr (p := (Prob.mk N ps rs)) (i := j) (show j < rs.length by omega) (fun q : ruOk N rs[j]! => by unfold ruOk at q; omega)))
      · exact SubS.nil
     first | have hg22p := G.gA7 hg22 | have hg22p := G.gA8 hg22 | have hg22p := hg22
     refine SL.sk rfl rfl rfl hg22 (SL.sk rfl rfl rfl hg22 (SL.sk rfl rfl rfl hg22 ?_))
     refine SL.val (O.pick_t rfl (G.ne_f hg22) rfl rfl Taken.no) ?_
     refine SL.mv rfl rfl ?_
     have hg34 : true ≠ false := by decide
     refine SL.sk rfl rfl rfl hg34 (SL.sk rfl rfl rfl hg34 (SL.sk rfl rfl rfl hg34 (SL.sk rfl rfl rfl hg34 (SL.sk rfl rfl rfl hg34 ?_))))
     refine SL.val (O.pick_t rfl rfl rfl rfl Taken.no) ?_
     refine SL.mv rfl rfl ?_
     have hg35 : true ≠ false := by decide
     refine SL.sk rfl rfl rfl hg35 (SL.sk rfl rfl rfl hg35 (SL.sk rfl rfl rfl hg35 ?_))
     refine SL.val (O.pick_t rfl rfl rfl rfl Taken.no) ?_
     refine SL.mv rfl rfl ?_
     have hg36 : true ≠ false := by decide
     refine SL.sk rfl rfl rfl hg36 (SL.sk rfl rfl rfl hg36 (SL.sk rfl rfl rfl hg36 (SL.sk rfl rfl rfl hg36 (SL.sk rfl rfl rfl hg36 ?_))))
     refine SL.val (O.pick_t rfl rfl rfl rfl Taken.no) ?_
     refine SL.mv rfl rfl ?_
     have hg37 : true ≠ false := by decide
     refine SL.sk rfl rfl rfl hg37 (SL.sk rfl rfl rfl hg37 (SL.sk rfl rfl rfl hg37 (SL.sk rfl rfl rfl hg37 (SL.sk rfl rfl rfl hg37 ?_))))
     refine SL.val (O.pick_t rfl rfl rfl rfl Taken.no) ?_
     refine E.fo ?_
     refine W.pick (K:=[(1,_),(5,_),(148,_)]) (Z:=[(101,_),(103,_)]) ⟨rfl,rfl,rfl,trivial⟩ ⟨rfl,rfl,trivial⟩ ?_
     refine W.cond_t rfl ?_
     refine W.rg (SL.an rfl rfl (E.fo (W.ret ?_)))
     refine E.inr ?_
     refine E.thr (E.thr ?_)
     refine E.inr ?_
     refine E.thr ?_
     refine E.fin (rs := [_]) (rn []) (.inl rfl) rfl (.cons (ResOne.tmp rfl) .nil) ?_ ?_ rfl (fixL_spec rfl)
     ·skip
      exact iv_bool (dec_f (formed_nr (p := (Prob.mk N ps rs)) (i := j) (show j < rs.length by omega) (fun q : ruOk N rs[j]! => by unfold ruOk at q; omega)))
     · exact SubS.nil
    first | have hg21p := G.gA5 hg21 | have hg21p := G.gA6 hg21 | have hg21p := hg21
    refine SL.sk rfl rfl rfl hg21 (SL.sk rfl rfl rfl hg21 (SL.sk rfl rfl rfl hg21 ?_))
    refine SL.val (O.pick_f rfl (G.ne_t hg21) rfl rfl Taken.no) ?_
    refine SL.mv rfl rfl ?_
    have hg38 : false = false := by decide
    refine SL.val (O.fld_ref (o' := 1) rfl Try.underlying51 rfl (m := 0) (by kernel_rfl) rfl rfl (Taken.yes rfl rfl hg38)) ?_
    refine SL.val (O.ld1 (PtI.ref rfl rfl) rfl Try.underlying3 rfl rfl (Taken.yes rfl rfl hg38)) ?_
    refine SL.val (O.det (fun _ => G.R.lss rfl rfl) rfl (Taken.yes rfl rfl hg38)) ?_
    refine SL.val (O.pick_f rfl rfl rfl rfl Taken.no) ?_
    refine SL.mv rfl rfl ?_
    refine SL.case (j := 13) (g := 123) (want := false) rfl rfl (fun hg39 => ?_) (fun hg39 => ?_)
    ·skip
     first | have hg39p := G.gA3 hg39 | have hg39p := G.gA4 hg39 | have hg39p := hg39
     refine SL.val (O.fld_ref (o' := 1) rfl Try.underlying51 rfl (m := 0) (by kernel_rfl) rfl rfl (Taken.yes rfl rfl hg39)) ?_
     refine SL.val (O.ld1 (PtI.ref rfl rfl) rfl Try.underlying3 rfl rfl (Taken.yes rfl rfl hg39)) ?_
     refine SL.val (O.fld_ref (o' := 0) rfl Try.underlying25 rfl (m := 0) (by kernel_rfl) rfl rfl (Taken.yes rfl rfl hg39)) ?_
     refine SL.val (O.ld1 (PtI.ref rfl rfl) rfl Try.underlying3 rfl rfl (Taken.yes rfl rfl hg39)) ?_
     refine SL.val (O.det (fun _ => G.R.geq rfl rfl) rfl (Taken.yes rfl rfl hg39)) ?_
     refine SL.val (O.pick_f rfl hg39 rfl rfl Taken.no) ?_
     refine SL.mv rfl rfl ?_
     refine SL.case (j := 20) (g := 130) (want := false) rfl rfl (fun hg40 => ?_) (fun hg40 => ?_)
     ·skip
      first | have hg40p := G.gA3 hg40 | have hg40p := G.gA4 hg40 | have hg40p := hg40
      refine SL.val (O.fld_ref (o' := 2) rfl Try.underlying51 rfl (m := 0) (by kernel_rfl) rfl rfl (Taken.yes rfl rfl hg40)) ?_
      refine SL.val (O.ld1 (PtI.ref rfl rfl) rfl Try.underlying3 rfl rfl (Taken.yes rfl rfl hg40)) ?_
      refine SL.val (O.det (fun _ => G.R.lss rfl rfl) rfl (Taken.yes rfl rfl hg40)) ?_
      refine SL.val (O.pick_f rfl hg40 rfl rfl Taken.no) ?_
      refine SL.mv rfl rfl ?_
      refine SL.case (j := 25) (g := 135) (want := false) rfl rfl (fun hg41 => ?_) (fun hg41 => ?_)
      ·skip
       first | have hg41p := G.gA3 hg41 | have hg41p := G.gA4 hg41 | have hg41p := hg41
       refine SL.val (O.fld_ref (o' := 2) rfl Try.underlying51 rfl (m := 0) (by kernel_rfl) rfl rfl (Taken.yes rfl rfl hg41)) ?_
       refine SL.val (O.ld1 (PtI.ref rfl rfl) rfl Try.underlying3 rfl rfl (Taken.yes rfl rfl hg41)) ?_
       refine SL.val (O.fld_ref (o' := 0) rfl Try.underlying25 rfl (m := 0) (by kernel_rfl) rfl rfl (Taken.yes rfl rfl hg41)) ?_
       refine SL.val (O.ld1 (PtI.ref rfl rfl) rfl Try.underlying3 rfl rfl (Taken.yes rfl rfl hg41)) ?_
       refine SL.val (O.det (fun _ => G.R.geq rfl rfl) rfl (Taken.yes rfl rfl hg41)) ?_
       refine SL.val (O.pick_f rfl hg41 rfl rfl Taken.no) ?_
       refine SL.mv rfl rfl ?_
       refine SL.case (j := 32) (g := 142) (want := false) rfl rfl (fun hg42 => ?_) (fun hg42 => ?_)
       ·skip
        first | have hg42p := G.gA3 hg42 | have hg42p := G.gA4 hg42 | have hg42p := hg42
        refine SL.val (O.fld_ref (o' := 1) rfl Try.underlying51 rfl (m := 0) (by kernel_rfl) rfl rfl (Taken.yes rfl rfl hg42)) ?_
        refine SL.val (O.ld1 (PtI.ref rfl rfl) rfl Try.underlying3 rfl rfl (Taken.yes rfl rfl hg42)) ?_
        refine SL.val (O.fld_ref (o' := 2) rfl Try.underlying51 rfl (m := 0) (by kernel_rfl) rfl rfl (Taken.yes rfl rfl hg42)) ?_
        refine SL.val (O.ld1 (PtI.ref rfl rfl) rfl Try.underlying3 rfl rfl (Taken.yes rfl rfl hg42)) ?_
        refine SL.val (O.det (fun _ => G.R.eql rfl rfl) rfl (Taken.yes rfl rfl hg42)) ?_
        refine SL.val (O.pick_f rfl hg42 rfl rfl Taken.no) ?_
        refine E.fo ?_
        refine W.pick (K:=[(1,_),(5,_),(148,_)]) (Z:=[(101,_),(103,_)]) ⟨rfl,rfl,rfl,trivial⟩ ⟨rfl,rfl,trivial⟩ ?_
        first | refine W.cond_d rfl (fun hc43 => ?_) (fun hc43 => ?_) | refine W.cond_nd rfl (fun hc43 => ?_) (fun hc43 => ?_) | refine W.cond rfl (fun hc43 => ?_) (fun hc43 => ?_)
        ·skip
         refine W.rg (SL.an rfl rfl (E.fo (W.ret ?_)))
         refine E.inr ?_
         refine E.thr (E.thr ?_)
         refine E.inr ?_
         refine E.thr ?_
         refine E.fin (rs := [_]) (rn []) (.inl rfl) rfl (.cons (ResOne.tmp rfl) .nil) ?_ ?_ rfl (fixL_spec rfl)
         ·skip
          exact iv_bool (dec_f (formed_nr (p := (Prob.mk N ps rs)) (i := j) (show j < rs.length by omega) (fun q : ruOk N rs[j]! => by unfold ruOk at q; omega)))
         · exact SubS.nil
        have hrk : ruOk N rs[j]! := by unfold ruOk; omega
        refine W.skip (E.inn (E.to (W.region (SL.mv rfl rfl ?_))))
        refine SL.val (O.det (fun _ => by first | exact G.R.add64 rfl rfl (by omega) | exact G.R.add rfl rfl) rfl Taken.no) ?_
        refine SL.an rfl rfl (SL.nil ?_)
        refine E.again ((j + 1)) (rn []) ?_ ?_ rfl (fixL_spec rfl) ?_ ?_
        · exact (SubF.cons rfl (SubF.cons rfl SubF.nil))
        · exact (SubS.cons rfl SubS.nil)
        ·try dsimp only
         exact ⟨by omega, rOk_s hq hrk⟩
        · (try dsimp only); omega
       first | have hg42p := G.gA7 hg42 | have hg42p := G.gA8 hg42 | have hg42p := hg42
       refine SL.sk rfl rfl rfl hg42 (SL.sk rfl rfl rfl hg42 (SL.sk rfl rfl rfl hg42 (SL.sk rfl rfl rfl hg42 (SL.sk rfl rfl rfl hg42 ?_))))
       refine SL.val (O.pick_t rfl (G.ne_f hg42) rfl rfl Taken.no) ?_
       refine E.fo ?_
       refine W.pick (K:=[(1,_),(5,_),(148,_)]) (Z:=[(101,_),(103,_)]) ⟨rfl,rfl,rfl,trivial⟩ ⟨rfl,rfl,trivial⟩ ?_
       refine W.cond_t rfl ?_
       refine W.rg (SL.an rfl rfl (E.fo (W.ret ?_)))
       refine E.inr ?_
       refine E.thr (E.thr ?_)
       refine E.inr ?_
       refine E.thr ?_
       refine E.fin (rs := [_]) (rn []) (.inl rfl) rfl (.cons (ResOne.tmp rfl) .nil) ?_ ?_ rfl (fixL_spec rfl)
       ·skip
        exact iv_bool (dec_f (formed_nr (p := (Prob.mk N ps rs)) (i := j) (show j < rs.length by omega) (fun q : ruOk N rs[j]! => by unfold ruOk at q; omega)))
       · exact SubS.nil
      first | have hg41p := G.gA7 hg41 | have hg41p := G.gA8 hg41 | have hg41p := hg41
      refine SL.sk rfl rfl rfl hg41 (SL.sk rfl rfl rfl hg41 (SL.sk rfl rfl rfl hg41 (SL.sk rfl rfl rfl hg41 (SL.sk rfl rfl rfl hg41 ?_))))
      refine SL.val (O.pick_t rfl (G.ne_f hg41) rfl rfl Taken.no) ?_
      refine SL.mv rfl rfl ?_
      have hg44 : true ≠ false := by decide
      refine SL.sk rfl rfl rfl hg44 (SL.sk rfl rfl rfl hg44 (SL.sk rfl rfl rfl hg44 (SL.sk rfl rfl rfl hg44 (SL.sk rfl rfl rfl hg44 ?_))))
      refine SL.val (O.pick_t rfl rfl rfl rfl Taken.no) ?_
      refine E.fo ?_
      refine W.pick (K:=[(1,_),(5,_),(148,_)]) (Z:=[(101,_),(103,_)]) ⟨rfl,rfl,rfl,trivial⟩ ⟨rfl,rfl,trivial⟩ ?_
      refine W.cond_t rfl ?_
      refine W.rg (SL.an rfl rfl (E.fo (W.ret ?_)))
      refine E.inr ?_
      refine E.thr (E.thr ?_)
      refine E.inr ?_
      refine E.thr ?_
      refine E.fin (rs := [_]) (rn []) (.inl rfl) rfl (.cons (ResOne.tmp rfl) .nil) ?_ ?_ rfl (fixL_spec rfl)
      ·skip
       exact iv_bool (dec_f (formed_nr (p := (Prob.mk N ps rs)) (i := j) (show j < rs.length by omega) (fun q : ruOk N rs[j]! => by unfold ruOk at q; omega)))
      · exact SubS.nil
     first | have hg40p := G.gA7 hg40 | have hg40p := G.gA8 hg40 | have hg40p := hg40
     refine SL.sk rfl rfl rfl hg40 (SL.sk rfl rfl rfl hg40 (SL.sk rfl rfl rfl hg40 ?_))
     refine SL.val (O.pick_t rfl (G.ne_f hg40) rfl rfl Taken.no) ?_
     refine SL.mv rfl rfl ?_
     have hg45 : true ≠ false := by decide
     refine SL.sk rfl rfl rfl hg45 (SL.sk rfl rfl rfl hg45 (SL.sk rfl rfl rfl hg45 (SL.sk rfl rfl rfl hg45 (SL.sk rfl rfl rfl hg45 ?_))))
     refine SL.val (O.pick_t rfl rfl rfl rfl Taken.no) ?_
     refine SL.mv rfl rfl ?_
     have hg46 : true ≠ false := by decide
     refine SL.sk rfl rfl rfl hg46 (SL.sk rfl rfl rfl hg46 (SL.sk rfl rfl rfl hg46 (SL.sk rfl rfl rfl hg46 (SL.sk rfl rfl rfl hg46 ?_))))
     refine SL.val (O.pick_t rfl rfl rfl rfl Taken.no) ?_
     refine E.fo ?_
     refine W.pick (K:=[(1,_),(5,_),(148,_)]) (Z:=[(101,_),(103,_)]) ⟨rfl,rfl,rfl,trivial⟩ ⟨rfl,rfl,trivial⟩ ?_
     refine W.cond_t rfl ?_
     refine W.rg (SL.an rfl rfl (E.fo (W.ret ?_)))
     refine E.inr ?_
     refine E.thr (E.thr ?_)
     refine E.inr ?_
     refine E.thr ?_
     refine E.fin (rs := [_]) (rn []) (.inl rfl) rfl (.cons (ResOne.tmp rfl) .nil) ?_ ?_ rfl (fixL_spec rfl)
     ·skip
      exact iv_bool (dec_f (formed_nr (p := (Prob.mk N ps rs)) (i := j) (show j < rs.length by omega) (fun q : ruOk N rs[j]! => by unfold ruOk at q; omega)))
     · exact SubS.nil
    first | have hg39p := G.gA7 hg39 | have hg39p := G.gA8 hg39 | have hg39p := hg39
    refine SL.sk rfl rfl rfl hg39 (SL.sk rfl rfl rfl hg39 (SL.sk rfl rfl rfl hg39 (SL.sk rfl rfl rfl hg39 (SL.sk rfl rfl rfl hg39 ?_))))
    refine SL.val (O.pick_t rfl (G.ne_f hg39) rfl rfl Taken.no) ?_
    refine SL.mv rfl rfl ?_
    have hg47 : true ≠ false := by decide
    refine SL.sk rfl rfl rfl hg47 (SL.sk rfl rfl rfl hg47 (SL.sk rfl rfl rfl hg47 ?_))
    refine SL.val (O.pick_t rfl rfl rfl rfl Taken.no) ?_
    refine SL.mv rfl rfl ?_
    have hg48 : true ≠ false := by decide
    refine SL.sk rfl rfl rfl hg48 (SL.sk rfl rfl rfl hg48 (SL.sk rfl rfl rfl hg48 (SL.sk rfl rfl rfl hg48 (SL.sk rfl rfl rfl hg48 ?_))))
    refine SL.val (O.pick_t rfl rfl rfl rfl Taken.no) ?_
    refine SL.mv rfl rfl ?_
    have hg49 : true ≠ false := by decide
    refine SL.sk rfl rfl rfl hg49 (SL.sk rfl rfl rfl hg49 (SL.sk rfl rfl rfl hg49 (SL.sk rfl rfl rfl hg49 (SL.sk rfl rfl rfl hg49 ?_))))
    refine SL.val (O.pick_t rfl rfl rfl rfl Taken.no) ?_
    refine E.fo ?_
    refine W.pick (K:=[(1,_),(5,_),(148,_)]) (Z:=[(101,_),(103,_)]) ⟨rfl,rfl,rfl,trivial⟩ ⟨rfl,rfl,trivial⟩ ?_
    refine W.cond_t rfl ?_
    refine W.rg (SL.an rfl rfl (E.fo (W.ret ?_)))
    refine E.inr ?_
    refine E.thr (E.thr ?_)
    refine E.inr ?_
    refine E.thr ?_
    refine E.fin (rs := [_]) (rn []) (.inl rfl) rfl (.cons (ResOne.tmp rfl) .nil) ?_ ?_ rfl (fixL_spec rfl)
    ·skip
     exact iv_bool (dec_f (formed_nr (p := (Prob.mk N ps rs)) (i := j) (show j < rs.length by omega) (fun q : ruOk N rs[j]! => by unfold ruOk at q; omega)))
    · exact SubS.nil
   refine W.exit (E.th (E.th (E.hit (E.to (W.rg (SL.an rfl rfl (E.fo (W.ret ?_))))))))
   refine E.fin (rs := [_]) (rn []) (.inl rfl) rfl (.cons (ResOne.tmp rfl) .nil) ?_ ?_ rfl (fixL_spec rfl)
   ·skip
    exact iv_bool (dec_t ⟨hN0, hN2, hr4, hp, fun i hi => hq i (by have : i < rs.length := hi; omega)⟩)
   · exact SubS.nil
  first | have hg2p := G.gA7 hg2 | have hg2p := G.gA8 hg2 | have hg2p := hg2
  refine SL.sk rfl rfl rfl hg2 (SL.sk rfl rfl rfl hg2 (SL.sk rfl rfl rfl hg2 (SL.sk rfl rfl rfl hg2 ?_)))
  refine SL.val (O.pick_t rfl (G.ne_f hg2) rfl rfl Taken.no) ?_
  refine E.fo ?_
  refine W.cond_t rfl ?_
  refine W.rg (SL.an rfl rfl (E.fo (W.ret (E.thr ?_))))
  refine E.fin (rs := [_]) (rn []) (.inl rfl) rfl (.cons (ResOne.tmp rfl) .nil) ?_ ?_ rfl (fixL_spec rfl)
  ·skip
   exact iv_bool (dec_f fun q => by have q1 : 0 ≤ N := q.1; have q2 : N ≤ 200 := q.2.1; have q3 : rs.length ≤ 400 := q.2.2.1; omega)
  · exact SubS.nil
 first | have hg1p := G.gA7 hg1 | have hg1p := G.gA8 hg1 | have hg1p := hg1
 refine SL.sk rfl rfl rfl hg1 (SL.sk rfl rfl rfl hg1 (SL.sk rfl rfl rfl hg1 ?_))
 refine SL.val (O.pick_t rfl (G.ne_f hg1) rfl rfl Taken.no) ?_
 refine SL.mv rfl rfl ?_
 have hg50 : true ≠ false := by decide
 refine SL.sk rfl rfl rfl hg50 (SL.sk rfl rfl rfl hg50 (SL.sk rfl rfl rfl hg50 (SL.sk rfl rfl rfl hg50 ?_)))
 refine SL.val (O.pick_t rfl rfl rfl rfl Taken.no) ?_
 refine E.fo ?_
 refine W.cond_t rfl ?_
 refine W.rg (SL.an rfl rfl (E.fo (W.ret (E.thr ?_))))
 refine E.fin (rs := [_]) (rn []) (.inl rfl) rfl (.cons (ResOne.tmp rfl) .nil) ?_ ?_ rfl (fixL_spec rfl)
 ·skip
  exact iv_bool (dec_f fun q => by have q1 : 0 ≤ N := q.1; have q2 : N ≤ 200 := q.2.1; have q3 : rs.length ≤ 400 := q.2.2.1; omega)
 · exact SubS.nil

set_option maxRecDepth 8000 in
theorem refvalid_h {N : Int} {ps : List Pr} {rs : List Ru} :
    Con Try.prog 33 [vA [uI N, .sl 3 (ps.map ePr), .sl 3 (rs.map eRu)]] [] (vI (Prob.mk N ps rs).err) [] := by
 refine Con.enterL (n := 13) Try.func33 rfl rfl rfl (fun τ w ok vs hin => ?_)
 have hl0_1 := hin.lenA (i := 0) (j := 1) rfl rfl
 try rw [List.length_map] at hl0_1
 have hl0_2 := hin.lenA (i := 0) (j := 2) rfl rfl
 try rw [List.length_map] at hl0_2
 clear hin
 refine W.rg ?_
 refine SL.memS (O.box (is := [_, _, _]) 101 rfl rfl (by simp) rfl rfl Taken.no) rfl rfl (S' := (101, _) :: _) rfl ?_
 refine SL.an rfl rfl (E.fo (W.seq (W.block (W.rg ?_))))
 refine SL.val (O.ldN (m := 3) (PtI.ref rfl rfl) (js := [_, _, _]) rfl (Nat.le_of_ble_eq_true rfl) Try.underlying25 rfl (by kernel_rfl) rfl Taken.no) ?_
 refine SL.val (O.callp rfl rfl rfl (refformed_h (N := N) (ps := ps) (rs := rs)) (.cons (ArgOk.aggU (.cons (ArgOk.same rfl) (.cons (ArgOk.same rfl) (.cons (ArgOk.same rfl) .nil)))) .nil) hcallOk60 rfl Taken.no) ?_
 refine SL.val (O.det (fun _ => G.R.not rfl) rfl Taken.no) ?_
 refine SL.an rfl rfl (E.fo ?_)
 first | refine W.cond_d rfl (fun hc1 => ?_) (fun hc1 => ?_) | refine W.cond_nd rfl (fun hc1 => ?_) (fun hc1 => ?_) | refine W.cond rfl (fun hc1 => ?_) (fun hc1 => ?_)
 ·skip
  refine W.rg (SL.an rfl rfl (E.fo (W.ret ?_)))
  refine E.inr ?_
  refine E.thr ?_
  refine E.fin (rs := [_]) (rn []) (.inl rfl) rfl (.cons (ResOne.tmp rfl) .nil) ?_ ?_ rfl (fixL_spec rfl)
  ·skip
   rw [Prob.err_1 (by assumption)]; rfl
  · exact SubS.nil
 have hf : (Prob.mk N ps rs).formed := by assumption
 obtain ⟨n, rfl⟩ : ∃ n : Nat, N = (n : Int) := ⟨N.toNat, Prob.nat hf⟩
 have hbe := bad_eq hf
 refine W.seq ?_
 refine W.draw [⟨[101], [], [], []⟩, ⟨[101], [], [], []⟩, ⟨[], [], [], []⟩, ⟨[], [], [], []⟩, ⟨[], [], [], []⟩, ⟨[], [], [], []⟩] rfl (by kernel_rfl) (by kernel_rfl) rfl rfl ?_
 refine WH.val (O.ldN (m := 3) (PtI.ref rfl rfl) (js := [_, _, _]) rfl (Nat.le_of_ble_eq_true rfl) Try.underlying25 rfl (by kernel_rfl) rfl Taken.no) rfl rfl ?_
 refine WH.val (O.ldN (m := 3) (PtI.ref rfl rfl) (js := [_, _, _]) rfl (Nat.le_of_ble_eq_true rfl) Try.underlying25 rfl (by kernel_rfl) rfl Taken.no) rfl rfl ?_
 refine WH.val (O.callp rfl rfl rfl (Con.fz (refatoms_h hf) rfl rfl) (.cons (ArgOk.aggU (.cons (ArgOk.same rfl) (.cons (ArgOk.same rfl) (.cons (ArgOk.same rfl) .nil)))) .nil) hcallOk45 rfl Taken.no) rfl rfl ?_
 refine WH.val (O.callp rfl rfl rfl (refapart_h hf (m := atomsL n rs) (by rw [atomsL, joins_len, List.length_range])) (.cons (ArgOk.aggU (.cons (ArgOk.same rfl) (.cons (ArgOk.same rfl) (.cons (ArgOk.same rfl) .nil)))) (.cons (ArgOk.same rfl) .nil)) hcallOk44 rfl Taken.no) rfl rfl ?_
 refine WH.val (O.det (fun _ => G.R.not rfl) rfl Taken.no) rfl rfl ?_
 refine WH.val (O.assign rfl rfl Taken.no) rfl rfl ?_
 refine WH.nil (E.to ?_)
 first | refine W.cond_d rfl (fun hc2 => ?_) (fun hc2 => ?_) | refine W.cond_nd rfl (fun hc2 => ?_) (fun hc2 => ?_) | refine W.cond rfl (fun hc2 => ?_) (fun hc2 => ?_)
 ·skip
  refine W.rg (SL.an rfl rfl (E.fo (W.ret ?_)))
  refine E.inr ?_
  refine E.thr ?_
  refine E.fin (rs := [_]) (rn []) (.inl rfl) rfl (.cons (ResOne.tmp rfl) .nil) ?_ ?_ rfl (fixL_spec rfl)
  ·skip
   rw [Prob.err_13 hf (by rw [hbe]; simp_all)]; rfl
  · exact SubS.nil
 refine W.skip (E.inn (E.to (W.rg (SL.an rfl rfl (E.fo (W.ret ?_))))))
 refine E.fin (rs := [_]) (rn []) (.inl rfl) rfl (.cons (ResOne.tmp rfl) .nil) ?_ ?_ rfl (fixL_spec rfl)
 ·skip
  rw [Prob.err_0 ⟨hf, by rw [hbe]; simp_all⟩]; rfl
 · exact SubS.nil

end Go.Proofs.Ytbkbeplddddgeaa
end
section
namespace Go.Proofs.Ytbkbeplddddgeaa
open Go Go.RowKit Go.H Go.D33

theorem hcallOk18 : G.callOk Try.prog 18 = true := by kernel_rfl
theorem hcallOk33 : G.callOk Try.prog 33 = true := by kernel_rfl
theorem hcallOk43 : G.callOk Try.prog 43 = true := by kernel_rfl
theorem hcallOk46 : G.callOk Try.prog 46 = true := by kernel_rfl

theorem flat_N (l : List Nat) {t : TypeId} : (SB.data t 1 (l.map eN)).flatP := fun u hu => by
  obtain ⟨r, hr, hu⟩ := List.mem_flatten.1 hu
  obtain ⟨x, _, rfl⟩ := List.mem_map.1 hr
  rw [List.mem_singleton.1 hu]; rfl
theorem rep_0 (n : Nat) : List.replicate n [(.sc (.int .i64 0) : UV)] = (List.replicate n 0).map eN := by rw [List.map_replicate]; rfl

set_option maxRecDepth 8000 in
theorem refAtoms_ok {n : Nat} {ps : List Pr} {rs : List Ru} (hok : (Prob.mk (n : Int) ps rs).ok) :
    Con Try.prog 22 [vA [uI (n : Int), .sl 3 (ps.map ePr), .sl 3 (rs.map eRu)]] [] (.tup [vL 1 ((atomsL n rs).map eN), vI 0]) [] := by
 have hf := hok.1
 have hn2 : (n : Int) ≤ 200 := hf.2.1
 have hr4 : rs.length ≤ 400 := hf.2.2.1
 have hal : (atomsL n rs).length = n := by rw [atomsL, joins_len, List.length_range]
 refine Con.enterL (n := 12) Try.func22 rfl rfl rfl (fun τ w ok vs hin => ?_)
 have hl0_1 := hin.lenA (i := 0) (j := 1) rfl rfl
 try rw [List.length_map] at hl0_1
 have hl0_2 := hin.lenA (i := 0) (j := 2) rfl rfl
 try rw [List.length_map] at hl0_2
 clear hin
 refine W.rg ?_
 refine SL.memS (O.box (is := [_, _, _]) 101 rfl rfl (by simp) rfl rfl Taken.no) rfl rfl (S' := (101, _) :: _) rfl ?_
 refine SL.an rfl rfl (SL.an rfl rfl (E.fo (W.seq (W.rg ?_))))
 refine SL.val (O.ldN (m := 3) (PtI.ref rfl rfl) (js := [_, _, _]) rfl (Nat.le_of_ble_eq_true rfl) Try.underlying25 rfl (by kernel_rfl) rfl Taken.no) ?_
 refine SL.val (O.callp rfl rfl rfl (refvalid_h (N := (n : Int)) (ps := ps) (rs := rs)) (.cons (ArgOk.aggU (.cons (ArgOk.same rfl) (.cons (ArgOk.same rfl) (.cons (ArgOk.same rfl) .nil)))) .nil) hcallOk33 rfl Taken.no) ?_
 refine SL.as (i' := vI 0) 6 rfl (by rw [Prob.err_0 hok]) ?_
 refine SL.an rfl rfl (E.fo (W.rg (SL.mv rfl rfl ?_)))
 refine SL.val (O.det (fun _ => G.R.mv (G.R.neq rfl rfl) (congrArg Value.bool (decide_eq_false (by decide)))) rfl Taken.no) ?_
 refine E.fo ?_
 refine W.cond_f rfl ?_
 refine W.skip (E.to (W.rg ?_))
 refine SL.val (O.ldN (m := 3) (PtI.ref rfl rfl) (js := [_, _, _]) rfl (Nat.le_of_ble_eq_true rfl) Try.underlying25 rfl (by kernel_rfl) rfl Taken.no) ?_
 refine SL.val (O.callp rfl rfl rfl (Con.fz (refatoms_h hf) rfl rfl) (.cons (ArgOk.aggU (.cons (ArgOk.same rfl) (.cons (ArgOk.same rfl) (.cons (ArgOk.same rfl) .nil)))) .nil) hcallOk45 rfl Taken.no) ?_
 refine SL.an rfl rfl (SL.an rfl rfl (E.fo (W.ret ?_)))
 refine E.fin (rs := [_, _]) (rn []) (.inl rfl) rfl (.cons (ResOne.tmp rfl) (.cons (ResOne.tmp rfl) .nil)) ?_ ?_ rfl (fixL_spec rfl)
 ·skip
  rfl
 · exact SubS.nil


set_option maxRecDepth 8000 in
theorem refParts_ok {n : Nat} {ps : List Pr} {rs : List Ru} (hok : (Prob.mk (n : Int) ps rs).ok) :
    Con Try.prog 27 [vA [uI (n : Int), .sl 3 (ps.map ePr), .sl 3 (rs.map eRu)]] [] (.tup [vL 1 ((connL n ps rs (List.replicate n 0)).map eN), vI 0]) [] := by
 have hf := hok.1
 have hn2 : (n : Int) ≤ 200 := hf.2.1
 have hr4 : rs.length ≤ 400 := hf.2.2.1
 have hal : (atomsL n rs).length = n := by rw [atomsL, joins_len, List.length_range]
 obtain ⟨i3, hi3, hz3, hs3, hb3⟩ := hinf3
 refine Con.enterL (n := 15) Try.func27 rfl rfl rfl (fun τ w ok vs hin => ?_)
 have hl0_1 := hin.lenA (i := 0) (j := 1) rfl rfl
 try rw [List.length_map] at hl0_1
 have hl0_2 := hin.lenA (i := 0) (j := 2) rfl rfl
 try rw [List.length_map] at hl0_2
 clear hin
 refine W.rg ?_
 refine SL.memS (O.box (is := [_, _, _]) 101 rfl rfl (by simp) rfl rfl Taken.no) rfl rfl (S' := (101, _) :: _) rfl ?_
 refine SL.an rfl rfl (SL.an rfl rfl (E.fo (W.seq (W.rg ?_))))
 refine SL.val (O.ldN (m := 3) (PtI.ref rfl rfl) (js := [_, _, _]) rfl (Nat.le_of_ble_eq_true rfl) Try.underlying25 rfl (by kernel_rfl) rfl Taken.no) ?_
 refine SL.val (O.callp rfl rfl rfl (refvalid_h (N := (n : Int)) (ps := ps) (rs := rs)) (.cons (ArgOk.aggU (.cons (ArgOk.same rfl) (.cons (ArgOk.same rfl) (.cons (ArgOk.same rfl) .nil)))) .nil) hcallOk33 rfl Taken.no) ?_
 refine SL.as (i' := vI 0) 6 rfl (by rw [Prob.err_0 hok]) ?_
 refine SL.an rfl rfl (E.fo (W.rg (SL.mv rfl rfl ?_)))
 refine SL.val (O.det (fun _ => G.R.mv (G.R.neq rfl rfl) (congrArg Value.bool (decide_eq_false (by decide)))) rfl Taken.no) ?_
 refine E.fo ?_
 refine W.cond_f rfl ?_
 refine W.skip (E.to (W.seq ?_))
 refine W.draw [⟨[101], [], [], []⟩, ⟨[], [], [], [101]⟩, ⟨[101], [], [], []⟩, ⟨[102], [102], [102], []⟩, ⟨[102, 103], [103], [103], []⟩, ⟨[], [], [], [103]⟩, ⟨[], [], [], []⟩] rfl (by kernel_rfl) (by kernel_rfl) rfl rfl ?_
 refine WH.val (O.ldN (m := 3) (PtI.ref rfl rfl) (js := [_, _, _]) rfl (Nat.le_of_ble_eq_true rfl) Try.underlying25 rfl (by kernel_rfl) rfl Taken.no) rfl rfl ?_
 refine WH.val (O.fld_ref (o' := 0) rfl Try.underlying25 rfl (m := 0) (by kernel_rfl) rfl rfl Taken.no) rfl rfl ?_
 refine WH.val (O.ld1 (PtI.ref rfl rfl) rfl Try.underlying3 rfl rfl Taken.no) rfl rfl ?_
 refine WH.memS (O.make (m := n) (kk := 102) rfl rfl (by rfl) (by rfl) Try.underlying32 hi3 hz3 hs3 rfl rfl (by decide) rfl (by rw [hb3]; omega) (by omega) rfl Taken.no) rfl rfl rfl rfl rfl (S' := (102, .data 3 1 ((List.replicate n 0).map eN)) :: _) (by rw [← rep_0]; rfl) ?_
 refine WH.memS (O.call (rn [(0, 103)]) [102] rfl rfl rfl (refconn_h hf (m := List.replicate n 0) (by rw [List.length_replicate])) (.cons (ArgOk.aggU (.cons (ArgOk.same rfl) (.cons (ArgOk.same rfl) (.cons (ArgOk.same rfl) .nil)))) (.cons (ArgOk.own rfl rfl) .nil)) SubS.nil rfl rfl rfl rfl rfl (.inr ⟨rfl, fun x hx => by rw [List.mem_singleton] at hx; subst hx; exact flat_N _⟩) hcallOk46 (r' := .own 103) rfl rfl Taken.no) rfl rfl rfl rfl rfl (S' := (103, .data _ _ _) :: _) rfl ?_
 refine WH.val (O.assign rfl rfl Taken.no) rfl rfl ?_
 refine WH.val (O.assign rfl rfl Taken.no) rfl rfl ?_
 refine WH.nil (E.to (W.ret ?_))
 refine E.freeze 103 rfl (F' := [(2, _)]) (⟨⟨_, rfl, rfl⟩, trivial⟩) ?_
 refine E.fin (rs := [_, _]) (rn []) (.inl rfl) rfl (.cons (ResOne.tmp rfl) (.cons (ResOne.tmp rfl) .nil)) ?_ ?_ rfl (fixL_spec rfl)
 ·skip
  rfl
 · exact SubS.nil


set_option maxRecDepth 8000 in
theorem refpartition_h {n : Nat} {l : List Int} :
    Con Try.prog 43 [vL 1 (l.map eI), vI (n : Int)] [] (vB (decide (isPart n l))) [] := by
 obtain ⟨i3, hi3, hz3, hs3, hb3⟩ := hinf3
 refine Con.enterL (n := 42) Try.func43 rfl rfl rfl (fun τ w ok vs hin => ?_)
 have hl0 := hin.len (i := 0) rfl
 try rw [List.length_map] at hl0
 clear hin
 refine W.rg (SL.an rfl rfl (E.fo (W.seq (W.rg (SL.mv rfl rfl ?_)))))
 refine SL.val (O.lenE (SlOf.fz rfl (by decide)) (by first | exact List.length_map _ | rfl) Try.underlying32 rfl Taken.no) ?_
 refine SL.mv rfl rfl ?_
 refine SL.val (O.det (fun _ => G.R.neq rfl rfl) rfl Taken.no) ?_
 refine E.fo ?_
 first | refine W.cond_d rfl (fun hc1 => ?_) (fun hc1 => ?_) | refine W.cond_nd rfl (fun hc1 => ?_) (fun hc1 => ?_) | refine W.cond rfl (fun hc1 => ?_) (fun hc1 => ?_)
 ·skip
  refine W.rg (SL.an rfl rfl (E.fo (W.ret (E.thr ?_))))
  refine E.fin (rs := [_]) (rn []) (.inl rfl) rfl (.cons (ResOne.tmp rfl) .nil) ?_ ?_ rfl (fixL_spec rfl)
  ·skip
   exact iv_bool (dec_f fun q => by have := q.1; omega)
  · exact SubS.nil
 refine W.skip (E.to (W.seq (W.rg (SL.an rfl rfl (E.fo (W.block ?_))))))
 refine W.loopx1 (fun (k : Nat) => [(5, vI (k : Int))]) (fun (k : Nat) => []) (fun (k : Nat) => k ≤ l.length ∧ ∀ i, i < k → 0 ≤ l[i]! ∧ l[i]! ≤ (i : Int) ∧ l[(l[i]!).toNat]! = l[i]!) (fun (k : Nat) => l.length - k) (0) (rn []) (.cons (t := 0) rfl (.cons (t := 1) rfl .nil)) .nil rfl ?_ ?_ rfl rfl ?_ ?_
 · exact (SubF.cons rfl SubF.nil)
 · exact SubS.nil
 ·skip
  exact ⟨by omega, fun i h => by omega⟩
 intro k hinv
 obtain ⟨hk, hp⟩ := hinv
 refine W.seq (W.rg (SL.mv rfl rfl (SL.mv rfl rfl ?_)))
 refine SL.val (O.det (fun _ => G.R.lss rfl rfl) rfl Taken.no) ?_
 refine E.fo ?_
 first | refine W.cond_d rfl (fun hc2 => ?_) (fun hc2 => ?_) | refine W.cond_nd rfl (fun hc2 => ?_) (fun hc2 => ?_) | refine W.cond rfl (fun hc2 => ?_) (fun hc2 => ?_)
 ·skip
  refine W.skip (E.to (W.seq (W.block (W.seq ?_))))
  refine W.draw [⟨[], [], [], []⟩, ⟨[], [], [], []⟩, ⟨[], [], [], []⟩, ⟨[], [], [], []⟩, ⟨[], [], [], []⟩, ⟨[], [], [], []⟩, ⟨[], [], [], []⟩, ⟨[], [], [], []⟩, ⟨[], [], [], []⟩, ⟨[], [], [], []⟩, ⟨[], [], [], []⟩, ⟨[], [], [], []⟩, ⟨[], [], [], []⟩, ⟨[], [], [], []⟩, ⟨[], [], [], []⟩, ⟨[], [], [], []⟩, ⟨[], [], [], []⟩, ⟨[], [], [], []⟩, ⟨[], [], [], []⟩, ⟨[], [], [], []⟩, ⟨[], [], [], []⟩, ⟨[], [], [], []⟩, ⟨[], [], [], []⟩, ⟨[], [], [], []⟩, ⟨[], [], [], []⟩, ⟨[], [], [], []⟩, ⟨[], [], [], []⟩] rfl (by kernel_rfl) (by kernel_rfl) rfl rfl ?_
  refine WH.mv rfl rfl rfl (WH.mv rfl rfl rfl ?_)
  refine WH.val (O.idx_fz rfl rfl (rfl) (row_get (by omega)) Try.underlying32 hi3 hs3 rfl Taken.no) rfl rfl ?_
  refine WH.val (O.ld1 (PtI.ofU (PtU.fz rfl)) rfl Try.underlying3 rfl rfl Taken.no) rfl rfl ?_
  refine WH.val (O.det (fun _ => G.R.lss rfl rfl) rfl Taken.no) rfl rfl ?_
  refine WH.mv rfl rfl rfl ?_
  refine WH.case (j := 5) (g := 20) (want := false) rfl rfl (fun hg3 => ?_) (fun hg3 => ?_)
  ·skip
   first | have hg3p := G.gA3 hg3 | have hg3p := G.gA4 hg3 | have hg3p := hg3
   refine WH.val (O.move rfl rfl (Taken.yes rfl rfl hg3)) rfl rfl ?_
   refine WH.val (O.move rfl rfl (Taken.yes rfl rfl hg3)) rfl rfl ?_
   refine WH.val (O.idx_fz rfl rfl (rfl) (row_get (by omega)) Try.underlying32 hi3 hs3 rfl (Taken.yes rfl rfl hg3)) rfl rfl ?_
   refine WH.val (O.ld1 (PtI.ofU (PtU.fz rfl)) rfl Try.underlying3 rfl rfl (Taken.yes rfl rfl hg3)) rfl rfl ?_
   refine WH.val (O.move rfl rfl (Taken.yes rfl rfl hg3)) rfl rfl ?_
   refine WH.val (O.det (fun _ => G.R.gtr rfl rfl) rfl (Taken.yes rfl rfl hg3)) rfl rfl ?_
   refine WH.val (O.pick_f rfl hg3 rfl rfl Taken.no) rfl rfl ?_
   refine WH.mv rfl rfl rfl ?_
   refine WH.case (j := 13) (g := 28) (want := false) rfl rfl (fun hg4 => ?_) (fun hg4 => ?_)
   ·skip
    first | have hg4p := G.gA3 hg4 | have hg4p := G.gA4 hg4 | have hg4p := hg4
    refine WH.val (O.move rfl rfl (Taken.yes rfl rfl hg4)) rfl rfl ?_
    refine WH.val (O.move rfl rfl (Taken.yes rfl rfl hg4)) rfl rfl ?_
    refine WH.val (O.move rfl rfl (Taken.yes rfl rfl hg4)) rfl rfl ?_
    refine WH.val (O.idx_fz rfl rfl (rfl) (row_get (by omega)) Try.underlying32 hi3 hs3 rfl (Taken.yes rfl rfl hg4)) rfl rfl ?_
    refine WH.val (O.ld1 (PtI.ofU (PtU.fz rfl)) rfl Try.underlying3 rfl rfl (Taken.yes rfl rfl hg4)) rfl rfl ?_
    refine WH.val (O.idx_fz (i := (l[k]!).toNat) rfl rfl (by omega) (row_get (by omega)) Try.underlying32 hi3 hs3 rfl (Taken.yes rfl rfl hg4)) rfl rfl ?_
    refine WH.val (O.ld1 (PtI.ofU (PtU.fz rfl)) rfl Try.underlying3 rfl rfl (Taken.yes rfl rfl hg4)) rfl rfl ?_
    refine WH.val (O.move rfl rfl (Taken.yes rfl rfl hg4)) rfl rfl ?_
    refine WH.val (O.move rfl rfl (Taken.yes rfl rfl hg4)) rfl rfl ?_
    refine WH.val (O.idx_fz rfl rfl (rfl) (row_get (by omega)) Try.underlying32 hi3 hs3 rfl (Taken.yes rfl rfl hg4)) rfl rfl ?_
    refine WH.val (O.ld1 (PtI.ofU (PtU.fz rfl)) rfl Try.underlying3 rfl rfl (Taken.yes rfl rfl hg4)) rfl rfl ?_
    refine WH.val (O.det (fun _ => G.R.neq rfl rfl) rfl (Taken.yes rfl rfl hg4)) rfl rfl ?_
    refine WH.val (O.pick_f rfl hg4 rfl rfl Taken.no) rfl rfl ?_
    refine WH.nil (E.to ?_)
    refine W.pick (K:=[(0,_),(1,_),(5,_),(41,_)]) (Z:=[]) ⟨rfl,rfl,rfl,rfl,trivial⟩ trivial ?_
    first | refine W.cond_d rfl (fun hc5 => ?_) (fun hc5 => ?_) | refine W.cond_nd rfl (fun hc5 => ?_) (fun hc5 => ?_) | refine W.cond rfl (fun hc5 => ?_) (fun hc5 => ?_)
    ·skip
     refine W.rg (SL.an rfl rfl (E.fo (W.ret ?_)))
     refine E.inr ?_
     refine E.thr (E.thr ?_)
     refine E.inr ?_
     refine E.thr ?_
     refine E.fin (rs := [_]) (rn []) (.inl rfl) rfl (.cons (ResOne.tmp rfl) .nil) ?_ ?_ rfl (fixL_spec rfl)
     ·skip
      exact iv_bool (dec_f fun q => by have q1 := q.2 k (by omega); omega)
     · exact SubS.nil
    refine W.skip (E.inn (E.to (W.region (SL.mv rfl rfl ?_))))
    refine SL.val (O.det (fun _ => by first | exact G.R.add64 rfl rfl (by omega) | exact G.R.add rfl rfl) rfl Taken.no) ?_
    refine SL.an rfl rfl (SL.nil ?_)
    refine E.again ((k + 1)) (rn []) ?_ ?_ rfl (fixL_spec rfl) ?_ ?_
    · exact (SubF.cons rfl (SubF.cons rfl (SubF.cons rfl SubF.nil)))
    · exact SubS.nil
    ·try dsimp only
     exact ⟨by omega, fun j hj => by rcases Nat.lt_succ_iff_lt_or_eq.1 hj with h | h; exact hp j h; subst h; exact ⟨by omega, by omega, by omega⟩⟩
    · (try dsimp only); omega
   first | have hg4p := G.gA7 hg4 | have hg4p := G.gA8 hg4 | have hg4p := hg4
   refine WH.sk rfl rfl rfl hg4 (WH.sk rfl rfl rfl hg4 (WH.sk rfl rfl rfl hg4 (WH.sk rfl rfl rfl hg4 (WH.sk rfl rfl rfl hg4 (WH.sk rfl rfl rfl hg4 (WH.sk rfl rfl rfl hg4 (WH.sk rfl rfl rfl hg4 (WH.sk rfl rfl rfl hg4 (WH.sk rfl rfl rfl hg4 (WH.sk rfl rfl rfl hg4 (WH.sk rfl rfl rfl hg4 ?_)))))))))))
   refine WH.val (O.pick_t rfl (G.ne_f hg4) rfl rfl Taken.no) rfl rfl ?_
   refine WH.nil (E.to ?_)
   refine W.pick (K:=[(0,_),(1,_),(5,_),(41,_)]) (Z:=[]) ⟨rfl,rfl,rfl,rfl,trivial⟩ trivial ?_
   refine W.cond_t rfl ?_
   refine W.rg (SL.an rfl rfl (E.fo (W.ret ?_)))
   refine E.inr ?_
   refine E.thr (E.thr ?_)
   refine E.inr ?_
   refine E.thr ?_
   refine E.fin (rs := [_]) (rn []) (.inl rfl) rfl (.cons (ResOne.tmp rfl) .nil) ?_ ?_ rfl (fixL_spec rfl)
   ·skip
    exact iv_bool (dec_f fun q => by have q1 := q.2 k (by omega); omega)
   · exact SubS.nil
  first | have hg3p := G.gA7 hg3 | have hg3p := G.gA8 hg3 | have hg3p := hg3
  refine WH.sk rfl rfl rfl hg3 (WH.sk rfl rfl rfl hg3 (WH.sk rfl rfl rfl hg3 (WH.sk rfl rfl rfl hg3 (WH.sk rfl rfl rfl hg3 (WH.sk rfl rfl rfl hg3 ?_)))))
  refine WH.val (O.pick_t rfl (G.ne_f hg3) rfl rfl Taken.no) rfl rfl ?_
  refine WH.mv rfl rfl rfl ?_
  have hg6 : true ≠ false := by decide
  refine WH.sk rfl rfl rfl hg6 (WH.sk rfl rfl rfl hg6 (WH.sk rfl rfl rfl hg6 (WH.sk rfl rfl rfl hg6 (WH.sk rfl rfl rfl hg6 (WH.sk rfl rfl rfl hg6 (WH.sk rfl rfl rfl hg6 (WH.sk rfl rfl rfl hg6 (WH.sk rfl rfl rfl hg6 (WH.sk rfl rfl rfl hg6 (WH.sk rfl rfl rfl hg6 (WH.sk rfl rfl rfl hg6 ?_)))))))))))
  refine WH.val (O.pick_t rfl rfl rfl rfl Taken.no) rfl rfl ?_
  refine WH.nil (E.to ?_)
  refine W.pick (K:=[(0,_),(1,_),(5,_),(41,_)]) (Z:=[]) ⟨rfl,rfl,rfl,rfl,trivial⟩ trivial ?_
  refine W.cond_t rfl ?_
  refine W.rg (SL.an rfl rfl (E.fo (W.ret ?_)))
  refine E.inr ?_
  refine E.thr (E.thr ?_)
  refine E.inr ?_
  refine E.thr ?_
  refine E.fin (rs := [_]) (rn []) (.inl rfl) rfl (.cons (ResOne.tmp rfl) .nil) ?_ ?_ rfl (fixL_spec rfl)
  ·skip
   exact iv_bool (dec_f fun q => by have q1 := q.2 k (by omega); omega)
  · exact SubS.nil
 refine W.exit (E.th (E.th (E.hit (E.to (W.rg (SL.an rfl rfl (E.fo (W.ret ?_))))))))
 refine E.fin (rs := [_]) (rn []) (.inl rfl) rfl (.cons (ResOne.tmp rfl) .nil) ?_ ?_ rfl (fixL_spec rfl)
 ·skip
  exact iv_bool (dec_t ⟨by omega, fun i hi => hp i (by omega)⟩)
 · exact SubS.nil

set_option maxRecDepth 8000 in
theorem same_h {a b : List Nat} :
    Con Try.prog 18 [vL 1 (a.map eN), vL 1 (b.map eN)] [] (vB (decide (a = b))) [] := by
 obtain ⟨i3, hi3, hz3, hs3, hb3⟩ := hinf3
 refine Con.enterL (n := 26) Try.func18 rfl rfl rfl (fun τ w ok vs hin => ?_)
 have hl0 := hin.len (i := 0) rfl
 try rw [List.length_map] at hl0
 have hl1 := hin.len (i := 1) rfl
 try rw [List.length_map] at hl1
 clear hin
 refine W.rg (SL.an rfl rfl (E.fo (W.seq (W.rg (SL.mv rfl rfl ?_)))))
 refine SL.val (O.lenE (SlOf.fz rfl (by decide)) (by first | exact List.length_map _ | rfl) Try.underlying32 rfl Taken.no) ?_
 refine SL.mv rfl rfl ?_
 refine SL.val (O.lenE (SlOf.fz rfl (by decide)) (by first | exact List.length_map _ | rfl) Try.underlying32 rfl Taken.no) ?_
 refine SL.val (O.det (fun _ => G.R.neq rfl rfl) rfl Taken.no) ?_
 refine E.fo ?_
 first | refine W.cond_d rfl (fun hc1 => ?_) (fun hc1 => ?_) | refine W.cond_nd rfl (fun hc1 => ?_) (fun hc1 => ?_) | refine W.cond rfl (fun hc1 => ?_) (fun hc1 => ?_)
 ·skip
  refine W.rg (SL.an rfl rfl (E.fo (W.ret (E.thr ?_))))
  refine E.fin (rs := [_]) (rn []) (.inl rfl) rfl (.cons (ResOne.tmp rfl) .nil) ?_ ?_ rfl (fixL_spec rfl)
  ·skip
   exact iv_bool (dec_f fun q => by subst q; omega)
  · exact SubS.nil
 refine W.skip (E.to (W.seq (W.rg (SL.an rfl rfl (E.fo (W.block ?_))))))
 refine W.loopx1 (fun (k : Nat) => [(5, vI (k : Int))]) (fun (k : Nat) => []) (fun (k : Nat) => k ≤ a.length ∧ ∀ i, i < k → a[i]! = b[i]!) (fun (k : Nat) => a.length - k) (0) (rn []) (.cons (t := 0) rfl (.cons (t := 1) rfl .nil)) .nil rfl ?_ ?_ rfl rfl ?_ ?_
 · exact (SubF.cons rfl SubF.nil)
 · exact SubS.nil
 ·skip
  exact ⟨by omega, fun i h => by omega⟩
 intro k hinv
 obtain ⟨hk, hp⟩ := hinv
 refine W.seq (W.rg (SL.mv rfl rfl (SL.mv rfl rfl ?_)))
 refine SL.val (O.lenE (SlOf.fz rfl (by decide)) (by first | exact List.length_map _ | rfl) Try.underlying32 rfl Taken.no) ?_
 refine SL.val (O.det (fun _ => G.R.lss rfl rfl) rfl Taken.no) ?_
 refine E.fo ?_
 first | refine W.cond_d rfl (fun hc2 => ?_) (fun hc2 => ?_) | refine W.cond_nd rfl (fun hc2 => ?_) (fun hc2 => ?_) | refine W.cond rfl (fun hc2 => ?_) (fun hc2 => ?_)
 ·skip
  refine W.skip (E.to (W.seq (W.block (W.seq ?_))))
  refine W.draw [⟨[], [], [], []⟩, ⟨[], [], [], []⟩, ⟨[], [], [], []⟩, ⟨[], [], [], []⟩, ⟨[], [], [], []⟩, ⟨[], [], [], []⟩, ⟨[], [], [], []⟩, ⟨[], [], [], []⟩, ⟨[], [], [], []⟩] rfl (by kernel_rfl) (by kernel_rfl) rfl rfl ?_
  refine WH.mv rfl rfl rfl (WH.mv rfl rfl rfl ?_)
  refine WH.val (O.idx_fz rfl rfl (rfl) (row_get (by omega)) Try.underlying32 hi3 hs3 rfl Taken.no) rfl rfl ?_
  refine WH.val (O.ld1 (PtI.ofU (PtU.fz rfl)) rfl Try.underlying3 rfl rfl Taken.no) rfl rfl ?_
  refine WH.mv rfl rfl rfl (WH.mv rfl rfl rfl ?_)
  refine WH.val (O.idx_fz rfl rfl (rfl) (row_get (by omega)) Try.underlying32 hi3 hs3 rfl Taken.no) rfl rfl ?_
  refine WH.val (O.ld1 (PtI.ofU (PtU.fz rfl)) rfl Try.underlying3 rfl rfl Taken.no) rfl rfl ?_
  refine WH.val (O.det (fun _ => G.R.neq rfl rfl) rfl Taken.no) rfl rfl ?_
  refine WH.nil (E.to ?_)
  first | refine W.cond_d rfl (fun hc3 => ?_) (fun hc3 => ?_) | refine W.cond_nd rfl (fun hc3 => ?_) (fun hc3 => ?_) | refine W.cond rfl (fun hc3 => ?_) (fun hc3 => ?_)
  ·skip
   refine W.rg (SL.an rfl rfl (E.fo (W.ret ?_)))
   refine E.inr ?_
   refine E.thr (E.thr ?_)
   refine E.inr ?_
   refine E.thr ?_
   refine E.fin (rs := [_]) (rn []) (.inl rfl) rfl (.cons (ResOne.tmp rfl) .nil) ?_ ?_ rfl (fixL_spec rfl)
   ·skip
    exact iv_bool (dec_f fun q => by subst q; omega)
   · exact SubS.nil
  refine W.skip (E.inn (E.to (W.region (SL.mv rfl rfl ?_))))
  refine SL.val (O.det (fun _ => by first | exact G.R.add64 rfl rfl (by omega) | exact G.R.add rfl rfl) rfl Taken.no) ?_
  refine SL.an rfl rfl (SL.nil ?_)
  refine E.again ((k + 1)) (rn []) ?_ ?_ rfl (fixL_spec rfl) ?_ ?_
  · exact (SubF.cons rfl (SubF.cons rfl (SubF.cons rfl SubF.nil)))
  · exact SubS.nil
  ·try dsimp only
   exact ⟨by omega, fun j hj => by rcases Nat.lt_succ_iff_lt_or_eq.1 hj with h | h; exact hp j h; subst h; omega⟩
  · (try dsimp only); omega
 refine W.exit (E.th (E.th (E.hit (E.to (W.rg (SL.an rfl rfl (E.fo (W.ret ?_))))))))
 refine E.fin (rs := [_]) (rn []) (.inl rfl) rfl (.cons (ResOne.tmp rfl) .nil) ?_ ?_ rfl (fixL_spec rfl)
 ·skip
  exact iv_bool (dec_t (ext_g (by omega) fun i hi => hp i (by omega)))
 · exact SubS.nil




set_option maxRecDepth 8000 in
theorem refPerm_ok {n : Nat} {ps : List Pr} {rs : List Ru} {l : List Int} (hok : (Prob.mk (n : Int) ps rs).ok) :
    Con Try.prog 20 [vA [uI (n : Int), .sl 3 (ps.map ePr), .sl 3 (rs.map eRu)], vL 1 (l.map eI)] [] (vB (decide (permS n ps rs l))) [] := by
 have hf := hok.1
 have hn2 : (n : Int) ≤ 200 := hf.2.1
 have hr4 : rs.length ≤ 400 := hf.2.2.1
 have hal : (atomsL n rs).length = n := by rw [atomsL, joins_len, List.length_range]
 obtain ⟨i3, hi3, hz3, hs3, hb3⟩ := hinf3
 refine Con.enterL (n := 48) Try.func20 rfl rfl rfl (fun τ w ok vs hin => ?_)
 have hl0_1 := hin.lenA (i := 0) (j := 1) rfl rfl
 try rw [List.length_map] at hl0_1
 have hl0_2 := hin.lenA (i := 0) (j := 2) rfl rfl
 try rw [List.length_map] at hl0_2
 have hl1 := hin.len (i := 1) rfl
 try rw [List.length_map] at hl1
 clear hin
 refine W.rg ?_
 refine SL.memS (O.box (is := [_, _, _]) 101 rfl rfl (by simp) rfl rfl Taken.no) rfl rfl (S' := (101, _) :: _) rfl ?_
 refine SL.an rfl rfl (E.fo (W.seq (W.rg ?_)))
 refine SL.val (O.ldN (m := 3) (PtI.ref rfl rfl) (js := [_, _, _]) rfl (Nat.le_of_ble_eq_true rfl) Try.underlying25 rfl (by kernel_rfl) rfl Taken.no) ?_
 refine SL.val (O.callp rfl rfl rfl (refvalid_h (N := (n : Int)) (ps := ps) (rs := rs)) (.cons (ArgOk.aggU (.cons (ArgOk.same rfl) (.cons (ArgOk.same rfl) (.cons (ArgOk.same rfl) .nil)))) .nil) hcallOk33 rfl Taken.no) ?_
 refine SL.as (i' := vI 0) 8 rfl (by rw [Prob.err_0 hok]) ?_
 refine SL.val (O.det (fun _ => G.R.mv (G.R.neq rfl rfl) (congrArg Value.bool (decide_eq_false (by decide)))) rfl Taken.no) ?_
 refine SL.mv rfl rfl ?_
 have hg1 : false = false := by decide
 refine SL.val (O.move rfl rfl (Taken.yes rfl rfl hg1)) ?_
 refine SL.val (O.fld_ref (o' := 0) rfl Try.underlying25 rfl (m := 0) (by kernel_rfl) rfl rfl (Taken.yes rfl rfl hg1)) ?_
 refine SL.val (O.ld1 (PtI.ref rfl rfl) rfl Try.underlying3 rfl rfl (Taken.yes rfl rfl hg1)) ?_
 refine SL.val (O.callp rfl rfl rfl (refpartition_h (n := n) (l := l)) (.cons (ArgOk.same rfl) (.cons (ArgOk.same rfl) .nil)) hcallOk43 rfl (Taken.yes rfl rfl hg1)) ?_
 refine SL.val (O.det (fun _ => G.R.not rfl) rfl (Taken.yes rfl rfl hg1)) ?_
 refine SL.val (O.pick_f rfl rfl rfl rfl Taken.no) ?_
 refine SL.mv rfl rfl ?_
 refine SL.case (j := 10) (g := 17) (want := false) rfl rfl (fun hg2 => ?_) (fun hg2 => ?_)
 ·skip
  first | have hg2p := G.gA3 hg2 | have hg2p := G.gA4 hg2 | have hg2p := hg2
  have hP : isPart n l := by first | assumption | simp_all
  obtain ⟨m, rfl⟩ := cast_of fun i hi => (hP.2 i hi).1
  have hQ := isPart_cast.1 hP
  rw [eI_eN]
  have hml := hQ.1
  refine SL.val (O.ldN (m := 3) (PtI.ref rfl rfl) (js := [_, _, _]) rfl (Nat.le_of_ble_eq_true rfl) Try.underlying25 rfl (by kernel_rfl) rfl (Taken.yes rfl rfl hg2)) ?_
  refine SL.val (O.move rfl rfl (Taken.yes rfl rfl hg2)) ?_
  refine SL.val (O.callp rfl rfl rfl (refapart_h hf (m := m) (by omega)) (.cons (ArgOk.aggU (.cons (ArgOk.same rfl) (.cons (ArgOk.same rfl) (.cons (ArgOk.same rfl) .nil)))) (.cons (ArgOk.same rfl) .nil)) hcallOk44 rfl (Taken.yes rfl rfl hg2)) ?_
  refine SL.val (O.det (fun _ => G.R.not rfl) rfl (Taken.yes rfl rfl hg2)) ?_
  refine SL.val (O.pick_f rfl hg2 rfl rfl Taken.no) ?_
  refine E.fo ?_
  first | refine W.cond_d rfl (fun hc3 => ?_) (fun hc3 => ?_) | refine W.cond_nd rfl (fun hc3 => ?_) (fun hc3 => ?_) | refine W.cond rfl (fun hc3 => ?_) (fun hc3 => ?_)
  ·skip
   refine W.rg (SL.an rfl rfl (E.fo (W.ret (E.thr ?_))))
   refine E.fin (rs := [_]) (rn []) (.inl rfl) rfl (.cons (ResOne.tmp rfl) .nil) ?_ ?_ rfl (fixL_spec rfl)
   ·skip
    first | (have hcl : clash (barL rs) m = true := by first | assumption | simp_all); exact iv_bool (dec_f fun q => absurd ((permS_cast.1 q).2.1.symm.trans hcl) (by decide)) | (have hnp : ¬ isPart n l := by first | assumption | simp_all); exact iv_bool (dec_f fun q => hnp q.1)
   · exact SubS.nil
  have hc0 : clash (barL rs) m = false := by first | assumption | simp_all
  have hat := atm_ok n rs
  rw [← atoms_eq hf] at hat
  refine W.skip (E.to (W.rg ?_))
  refine SL.val (O.ldN (m := 3) (PtI.ref rfl rfl) (js := [_, _, _]) rfl (Nat.le_of_ble_eq_true rfl) Try.underlying25 rfl (by kernel_rfl) rfl Taken.no) ?_
  refine SL.val (O.callp rfl rfl rfl (Con.fz (refatoms_h hf) rfl rfl) (.cons (ArgOk.aggU (.cons (ArgOk.same rfl) (.cons (ArgOk.same rfl) (.cons (ArgOk.same rfl) .nil)))) .nil) hcallOk45 rfl Taken.no) ?_
  refine SL.an rfl rfl (E.fo (W.seq (W.rg (SL.an rfl rfl (E.fo ?_)))))
  refine W.pick (K:=[(1,_),(2,_),(4,_),(5,_),(6,_)]) (Z:=[(101,_)]) ⟨rfl,rfl,rfl,rfl,rfl,trivial⟩ ⟨rfl,trivial⟩ ?_
  refine W.block ?_
  refine W.loopx1 (fun (k : Nat) => [(6, vI (k : Int))]) (fun (k : Nat) => []) (fun (k : Nat) => k ≤ n ∧ ∀ i, i < k → m[i]! = m[(atomsL n rs)[i]!]!) (fun (k : Nat) => n - k) (0) (rn []) (.cons (t := 1) rfl (.cons (t := 2) rfl (.cons (t := 5) rfl .nil))) (.cons (t := 101) rfl .nil) rfl ?_ ?_ rfl rfl ?_ ?_
  · exact (SubF.cons rfl SubF.nil)
  · exact SubS.nil
  ·skip
   exact ⟨by omega, fun i h => by omega⟩
  intro k hinv
  obtain ⟨hk, hp⟩ := hinv
  refine W.seq (W.rg (SL.mv rfl rfl ?_))
  refine SL.val (O.fld_ref (o' := 0) rfl Try.underlying25 rfl (m := 0) (by kernel_rfl) rfl rfl Taken.no) ?_
  refine SL.val (O.ld1 (PtI.ref rfl rfl) rfl Try.underlying3 rfl rfl Taken.no) ?_
  refine SL.val (O.det (fun _ => G.R.lss rfl rfl) rfl Taken.no) ?_
  refine E.fo ?_
  first | refine W.cond_d rfl (fun hc4 => ?_) (fun hc4 => ?_) | refine W.cond_nd rfl (fun hc4 => ?_) (fun hc4 => ?_) | refine W.cond rfl (fun hc4 => ?_) (fun hc4 => ?_)
  ·skip
   have hak := hat.2 k (by omega)
   refine W.skip (E.to (W.seq (W.block (W.seq ?_))))
   refine W.draw [⟨[], [], [], []⟩, ⟨[], [], [], []⟩, ⟨[], [], [], []⟩, ⟨[], [], [], []⟩, ⟨[], [], [], []⟩, ⟨[], [], [], []⟩, ⟨[], [], [], []⟩, ⟨[], [], [], []⟩, ⟨[], [], [], []⟩, ⟨[], [], [], []⟩, ⟨[], [], [], []⟩, ⟨[], [], [], []⟩] rfl (by kernel_rfl) (by kernel_rfl) rfl rfl ?_
   refine WH.mv rfl rfl rfl (WH.mv rfl rfl rfl ?_)
   refine WH.val (O.idx_fz (i := k) rfl rfl (rfl) (row_get (by omega)) Try.underlying32 hi3 hs3 rfl Taken.no) rfl rfl ?_
   refine WH.val (O.ld1 (PtI.ofU (PtU.fz rfl)) rfl Try.underlying3 rfl rfl Taken.no) rfl rfl ?_
   refine WH.mv rfl rfl rfl (WH.mv rfl rfl rfl (WH.mv rfl rfl rfl ?_))
   refine WH.val (O.idx_fz (i := k) rfl rfl (rfl) (row_get (by omega)) Try.underlying32 hi3 hs3 rfl Taken.no) rfl rfl ?_
   refine WH.val (O.ld1 (PtI.ofU (PtU.fz rfl)) rfl Try.underlying3 rfl rfl Taken.no) rfl rfl ?_
   refine WH.val (O.idx_fz (i := ((atomsL n rs)[k]!)) rfl rfl (rfl) (row_get (by omega)) Try.underlying32 hi3 hs3 rfl Taken.no) rfl rfl ?_
   refine WH.val (O.ld1 (PtI.ofU (PtU.fz rfl)) rfl Try.underlying3 rfl rfl Taken.no) rfl rfl ?_
   refine WH.val (O.det (fun _ => G.R.neq rfl rfl) rfl Taken.no) rfl rfl ?_
   refine WH.nil (E.to ?_)
   first | refine W.cond_d rfl (fun hc5 => ?_) (fun hc5 => ?_) | refine W.cond_nd rfl (fun hc5 => ?_) (fun hc5 => ?_) | refine W.cond rfl (fun hc5 => ?_) (fun hc5 => ?_)
   ·skip
    refine W.rg (SL.an rfl rfl (E.fo (W.ret ?_)))
    refine E.inr ?_
    refine E.thr (E.thr ?_)
    refine E.inr ?_
    refine E.thr ?_
    refine E.fin (rs := [_]) (rn []) (.inl rfl) rfl (.cons (ResOne.tmp rfl) .nil) ?_ ?_ rfl (fixL_spec rfl)
    ·skip
     exact iv_bool (dec_f fun q => by have := (permS_cast.1 q).2.2.1 k (by omega); omega)
    · exact SubS.nil
   refine W.skip (E.inn (E.to (W.region (SL.mv rfl rfl ?_))))
   refine SL.val (O.det (fun _ => by first | exact G.R.add64 rfl rfl (by omega) | exact G.R.add rfl rfl) rfl Taken.no) ?_
   refine SL.an rfl rfl (SL.nil ?_)
   refine E.again ((k + 1)) (rn []) ?_ ?_ rfl (fixL_spec rfl) ?_ ?_
   · exact (SubF.cons rfl (SubF.cons rfl (SubF.cons rfl (SubF.cons rfl SubF.nil))))
   · exact (SubS.cons rfl SubS.nil)
   ·try dsimp only
    exact ⟨by omega, fun j hj => by rcases Nat.lt_succ_iff_lt_or_eq.1 hj with h | h; exact hp j h; subst h; omega⟩
   · (try dsimp only); omega
  refine W.exit (E.th (E.th (E.hit (E.to (W.rg ?_)))))
  refine SL.val (O.ldN (m := 3) (PtI.ref rfl rfl) (js := [_, _, _]) rfl (Nat.le_of_ble_eq_true rfl) Try.underlying25 rfl (by kernel_rfl) rfl Taken.no) ?_
  refine SL.mv rfl rfl ?_
  refine SL.val (O.callp rfl rfl rfl (Con.fz (refconn_h hf (m := m) (by omega)) rfl rfl) (.cons (ArgOk.aggU (.cons (ArgOk.same rfl) (.cons (ArgOk.same rfl) (.cons (ArgOk.same rfl) .nil)))) (.cons (ArgOk.same rfl) .nil)) hcallOk46 rfl Taken.no) ?_
  refine SL.mv rfl rfl ?_
  refine SL.val (O.callp rfl rfl rfl (same_h (a := connL n ps rs m) (b := m)) (.cons (ArgOk.same rfl) (.cons (ArgOk.same rfl) .nil)) hcallOk18 rfl Taken.no) ?_
  refine SL.an rfl rfl (E.fo (W.ret ?_))
  refine E.fin (rs := [_]) (rn []) (.inl rfl) rfl (.cons (ResOne.tmp rfl) .nil) ?_ ?_ rfl (fixL_spec rfl)
  ·skip
   exact iv_bool (dec_iff ⟨fun q => (permS_cast.1 q).2.2.2, fun q => permS_cast.2 ⟨hQ, hc0, fun i hi => hp i (by omega), q⟩⟩)
  · exact SubS.nil
 first | have hg2p := G.gA7 hg2 | have hg2p := G.gA8 hg2 | have hg2p := hg2
 refine SL.sk rfl rfl rfl hg2 (SL.sk rfl rfl rfl hg2 (SL.sk rfl rfl rfl hg2 (SL.sk rfl rfl rfl hg2 ?_)))
 refine SL.val (O.pick_t rfl (G.ne_f hg2) rfl rfl Taken.no) ?_
 refine E.fo ?_
 refine W.cond_t rfl ?_
 refine W.rg (SL.an rfl rfl (E.fo (W.ret (E.thr ?_))))
 refine E.fin (rs := [_]) (rn []) (.inl rfl) rfl (.cons (ResOne.tmp rfl) .nil) ?_ ?_ rfl (fixL_spec rfl)
 ·skip
  first | (have hcl : clash (barL rs) m = true := by first | assumption | simp_all); exact iv_bool (dec_f fun q => absurd ((permS_cast.1 q).2.1.symm.trans hcl) (by decide)) | (have hnp : ¬ isPart n l := by first | assumption | simp_all); exact iv_bool (dec_f fun q => hnp q.1)
 · exact SubS.nil


end Go.Proofs.Ytbkbeplddddgeaa
end
section
namespace Go.D33
open Go Go.RowKit Go.H
theorem sumR_c1 (w : Nat → Nat → Int) (u v : Nat) (r : List Nat) : sumR w u (v :: r) = w u v + sumR w u r := by
  have key : ∀ (r : List Nat) (n : Int), r.foldl (fun n v => n + w u v) n = n + r.foldl (fun n v => n + w u v) 0 := by
    intro r
    induction r with
    | nil => intro n; simp
    | cons v r ih => intro n; rw [List.foldl_cons, List.foldl_cons, ih, ih (0 + w u v)]; omega
  unfold sumR
  rw [List.foldl_cons, key]; omega
theorem valF_c (w : Nat → Nat → Int) (u : Nat) (r : List Nat) : valF w (u :: r) = sumR w u r + valF w r := by
  have key : ∀ k, k ≤ r.length → valK w (u :: r) (k + 1) = sumR w u r + valK w r k := by
    intro k
    induction k with
    | zero =>
      intro _
      show valK w (u :: r) 0 + sumR w u r = sumR w u r + 0
      show 0 + sumR w u r = sumR w u r + 0
      omega
    | succ k ih =>
      intro hk
      have e1 : (u :: r)[k + 1]! = r[k]! := by rw [List.getElem!_cons_succ]
      rw [valK, ih (by omega), valK, e1, List.drop_succ_cons]; omega
  exact key r.length (Nat.le_refl _)
def pairW (a b : Nat) (x : Int) (i j : Nat) : Int := if (i = a ∧ j = b) ∨ (i = b ∧ j = a) then x else 0
theorem sumR_add (w d : Nat → Nat → Int) (u : Nat) : ∀ r : List Nat, sumR (fun i j => w i j + d i j) u r = sumR w u r + sumR d u r
  | [] => rfl
  | v :: r => by rw [sumR_c1, sumR_c1, sumR_c1, sumR_add w d u r]; omega
theorem valF_add (w d : Nat → Nat → Int) : ∀ l : List Nat, valF (fun i j => w i j + d i j) l = valF w l + valF d l
  | [] => rfl
  | u :: r => by rw [valF_c, valF_c, valF_c, valF_add w d r, sumR_add]; omega
theorem valQ_add (w d : Nat → Nat → Int) (m : List Nat) : ∀ k, valQ (fun i j => w i j + d i j) m k = valQ w m k + valQ d m k
  | 0 => rfl
  | k + 1 => by
    rw [valQ, valQ, valQ, valQ_add w d m k, valF_add]
    split <;> omega
theorem sumR_pair {a b : Nat} (hne : a ≠ b) (x : Int) (u : Nat) : ∀ r : List Nat, r.Nodup → sumR (pairW a b x) u r = if (u = a ∧ b ∈ r) ∨ (u = b ∧ a ∈ r) then x else 0
  | [], _ => by simp [sumR]
  | v :: r, h => by
    obtain ⟨h1, h2⟩ := List.nodup_cons.1 h
    rw [sumR_c1, sumR_pair hne x u r h2]
    unfold pairW
    by_cases e1 : u = a
    · subst e1
      by_cases e2 : v = b
      · subst e2
        rw [if_pos (.inl ⟨rfl, rfl⟩), if_neg (by rintro (⟨_, q⟩ | ⟨q, _⟩); exact h1 q; exact hne q), if_pos (.inl ⟨rfl, by simp⟩)]; omega
      · rw [if_neg (by rintro (⟨_, q⟩ | ⟨q, _⟩); exact e2 q; exact hne q)]
        by_cases e3 : b ∈ r
        · rw [if_pos (.inl ⟨rfl, e3⟩), if_pos (.inl ⟨rfl, by simp [e3]⟩)]; omega
        · rw [if_neg (by rintro (⟨_, q⟩ | ⟨q, _⟩); exact e3 q; exact hne q), if_neg (by rintro (⟨_, q⟩ | ⟨q, _⟩); exact (List.mem_cons.1 q).elim (fun z => e2 z.symm) e3; exact hne q)]; omega
    · by_cases e1' : u = b
      · subst e1'
        by_cases e2 : v = a
        · subst e2
          rw [if_pos (.inr ⟨rfl, rfl⟩), if_neg (by rintro (⟨q, _⟩ | ⟨_, q⟩); exact e1 q; exact h1 q), if_pos (.inr ⟨rfl, by simp⟩)]; omega
        · rw [if_neg (by rintro (⟨q, _⟩ | ⟨_, q⟩); exact e1 q; exact e2 q)]
          by_cases e3 : a ∈ r
          · rw [if_pos (.inr ⟨rfl, e3⟩), if_pos (.inr ⟨rfl, by simp [e3]⟩)]; omega
          · rw [if_neg (by rintro (⟨q, _⟩ | ⟨_, q⟩); exact e1 q; exact e3 q), if_neg (by rintro (⟨q, _⟩ | ⟨_, q⟩); exact e1 q; exact (List.mem_cons.1 q).elim (fun z => e2 z.symm) e3)]; omega
      · rw [if_neg (by rintro (⟨q, _⟩ | ⟨q, _⟩); exact e1 q; exact e1' q), if_neg (by rintro (⟨q, _⟩ | ⟨q, _⟩); exact e1 q; exact e1' q), if_neg (by rintro (⟨q, _⟩ | ⟨q, _⟩); exact e1 q; exact e1' q)]; omega
theorem valF_pair {a b : Nat} (hne : a ≠ b) (x : Int) : ∀ l : List Nat, l.Nodup → valF (pairW a b x) l = if a ∈ l ∧ b ∈ l then x else 0
  | [], _ => by simp [valF, valK]
  | u :: r, h => by
    obtain ⟨h1, h2⟩ := List.nodup_cons.1 h
    rw [valF_c, sumR_pair hne x u r h2, valF_pair hne x r h2]
    by_cases e1 : u = a
    · subst e1
      rw [if_neg (show ¬ (u ∈ r ∧ b ∈ r) from fun q => h1 q.1)]
      by_cases e3 : b ∈ r
      · rw [if_pos (.inl ⟨rfl, e3⟩), if_pos ⟨by simp, by simp [e3]⟩]; omega
      · rw [if_neg (by rintro (⟨_, q⟩ | ⟨q, _⟩); exact e3 q; exact hne q), if_neg (fun q => (List.mem_cons.1 q.2).elim (fun z => hne z.symm) e3)]; omega
    · by_cases e2 : u = b
      · subst e2
        rw [if_neg (show ¬ (a ∈ r ∧ u ∈ r) from fun q => h1 q.2)]
        by_cases e3 : a ∈ r
        · rw [if_pos (.inr ⟨rfl, e3⟩), if_pos ⟨by simp [e3], by simp⟩]; omega
        · rw [if_neg (by rintro (⟨q, _⟩ | ⟨_, q⟩); exact e1 q; exact e3 q), if_neg (fun q => (List.mem_cons.1 q.1).elim (fun z => e1 z.symm) e3)]; omega
      · rw [if_neg (by rintro (⟨q, _⟩ | ⟨q, _⟩); exact e1 q; exact e2 q)]
        have : (a ∈ u :: r ∧ b ∈ u :: r) ↔ (a ∈ r ∧ b ∈ r) := ⟨fun q => ⟨(List.mem_cons.1 q.1).elim (fun z => absurd z.symm e1) id, (List.mem_cons.1 q.2).elim (fun z => absurd z.symm e2) id⟩, fun q => ⟨List.mem_cons_of_mem _ q.1, List.mem_cons_of_mem _ q.2⟩⟩
        by_cases e3 : a ∈ r ∧ b ∈ r
        · rw [if_pos e3, if_pos (this.2 e3)]; omega
        · rw [if_neg e3, if_neg (fun q => e3 (this.1 q))]; omega
theorem mem_units {m : List Nat} {c u : Nat} : u ∈ unitsL m c ↔ u < m.length ∧ m[u]! = c := ⟨units_lt, fun h => List.mem_filter.2 ⟨List.mem_range.2 h.1, decide_eq_true h.2⟩⟩
theorem units_nodup (m : List Nat) (c : Nat) : (unitsL m c).Nodup := (List.nodup_range (n := m.length)).filter _
theorem valQ_pair {n a b : Nat} {m : List Nat} (h : isP n m) (ha : a < n) (hb : b < n) (hne : a ≠ b) (x : Int) : ∀ k, k ≤ n → valQ (pairW a b x) m k = if m[a]! = m[b]! ∧ m[a]! < k then x else 0
  | 0, _ => by rw [if_neg (fun q => by omega)]; rfl
  | k + 1, hk => by
    have hl := h.1
    rw [valQ, valQ_pair h ha hb hne x k (by omega), valF_pair hne x _ (units_nodup _ _)]
    have e : (a ∈ unitsL m m[k]! ∧ b ∈ unitsL m m[k]!) ↔ (m[a]! = m[k]! ∧ m[b]! = m[k]!) := by
      rw [mem_units, mem_units]
      exact ⟨fun q => ⟨q.1.2, q.2.2⟩, fun q => ⟨⟨by omega, q.1⟩, by omega, q.2⟩⟩
    by_cases h1 : m[a]! = m[b]!
    · by_cases h2 : m[a]! < k
      · rw [if_pos (show m[a]! = m[b]! ∧ m[a]! < k from ⟨h1, h2⟩), if_pos (show m[a]! = m[b]! ∧ m[a]! < k + 1 from ⟨h1, by omega⟩)]
        split
        · rename_i h3
          rw [if_neg (fun q => by have := (e.1 q).1; omega)]; omega
        · omega
      · rw [if_neg (show ¬ (m[a]! = m[b]! ∧ m[a]! < k) from fun q => h2 q.2)]
        by_cases h3 : m[a]! = k
        · have h4 : k = m[k]! := by
            have := (h.2 a ha).2
            rw [h3] at this; exact this.symm
          rw [if_pos h4, if_pos (e.2 ⟨by omega, by omega⟩), if_pos (show m[a]! = m[b]! ∧ m[a]! < k + 1 from ⟨h1, by omega⟩)]; omega
        · rw [if_neg (show ¬ (m[a]! = m[b]! ∧ m[a]! < k + 1) from fun q => by omega)]
          split
          · rename_i h4
            rw [if_neg (fun q => by have := (e.1 q).1; omega)]; omega
          · omega
    · rw [if_neg (show ¬ (m[a]! = m[b]! ∧ m[a]! < k) from fun q => h1 q.1), if_neg (show ¬ (m[a]! = m[b]! ∧ m[a]! < k + 1) from fun q => h1 q.1)]
      split
      · rw [if_neg (fun q => h1 ((e.1 q).1.trans (e.1 q).2.symm))]; omega
      · omega
theorem wF_0 : ∀ {ps : List Pr} {i j : Nat} {f : Nat → Nat → Int}, f i j = 0 → (∀ x ∈ ps, ¬ ((i = x.a.toNat ∧ j = x.b.toNat) ∨ (i = x.b.toNat ∧ j = x.a.toNat))) → ps.foldl addW f i j = 0
  | [], i, j, f, h, _ => h
  | p :: ps, i, j, f, h, hp => wF_0 (ps := ps) (f := addW f p) (by unfold addW upd2; rw [if_neg (hp p (by simp))]; exact h) fun x hx => hp x (by simp [hx])
theorem asc_lt {p : Prob} (h : p.formed) : ∀ {i j : Nat}, i < j → j < p.ps.length → prAsc p.ps[i]! p.ps[j]! := by
  intro i j hij hj
  induction j with
  | zero => omega
  | succ j ih =>
    have h1 := (h.2.2.2.1 (j + 1) hj).2 (by omega)
    rw [Nat.add_sub_cancel] at h1
    rcases Nat.lt_succ_iff_lt_or_eq.1 hij with q | q
    · have h2 := ih q (by omega)
      unfold prAsc at h1 h2 ⊢
      omega
    · rw [q]; exact h1
theorem val_eq {n : Nat} {ps : List Pr} {rs : List Ru} {m : List Nat} (hf : (Prob.mk (n : Int) ps rs).formed) (h : isP n m) : valQ (wF ps) m n = valR m ps := by
  have key : ∀ k, k ≤ ps.length → valQ (wF (ps.take k)) m n = valR m (ps.take k) := by
    intro k
    induction k with
    | zero =>
      intro _
      have hz : ∀ k, valQ (fun _ _ => 0) m k = 0 := by
        have h1 := valQ_add (fun _ _ => 0) (fun _ _ => 0) m
        intro k
        have := h1 k
        have e : (fun (_ _ : Nat) => (0 : Int) + 0) = fun _ _ => 0 := by funext i j; rfl
        rw [e] at this; omega
      rw [List.take_zero]; exact hz n
    | succ k ih =>
      intro hk
      have hk' : k < ps.length := hk
      have hp := (hf.2.2.2.1 k hk').1
      have hp2 : prOk (n : Int) ps[k]! := hp
      unfold prOk at hp2
      have hne : ps[k]!.a.toNat ≠ ps[k]!.b.toNat := by omega
      have h0 : wF (ps.take k) ps[k]!.a.toNat ps[k]!.b.toNat = 0 ∧ wF (ps.take k) ps[k]!.b.toNat ps[k]!.a.toNat = 0 := by
        have hd : ∀ x ∈ ps.take k, x.a.toNat < x.b.toNat ∧ ¬ (x.a.toNat = ps[k]!.a.toNat ∧ x.b.toNat = ps[k]!.b.toNat) := fun x hx => by
          obtain ⟨i, hi, rfl⟩ := List.getElem_of_mem hx
          rw [List.length_take] at hi
          have hi2 : i < ps.length := by omega
          have e1 : (ps.take k)[i]'(by rw [List.length_take]; omega) = ps[i]! := by rw [List.getElem_take, getElem!_pos ps i hi2]
          rw [e1]
          have ha := asc_lt hf (show i < k by omega) hk'
          have hpi : prOk (n : Int) ps[i]! := (hf.2.2.2.1 i hi2).1
          have ha' : prAsc ps[i]! ps[k]! := ha
          unfold prAsc at ha'
          unfold prOk at hpi
          omega
        exact ⟨wF_0 rfl fun x hx q => by have := hd x hx; omega, wF_0 rfl fun x hx q => by have := hd x hx; omega⟩
      have ew : wF (ps.take (k + 1)) = fun i j => wF (ps.take k) i j + pairW ps[k]!.a.toNat ps[k]!.b.toNat ps[k]!.w i j := by
        rw [wF_s hk']
        funext i j
        unfold addW upd2 pairW
        by_cases q : (i = ps[k]!.a.toNat ∧ j = ps[k]!.b.toNat) ∨ (i = ps[k]!.b.toNat ∧ j = ps[k]!.a.toNat)
        · rw [if_pos q, if_pos q]
          rcases q with ⟨q1, q2⟩ | ⟨q1, q2⟩
          · rw [q1, q2, h0.1]; omega
          · rw [q1, q2, h0.2]; omega
        · rw [if_neg q, if_neg q]; omega
      have hma := (h.2 ps[k]!.a.toNat (by omega)).1
      rw [ew, valQ_add, ih (by omega), valQ_pair h (by omega) (by omega) hne _ n (Nat.le_refl _), valR_s hk', addV]
      by_cases e : m[ps[k]!.a.toNat]! = m[ps[k]!.b.toNat]!
      · rw [if_pos ⟨e, by omega⟩, if_pos e]
      · rw [if_neg (fun q => e q.1), if_neg e]; omega
  have := key ps.length (Nat.le_refl _)
  rwa [List.take_length] at this
end Go.D33
end
section
namespace Go.D33
open Go Go.RowKit Go.H
section
variable {n : Nat} {ps : List Pr} {rs : List Ru}
def inC (n : Nat) (ps : List Pr) (rs : List Ru) (m : List Nat) (i j : Nat) : Prop := mF (lF ps) rs i j = true ∧ m[i]! = m[j]! ∧ i < n ∧ j < n
theorem conn_in (h : (Prob.mk (n : Int) ps rs).formed) (m : List Nat) : Comp n (inC n ps rs m) (connL n ps rs m) := by
  have h1 := conn_comp h m
  refine h1.congr (fun i j q => ⟨q.2.2.1, q.2.2.2⟩) (fun i j q => ?_) fun i j q => ?_
  · obtain ⟨q1, q0, q2, q3⟩ := q
    rcases (mF_iff rs).1 q1 with q1 | ⟨r, hr, hk, q | q⟩
    · obtain ⟨x, hx, hw, q | q⟩ := lF_iff.1 q1
      · obtain ⟨rfl, rfl⟩ := q
        exact .base (.inl (mem_psE.2 ⟨x, hx, ⟨hw, q0⟩, rfl⟩))
      · obtain ⟨rfl, rfl⟩ := q
        exact .symm (.base (.inl (mem_psE.2 ⟨x, hx, ⟨hw, q0.symm⟩, rfl⟩)))
    · obtain ⟨rfl, rfl⟩ := q
      exact .base (.inr (mem_rsE.2 ⟨r, hr, ⟨(ru_lt h hr).2.2.1 hk, q0⟩, rfl⟩))
    · obtain ⟨rfl, rfl⟩ := q
      exact .symm (.base (.inr (mem_rsE.2 ⟨r, hr, ⟨(ru_lt h hr).2.2.1 hk, q0.symm⟩, rfl⟩)))
  · rcases q with q | q
    · obtain ⟨x, hx, e, e2⟩ := mem_psE.1 q
      cases e2
      obtain ⟨l1, l2⟩ := pr_lt h hx
      exact .base ⟨(mF_iff rs).2 (.inl (lF_iff.2 ⟨x, hx, e.1, .inl ⟨rfl, rfl⟩⟩)), e.2, l1, l2⟩
    · obtain ⟨x, hx, e, e2⟩ := mem_rsE.1 q
      cases e2
      obtain ⟨l1, l2, l3⟩ := ru_lt h hx
      exact .base ⟨(mF_iff rs).2 (.inr ⟨x, hx, l3.2 e.1, .inl ⟨rfl, rfl⟩⟩), e.2, l1, l2⟩
theorem units_asc (m : List Nat) (c : Nat) : (unitsL m c).Pairwise (· < ·) := (List.pairwise_lt_range (n := m.length)).filter _
theorem conn_iff (h : (Prob.mk (n : Int) ps rs).formed) {m : List Nat} (hm : isP n m) : connL n ps rs m = m ↔ ∀ i, i < n → i = m[i]! → (partsL (mF (lF ps) rs) (unitsL m m[i]!)).length = 1 := by
  have hc := conn_in h m
  have hl := hm.1
  constructor
  · intro e c hcn hcc
    rw [e] at hc
    have hp := parts_ok (E := mF (lF ps) rs) _ (unitsL m m[c]!) rfl (units_asc _ _)
    have hcu : c ∈ unitsL m m[c]! := mem_units.2 ⟨by omega, rfl⟩
    generalize hps : partsL (mF (lF ps) rs) (unitsL m m[c]!) = pp at hp
    match pp, hp with
    | [], hp => exact absurd (hp.perm.symm.subset hcu) (by simp)
    | [p], _ => rfl
    | p :: q :: r, hp =>
      exfalso
      obtain ⟨u, pr, hpu, _⟩ := hp.hd p (by simp)
      obtain ⟨v, qr, hqv, _⟩ := hp.hd q (by simp)
      have hup : u ∈ p := by rw [hpu]; simp
      have hvq : v ∈ q := by rw [hqv]; simp
      have hin : ∀ x, x ∈ p ∨ x ∈ q → x ∈ unitsL m m[c]! := fun x hx => hp.perm.subset (List.mem_flatten.2 (hx.elim (fun z => ⟨p, by simp, z⟩) fun z => ⟨q, by simp, z⟩))
      have hnd : (p :: q :: r).flatten.Nodup := hp.perm.nodup_iff.2 (units_nodup _ _)
      have hvp : v ∉ p := fun z => by
        rw [List.flatten_cons, List.flatten_cons, List.nodup_append] at hnd
        exact hnd.2.2 v z v (List.mem_append_left _ hvq) rfl
      obtain ⟨u1, u2⟩ := mem_units.1 (hin u (.inl hup))
      obtain ⟨v1, v2⟩ := mem_units.1 (hin v (.inr hvq))
      have hcn' : Cn (inC n ps rs m) u v := (hc.iff (by omega) (by omega)).1 (u2.trans v2.symm)
      have hk : decide (u ∈ p) = decide (v ∈ p) := Cn.keep (f := fun x => decide (x ∈ p)) (fun i j q => by
        obtain ⟨q1, q2, q3, q4⟩ := q
        by_cases hi : m[i]! = m[c]!
        · have hiu : i ∈ unitsL m m[c]! := mem_units.2 ⟨by omega, hi⟩
          have hju : j ∈ unitsL m m[c]! := mem_units.2 ⟨by omega, by omega⟩
          obtain ⟨pi, hpi, hii⟩ := (mem_part hp).1 hiu
          obtain ⟨pj, hpj, hjj⟩ := (mem_part hp).1 hju
          have sep : ∀ x ∈ p, ∀ z ∈ unitsL m m[c]!, z ∉ p → mF (lF ps) rs x z = false := fun x hx z hz hzn => by
            obtain ⟨pz, hpz, hzz⟩ := (mem_part hp).1 hz
            rcases List.mem_cons.1 hpz with e1 | e1
            · subst e1; exact absurd hzz hzn
            · exact (List.pairwise_cons.1 hp.sep).1 pz e1 x hx z hzz
          rw [decide_eq_decide]
          refine ⟨fun z => Classical.byContradiction fun z2 => ?_, fun z => Classical.byContradiction fun z2 => ?_⟩
          · rw [sep i z j hju z2] at q1; cases q1
          · rw [lk_sym, sep j z i hiu z2] at q1; cases q1
        · have hni : i ∉ p := fun z => hi (mem_units.1 (hin i (.inl z))).2
          have hnj : j ∉ p := fun z => hi (q2.trans (mem_units.1 (hin j (.inl z))).2)
          rw [decide_eq_false hni, decide_eq_false hnj]) hcn'
      rw [decide_eq_true hup, decide_eq_false hvp] at hk
      cases hk
  · intro hu
    refine hc.uniq ⟨hm.1, fun i j q => ⟨q.2.2.1, q.2.2.2⟩, fun i hi => (hm.2 i hi).1, fun i j q => q.2.1, fun i hi => ?_⟩
    have h1 := hm.2 i hi
    have hcn : m[i]! < n := by omega
    have h2 := hu m[i]! hcn h1.2.symm
    rw [h1.2] at h2
    have hp := parts_ok (E := mF (lF ps) rs) _ (unitsL m m[i]!) rfl (units_asc _ _)
    generalize hps : partsL (mF (lF ps) rs) (unitsL m m[i]!) = pp at hp h2
    match pp, hp, h2 with
    | [p], hp, _ =>
      have hin : ∀ x, x ∈ p ↔ x ∈ unitsL m m[i]! := fun x => by
        have := hp.perm.mem_iff (a := x)
        simpa using this
      have hii : i ∈ p := (hin i).2 (mem_units.2 ⟨by omega, rfl⟩)
      have hcc : m[i]! ∈ p := (hin _).2 (mem_units.2 ⟨by omega, h1.2⟩)
      refine (hp.conn p (by simp) i hii _ hcc).mono fun x y q => ?_
      obtain ⟨q1, q2, q3⟩ := q
      obtain ⟨x1, x2⟩ := mem_units.1 ((hin x).1 q2)
      obtain ⟨y1, y2⟩ := mem_units.1 ((hin y).1 q3)
      exact ⟨q1, x2.trans y2.symm, by omega, by omega⟩
theorem perm_eq (h : (Prob.mk (n : Int) ps rs).formed) {m : List Nat} (hm : isP n m) : permM n (mF (lF ps) rs) (barL rs) (namedL n (partsL (mu rs) (List.range n))) m ↔ permR n ps rs m := by
  unfold permM permR
  rw [conn_iff h hm, atoms_eq h]
theorem permIS (h : (Prob.mk (n : Int) ps rs).formed) {l : List Int} : permI n (mF (lF ps) rs) (barL rs) (namedL n (partsL (mu rs) (List.range n))) l ↔ permS n ps rs l := by
  unfold permI permS
  constructor
  · rintro ⟨h1, h2⟩
    obtain ⟨m, rfl⟩ := cast_of fun i hi => (h1.2 i hi).1
    rw [cast_back] at h2 ⊢
    exact ⟨h1, (perm_eq h (isPart_cast.1 h1)).1 h2⟩
  · rintro ⟨h1, h2⟩
    obtain ⟨m, rfl⟩ := cast_of fun i hi => (h1.2 i hi).1
    rw [cast_back] at h2 ⊢
    exact ⟨h1, (perm_eq h (isPart_cast.1 h1)).2 h2⟩
end
end Go.D33
end
section
namespace Go.Proofs.Ytbkbeplddddgeaa
open Go Go.RowKit Go.H Go.D33



set_option maxRecDepth 8000 in
theorem own_h {N : Int} {ps : List Pr} {rs : List Ru} (hp : ps.length ≤ 1000000) (hr : rs.length ≤ 1000000) :
    Con Try.prog 11 [vA [uI N, .sl 3 (ps.map ePr), .sl 3 (rs.map eRu)]] [] (.agg [vI N, vL 3 (ps.map ePr), vL 3 (rs.map eRu)]) [] := by
 obtain ⟨i51, hi51, hz51, hs51, hb51⟩ := hinf51
 obtain ⟨i61, hi61, hz61, hs61, hb61⟩ := hinf61
 obtain ⟨i64, hi64, hz64, hs64, hb64⟩ := hinf64
 refine Con.enterL (n := 28) Try.func11 rfl rfl rfl (fun τ w ok vs hin => ?_)
 have hl0_1 := hin.lenA (i := 0) (j := 1) rfl rfl
 try rw [List.length_map] at hl0_1
 have hl0_2 := hin.lenA (i := 0) (j := 2) rfl rfl
 try rw [List.length_map] at hl0_2
 clear hin
 refine W.rg ?_
 refine SL.memS (O.box (is := [_, _, _]) 101 rfl rfl (by simp) rfl rfl Taken.no) rfl rfl (S' := (101, _) :: _) rfl ?_
 refine SL.memS (O.alloc (z := .agg #[.int .i64 0, .slice none 0 0, .slice none 0 0]) (is := [.u (.sc (.int .i64 0)), .u (.sc (.slice none 0 0)), .u (.sc (.slice none 0 0))]) 102 (by kernel_rfl) rfl rfl rfl Taken.no) rfl rfl (S' := (102, _) :: _) rfl ?_
 refine E.fo (W.seq ?_)
 refine W.draw [⟨[], [], [], [101]⟩, ⟨[101], [], [], []⟩, ⟨[103], [103], [103], []⟩, ⟨[], [], [], [101]⟩, ⟨[101], [], [], []⟩, ⟨[103, 104], [103, 104], [104], []⟩, ⟨[], [], [], [104]⟩, ⟨[105], [105], [105], []⟩, ⟨[104, 105], [105], [], []⟩] rfl (by kernel_rfl) (by kernel_rfl) rfl rfl ?_
 refine WH.val (O.fld_ref (o' := 0) rfl Try.underlying25 rfl (m := 0) (by kernel_rfl) rfl rfl Taken.no) rfl rfl ?_
 refine WH.val (O.ld1 (PtI.ref rfl rfl) rfl Try.underlying3 rfl rfl Taken.no) rfl rfl ?_
 refine WH.memS (O.buildSlice 103 (rows := ([] : List Ru).map eRu) rfl rfl Try.underlying23 hi51 hz51 hs51 (by decide) rfl (by decide) rfl rfl rfl Taken.no) rfl rfl rfl rfl rfl (S' := (103, .data 51 3 (([] : List Ru).map eRu)) :: _) rfl ?_
 refine WH.val (O.fld_ref (o' := 2) rfl Try.underlying25 rfl (m := 0) (by kernel_rfl) rfl rfl Taken.no) rfl rfl ?_
 refine WH.val (O.ld1 (PtI.ref rfl rfl) rfl Try.underlying23 rfl rfl Taken.no) rfl rfl ?_
 refine WH.memS (O.app (k' := 104) rfl rfl (SlOf.fz rfl (by decide)) Try.underlying23 hi51 hz51 hs51 rfl rfl (by exact List.nil_append _) (by rw [hb51]; (simp only [List.length_map, List.length_nil]; omega)) (by (simp only [List.length_map, List.length_nil]; omega)) rfl Taken.no) rfl rfl rfl rfl rfl (S' := (104, _) :: (103, .dead) :: _) rfl ?_
 refine WH.val (O.build (res := [_, _, _]) (z := .agg #[.int .i64 0, .slice none 0 0, .slice none 0 0]) (places := [(0, 1), (1, 1), (2, 1)]) rfl rfl Try.underlying30 (by kernel_rfl) (fun _ => by kernel_rfl) rfl rfl Taken.no) rfl rfl ?_
 refine WH.memS (O.alloc (z := .agg #[.int .i64 0, .slice none 0 0, .slice none 0 0]) (is := [.u (.sc (.int .i64 0)), .u (.sc (.slice none 0 0)), .u (.sc (.slice none 0 0))]) 105 (by kernel_rfl) rfl rfl rfl Taken.no) rfl rfl rfl rfl rfl (S' := (105, _) :: _) rfl ?_
 refine WH.effS (O.st_ref (m := 3) rfl rfl rfl (js := [_, _, _]) rfl rfl (by kernel_rfl) (by simp) (Nat.le_of_ble_eq_true rfl) rfl (is' := [_, _, _]) rfl Taken.no) rfl rfl rfl (S' := (105, _) :: _) rfl ?_
 refine WH.nil (E.to (W.seq (W.rg ?_)))
 refine SL.val (O.fld_ref (o' := 1) rfl Try.underlying25 rfl (m := 0) (by kernel_rfl) rfl rfl Taken.no) ?_
 refine SL.val (O.ld1 (PtI.ref rfl rfl) rfl Try.underlying22 rfl rfl Taken.no) ?_
 refine SL.val (O.lenE (SlOf.fz rfl (by decide)) (by first | exact List.length_map _ | rfl) Try.underlying22 rfl Taken.no) ?_
 refine SL.mv rfl rfl (E.fo (W.block ?_))
 refine W.adoptC 105 1 108 61 3 (is' := [_, _, _]) (by decide) rfl rfl rfl rfl rfl ?_
 refine W.loopx1 (fun (k : Nat) => [(16, vI (k : Int))]) (fun (k : Nat) => [(106, .data 61 3 ((ps.take k).map ePr)), (107, .data 51 3 (rs.map eRu)), (105, .cells 30 [vI N, .own 106, .own 107])]) (fun (k : Nat) => k ≤ ps.length) (fun (k : Nat) => ps.length - k) (0) (rn [(106, 108), (107, 104)]) (.cons (t := 2) rfl (.cons (t := 3) rfl (.cons (t := 14) rfl (.cons (t := 15) rfl .nil)))) (.cons (t := 101) rfl (.cons (t := 102) rfl .nil)) rfl ?_ ?_ rfl rfl ?_ ?_
 · exact (SubF.cons rfl SubF.nil)
 · exact (SubS.cons rfl (SubS.cons rfl (SubS.cons rfl SubS.nil)))
 ·skip
  omega
 intro k hinv
 have hk := hinv
 refine W.rg ?_
 refine SL.val (O.det (fun _ => G.R.lss rfl rfl) rfl Taken.no) ?_
 refine E.fo (W.seq ?_)
 first | refine W.cond_d rfl (fun hc1 => ?_) (fun hc1 => ?_) | refine W.cond_nd rfl (fun hc1 => ?_) (fun hc1 => ?_) | refine W.cond rfl (fun hc1 => ?_) (fun hc1 => ?_)
 ·skip
  refine W.skip (E.to (W.seq (W.block (W.rg ?_))))
  refine SL.val (O.idx_fz rfl rfl (rfl) (row_get (by omega)) Try.underlying22 hi64 hs64 rfl Taken.no) ?_
  refine SL.val (O.ldU (m := 3) (PtU.fz rfl) rfl Try.underlying64 rfl (by kernel_rfl) rfl Taken.no) ?_
  refine SL.memS (O.alloc (z := .agg #[.int .i64 0, .int .i64 0, .int .i64 0]) (is := [.u (.sc (.int .i64 0)), .u (.sc (.int .i64 0)), .u (.sc (.int .i64 0))]) 109 (by kernel_rfl) rfl rfl rfl Taken.no) rfl rfl (S' := (109, _) :: _) rfl ?_
  refine SL.effS (O.st_ref (m := 3) rfl rfl rfl (js := [_, _, _]) rfl rfl (by kernel_rfl) (by simp) (Nat.le_of_ble_eq_true rfl) rfl (is' := [_, _, _]) rfl Taken.no) (S' := (109, _) :: _) rfl ?_
  refine E.fo (W.region ?_)
  refine SL.val (O.fld_ref (o' := 1) rfl Try.underlying30 rfl (m := 0) (by kernel_rfl) rfl rfl Taken.no) ?_
  refine SL.val (O.ld1 (PtI.ref rfl rfl) rfl Try.underlying28 rfl rfl Taken.no) ?_
  refine SL.val (O.ldN (m := 3) (PtI.ref rfl rfl) (js := [_, _, _]) rfl (Nat.le_of_ble_eq_true rfl) Try.underlying64 rfl (by kernel_rfl) rfl Taken.no) ?_
  refine SL.memS (O.buildSlice 110 (rows := [ps[k]!].map ePr) rfl rfl Try.underlying28 hi61 hz61 hs61 (by decide) rfl (by decide) rfl rfl rfl Taken.no) rfl rfl (S' := (110, .data 61 3 ([ps[k]!].map ePr)) :: _) rfl ?_
  refine SL.memS (O.app (k' := 111) rfl rfl (SlOf.own rfl rfl) Try.underlying28 hi61 hz61 hs61 rfl rfl (by exact app_map) (by rw [hb61]; (simp only [List.length_map, List.length_singleton, List.length_take]; omega)) (by (simp only [List.length_map, List.length_singleton, List.length_take]; omega)) rfl Taken.no) rfl rfl (S' := (111, _) :: (106, .dead) :: _) rfl ?_
  refine SL.val (O.fld_ref (o' := 1) rfl Try.underlying30 rfl (m := 0) (by kernel_rfl) rfl rfl Taken.no) ?_
  refine SL.effS (O.st_ref (m := 1) rfl rfl rfl (js := [_]) rfl rfl (by kernel_rfl) (by simp) (Nat.le_of_ble_eq_true rfl) rfl (is' := [_, _, _]) rfl Taken.no) (S' := (105, _) :: _) rfl ?_
  refine SL.nil (E.inn (E.to (W.region ?_)))
  refine SL.val (O.det (fun _ => by first | exact G.R.add64 rfl rfl (by omega) | exact G.R.add rfl rfl) rfl Taken.no) ?_
  refine SL.mv rfl rfl (SL.nil ?_)
  refine E.again ((k + 1)) (rn [(106, 111)]) ?_ ?_ rfl (fixL_spec rfl) ?_ ?_
  · exact (SubF.cons rfl (SubF.cons rfl (SubF.cons rfl (SubF.cons rfl (SubF.cons rfl SubF.nil)))))
  · exact (SubS.val rfl (by (try dsimp only); exact sb_data (by rw [snocP (by omega)])) (SubS.cons rfl (SubS.cons rfl (SubS.cons rfl (SubS.cons rfl SubS.nil)))))
  ·try dsimp only
   omega
  · (try dsimp only); omega
 refine W.exit (E.th (E.th (E.hit (E.to (W.rg ?_)))))
 refine SL.val (O.ldN (m := 3) (PtI.ref rfl rfl) (js := [_, _, _]) rfl (Nat.le_of_ble_eq_true rfl) Try.underlying30 rfl (by kernel_rfl) rfl Taken.no) ?_
 refine SL.effS (O.st_ref (m := 3) rfl rfl rfl (js := [_, _, _]) rfl rfl (by kernel_rfl) (by simp) (Nat.le_of_ble_eq_true rfl) rfl (is' := [_, _, _]) rfl Taken.no) (S' := (102, _) :: _) rfl ?_
 refine E.fo (W.ret ?_)
 refine E.freezeC 102 1 106 (is' := [_, _, _]) rfl rfl rfl rfl ?_
 refine E.freezeC 102 2 107 (is' := [_, _, _]) rfl rfl rfl rfl ?_
 refine E.fin (rs := [_]) (rn []) (.inl rfl) rfl (.cons (ResOne.cellN (m := 3) (PtI.ref rfl rfl) (js := [_, _, _]) rfl (Nat.le_of_ble_eq_true rfl) Try.underlying30 rfl (by kernel_rfl)) .nil) ?_ ?_ rfl (fixL_spec rfl)
 ·skip
  (obtain rfl : k = ps.length := (by omega)); rw [List.take_length]; rfl
 · exact SubS.nil

set_option maxRecDepth 8000 in
theorem few_h {N : Int} {ps : List Pr} {rs : List Ru} :
    Con Try.prog 32 [vA [uI N, .sl 3 (ps.map ePr), .sl 3 (rs.map eRu)]] [] (vB (decide ((N ≤ 9 ∨ 200 < N) ∧ ps.length ≤ 40 ∧ (rs.length ≤ 12 ∨ rs.length = 401)))) [] := by
 refine Con.enterL (n := 29) Try.func32 rfl rfl rfl (fun τ w ok vs hin => ?_)
 have hl0_1 := hin.lenA (i := 0) (j := 1) rfl rfl
 try rw [List.length_map] at hl0_1
 have hl0_2 := hin.lenA (i := 0) (j := 2) rfl rfl
 try rw [List.length_map] at hl0_2
 clear hin
 refine W.rg ?_
 refine SL.memS (O.box (is := [_, _, _]) 101 rfl rfl (by simp) rfl rfl Taken.no) rfl rfl (S' := (101, _) :: _) rfl ?_
 refine SL.an rfl rfl (E.fo (W.rg ?_))
 refine SL.val (O.fld_ref (o' := 0) rfl Try.underlying25 rfl (m := 0) (by kernel_rfl) rfl rfl Taken.no) ?_
 refine SL.val (O.ld1 (PtI.ref rfl rfl) rfl Try.underlying3 rfl rfl Taken.no) ?_
 refine SL.val (O.det (fun _ => G.R.leq rfl rfl) rfl Taken.no) ?_
 refine SL.mv rfl rfl ?_
 refine SL.case (j := 3) (g := 6) (want := false) rfl rfl (fun hg1 => ?_) (fun hg1 => ?_)
 ·skip
  first | have hg1p := G.gA3 hg1 | have hg1p := G.gA4 hg1 | have hg1p := hg1
  refine SL.val (O.fld_ref (o' := 0) rfl Try.underlying25 rfl (m := 0) (by kernel_rfl) rfl rfl (Taken.yes rfl rfl hg1)) ?_
  refine SL.val (O.ld1 (PtI.ref rfl rfl) rfl Try.underlying3 rfl rfl (Taken.yes rfl rfl hg1)) ?_
  refine SL.val (O.det (fun _ => G.R.gtr rfl rfl) rfl (Taken.yes rfl rfl hg1)) ?_
  refine SL.val (O.pick_f rfl hg1 rfl rfl Taken.no) ?_
  refine SL.mv rfl rfl ?_
  refine SL.case (j := 8) (g := 11) (want := true) rfl rfl (fun hg2 => ?_) (fun hg2 => ?_)
  ·skip
   first | have hg2p := G.gA1 hg2 | have hg2p := G.gA2 hg2 | have hg2p := hg2
   refine SL.val (O.fld_ref (o' := 1) rfl Try.underlying25 rfl (m := 0) (by kernel_rfl) rfl rfl (Taken.yes rfl rfl hg2)) ?_
   refine SL.val (O.ld1 (PtI.ref rfl rfl) rfl Try.underlying22 rfl rfl (Taken.yes rfl rfl hg2)) ?_
   refine SL.val (O.lenE (SlOf.fz rfl (by decide)) (by first | exact List.length_map _ | rfl) Try.underlying22 rfl (Taken.yes rfl rfl hg2)) ?_
   refine SL.val (O.det (fun _ => G.R.leq rfl rfl) rfl (Taken.yes rfl rfl hg2)) ?_
   refine SL.val (O.pick_t rfl hg2 rfl rfl Taken.no) ?_
   refine SL.mv rfl rfl ?_
   refine SL.case (j := 14) (g := 17) (want := true) rfl rfl (fun hg3 => ?_) (fun hg3 => ?_)
   ·skip
    first | have hg3p := G.gA1 hg3 | have hg3p := G.gA2 hg3 | have hg3p := hg3
    refine SL.val (O.fld_ref (o' := 2) rfl Try.underlying25 rfl (m := 0) (by kernel_rfl) rfl rfl (Taken.yes rfl rfl hg3)) ?_
    refine SL.val (O.ld1 (PtI.ref rfl rfl) rfl Try.underlying23 rfl rfl (Taken.yes rfl rfl hg3)) ?_
    refine SL.val (O.lenE (SlOf.fz rfl (by decide)) (by first | exact List.length_map _ | rfl) Try.underlying23 rfl (Taken.yes rfl rfl hg3)) ?_
    refine SL.val (O.det (fun _ => G.R.leq rfl rfl) rfl (Taken.yes rfl rfl hg3)) ?_
    refine SL.val (O.move rfl rfl (Taken.yes rfl rfl hg3)) ?_
    refine SL.case (j := 19) (g := 22) (want := false) rfl rfl (fun hg4 => ?_) (fun hg4 => ?_)
    ·skip
     first | have hg4p := G.gA3 hg4 | have hg4p := G.gA4 hg4 | have hg4p := hg4
     refine SL.val (O.fld_ref (o' := 2) rfl Try.underlying25 rfl (m := 0) (by kernel_rfl) rfl rfl (Taken.yes rfl rfl hg4)) ?_
     refine SL.val (O.ld1 (PtI.ref rfl rfl) rfl Try.underlying23 rfl rfl (Taken.yes rfl rfl hg4)) ?_
     refine SL.val (O.lenE (SlOf.fz rfl (by decide)) (by first | exact List.length_map _ | rfl) Try.underlying23 rfl (Taken.yes rfl rfl hg4)) ?_
     refine SL.val (O.det (fun _ => G.R.eql rfl rfl) rfl (Taken.yes rfl rfl hg4)) ?_
     refine SL.val (O.pick_f rfl hg4 rfl rfl (Taken.yes rfl rfl hg3)) ?_
     refine SL.val (O.pick_t rfl hg3 rfl rfl Taken.no) ?_
     refine SL.an rfl rfl (E.fo ?_)
     refine W.pick (K:=[(2,_)]) (Z:=[(101,_)]) ⟨rfl,trivial⟩ ⟨rfl,trivial⟩ ?_
     refine W.ret ?_
     refine E.fin (rs := [_]) (rn []) (.inl rfl) rfl (.cons (ResOne.tmp rfl) .nil) ?_ ?_ rfl (fixL_spec rfl)
     ·skip
      first | exact iv_bool (dec_iff (by omega)) | exact iv_bool (dec_f (by omega)) | exact iv_bool (dec_t (by omega))
     · exact SubS.nil
    first | have hg4p := G.gA7 hg4 | have hg4p := G.gA8 hg4 | have hg4p := hg4
    refine SL.sk rfl rfl rfl hg4 (SL.sk rfl rfl rfl hg4 (SL.sk rfl rfl rfl hg4 (SL.sk rfl rfl rfl hg4 ?_)))
    refine SL.val (O.pick_t rfl (G.ne_f hg4) rfl rfl (Taken.yes rfl rfl hg3)) ?_
    refine SL.val (O.pick_t rfl hg3 rfl rfl Taken.no) ?_
    refine SL.an rfl rfl (E.fo ?_)
    refine W.pick (K:=[(2,_)]) (Z:=[(101,_)]) ⟨rfl,trivial⟩ ⟨rfl,trivial⟩ ?_
    refine W.ret ?_
    refine E.fin (rs := [_]) (rn []) (.inl rfl) rfl (.cons (ResOne.tmp rfl) .nil) ?_ ?_ rfl (fixL_spec rfl)
    ·skip
     first | exact iv_bool (dec_iff (by omega)) | exact iv_bool (dec_f (by omega)) | exact iv_bool (dec_t (by omega))
    · exact SubS.nil
   first | have hg3p := G.gA5 hg3 | have hg3p := G.gA6 hg3 | have hg3p := hg3
   refine SL.sk rfl rfl rfl hg3 (SL.sk rfl rfl rfl hg3 (SL.sk rfl rfl rfl hg3 (SL.sk rfl rfl rfl hg3 (SL.sk rfl rfl rfl hg3 ?_))))
   refine SL.skip (OpOk.not2 rfl rfl rfl) ?_
   refine SL.skip (OpOk.not2 rfl rfl rfl) ?_
   refine SL.skip (OpOk.not2 rfl rfl rfl) ?_
   refine SL.skip (OpOk.not2 rfl rfl rfl) ?_
   refine SL.sk rfl rfl rfl hg3 ?_
   refine SL.val (O.pick_f rfl (G.ne_t hg3) rfl rfl Taken.no) ?_
   refine SL.an rfl rfl (E.fo ?_)
   refine W.pick (K:=[(2,_)]) (Z:=[(101,_)]) ⟨rfl,trivial⟩ ⟨rfl,trivial⟩ ?_
   refine W.ret ?_
   refine E.fin (rs := [_]) (rn []) (.inl rfl) rfl (.cons (ResOne.tmp rfl) .nil) ?_ ?_ rfl (fixL_spec rfl)
   ·skip
    first | exact iv_bool (dec_iff (by omega)) | exact iv_bool (dec_f (by omega)) | exact iv_bool (dec_t (by omega))
   · exact SubS.nil
  first | have hg2p := G.gA5 hg2 | have hg2p := G.gA6 hg2 | have hg2p := hg2
  refine SL.sk rfl rfl rfl hg2 (SL.sk rfl rfl rfl hg2 (SL.sk rfl rfl rfl hg2 (SL.sk rfl rfl rfl hg2 ?_)))
  refine SL.val (O.pick_f rfl (G.ne_t hg2) rfl rfl Taken.no) ?_
  refine SL.mv rfl rfl ?_
  have hg5 : false ≠ true := by decide
  refine SL.sk rfl rfl rfl hg5 (SL.sk rfl rfl rfl hg5 (SL.sk rfl rfl rfl hg5 (SL.sk rfl rfl rfl hg5 (SL.sk rfl rfl rfl hg5 ?_))))
  refine SL.skip (OpOk.not2 rfl rfl rfl) ?_
  refine SL.skip (OpOk.not2 rfl rfl rfl) ?_
  refine SL.skip (OpOk.not2 rfl rfl rfl) ?_
  refine SL.skip (OpOk.not2 rfl rfl rfl) ?_
  refine SL.sk rfl rfl rfl hg5 ?_
  refine SL.val (O.pick_f rfl rfl rfl rfl Taken.no) ?_
  refine SL.an rfl rfl (E.fo ?_)
  refine W.pick (K:=[(2,_)]) (Z:=[(101,_)]) ⟨rfl,trivial⟩ ⟨rfl,trivial⟩ ?_
  refine W.ret ?_
  refine E.fin (rs := [_]) (rn []) (.inl rfl) rfl (.cons (ResOne.tmp rfl) .nil) ?_ ?_ rfl (fixL_spec rfl)
  ·skip
   first | exact iv_bool (dec_iff (by omega)) | exact iv_bool (dec_f (by omega)) | exact iv_bool (dec_t (by omega))
  · exact SubS.nil
 first | have hg1p := G.gA7 hg1 | have hg1p := G.gA8 hg1 | have hg1p := hg1
 refine SL.sk rfl rfl rfl hg1 (SL.sk rfl rfl rfl hg1 (SL.sk rfl rfl rfl hg1 ?_))
 refine SL.val (O.pick_t rfl (G.ne_f hg1) rfl rfl Taken.no) ?_
 refine SL.mv rfl rfl ?_
 have hg6 : true = true := by decide
 refine SL.val (O.fld_ref (o' := 1) rfl Try.underlying25 rfl (m := 0) (by kernel_rfl) rfl rfl (Taken.yes rfl rfl hg6)) ?_
 refine SL.val (O.ld1 (PtI.ref rfl rfl) rfl Try.underlying22 rfl rfl (Taken.yes rfl rfl hg6)) ?_
 refine SL.val (O.lenE (SlOf.fz rfl (by decide)) (by first | exact List.length_map _ | rfl) Try.underlying22 rfl (Taken.yes rfl rfl hg6)) ?_
 refine SL.val (O.det (fun _ => G.R.leq rfl rfl) rfl (Taken.yes rfl rfl hg6)) ?_
 refine SL.val (O.pick_t rfl rfl rfl rfl Taken.no) ?_
 refine SL.mv rfl rfl ?_
 refine SL.case (j := 14) (g := 17) (want := true) rfl rfl (fun hg7 => ?_) (fun hg7 => ?_)
 ·skip
  first | have hg7p := G.gA1 hg7 | have hg7p := G.gA2 hg7 | have hg7p := hg7
  refine SL.val (O.fld_ref (o' := 2) rfl Try.underlying25 rfl (m := 0) (by kernel_rfl) rfl rfl (Taken.yes rfl rfl hg7)) ?_
  refine SL.val (O.ld1 (PtI.ref rfl rfl) rfl Try.underlying23 rfl rfl (Taken.yes rfl rfl hg7)) ?_
  refine SL.val (O.lenE (SlOf.fz rfl (by decide)) (by first | exact List.length_map _ | rfl) Try.underlying23 rfl (Taken.yes rfl rfl hg7)) ?_
  refine SL.val (O.det (fun _ => G.R.leq rfl rfl) rfl (Taken.yes rfl rfl hg7)) ?_
  refine SL.val (O.move rfl rfl (Taken.yes rfl rfl hg7)) ?_
  refine SL.case (j := 19) (g := 22) (want := false) rfl rfl (fun hg8 => ?_) (fun hg8 => ?_)
  ·skip
   first | have hg8p := G.gA3 hg8 | have hg8p := G.gA4 hg8 | have hg8p := hg8
   refine SL.val (O.fld_ref (o' := 2) rfl Try.underlying25 rfl (m := 0) (by kernel_rfl) rfl rfl (Taken.yes rfl rfl hg8)) ?_
   refine SL.val (O.ld1 (PtI.ref rfl rfl) rfl Try.underlying23 rfl rfl (Taken.yes rfl rfl hg8)) ?_
   refine SL.val (O.lenE (SlOf.fz rfl (by decide)) (by first | exact List.length_map _ | rfl) Try.underlying23 rfl (Taken.yes rfl rfl hg8)) ?_
   refine SL.val (O.det (fun _ => G.R.eql rfl rfl) rfl (Taken.yes rfl rfl hg8)) ?_
   refine SL.val (O.pick_f rfl hg8 rfl rfl (Taken.yes rfl rfl hg7)) ?_
   refine SL.val (O.pick_t rfl hg7 rfl rfl Taken.no) ?_
   refine SL.an rfl rfl (E.fo ?_)
   refine W.pick (K:=[(2,_)]) (Z:=[(101,_)]) ⟨rfl,trivial⟩ ⟨rfl,trivial⟩ ?_
   refine W.ret ?_
   refine E.fin (rs := [_]) (rn []) (.inl rfl) rfl (.cons (ResOne.tmp rfl) .nil) ?_ ?_ rfl (fixL_spec rfl)
   ·skip
    first | exact iv_bool (dec_iff (by omega)) | exact iv_bool (dec_f (by omega)) | exact iv_bool (dec_t (by omega))
   · exact SubS.nil
  first | have hg8p := G.gA7 hg8 | have hg8p := G.gA8 hg8 | have hg8p := hg8
  refine SL.sk rfl rfl rfl hg8 (SL.sk rfl rfl rfl hg8 (SL.sk rfl rfl rfl hg8 (SL.sk rfl rfl rfl hg8 ?_)))
  refine SL.val (O.pick_t rfl (G.ne_f hg8) rfl rfl (Taken.yes rfl rfl hg7)) ?_
  refine SL.val (O.pick_t rfl hg7 rfl rfl Taken.no) ?_
  refine SL.an rfl rfl (E.fo ?_)
  refine W.pick (K:=[(2,_)]) (Z:=[(101,_)]) ⟨rfl,trivial⟩ ⟨rfl,trivial⟩ ?_
  refine W.ret ?_
  refine E.fin (rs := [_]) (rn []) (.inl rfl) rfl (.cons (ResOne.tmp rfl) .nil) ?_ ?_ rfl (fixL_spec rfl)
  ·skip
   first | exact iv_bool (dec_iff (by omega)) | exact iv_bool (dec_f (by omega)) | exact iv_bool (dec_t (by omega))
  · exact SubS.nil
 first | have hg7p := G.gA5 hg7 | have hg7p := G.gA6 hg7 | have hg7p := hg7
 refine SL.sk rfl rfl rfl hg7 (SL.sk rfl rfl rfl hg7 (SL.sk rfl rfl rfl hg7 (SL.sk rfl rfl rfl hg7 (SL.sk rfl rfl rfl hg7 ?_))))
 refine SL.skip (OpOk.not2 rfl rfl rfl) ?_
 refine SL.skip (OpOk.not2 rfl rfl rfl) ?_
 refine SL.skip (OpOk.not2 rfl rfl rfl) ?_
 refine SL.skip (OpOk.not2 rfl rfl rfl) ?_
 refine SL.sk rfl rfl rfl hg7 ?_
 refine SL.val (O.pick_f rfl (G.ne_t hg7) rfl rfl Taken.no) ?_
 refine SL.an rfl rfl (E.fo ?_)
 refine W.pick (K:=[(2,_)]) (Z:=[(101,_)]) ⟨rfl,trivial⟩ ⟨rfl,trivial⟩ ?_
 refine W.ret ?_
 refine E.fin (rs := [_]) (rn []) (.inl rfl) rfl (.cons (ResOne.tmp rfl) .nil) ?_ ?_ rfl (fixL_spec rfl)
 ·skip
  first | exact iv_bool (dec_iff (by omega)) | exact iv_bool (dec_f (by omega)) | exact iv_bool (dec_t (by omega))
 · exact SubS.nil

end Go.Proofs.Ytbkbeplddddgeaa
end
section
namespace Go.D33
open Go Go.RowKit Go.H
abbrev eLI (l : List Int) : List UV := [.sl 1 (l.map eI)]
structure Stp where
  u : Bool
  f : Int
  t : Int
instance : Inhabited Stp := ⟨⟨false, 0, 0⟩⟩
abbrev eStp (s : Stp) : List UV := [uB s.u, uI s.f, uI s.t]
def selfs (n : Nat) (m : List Nat) : List Nat := (List.range n).filter fun u => decide (m[u]! = u)
theorem selfs_y {m : List Nat} {k : Nat} (e : m[k]! = k) : selfs (k + 1) m = selfs k m ++ [k] := by
  rw [selfs, List.range_succ, List.filter_append, List.filter_cons, if_pos (decide_eq_true e)]; rfl
theorem selfs_n {m : List Nat} {k : Nat} (e : ¬ m[k]! = k) : selfs (k + 1) m = selfs k m := by
  rw [selfs, List.range_succ, List.filter_append, List.filter_cons, if_neg (by simpa using e), List.filter_nil, List.append_nil]; rfl
theorem selfs_len (n : Nat) (m : List Nat) : (selfs n m).length ≤ n := by
  have := List.length_filter_le (fun u => decide (m[u]! = u)) (List.range n)
  rwa [List.length_range] at this
def places (cl : List Nat) : List Int := -1 :: cl.map fun x : Nat => (x : Int)
def moves (cl : List Nat) (a : Nat) : List Stp := (places cl).map fun c => ⟨false, a, c⟩
def unions (cl : List Nat) : Nat → List Stp
  | 0 => []
  | k + 1 => unions cl k ++ (cl.drop (k + 1)).map fun b : Nat => ⟨true, (cl[k]! : Nat), b⟩
def stepsL (cl at_ : List Nat) : List Stp := (at_.map (moves cl)).flatten ++ unions cl cl.length
theorem moves_s {cl : List Nat} {l : List Nat} {k : Nat} (h : k < l.length) : ((l.take (k + 1)).map (moves cl)).flatten = ((l.take k).map (moves cl)).flatten ++ moves cl l[k]! := by
  rw [snocP h, List.map_append, List.flatten_append]; simp
theorem moves_len (cl : List Nat) (a : Nat) : (moves cl a).length = cl.length + 1 := by simp [moves, places]
end Go.D33
end
section
namespace Go.Proofs.Ytbkbeplddddgeaa
open Go Go.RowKit Go.H Go.D33




end Go.Proofs.Ytbkbeplddddgeaa
end
section
namespace Go.Proofs.Ytbkbeplddddgeaa
open Go Go.RowKit Go.H Go.D33



end Go.Proofs.Ytbkbeplddddgeaa
end
section
namespace Go.D33
open Go Go.RowKit Go.H
structure PartsN (E : Nat → Nat → Bool) (units : List Nat) (ps : List (List Nat)) : Prop where
  perm : ps.flatten.Perm units
  ne : ∀ p ∈ ps, p ≠ []
  conn : ∀ p ∈ ps, ∀ u ∈ p, ∀ v ∈ p, Cn (within E p) u v
  sep : ps.Pairwise fun p q => ∀ u ∈ p, ∀ v ∈ q, E u v = false
def thereL (m : List Nat) (t : Int) : List Nat := if t < 0 then [] else unitsL m t.toNat
def g0L (m atm : List Nat) (s : Stp) : List Nat := if s.u = true then unitsL m m[s.f.toNat]! ++ thereL m s.t else thereL m s.t ++ (unitsL m m[s.f.toNat]!).filter fun u => decide (atm[u]! = s.f.toNat)
def g1L (m atm : List Nat) (s : Stp) : List Nat := if s.u = true then [] else (unitsL m m[s.f.toNat]!).filter fun u => !decide (atm[u]! = s.f.toNat)
def gL (lk : Nat → Nat → Bool) (m atm : List Nat) (s : Stp) : List (List Nat) := partsL lk (g0L m atm s) ++ partsL lk (g1L m atm s)
def sumV (w : Nat → Nat → Int) (ps : List (List Nat)) : Int := ps.foldl (fun n p => n + valF w p) 0
def hitR (g : List Nat) (x : Ru) : Bool := decide (x.a.toNat ∈ g ∧ x.b.toNat ∈ g)
def rngF (n : Nat) (s : Stp) : Prop := 0 ≤ s.f ∧ s.f < (n : Int) ∧ s.t < (n : Int) ∧ -1 ≤ s.t ∧ (s.t < 0 → s.u = false)
instance (n : Nat) (s : Stp) : Decidable (rngF n s) := by unfold rngF; infer_instance
def preF (n : Nat) (atm m : List Nat) (s : Stp) : Prop :=
  rngF n s ∧ (0 ≤ s.t → m[s.t.toNat]! = s.t.toNat ∧ m[s.f.toNat]! ≠ s.t.toNat) ∧
  (s.u = true → m[s.f.toNat]! = s.f.toNat ∧ s.f < s.t) ∧ (s.u = false → atm[s.f.toNat]! = s.f.toNat ∧ (s.t < 0 → g1L m atm s ≠ []))
instance (n : Nat) (atm m : List Nat) (s : Stp) : Decidable (preF n atm m s) := by unfold preF; infer_instance
def posF (n : Nat) (bar : List Ru) (atm m : List Nat) (s : Stp) : Prop := preF n atm m s ∧ bar.any (hitR (g0L m atm s)) = false
instance (n : Nat) (bar : List Ru) (atm m : List Nat) (s : Stp) : Decidable (posF n bar atm m s) := by unfold posF; infer_instance
def nm0 (m atm : List Nat) (s : Stp) : List Int := setAll (m.map fun x : Nat => (x : Int)) (g0L m atm s) (-1)
def nmF (lk : Nat → Nat → Bool) (m atm : List Nat) (s : Stp) : List Int := nameF (fun x : Nat => (x : Int)) (nm0 m atm s) (gL lk m atm s)
def gnF (w : Nat → Nat → Int) (lk : Nat → Nat → Bool) (m atm : List Nat) (s : Stp) : Int := sumV w (gL lk m atm s) - (valF w (unitsL m m[s.f.toNat]!) + valF w (thereL m s.t))
def nmL (l : List Nat) : List Nat := (List.range l.length).map fun i => l.idxOf l[i]!
def mvL (n : Nat) (atm m : List Nat) (s : Stp) : List Nat := (List.range n).map fun i => if atm[i]! = s.f.toNat then (if s.t < 0 then n else s.t.toNat) else m[i]!
def labL (n : Nat) (atm m : List Nat) (s : Stp) : List Nat := if s.u = true then joinL m s.f.toNat s.t.toNat else nmL (mvL n atm m s)
def othR (k : Nat) (atm m : List Nat) (f : Nat) : Bool := (List.range k).any fun i => decide (m[i]! = m[f]! ∧ ¬ atm[i]! = f)
def preR (n : Nat) (atm m : List Nat) (s : Stp) : Prop :=
  rngF n s ∧ (0 ≤ s.t → m[s.t.toNat]! = s.t.toNat) ∧
  (s.u = true → m[s.f.toNat]! = s.f.toNat ∧ s.f < s.t) ∧ (s.u = false → atm[s.f.toNat]! = s.f.toNat ∧ (0 ≤ s.t → m[s.f.toNat]! ≠ s.t.toNat) ∧ (s.t < 0 → othR n atm m s.f.toNat = true))
instance (n : Nat) (atm m : List Nat) (s : Stp) : Decidable (preR n atm m s) := by unfold preR; infer_instance
def posR (n : Nat) (bar : List Ru) (atm m : List Nat) (s : Stp) : Prop := preR n atm m s ∧ clash bar (labL n atm m s) = false
instance (n : Nat) (bar : List Ru) (atm m : List Nat) (s : Stp) : Decidable (posR n bar atm m s) := by unfold posR; infer_instance
def resR (n : Nat) (ps : List Pr) (rs : List Ru) (m : List Nat) (s : Stp) : List Nat := connL n ps rs (labL n (atomsL n rs) m s)
def sumQ (q : Nat → Nat → Prop) [∀ a b, Decidable (q a b)] (ps : List Pr) : Int := ps.foldl (fun n x => if q x.a.toNat x.b.toNat then n + x.w else n) 0
theorem sumQ_s {q : Nat → Nat → Prop} [∀ a b, Decidable (q a b)] {ps : List Pr} (x : Pr) : sumQ q (ps ++ [x]) = sumQ q ps + if q x.a.toNat x.b.toNat then x.w else 0 := by
  unfold sumQ
  rw [List.foldl_append, List.foldl_cons, List.foldl_nil]
  by_cases e : q x.a.toNat x.b.toNat
  · rw [if_pos e, if_pos e]
  · rw [if_neg e, if_neg e]; omega
theorem valR_sum (m : List Nat) (ps : List Pr) : valR m ps = sumQ (fun a b => m[a]! = m[b]!) ps := rfl
theorem sumV_c (w : Nat → Nat → Int) (p : List Nat) (L : List (List Nat)) : sumV w (p :: L) = valF w p + sumV w L := by
  have key : ∀ (L : List (List Nat)) (n : Int), L.foldl (fun n p => n + valF w p) n = n + L.foldl (fun n p => n + valF w p) 0 := by
    intro L
    induction L with
    | nil => intro n; simp
    | cons v r ih => intro n; rw [List.foldl_cons, List.foldl_cons, ih, ih (0 + valF w v)]; omega
  unfold sumV
  rw [List.foldl_cons, key]; omega
theorem sumV_s (w : Nat → Nat → Int) {L : List (List Nat)} {k : Nat} (h : k < L.length) : sumV w (L.take (k + 1)) = sumV w (L.take k) + valF w L[k]! := by rw [snocP h, sumV, List.foldl_append]; rfl
theorem sumQ_four {q1 q2 q3 q4 : Nat → Nat → Prop} [∀ a b, Decidable (q1 a b)] [∀ a b, Decidable (q2 a b)] [∀ a b, Decidable (q3 a b)] [∀ a b, Decidable (q4 a b)] : ∀ {ps : List Pr},
    (∀ x ∈ ps, ((q1 x.a.toNat x.b.toNat ↔ q3 x.a.toNat x.b.toNat) ∧ (q2 x.a.toNat x.b.toNat ↔ q4 x.a.toNat x.b.toNat)) ∨ ((q1 x.a.toNat x.b.toNat ↔ q2 x.a.toNat x.b.toNat) ∧ (q3 x.a.toNat x.b.toNat ↔ q4 x.a.toNat x.b.toNat))) → sumQ q1 ps - sumQ q2 ps = sumQ q3 ps - sumQ q4 ps := by
  intro ps
  have key : ∀ k, k ≤ ps.length → (∀ x ∈ ps, ((q1 x.a.toNat x.b.toNat ↔ q3 x.a.toNat x.b.toNat) ∧ (q2 x.a.toNat x.b.toNat ↔ q4 x.a.toNat x.b.toNat)) ∨ ((q1 x.a.toNat x.b.toNat ↔ q2 x.a.toNat x.b.toNat) ∧ (q3 x.a.toNat x.b.toNat ↔ q4 x.a.toNat x.b.toNat))) → sumQ q1 (ps.take k) - sumQ q2 (ps.take k) = sumQ q3 (ps.take k) - sumQ q4 (ps.take k) := by
    intro k
    induction k with
    | zero => intro _ _; rfl
    | succ k ih =>
      intro hk h
      have ih' := ih (by omega) h
      rw [snocP (show k < ps.length from hk), sumQ_s, sumQ_s, sumQ_s, sumQ_s]
      rcases h ps[k]! (mem_at hk) with ⟨e1, e2⟩ | ⟨e1, e2⟩
      · simp only [e1, e2]; omega
      · simp only [e1, e2]; omega
  intro h
  have := key ps.length (Nat.le_refl _) h
  rwa [List.take_length] at this
section
variable {n : Nat} {ps : List Pr} {rs : List Ru} {m : List Nat}
theorem Cn.inside {R R' : Nat → Nat → Prop} {O : Nat → Prop} (hO : ∀ i j, R i j → (O i ↔ O j)) (hR : ∀ i j, R i j → O i → R' i j) {i j : Nat} (g : Cn R i j) : (O i ↔ O j) ∧ (O i → Cn R' i j) := by
  induction g with
  | base h => exact ⟨hO _ _ h, fun o => .base (hR _ _ h o)⟩
  | refl i => exact ⟨Iff.rfl, fun _ => .refl i⟩
  | symm _ ih => exact ⟨ih.1.symm, fun o => (ih.2 (ih.1.2 o)).symm⟩
  | trans _ _ ih ih' => exact ⟨ih.1.trans ih'.1, fun o => (ih.2 o).trans (ih'.2 (ih.1.1 o))⟩
theorem perm_comp (hf : (Prob.mk (n : Int) ps rs).formed) (h : permR n ps rs m) : Comp n (inC n ps rs m) m := by
  have := conn_in hf m
  rwa [h.2.2] at this
structure Grp (n : Nat) (m g0 g1 lab : List Nat) : Prop where
  nd : (g0 ++ g1).Nodup
  lt : ∀ u ∈ g0 ++ g1, u < n
  cl : ∀ i j, i < n → j < n → m[i]! = m[j]! → i ∈ g0 ++ g1 → j ∈ g0 ++ g1
  g1 : ∀ i j, i ∈ g1 → j ∈ g1 → m[i]! = m[j]!
  lab : ∀ i j, i < n → j < n → (lab[i]! = lab[j]! ↔ (i ∈ g0 ∧ j ∈ g0) ∨ (i ∉ g0 ∧ j ∉ g0 ∧ m[i]! = m[j]!))
namespace Grp
variable {g0 g1 lab : List Nat} {lk : Nat → Nat → Bool}
end Grp
end
end Go.D33
end
section
namespace Go.D33
open Go Go.RowKit Go.H
section
variable {n : Nat} {ps : List Pr} {rs : List Ru} {m atm : List Nat} {s : Stp}
theorem nmL_iff {l : List Nat} {i j : Nat} (hi : i < l.length) (hj : j < l.length) : (nmL l)[i]! = (nmL l)[j]! ↔ l[i]! = l[j]! := by
  have hg : ∀ {i}, i < l.length → (nmL l)[i]! = l.idxOf l[i]! ∧ l[l.idxOf l[i]!]! = l[i]! := fun {i} hi => by
    refine ⟨by rw [nmL, get_map (by rw [List.length_range]; exact hi), range_get hi], ?_⟩
    have hlt : l.idxOf l[i]! < l.length := List.idxOf_lt_length_of_mem (mem_at hi)
    rw [getElem!_pos l _ hlt, List.getElem_idxOf hlt]
  rw [(hg hi).1, (hg hj).1]
  constructor
  · intro e
    rw [← (hg hi).2, ← (hg hj).2, e]
  · intro e
    rw [e]
theorem mem_here (hm : m.length = n) {c i : Nat} : i ∈ unitsL m c ↔ i < n ∧ m[i]! = c := by rw [mem_units, hm]
theorem mem_there (hm : m.length = n) {t : Int} {i : Nat} : i ∈ thereL m t ↔ 0 ≤ t ∧ i < n ∧ m[i]! = t.toNat := by
  unfold thereL
  by_cases h : t < 0
  · rw [if_pos h]
    exact ⟨fun q => (by cases q), fun q => by omega⟩
  · rw [if_neg h, mem_here hm]
    exact ⟨fun q => ⟨by omega, q⟩, fun q => q.2⟩
theorem there_nodup (m : List Nat) (t : Int) : (thereL m t).Nodup := by
  unfold thereL
  split
  · exact List.nodup_nil
  · exact units_nodup _ _
theorem mem_g0u (hm : m.length = n) (hu : s.u = true) {i : Nat} : i ∈ g0L m atm s ↔ i < n ∧ (m[i]! = m[s.f.toNat]! ∨ (0 ≤ s.t ∧ m[i]! = s.t.toNat)) := by
  unfold g0L
  rw [if_pos hu, List.mem_append, mem_here hm, mem_there hm]
  constructor
  · rintro (q | q)
    · exact ⟨q.1, .inl q.2⟩
    · exact ⟨q.2.1, .inr ⟨q.1, q.2.2⟩⟩
  · rintro ⟨q1, q | q⟩
    · exact .inl ⟨q1, q⟩
    · exact .inr ⟨q.1, q1, q.2⟩
theorem mem_g0m (hm : m.length = n) (hu : s.u = false) {i : Nat} : i ∈ g0L m atm s ↔ i < n ∧ ((0 ≤ s.t ∧ m[i]! = s.t.toNat) ∨ (m[i]! = m[s.f.toNat]! ∧ atm[i]! = s.f.toNat)) := by
  unfold g0L
  rw [if_neg (by rw [hu]; decide), List.mem_append, List.mem_filter, mem_here hm, mem_there hm, decide_eq_true_eq]
  constructor
  · rintro (q | q)
    · exact ⟨q.2.1, .inl ⟨q.1, q.2.2⟩⟩
    · exact ⟨q.1.1, .inr ⟨q.1.2, q.2⟩⟩
  · rintro ⟨q1, q | q⟩
    · exact .inl ⟨q.1, q1, q.2⟩
    · exact .inr ⟨⟨q1, q.1⟩, q.2⟩
theorem mem_g1m (hm : m.length = n) (hu : s.u = false) {i : Nat} : i ∈ g1L m atm s ↔ i < n ∧ m[i]! = m[s.f.toNat]! ∧ ¬ atm[i]! = s.f.toNat := by
  unfold g1L
  rw [if_neg (by rw [hu]; decide), List.mem_filter, mem_here hm]
  simp only [Bool.not_eq_true', decide_eq_false_iff_not, and_assoc]
theorem g1u (hu : s.u = true) : g1L m atm s = [] := if_pos hu
theorem grp_perm (m atm : List Nat) (s : Stp) : (g0L m atm s ++ g1L m atm s).Perm (unitsL m m[s.f.toNat]! ++ thereL m s.t) := by
  by_cases hu : s.u = true
  · rw [g1u hu, List.append_nil, g0L, if_pos hu]
  · rw [g0L, g1L, if_neg hu, if_neg hu, List.append_assoc]
    refine List.perm_append_comm.trans ?_
    exact (perm_filt _ _).append_right _
theorem g0_at (hm : m.length = n) {i j : Nat} (hi : i < n) (hj : j < n) (h1 : m[i]! = m[j]!) (h2 : atm[i]! = atm[j]!) : i ∈ g0L m atm s ↔ j ∈ g0L m atm s := by
  cases hu : s.u with
  | true => rw [mem_g0u hm hu, mem_g0u hm hu, h1]; exact ⟨fun q => ⟨hj, q.2⟩, fun q => ⟨hi, q.2⟩⟩
  | false => rw [mem_g0m hm hu, mem_g0m hm hu, h1, h2]; exact ⟨fun q => ⟨hj, q.2⟩, fun q => ⟨hi, q.2⟩⟩
theorem mvL_get {i : Nat} (hi : i < n) : (mvL n atm m s)[i]! = if atm[i]! = s.f.toNat then (if s.t < 0 then n else s.t.toNat) else m[i]! := by
  rw [mvL, get_map (by rw [List.length_range]; exact hi), range_get hi]
theorem grp_of (hm : isP n m) (hat : ∀ i, i < n → m[i]! = m[atm[i]!]!) (h : preF n atm m s) : Grp n m (g0L m atm s) (g1L m atm s) (labL n atm m s) := by
  obtain ⟨⟨r1, r2, r3, r4, r5⟩, h2, h3, h4⟩ := h
  have hml := hm.1
  have hp := grp_perm m atm s
  have hmem : ∀ {i}, i ∈ g0L m atm s ++ g1L m atm s ↔ i < n ∧ (m[i]! = m[s.f.toNat]! ∨ (0 ≤ s.t ∧ m[i]! = s.t.toNat)) := fun {i} => by
    rw [hp.mem_iff, List.mem_append, mem_here hml, mem_there hml]
    exact ⟨fun q => q.elim (fun q => ⟨q.1, .inl q.2⟩) fun q => ⟨q.2.1, .inr ⟨q.1, q.2.2⟩⟩, fun ⟨q1, q2⟩ => q2.elim (fun q => .inl ⟨q1, q⟩) fun q => .inr ⟨q.1, q1, q.2⟩⟩
  refine ⟨hp.nodup_iff.2 (List.nodup_append.2 ⟨units_nodup _ _, there_nodup _ _, fun a ha b hb e => ?_⟩), fun u hu => (hmem.1 hu).1, fun i j hi hj e q => ?_, fun i j hi hj => ?_, fun i j hi hj => ?_⟩
  · subst e
    have q1 := (mem_here hml).1 ha
    have q2 := (mem_there hml).1 hb
    exact (h2 q2.1).2 (by omega)
  · rw [hmem] at q ⊢
    exact ⟨hj, by rw [← e]; exact q.2⟩
  · cases hu : s.u with
    | true => rw [g1u hu] at hi; cases hi
    | false =>
      have q1 := (mem_g1m hml hu).1 hi
      have q2 := (mem_g1m hml hu).1 hj
      omega
  · cases hu : s.u with
    | true =>
      have q3 := h3 hu
      have ht0 : 0 ≤ s.t := by omega
      have q2 := h2 ht0
      unfold labL
      rw [if_pos hu, join_get (by omega), join_get (by omega), mem_g0u hml hu, mem_g0u hml hu]
      have hlt : s.f.toNat < s.t.toNat := by omega
      rw [q3.1, q2.1, Nat.max_eq_right (Nat.le_of_lt hlt), Nat.min_eq_left (Nat.le_of_lt hlt)]
      split <;> split <;> omega
    | false =>
      have q4 := h4 hu
      have hfn : s.f.toNat < n := by omega
      unfold labL
      have hll : (mvL n atm m s).length = n := by rw [mvL, List.length_map, List.length_range]
      rw [if_neg (by rw [hu]; decide), nmL_iff (by omega) (by omega), mvL_get hi, mvL_get hj, mem_g0m hml hu, mem_g0m hml hu]
      have ai : atm[i]! = s.f.toNat → m[i]! = m[s.f.toNat]! := fun e => by rw [hat i hi, e]
      have aj : atm[j]! = s.f.toNat → m[j]! = m[s.f.toNat]! := fun e => by rw [hat j hj, e]
      have li := (hm.2 i hi).1
      have lj := (hm.2 j hj).1
      by_cases ht : s.t < 0
      · rw [if_pos ht]
        split <;> split <;> omega
      · rw [if_neg ht]
        have q2 := h2 (by omega)
        split <;> split <;> omega
theorem pre_iff (hm : isP n m) (_ : ∀ i, i < n → m[i]! = m[atm[i]!]!) : preF n atm m s ↔ preR n atm m s := by
  have hml := hm.1
  have hoth : s.u = false → (g1L m atm s ≠ [] ↔ othR n atm m s.f.toNat = true) := fun hu => by
    constructor
    · intro h
      obtain ⟨i, hi⟩ := List.exists_mem_of_ne_nil _ h
      have q := (mem_g1m hml hu).1 hi
      exact List.any_eq_true.2 ⟨i, List.mem_range.2 q.1, decide_eq_true ⟨q.2.1, q.2.2⟩⟩
    · intro h e
      obtain ⟨i, hi, q⟩ := List.any_eq_true.1 h
      have q := of_decide_eq_true q
      have : i ∈ g1L m atm s := (mem_g1m hml hu).2 ⟨List.mem_range.1 hi, q.1, q.2⟩
      rw [e] at this
      cases this
  constructor
  · rintro ⟨h1, h2, h3, h4⟩
    exact ⟨h1, fun q => (h2 q).1, h3, fun hu => ⟨(h4 hu).1, fun q => (h2 q).2, fun q => (hoth hu).1 ((h4 hu).2 q)⟩⟩
  · rintro ⟨h1, h2, h3, h4⟩
    refine ⟨h1, fun q => ⟨h2 q, ?_⟩, h3, fun hu => ⟨(h4 hu).1, fun q => (hoth hu).2 ((h4 hu).2.2 q)⟩⟩
    cases hu : s.u with
    | true => have := h3 hu; have := h1.1; omega
    | false => exact (h4 hu).2.1 q
theorem clash_lab {bar : List Ru} {g0 g1 lab : List Nat} (g : Grp n m g0 g1 lab) (hc : clash bar m = false) (hb : ∀ x ∈ bar, 0 ≤ x.a ∧ x.a < (n : Int) ∧ 0 ≤ x.b ∧ x.b < (n : Int)) : clash bar lab = bar.any (hitR g0) := by
  rw [Bool.eq_iff_iff]
  unfold clash at hc ⊢
  rw [List.any_eq_true, List.any_eq_true]
  have hno : ∀ x ∈ bar, ¬ m[x.a.toNat]! = m[x.b.toNat]! := fun x hx e => by
    have := List.any_eq_false.1 hc x hx
    exact this (decide_eq_true e)
  constructor
  · rintro ⟨x, hx, e⟩
    have hxb := hb x hx
    rcases (g.lab _ _ (by omega) (by omega)).1 (of_decide_eq_true e) with q | q
    · exact ⟨x, hx, decide_eq_true q⟩
    · exact absurd q.2.2 (hno x hx)
  · rintro ⟨x, hx, e⟩
    have hxb := hb x hx
    exact ⟨x, hx, decide_eq_true ((g.lab _ _ (by omega) (by omega)).2 (.inl (of_decide_eq_true e)))⟩
theorem atoms_comp (hf : (Prob.mk (n : Int) ps rs).formed) : Comp n (fun i j => (i, j) ∈ muE rs) (atomsL n rs) :=
  Comp.joins0 fun e he => by
    obtain ⟨r, hr, _, rfl⟩ := mem_muE.1 he
    exact ⟨(ru_lt hf hr).1, (ru_lt hf hr).2.1⟩
theorem pos_iff (hf : (Prob.mk (n : Int) ps rs).formed) (hm : isP n m) (hp : permR n ps rs m) : posF n (barL rs) (atomsL n rs) m s ↔ posR n (barL rs) (atomsL n rs) m s := by
  have e := pre_iff (atm := atomsL n rs) (s := s) hm hp.2.1
  constructor
  · rintro ⟨h1, h2⟩
    exact ⟨e.1 h1, by rw [clash_lab (grp_of hm hp.2.1 h1) hp.1 (bar_rng hf)]; exact h2⟩
  · rintro ⟨h1, h2⟩
    have h3 := e.2 h1
    exact ⟨h3, by rw [← clash_lab (grp_of hm hp.2.1 h3) hp.1 (bar_rng hf)]; exact h2⟩
theorem res_comp (hf : (Prob.mk (n : Int) ps rs).formed) (m : List Nat) (s : Stp) : Comp n (inC n ps rs (labL n (atomsL n rs) m s)) (resR n ps rs m s) := conn_in hf _
theorem lab_at (_ : (Prob.mk (n : Int) ps rs).formed) (hm : isP n m) (hp : permR n ps rs m) (h : preF n (atomsL n rs) m s) {i j : Nat} (hi : i < n) (hj : j < n) (e : (atomsL n rs)[i]! = (atomsL n rs)[j]!) : (labL n (atomsL n rs) m s)[i]! = (labL n (atomsL n rs) m s)[j]! := by
  have g := grp_of hm hp.2.1 h
  have hml := hm.1
  have e2 : m[i]! = m[j]! := by rw [hp.2.1 i hi, hp.2.1 j hj, e]
  have e3 := g0_at (s := s) hml hi hj e2 e
  refine (g.lab i j hi hj).2 ?_
  by_cases q : i ∈ g0L m (atomsL n rs) s
  · exact .inl ⟨q, e3.1 q⟩
  · exact .inr ⟨q, fun z => q (e3.2 z), e2⟩
theorem conn_perm (hf : (Prob.mk (n : Int) ps rs).formed) {lab : List Nat} (hat : ∀ i j, i < n → j < n → (atomsL n rs)[i]! = (atomsL n rs)[j]! → lab[i]! = lab[j]!) (hc : clash (barL rs) lab = false) : isP n (connL n ps rs lab) ∧ permR n ps rs (connL n ps rs lab) := by
  have hr := conn_in hf lab
  have ha := atoms_comp hf
  have hlab : ∀ i j, Cn (inC n ps rs lab) i j → lab[i]! = lab[j]! := fun i j g => Cn.keep (f := fun i => lab[i]!) (fun i j q => q.2.1) g
  refine ⟨⟨hr.len, fun i hi => ⟨hr.le i hi, hr.idem hi⟩⟩, ?_, fun i hi => ?_, ?_⟩
  · unfold clash at hc ⊢
    rw [List.any_eq_false] at hc ⊢
    intro x hx e
    have hxb := bar_rng hf x hx
    exact hc x hx (decide_eq_true (hlab _ _ ((hr.iff (by omega) (by omega)).1 (of_decide_eq_true e))))
  · refine (hr.iff hi (ha.lt hi)).2 ((ha.cn i hi).lift fun x y q => .base ?_)
    obtain ⟨hx, hy⟩ := ha.bnd x y q
    obtain ⟨r, hrr, hk, e⟩ := mem_muE.1 q
    cases e
    exact ⟨(mF_iff rs).2 (.inr ⟨r, hrr, (ru_lt hf hrr).2.2.2 hk, .inl ⟨rfl, rfl⟩⟩), hat _ _ hx hy (ha.rel _ _ q), hx, hy⟩
  · refine (conn_in hf _).uniq (hr.congr (fun i j q => ⟨q.2.2.1, q.2.2.2⟩) (fun i j q => ?_) fun i j q => ?_)
    · exact .base ⟨q.1, hlab _ _ ((hr.iff q.2.2.1 q.2.2.2).1 q.2.1), q.2.2.1, q.2.2.2⟩
    · exact .base ⟨q.1, hr.rel i j q, q.2.2.1, q.2.2.2⟩
theorem res_perm (hf : (Prob.mk (n : Int) ps rs).formed) (hm : isP n m) (hp : permR n ps rs m) (h : posR n (barL rs) (atomsL n rs) m s) : isP n (resR n ps rs m s) ∧ permR n ps rs (resR n ps rs m s) :=
  conn_perm hf (fun _ _ hi hj e => lab_at hf hm hp ((pre_iff hm hp.2.1).2 h.1) hi hj e) h.2
end
end Go.D33
end
section
namespace Go.D33
open Go Go.RowKit Go.H
def pick (ok : Stp → Prop) [DecidablePred ok] (g : Stp → Int) (b : Stp × Int) (s : Stp) : Stp × Int := if ok s ∧ b.2 < g s then (s, g s) else b
def bestF (ok : Stp → Prop) [DecidablePred ok] (g : Stp → Int) (l : List Stp) : Stp × Int := l.foldl (pick ok g) (⟨false, 0, 0⟩, 0)
section
variable {ok : Stp → Prop} [DecidablePred ok] {g : Stp → Int}
theorem pick_y {b : Stp × Int} {s : Stp} (h : ok s) (h2 : b.2 < g s) : pick ok g b s = (s, g s) := if_pos ⟨h, h2⟩
theorem pick_n {b : Stp × Int} {s : Stp} (h : ¬ (ok s ∧ b.2 < g s)) : pick ok g b s = b := if_neg h
theorem best_app (l k : List Stp) : bestF ok g (l ++ k) = k.foldl (pick ok g) (bestF ok g l) := List.foldl_append
theorem best_snoc (l : List Stp) (s : Stp) : bestF ok g (l ++ [s]) = pick ok g (bestF ok g l) s := by rw [best_app]; rfl
theorem best_s {l : List Stp} {k : Nat} (h : k < l.length) : bestF ok g (l.take (k + 1)) = pick ok g (bestF ok g (l.take k)) l[k]! := by rw [snocP h, best_snoc]
theorem best_spec' (l : List Stp) : ∀ k, k ≤ l.length → 0 ≤ (bestF ok g (l.take k)).2 ∧ (0 < (bestF ok g (l.take k)).2 → (bestF ok g (l.take k)).1 ∈ l ∧ ok (bestF ok g (l.take k)).1 ∧ g (bestF ok g (l.take k)).1 = (bestF ok g (l.take k)).2) ∧
    (∀ s ∈ l.take k, ok s → g s ≤ (bestF ok g (l.take k)).2) ∧ ((bestF ok g (l.take k)).2 = 0 → (bestF ok g (l.take k)).1 = ⟨false, 0, 0⟩) := by
  intro k
  induction k with
  | zero =>
    intro _
    refine ⟨Int.le_refl _, fun h => absurd h (by rw [List.take_zero]; show ¬ (0 : Int) < 0; omega), fun s hs => ?_, fun _ => rfl⟩
    rw [List.take_zero] at hs; cases hs
  | succ k ih =>
    intro hk
    obtain ⟨h1, h2, h3, h4⟩ := ih (by omega)
    rw [best_s (show k < l.length from hk)]
    by_cases hp : ok l[k]! ∧ (bestF ok g (l.take k)).2 < g l[k]!
    · rw [pick_y hp.1 hp.2]
      refine ⟨by show 0 ≤ g l[k]!; omega, fun _ => ⟨mem_at hk, hp.1, rfl⟩, fun s hs hok => ?_, fun e => ?_⟩
      · rw [snocP (show k < l.length from hk)] at hs
        rcases List.mem_append.1 hs with q | q
        · have := h3 s q hok
          show g s ≤ g l[k]!
          omega
        · rw [List.mem_singleton.1 q]; exact Int.le_refl _
      · have e' : g l[k]! = 0 := e
        omega
    · rw [pick_n hp]
      refine ⟨h1, h2, fun s hs hok => ?_, h4⟩
      rw [snocP (show k < l.length from hk)] at hs
      rcases List.mem_append.1 hs with q | q
      · exact h3 s q hok
      · rw [List.mem_singleton.1 q] at hok ⊢
        rcases Int.lt_or_le (bestF ok g (l.take k)).2 (g l[k]!) with z | z
        · exact absurd ⟨hok, z⟩ hp
        · exact z
theorem best_spec (l : List Stp) : 0 ≤ (bestF ok g l).2 ∧ (0 < (bestF ok g l).2 → (bestF ok g l).1 ∈ l ∧ ok (bestF ok g l).1 ∧ g (bestF ok g l).1 = (bestF ok g l).2) ∧
    (∀ s ∈ l, ok s → g s ≤ (bestF ok g l).2) ∧ ((bestF ok g l).2 = 0 → (bestF ok g l).1 = ⟨false, 0, 0⟩) := by
  have := best_spec' (ok := ok) (g := g) l l.length (Nat.le_refl _)
  rwa [List.take_length] at this
theorem best_congr {ok' : Stp → Prop} [DecidablePred ok'] {g' : Stp → Int} {l : List Stp} (h : ∀ s ∈ l, (ok s ↔ ok' s) ∧ (ok s → g s = g' s)) : bestF ok g l = bestF ok' g' l := by
  unfold bestF
  generalize ((⟨false, 0, 0⟩, 0) : Stp × Int) = b
  induction l generalizing b with
  | nil => rfl
  | cons s l ih =>
    rw [List.foldl_cons, List.foldl_cons]
    have hs := h s (by simp)
    have e : pick ok g b s = pick ok' g' b s := by
      unfold pick
      by_cases q : ok s
      · rw [hs.2 q]
        by_cases z : b.2 < g' s
        · rw [if_pos ⟨q, z⟩, if_pos ⟨hs.1.1 q, z⟩]
        · rw [if_neg (fun w => z w.2), if_neg (fun w => z w.2)]
      · rw [if_neg (fun w => q w.1), if_neg (fun w => q (hs.1.2 w.1))]
    rw [e]
    exact ih (fun s hs => h s (by simp [hs])) _
end
def rowS (n : Nat) (u : Bool) (f : Nat) : List Stp := (places (List.range n)).map fun t => ⟨u, (f : Int), t⟩
def kindS (n : Nat) (u : Bool) (k : Nat) : List Stp := ((List.range k).map (rowS n u)).flatten
def allS (n : Nat) : List Stp := kindS n false n ++ kindS n true n
theorem kindS_s (n : Nat) (u : Bool) (k : Nat) : kindS n u (k + 1) = kindS n u k ++ rowS n u k := by
  rw [kindS, List.range_succ, List.map_append, List.flatten_append]; simp [kindS]
theorem mem_allS {n : Nat} {s : Stp} : s ∈ allS n ↔ 0 ≤ s.f ∧ s.f < (n : Int) ∧ -1 ≤ s.t ∧ s.t < (n : Int) := by
  have hr : ∀ {u : Bool}, s ∈ kindS n u n ↔ s.u = u ∧ 0 ≤ s.f ∧ s.f < (n : Int) ∧ -1 ≤ s.t ∧ s.t < (n : Int) := fun {u} => by
    unfold kindS
    rw [List.mem_flatten]
    constructor
    · rintro ⟨l, hl, hs⟩
      obtain ⟨f, hf, rfl⟩ := List.mem_map.1 hl
      obtain ⟨t, ht, rfl⟩ := List.mem_map.1 hs
      have hf := List.mem_range.1 hf
      rcases List.mem_cons.1 ht with rfl | ht
      · exact ⟨rfl, by show (0 : Int) ≤ f; omega, by show (f : Int) < n; omega, by show (-1 : Int) ≤ -1; omega, by show (-1 : Int) < n; omega⟩
      · obtain ⟨t, ht', rfl⟩ := List.mem_map.1 ht
        have ht := List.mem_range.1 ht'
        exact ⟨rfl, by show (0 : Int) ≤ f; omega, by show (f : Int) < n; omega, by show (-1 : Int) ≤ t; omega, by show (t : Int) < n; omega⟩
    · rintro ⟨e, h1, h2, h3, h4⟩
      refine ⟨rowS n u s.f.toNat, List.mem_map.2 ⟨s.f.toNat, List.mem_range.2 (by omega), rfl⟩, List.mem_map.2 ⟨s.t, ?_, ?_⟩⟩
      · by_cases ht : s.t = -1
        · rw [ht]; simp [places]
        · refine List.mem_cons_of_mem _ (List.mem_map.2 ⟨s.t.toNat, List.mem_range.2 (by omega), by omega⟩)
      · obtain ⟨a, b, c⟩ := s
        have h1' : (0 : Int) ≤ b := h1
        have e' : a = u := e
        show Stp.mk u ((b.toNat : Nat) : Int) c = ⟨a, b, c⟩
        rw [e', Int.toNat_of_nonneg h1']
  unfold allS
  rw [List.mem_append, hr, hr]
  constructor
  · rintro (q | q) <;> exact q.2
  · intro q
    cases hu : s.u with
    | true => exact .inr ⟨rfl, q⟩
    | false => exact .inl ⟨rfl, q⟩
def lookQ (m atm : List Nat) (s : Stp) : Bool := if s.u = true then decide (m[s.f.toNat]! = s.f.toNat ∧ 0 ≤ s.t ∧ m[s.t.toNat]! = s.t.toNat ∧ s.f < s.t) else decide (atm[s.f.toNat]! = s.f.toNat ∧ (s.t < 0 ∨ m[s.t.toNat]! = s.t.toNat))
theorem selfs_asc (n : Nat) (m : List Nat) : (selfs n m).Pairwise (· < ·) := (List.pairwise_lt_range (n := n)).filter _
section
variable {n : Nat} {ps : List Pr} {rs : List Ru} {m : List Nat} {s : Stp}
def gnR (n : Nat) (ps : List Pr) (rs : List Ru) (m : List Nat) (s : Stp) : Int := valR (resR n ps rs m s) ps - valR m ps
def nextR (n : Nat) (ps : List Pr) (rs : List Ru) (m : List Nat) : Stp × Int := bestF (posR n (barL rs) (atomsL n rs) m) (gnR n ps rs m) (allS n)
def nextF (n : Nat) (ps : List Pr) (rs : List Ru) (m : List Nat) (l : List Stp) : Stp × Int := bestF (posF n (barL rs) (atomsL n rs) m) (gnF (wF ps) (mF (lF ps) rs) m (atomsL n rs)) l
theorem next_spec (n : Nat) (ps : List Pr) (rs : List Ru) (m : List Nat) : 0 ≤ (nextR n ps rs m).2 ∧ (0 < (nextR n ps rs m).2 → (nextR n ps rs m).1 ∈ allS n ∧ posR n (barL rs) (atomsL n rs) m (nextR n ps rs m).1 ∧ gnR n ps rs m (nextR n ps rs m).1 = (nextR n ps rs m).2) ∧
    (∀ s ∈ allS n, posR n (barL rs) (atomsL n rs) m s → gnR n ps rs m s ≤ (nextR n ps rs m).2) ∧ ((nextR n ps rs m).2 = 0 → (nextR n ps rs m).1 = ⟨false, 0, 0⟩) := best_spec _
def solveN (n : Nat) (ps : List Pr) (rs : List Ru) : Nat → List Nat → List Nat
  | 0, m => m
  | k + 1, m => if (nextR n ps rs m).2 = 0 then m else solveN n ps rs k (resR n ps rs m (nextR n ps rs m).1)
def muS (ps : List Pr) (m : List Nat) : Nat := (1000 * (ps.length : Int) - valR m ps).toNat
def solveR (n : Nat) (ps : List Pr) (rs : List Ru) : List Nat := solveN n ps rs (muS ps (atomsL n rs) + 1) (atomsL n rs)
theorem valR_le (hf : (Prob.mk (n : Int) ps rs).formed) (m : List Nat) : -1000 * (ps.length : Int) ≤ valR m ps ∧ valR m ps ≤ 1000 * (ps.length : Int) := by
  have := valR_b (m := m) (ps := ps) (fun x hx => ⟨(formed_pr hf hx).2.2.2.1, (formed_pr hf hx).2.2.2.2⟩) ps.length (Nat.le_refl _)
  rwa [List.take_length] at this
theorem next_step (hf : (Prob.mk (n : Int) ps rs).formed) (hm : isP n m) (hp : permR n ps rs m) (h : ¬ (nextR n ps rs m).2 = 0) : isP n (resR n ps rs m (nextR n ps rs m).1) ∧ permR n ps rs (resR n ps rs m (nextR n ps rs m).1) ∧
    valR (resR n ps rs m (nextR n ps rs m).1) ps = valR m ps + (nextR n ps rs m).2 ∧ muS ps (resR n ps rs m (nextR n ps rs m).1) < muS ps m := by
  obtain ⟨h1, h2, _, _⟩ := next_spec n ps rs m
  obtain ⟨_, q2, q3⟩ := h2 (by omega)
  have := res_perm hf hm hp q2
  have l1 := valR_le hf (resR n ps rs m (nextR n ps rs m).1)
  unfold gnR at q3
  exact ⟨this.1, this.2, by omega, by unfold muS; omega⟩
theorem solve_ge (hf : (Prob.mk (n : Int) ps rs).formed) : ∀ {k j : Nat} {m : List Nat}, isP n m → permR n ps rs m → muS ps m < k → muS ps m < j → solveN n ps rs k m = solveN n ps rs j m
  | 0, _, _, _, _, h, _ => absurd h (by omega)
  | _ + 1, 0, _, _, _, _, h => absurd h (by omega)
  | k + 1, j + 1, m, hm, hp, h1, h2 => by
    rw [solveN, solveN]
    split
    · rfl
    · rename_i h
      have := next_step hf hm hp h
      exact solve_ge hf this.1 this.2.1 (by omega) (by omega)
theorem solve_step (hf : (Prob.mk (n : Int) ps rs).formed) (hm : isP n m) (hp : permR n ps rs m) (h : ¬ (nextR n ps rs m).2 = 0) : solveN n ps rs (muS ps (resR n ps rs m (nextR n ps rs m).1) + 1) (resR n ps rs m (nextR n ps rs m).1) = solveN n ps rs (muS ps m + 1) m := by
  have := next_step hf hm hp h
  conv => rhs; rw [solveN, if_neg h]
  exact solve_ge hf this.1 this.2.1 (by omega) (by omega)
theorem solve_end (h : (nextR n ps rs m).2 = 0) (k : Nat) : solveN n ps rs k m = m := by
  cases k with
  | zero => rfl
  | succ k => rw [solveN, if_pos h]
theorem atoms_perm (hok : (Prob.mk (n : Int) ps rs).ok) : isP n (atomsL n rs) ∧ permR n ps rs (atomsL n rs) := by
  have hf := hok.1
  have ha := atoms_comp hf
  refine ⟨⟨ha.len, fun i hi => ⟨ha.le i hi, ha.idem hi⟩⟩, ?_, fun i hi => (ha.idem hi).symm, ?_⟩
  · rw [← bad_eq hf]; exact hok.2
  · refine (conn_in hf _).uniq ⟨ha.len, fun i j q => ⟨q.2.2.1, q.2.2.2⟩, ha.le, fun i j q => q.2.1, fun i hi => (ha.cn i hi).lift fun x y q => .base ?_⟩
    obtain ⟨hx, hy⟩ := ha.bnd x y q
    obtain ⟨r, hrr, hk, e⟩ := mem_muE.1 q
    cases e
    exact ⟨(mF_iff rs).2 (.inr ⟨r, hrr, (ru_lt hf hrr).2.2.2 hk, .inl ⟨rfl, rfl⟩⟩), ha.rel _ _ q, hx, hy⟩
end
end Go.D33
end
section
namespace Go.D33
open Go Go.RowKit Go.H
section
variable {n : Nat} {m atm : List Nat} {s : Stp}
def apN (n : Nat) (lk : Nat → Nat → Bool) (bar : List Ru) (atm m : List Nat) (s : Stp) : List Int := if posF n bar atm m s then nmF lk m atm s else []
def apG (n : Nat) (w : Nat → Nat → Int) (lk : Nat → Nat → Bool) (bar : List Ru) (atm m : List Nat) (s : Stp) : Int := if posF n bar atm m s then gnF w lk m atm s else 0
def nmHit (nm : List Int) (x : Ru) : Bool := decide (nm[x.a.toNat]! = -1 ∧ nm[x.b.toNat]! = -1)
def outF (lk : Nat → Nat → Bool) (m atm : List Nat) (b : Stp × Int) : List Int := if b.2 = 0 then [] else nmF lk m atm b.1
end
end Go.D33
end
section
namespace Go.Proofs.Ytbkbeplddddgeaa
open Go Go.RowKit Go.H Go.D33





end Go.Proofs.Ytbkbeplddddgeaa
end
section
namespace Go.Proofs.Ytbkbeplddddgeaa
open Go Go.RowKit Go.H Go.D33




end Go.Proofs.Ytbkbeplddddgeaa
end
section
namespace Go.Proofs.Ytbkbeplddddgeaa
open Go Go.RowKit Go.H Go.D33



end Go.Proofs.Ytbkbeplddddgeaa
end
section
namespace Go.D33
open Go Go.RowKit Go.H
section
variable {n : Nat} {ps : List Pr} {rs : List Ru} {m : List Nat} {s : Stp} {l : List Int}
def apL (n : Nat) (ps : List Pr) (rs : List Ru) (l : List Int) (s : Stp) : List Nat := if permS n ps rs l ∧ posR n (barL rs) (atomsL n rs) (l.map Int.toNat) s then resR n ps rs (l.map Int.toNat) s else []
def apV (n : Nat) (ps : List Pr) (rs : List Ru) (l : List Int) (s : Stp) : Int := if permS n ps rs l ∧ posR n (barL rs) (atomsL n rs) (l.map Int.toNat) s then gnR n ps rs (l.map Int.toNat) s else 0
def apE (n : Nat) (ps : List Pr) (rs : List Ru) (l : List Int) (s : Stp) : Int := if permS n ps rs l then (if posR n (barL rs) (atomsL n rs) (l.map Int.toNat) s then 0 else 1) else 11
def nxI (n : Nat) (ps : List Pr) (rs : List Ru) (l : List Int) : Stp × Int := if permS n ps rs l then nextR n ps rs (l.map Int.toNat) else (⟨false, 0, 0⟩, 0)
def nxE (n : Nat) (ps : List Pr) (rs : List Ru) (l : List Int) : Int := if permS n ps rs l then 0 else 11
def outR (n : Nat) (ps : List Pr) (rs : List Ru) (m : List Nat) : List Nat := if (nextR n ps rs m).2 = 0 then [] else resR n ps rs m (nextR n ps rs m).1
end
end Go.D33
end
section
namespace Go.Proofs.Ytbkbeplddddgeaa
open Go Go.RowKit Go.H Go.D33






end Go.Proofs.Ytbkbeplddddgeaa
end
section
namespace Go.D33
open Go Go.RowKit Go.H
def atF (us : List Int) (x : Int) : Int := idxF (fun y => decide (y = x)) us
def pl (us : List Int) : Nat → List (Int × Int)
  | 0 => []
  | k + 1 => mset (pl us k) us[k]! k
def ascU (us : List Int) : Prop := ∀ i, i < us.length → 0 < i → us[i - 1]! < us[i]!
instance (us : List Int) : Decidable (ascU us) := by unfold ascU; infer_instance
def rngU (N : Int) (us : List Int) : Prop := ∀ i, i < us.length → 0 ≤ us[i]! ∧ us[i]! < N
instance (N : Int) (us : List Int) : Decidable (rngU N us) := by unfold rngU; infer_instance
def okU (N : Int) (us : List Int) : Prop := ascU us ∧ rngU N us
instance (N : Int) (us : List Int) : Decidable (okU N us) := by unfold okU; infer_instance
def subE (N : Int) (us : List Int) : Int := if ¬ ascU us then 19 else if ¬ rngU N us then 2 else 0
theorem subE_19 {N : Int} {us : List Int} (h : ¬ ascU us) : subE N us = 19 := if_pos h
theorem subE_2 {N : Int} {us : List Int} (h : ascU us) (h2 : ¬ rngU N us) : subE N us = 2 := by rw [subE, if_neg (fun q => q h), if_pos h2]
theorem subE_0 {N : Int} {us : List Int} (h : okU N us) : subE N us = 0 := by rw [subE, if_neg (fun q => q h.1), if_neg (fun q => q h.2)]
def subPr (us : List Int) (x : Pr) : Option Pr := if 0 ≤ atF us x.a ∧ 0 ≤ atF us x.b then some ⟨atF us x.a, atF us x.b, x.w⟩ else none
def subRu (us : List Int) (x : Ru) : Option Ru := if 0 ≤ atF us x.a ∧ 0 ≤ atF us x.b then some ⟨x.k, atF us x.a, atF us x.b⟩ else none
def subP (us : List Int) (ps : List Pr) : List Pr := ps.filterMap (subPr us)
def subR (us : List Int) (rs : List Ru) : List Ru := rs.filterMap (subRu us)
theorem fm_s {α β : Type} [Inhabited α] (f : α → Option β) {l : List α} {k : Nat} (h : k < l.length) : (l.take (k + 1)).filterMap f = (l.take k).filterMap f ++ (f l[k]!).toList := by
  rw [snocP h, List.filterMap_append]
  cases e : f l[k]! with
  | none => rw [List.filterMap_cons_none e]; rfl
  | some b => rw [List.filterMap_cons_some e]; rfl
theorem fm_y {α β : Type} [Inhabited α] (f : α → Option β) {l : List α} {k : Nat} {b : β} (h : k < l.length) (e : f l[k]! = some b) : (l.take (k + 1)).filterMap f = (l.take k).filterMap f ++ [b] := by rw [fm_s f h, e]; rfl
theorem fm_n {α β : Type} [Inhabited α] (f : α → Option β) {l : List α} {k : Nat} (h : k < l.length) (e : f l[k]! = none) : (l.take (k + 1)).filterMap f = (l.take k).filterMap f := by rw [fm_s f h, e]; exact List.append_nil _
theorem fm_len {α β : Type} (f : α → Option β) (l : List α) (k : Nat) : ((l.take k).filterMap f).length ≤ l.length := by
  have h1 := List.length_filterMap_le f (l.take k)
  rw [List.length_take] at h1; omega
theorem asc_ltU {us : List Int} (h : ascU us) : ∀ {i j : Nat}, i < j → j < us.length → us[i]! < us[j]! := by
  intro i j hij hj
  induction j with
  | zero => omega
  | succ j ih =>
    have h1 := h (j + 1) hj (by omega)
    rw [Nat.add_sub_cancel] at h1
    rcases Nat.lt_succ_iff_lt_or_eq.1 hij with q | q
    · have := ih q (by omega); omega
    · rw [q]; exact h1
theorem pl_spec {us : List Int} (h : ascU us) (x : Int) : ∀ k, k ≤ us.length → (∀ j, j < k → us[j]! = x → mhas (pl us k) x = true ∧ mget (pl us k) x 0 = (j : Int)) ∧ ((∀ j, j < k → us[j]! ≠ x) → mhas (pl us k) x = false ∧ mget (pl us k) x 0 = 0)
  | 0, _ => ⟨fun j hj => absurd hj (Nat.not_lt_zero _), fun _ => ⟨rfl, rfl⟩⟩
  | k + 1, hk => by
    obtain ⟨h1, h2⟩ := pl_spec h x k (by omega)
    rw [pl, mhas_mset, mget_mset]
    refine ⟨fun j hj e => ?_, fun hn => ?_⟩
    · by_cases q : j = k
      · subst q
        rw [if_pos e.symm, decide_eq_true e.symm]; exact ⟨rfl, rfl⟩
      · have h3 := h1 j (by omega) e
        have h4 := asc_ltU h (show j < k by omega) (by omega)
        rw [if_neg (by omega), decide_eq_false (by omega), h3.1, h3.2]; exact ⟨rfl, rfl⟩
    · have h3 := h2 fun j hj => hn j (by omega)
      have h4 := hn k (by omega)
      rw [if_neg (Ne.symm h4), decide_eq_false (Ne.symm h4), h3.1, h3.2]; exact ⟨rfl, rfl⟩
theorem atF_spec (us : List Int) (x : Int) : (∃ j, j < us.length ∧ us[j]! = x ∧ (∀ i, i < j → us[i]! ≠ x) ∧ atF us x = (j : Int)) ∨ ((∀ j, j < us.length → us[j]! ≠ x) ∧ atF us x = -1) := by
  by_cases h : ∃ j, j < us.length ∧ us[j]! = x
  · obtain ⟨j, hj, hm⟩ : ∃ j, (j < us.length ∧ us[j]! = x) ∧ ∀ i, i < j → ¬ (i < us.length ∧ us[i]! = x) := by
      obtain ⟨j, hj⟩ := h
      induction j using Nat.strongRecOn with
      | _ j ih =>
        by_cases q : ∃ i, i < j ∧ i < us.length ∧ us[i]! = x
        · obtain ⟨i, hi, h2⟩ := q
          exact ih i hi h2
        · exact ⟨j, hj, fun i hi h2 => q ⟨i, hi, h2⟩⟩
    have hm' : ∀ i, i < j → us[i]! ≠ x := fun i hi e => hm i hi ⟨by omega, e⟩
    exact .inl ⟨j, hj.1, hj.2, hm', idxF_here hj.1 (fun i hi => decide_eq_false (hm' i hi)) (decide_eq_true hj.2)⟩
  · have hn : ∀ j, j < us.length → us[j]! ≠ x := fun j hj e => h ⟨j, hj, e⟩
    exact .inr ⟨hn, idxF_none (Nat.le_refl _) fun j hj => decide_eq_false (hn j hj)⟩
theorem pl_at {us : List Int} (h : ascU us) (x : Int) : mhas (pl us us.length) x = decide (0 ≤ atF us x) ∧ (0 ≤ atF us x → mget (pl us us.length) x 0 = atF us x) := by
  obtain ⟨h1, h2⟩ := pl_spec h x us.length (Nat.le_refl _)
  rcases atF_spec us x with ⟨j, hj, hx, _, e⟩ | ⟨hn, e⟩
  · have := h1 j hj hx
    exact ⟨by rw [this.1, e, decide_eq_true (by omega)], fun _ => by rw [this.2, e]⟩
  · have := h2 hn
    exact ⟨by rw [this.1, e, decide_eq_false (by omega)], fun q => by omega⟩
theorem sp_y {us : List Int} {x : Pr} (h1 : 0 ≤ atF us x.a) (h2 : 0 ≤ atF us x.b) : subPr us x = some ⟨atF us x.a, atF us x.b, x.w⟩ := if_pos ⟨h1, h2⟩
theorem sp_n {us : List Int} {x : Pr} (h : ¬ (0 ≤ atF us x.a ∧ 0 ≤ atF us x.b)) : subPr us x = none := if_neg h
theorem sr_y {us : List Int} {x : Ru} (h1 : 0 ≤ atF us x.a) (h2 : 0 ≤ atF us x.b) : subRu us x = some ⟨x.k, atF us x.a, atF us x.b⟩ := if_pos ⟨h1, h2⟩
theorem sr_n {us : List Int} {x : Ru} (h : ¬ (0 ≤ atF us x.a ∧ 0 ≤ atF us x.b)) : subRu us x = none := if_neg h
theorem subP_y {us : List Int} {ps : List Pr} {k : Nat} (h : k < ps.length) (h1 : 0 ≤ atF us ps[k]!.a) (h2 : 0 ≤ atF us ps[k]!.b) : subP us (ps.take (k + 1)) = subP us (ps.take k) ++ [⟨atF us ps[k]!.a, atF us ps[k]!.b, ps[k]!.w⟩] := fm_y _ h (sp_y h1 h2)
theorem subP_n {us : List Int} {ps : List Pr} {k : Nat} (h : k < ps.length) (hn : ¬ (0 ≤ atF us ps[k]!.a ∧ 0 ≤ atF us ps[k]!.b)) : subP us (ps.take (k + 1)) = subP us (ps.take k) := fm_n _ h (sp_n hn)
theorem subR_y {us : List Int} {rs : List Ru} {k : Nat} (h : k < rs.length) (h1 : 0 ≤ atF us rs[k]!.a) (h2 : 0 ≤ atF us rs[k]!.b) : subR us (rs.take (k + 1)) = subR us (rs.take k) ++ [⟨rs[k]!.k, atF us rs[k]!.a, atF us rs[k]!.b⟩] := fm_y _ h (sr_y h1 h2)
theorem subR_n {us : List Int} {rs : List Ru} {k : Nat} (h : k < rs.length) (hn : ¬ (0 ≤ atF us rs[k]!.a ∧ 0 ≤ atF us rs[k]!.b)) : subR us (rs.take (k + 1)) = subR us (rs.take k) := fm_n _ h (sr_n hn)
theorem subP_len (us : List Int) (ps : List Pr) (k : Nat) : (subP us (ps.take k)).length ≤ ps.length := fm_len _ _ k
theorem subR_len (us : List Int) (rs : List Ru) (k : Nat) : (subR us (rs.take k)).length ≤ rs.length := fm_len _ _ k
def sbN (N : Int) (us : List Int) : Int := if okU N us then us.length else 0
def sbP (N : Int) (us : List Int) (ps : List Pr) : List Pr := if okU N us then subP us ps else []
def sbR (N : Int) (us : List Int) (rs : List Ru) : List Ru := if okU N us then subR us rs else []
theorem sb_y {N : Int} {us : List Int} (h : okU N us) (ps : List Pr) (rs : List Ru) : sbN N us = us.length ∧ sbP N us ps = subP us ps ∧ sbR N us rs = subR us rs ∧ subE N us = 0 := ⟨if_pos h, if_pos h, if_pos h, subE_0 h⟩
theorem sb_n {N : Int} {us : List Int} (h : ¬ okU N us) (ps : List Pr) (rs : List Ru) : sbN N us = 0 ∧ sbP N us ps = [] ∧ sbR N us rs = [] := ⟨if_neg h, if_neg h, if_neg h⟩
def nmK (l : List Nat) (i j : Nat) : Nat := if (List.range i).any (fun k => decide (j ≤ k ∧ l[k]! = l[i]!)) = true then l.idxOf l[i]! else i
def nmX (l : List Nat) (i : Nat) : List Nat := (nmL l).take i ++ List.replicate (l.length - i) 0
def mvK (n k : Nat) (atm m : List Nat) (s : Stp) : List Nat := (List.range n).map fun i => if i < k ∧ atm[i]! = s.f.toNat then (if s.t < 0 then n else s.t.toNat) else m[i]!
def apRL (n : Nat) (ps : List Pr) (rs : List Ru) (m : List Nat) (s : Stp) : List Nat := if posR n (barL rs) (atomsL n rs) m s then resR n ps rs m s else []
def apRV (n : Nat) (ps : List Pr) (rs : List Ru) (m : List Nat) (s : Stp) : Int := if posR n (barL rs) (atomsL n rs) m s then gnR n ps rs m s else 0
end Go.D33
end
