/-
  The walks.
-/
import Derived.Test.YtnmngpmdphkcpaaHTyp
import Derived.Test.YtnmngpmdphkcpaaW1
import Derived.Test.YtnmngpmdphkcpaaRows
import Derived.Test.YtnmngpmdphkcpaaM20
namespace Go.Proofs.Ytnmngpmdphkcpaa
open Go Go.RowKit Go.H Go.D20 Go.D02

theorem hinf3 : ∃ i, Try.prog.info? 3 = some i ∧ i.zero = some (.int .i64 0) ∧ i.size = 1 ∧ i.bytes = 8 := G.info_of (by kernel_rfl)
theorem hinf5 : ∃ i, Try.prog.info? 5 = some i ∧ i.zero = some (.int .u8 0) ∧ i.size = 1 ∧ i.bytes = 1 := G.info_of (by kernel_rfl)
theorem hinf22 : ∃ i, Try.prog.info? 22 = some i ∧ i.zero = some (.slice none 0 0) ∧ i.size = 1 ∧ i.bytes = 24 := G.info_of (by kernel_rfl)
theorem hcallOk35 : G.callOk Try.prog 35 = true := by kernel_rfl
theorem hcallOk43 : G.callOk Try.prog 43 = true := by kernel_rfl
theorem hcallOk45 : G.callOk Try.prog 45 = true := by kernel_rfl

theorem more_h (h : Int) (l : List UInt8) : Con Try.prog 43 [vN .u32 h, vL 1 (l.map eB)] [] (vN .u32 (moreI h l)) [] :=
  Con.ofG fun τ w ok vs hA => by
    obtain ⟨u, v, rfl, h1, h2⟩ := allI_2 hA
    obtain ⟨lo, hi, h3⟩ := rep_u8 h2
    rw [rep_sc h1]
    exact more_spec h w h3
theorem refmore_h (h : Int) (l : List UInt8) : Con Try.prog 39 [vN .u32 h, vL 1 (l.map eB)] [] (vN .u32 (refMoreI h l)) [] :=
  Con.ofG fun τ w ok vs hA => by
    obtain ⟨u, v, rfl, h1, h2⟩ := allI_2 hA
    obtain ⟨lo, hi, h3⟩ := rep_u8 h2
    rw [rep_sc h1]
    exact refmore_spec h w h3
theorem rows_four (h : Int) : List.map IV.us [vN .u8 (IntKind.u8.wrap (h / 16777216)), vN .u8 (IntKind.u8.wrap (h / 65536)), vN .u8 (IntKind.u8.wrap (h / 256)), vN .u8 (IntKind.u8.wrap h)] = (fourL h).map eB := by
  simp [fourL, eB, IV.us, IV.cells, IV.toU, Value.cells, u8_wrap]; omega

/-- bookplate/wal.four. -/
theorem four_h (h : Int) :
    Con Try.prog 35 [vN .u32 h] [] (.own 0) [(0, .data 5 1 ((fourL h).map eB))] := by
  obtain ⟨i5, hi5, hz5, hs5, hb5⟩ := hinf5
  refine Con.enterL (n := 15) Try.func35 rfl rfl rfl (fun τ w ok vs hin => ?_)
  clear hin
  refine W.seq ?_
  refine W.region ?_
  refine SL.val (O.assign rfl rfl Taken.no) ?_
  refine SL.nil ?_
  refine E.to ?_
  refine W.seq ?_
  refine W.region ?_
  refine SL.val (O.move rfl rfl Taken.no) ?_
  refine SL.val (O.det (fun _ => G.R.shr_c (q := 16777216) rfl rfl (by decide) (by decide)) rfl Taken.no) ?_
  refine SL.val (O.det (fun _ => G.R.conv rfl Try.underlying61 Try.underlying5) rfl Taken.no) ?_
  refine SL.val (O.move rfl rfl Taken.no) ?_
  refine SL.val (O.det (fun _ => G.R.shr_c (q := 65536) rfl rfl (by decide) (by decide)) rfl Taken.no) ?_
  refine SL.val (O.det (fun _ => G.R.conv rfl Try.underlying61 Try.underlying5) rfl Taken.no) ?_
  refine SL.val (O.move rfl rfl Taken.no) ?_
  refine SL.val (O.det (fun _ => G.R.shr_c (q := 256) rfl rfl (by decide) (by decide)) rfl Taken.no) ?_
  refine SL.val (O.det (fun _ => G.R.conv rfl Try.underlying61 Try.underlying5) rfl Taken.no) ?_
  refine SL.val (O.move rfl rfl Taken.no) ?_
  refine SL.val (O.det (fun _ => G.R.conv rfl Try.underlying61 Try.underlying5) rfl Taken.no) ?_
  refine SL.memS (O.buildSlice 101 rfl rfl Try.underlying22 hi5 hz5 hs5 (by decide) rfl (by decide) rfl rfl rfl Taken.no) rfl rfl (S' := (101, _) :: _) rfl ?_
  refine SL.val (O.assign rfl rfl Taken.no) ?_
  refine SL.nil ?_
  refine E.to ?_
  refine W.ret ?_
  refine E.fin (rs := [_]) (rn [(0, 101)]) (.inl rfl) rfl (.cons (ResOne.tmp rfl) .nil) ?_ ?_ rfl (fixL_spec rfl)
  · skip
    rfl
  · exact (SubS.val rfl (by exact sb_data (rows_four h)) SubS.nil)

/-- bookplate/bookplateref20.four. -/
theorem reffour_h (h : Int) :
    Con Try.prog 38 [vN .u32 h] [] (.own 0) [(0, .data 5 1 ((fourL h).map eB))] := by
  obtain ⟨i5, hi5, hz5, hs5, hb5⟩ := hinf5
  refine Con.enterL (n := 15) Try.func38 rfl rfl rfl (fun τ w ok vs hin => ?_)
  clear hin
  refine W.seq ?_
  refine W.region ?_
  refine SL.val (O.assign rfl rfl Taken.no) ?_
  refine SL.nil ?_
  refine E.to ?_
  refine W.seq ?_
  refine W.region ?_
  refine SL.val (O.move rfl rfl Taken.no) ?_
  refine SL.val (O.det (fun _ => G.R.shr_c (q := 16777216) rfl rfl (by decide) (by decide)) rfl Taken.no) ?_
  refine SL.val (O.det (fun _ => G.R.conv rfl Try.underlying61 Try.underlying5) rfl Taken.no) ?_
  refine SL.val (O.move rfl rfl Taken.no) ?_
  refine SL.val (O.det (fun _ => G.R.shr_c (q := 65536) rfl rfl (by decide) (by decide)) rfl Taken.no) ?_
  refine SL.val (O.det (fun _ => G.R.conv rfl Try.underlying61 Try.underlying5) rfl Taken.no) ?_
  refine SL.val (O.move rfl rfl Taken.no) ?_
  refine SL.val (O.det (fun _ => G.R.shr_c (q := 256) rfl rfl (by decide) (by decide)) rfl Taken.no) ?_
  refine SL.val (O.det (fun _ => G.R.conv rfl Try.underlying61 Try.underlying5) rfl Taken.no) ?_
  refine SL.val (O.move rfl rfl Taken.no) ?_
  refine SL.val (O.det (fun _ => G.R.conv rfl Try.underlying61 Try.underlying5) rfl Taken.no) ?_
  refine SL.memS (O.buildSlice 101 rfl rfl Try.underlying22 hi5 hz5 hs5 (by decide) rfl (by decide) rfl rfl rfl Taken.no) rfl rfl (S' := (101, _) :: _) rfl ?_
  refine SL.val (O.assign rfl rfl Taken.no) ?_
  refine SL.nil ?_
  refine E.to ?_
  refine W.ret ?_
  refine E.fin (rs := [_]) (rn [(0, 101)]) (.inl rfl) rfl (.cons (ResOne.tmp rfl) .nil) ?_ ?_ rfl (fixL_spec rfl)
  · skip
    rfl
  · exact (SubS.val rfl (by exact sb_data (rows_four h)) SubS.nil)

/-- bookplate/wal.number. -/
theorem number_h {l : List UInt8} (hb : 4 ≤ l.length) :
    Con Try.prog 40 [vL 1 (l.map eB)] [] (vN .u32 (numI l)) [] := by
  obtain ⟨i5, hi5, hz5, hs5, hb5⟩ := hinf5
  refine Con.enterL (n := 25) Try.func40 rfl rfl rfl (fun τ w ok vs hin => ?_)
  have hl0 := hin.len (i := 0) rfl
  try rw [List.length_map] at hl0
  clear hin
  refine W.seq ?_
  refine W.region ?_
  refine SL.val (O.assign rfl rfl Taken.no) ?_
  refine SL.nil ?_
  refine E.to ?_
  refine W.seq ?_
  refine W.draw [⟨[], [], []⟩, ⟨[], [], []⟩, ⟨[], [], []⟩, ⟨[], [], []⟩, ⟨[], [], []⟩, ⟨[], [], []⟩, ⟨[], [], []⟩, ⟨[], [], []⟩, ⟨[], [], []⟩, ⟨[], [], []⟩, ⟨[], [], []⟩, ⟨[], [], []⟩, ⟨[], [], []⟩, ⟨[], [], []⟩, ⟨[], [], []⟩, ⟨[], [], []⟩, ⟨[], [], []⟩, ⟨[], [], []⟩, ⟨[], [], []⟩, ⟨[], [], []⟩, ⟨[], [], []⟩, ⟨[], [], []⟩, ⟨[], [], []⟩] rfl (by kernel_rfl) (by kernel_rfl) rfl rfl ?_
  refine WH.val (O.move rfl rfl Taken.no) rfl rfl ?_
  refine WH.val (O.idx_fz (i := 0) rfl rfl (rfl) (row_get (by omega)) Try.underlying22 hi5 hs5 rfl Taken.no) rfl rfl ?_
  refine WH.val (O.ld1 (PtI.ofU (PtU.fz rfl)) rfl Try.underlying5 rfl rfl Taken.no) rfl rfl ?_
  refine WH.val (O.det (fun _ => G.R.mv (G.R.conv rfl Try.underlying5 Try.underlying61) (congrArg _ (IntWalk.u32_in _ (u8r _)))) rfl Taken.no) rfl rfl ?_
  refine WH.val (O.det (fun _ => G.R.shl_c (q := 16777216) rfl rfl (by decide) (by decide)) rfl Taken.no) rfl rfl ?_
  refine WH.val (O.move rfl rfl Taken.no) rfl rfl ?_
  refine WH.val (O.idx_fz (i := 1) rfl rfl (rfl) (row_get (by omega)) Try.underlying22 hi5 hs5 rfl Taken.no) rfl rfl ?_
  refine WH.val (O.ld1 (PtI.ofU (PtU.fz rfl)) rfl Try.underlying5 rfl rfl Taken.no) rfl rfl ?_
  refine WH.val (O.det (fun _ => G.R.mv (G.R.conv rfl Try.underlying5 Try.underlying61) (congrArg _ (IntWalk.u32_in _ (u8r _)))) rfl Taken.no) rfl rfl ?_
  refine WH.val (O.det (fun _ => G.R.shl_c (q := 65536) rfl rfl (by decide) (by decide)) rfl Taken.no) rfl rfl ?_
  refine WH.val (O.det (fun _ => G.R.or rfl rfl) rfl Taken.no) rfl rfl ?_
  refine WH.val (O.move rfl rfl Taken.no) rfl rfl ?_
  refine WH.val (O.idx_fz (i := 2) rfl rfl (rfl) (row_get (by omega)) Try.underlying22 hi5 hs5 rfl Taken.no) rfl rfl ?_
  refine WH.val (O.ld1 (PtI.ofU (PtU.fz rfl)) rfl Try.underlying5 rfl rfl Taken.no) rfl rfl ?_
  refine WH.val (O.det (fun _ => G.R.mv (G.R.conv rfl Try.underlying5 Try.underlying61) (congrArg _ (IntWalk.u32_in _ (u8r _)))) rfl Taken.no) rfl rfl ?_
  refine WH.val (O.det (fun _ => G.R.shl_c (q := 256) rfl rfl (by decide) (by decide)) rfl Taken.no) rfl rfl ?_
  refine WH.val (O.det (fun _ => G.R.or rfl rfl) rfl Taken.no) rfl rfl ?_
  refine WH.val (O.move rfl rfl Taken.no) rfl rfl ?_
  refine WH.val (O.idx_fz (i := 3) rfl rfl (rfl) (row_get (by omega)) Try.underlying22 hi5 hs5 rfl Taken.no) rfl rfl ?_
  refine WH.val (O.ld1 (PtI.ofU (PtU.fz rfl)) rfl Try.underlying5 rfl rfl Taken.no) rfl rfl ?_
  refine WH.val (O.det (fun _ => G.R.mv (G.R.conv rfl Try.underlying5 Try.underlying61) (congrArg _ (IntWalk.u32_in _ (u8r _)))) rfl Taken.no) rfl rfl ?_
  refine WH.val (O.det (fun _ => G.R.or rfl rfl) rfl Taken.no) rfl rfl ?_
  refine WH.val (O.assign rfl rfl Taken.no) rfl rfl ?_
  refine WH.nil ?_
  refine E.to ?_
  refine W.pick (.cons (t := 2) rfl .nil) .nil ?_
  refine W.ret ?_
  refine E.fin (rs := [_]) (rn []) (.inl rfl) rfl (.cons (ResOne.tmp rfl) .nil) ?_ ?_ rfl (fixL_spec rfl)
  · skip
    rfl
  · exact SubS.nil

/-- bookplate/bookplateref20.number. -/
theorem refnumber_h {l : List UInt8} (hb : 4 ≤ l.length) :
    Con Try.prog 37 [vL 1 (l.map eB)] [] (vN .u32 (numI l)) [] := by
  obtain ⟨i5, hi5, hz5, hs5, hb5⟩ := hinf5
  refine Con.enterL (n := 25) Try.func37 rfl rfl rfl (fun τ w ok vs hin => ?_)
  have hl0 := hin.len (i := 0) rfl
  try rw [List.length_map] at hl0
  clear hin
  refine W.seq ?_
  refine W.region ?_
  refine SL.val (O.assign rfl rfl Taken.no) ?_
  refine SL.nil ?_
  refine E.to ?_
  refine W.seq ?_
  refine W.draw [⟨[], [], []⟩, ⟨[], [], []⟩, ⟨[], [], []⟩, ⟨[], [], []⟩, ⟨[], [], []⟩, ⟨[], [], []⟩, ⟨[], [], []⟩, ⟨[], [], []⟩, ⟨[], [], []⟩, ⟨[], [], []⟩, ⟨[], [], []⟩, ⟨[], [], []⟩, ⟨[], [], []⟩, ⟨[], [], []⟩, ⟨[], [], []⟩, ⟨[], [], []⟩, ⟨[], [], []⟩, ⟨[], [], []⟩, ⟨[], [], []⟩, ⟨[], [], []⟩, ⟨[], [], []⟩, ⟨[], [], []⟩, ⟨[], [], []⟩] rfl (by kernel_rfl) (by kernel_rfl) rfl rfl ?_
  refine WH.val (O.move rfl rfl Taken.no) rfl rfl ?_
  refine WH.val (O.idx_fz (i := 0) rfl rfl (rfl) (row_get (by omega)) Try.underlying22 hi5 hs5 rfl Taken.no) rfl rfl ?_
  refine WH.val (O.ld1 (PtI.ofU (PtU.fz rfl)) rfl Try.underlying5 rfl rfl Taken.no) rfl rfl ?_
  refine WH.val (O.det (fun _ => G.R.mv (G.R.conv rfl Try.underlying5 Try.underlying61) (congrArg _ (IntWalk.u32_in _ (u8r _)))) rfl Taken.no) rfl rfl ?_
  refine WH.val (O.det (fun _ => G.R.shl_c (q := 16777216) rfl rfl (by decide) (by decide)) rfl Taken.no) rfl rfl ?_
  refine WH.val (O.move rfl rfl Taken.no) rfl rfl ?_
  refine WH.val (O.idx_fz (i := 1) rfl rfl (rfl) (row_get (by omega)) Try.underlying22 hi5 hs5 rfl Taken.no) rfl rfl ?_
  refine WH.val (O.ld1 (PtI.ofU (PtU.fz rfl)) rfl Try.underlying5 rfl rfl Taken.no) rfl rfl ?_
  refine WH.val (O.det (fun _ => G.R.mv (G.R.conv rfl Try.underlying5 Try.underlying61) (congrArg _ (IntWalk.u32_in _ (u8r _)))) rfl Taken.no) rfl rfl ?_
  refine WH.val (O.det (fun _ => G.R.shl_c (q := 65536) rfl rfl (by decide) (by decide)) rfl Taken.no) rfl rfl ?_
  refine WH.val (O.det (fun _ => G.R.or rfl rfl) rfl Taken.no) rfl rfl ?_
  refine WH.val (O.move rfl rfl Taken.no) rfl rfl ?_
  refine WH.val (O.idx_fz (i := 2) rfl rfl (rfl) (row_get (by omega)) Try.underlying22 hi5 hs5 rfl Taken.no) rfl rfl ?_
  refine WH.val (O.ld1 (PtI.ofU (PtU.fz rfl)) rfl Try.underlying5 rfl rfl Taken.no) rfl rfl ?_
  refine WH.val (O.det (fun _ => G.R.mv (G.R.conv rfl Try.underlying5 Try.underlying61) (congrArg _ (IntWalk.u32_in _ (u8r _)))) rfl Taken.no) rfl rfl ?_
  refine WH.val (O.det (fun _ => G.R.shl_c (q := 256) rfl rfl (by decide) (by decide)) rfl Taken.no) rfl rfl ?_
  refine WH.val (O.det (fun _ => G.R.or rfl rfl) rfl Taken.no) rfl rfl ?_
  refine WH.val (O.move rfl rfl Taken.no) rfl rfl ?_
  refine WH.val (O.idx_fz (i := 3) rfl rfl (rfl) (row_get (by omega)) Try.underlying22 hi5 hs5 rfl Taken.no) rfl rfl ?_
  refine WH.val (O.ld1 (PtI.ofU (PtU.fz rfl)) rfl Try.underlying5 rfl rfl Taken.no) rfl rfl ?_
  refine WH.val (O.det (fun _ => G.R.mv (G.R.conv rfl Try.underlying5 Try.underlying61) (congrArg _ (IntWalk.u32_in _ (u8r _)))) rfl Taken.no) rfl rfl ?_
  refine WH.val (O.det (fun _ => G.R.or rfl rfl) rfl Taken.no) rfl rfl ?_
  refine WH.val (O.assign rfl rfl Taken.no) rfl rfl ?_
  refine WH.nil ?_
  refine E.to ?_
  refine W.pick (.cons (t := 2) rfl .nil) .nil ?_
  refine W.ret ?_
  refine E.fin (rs := [_]) (rn []) (.inl rfl) rfl (.cons (ResOne.tmp rfl) .nil) ?_ ?_ rfl (fixL_spec rfl)
  · skip
    rfl
  · exact SubS.nil

/-- bookplate/wal.sum. -/
theorem sum_h (h : Int) {l : List UInt8} (hb : l.length ≤ 4294967295) :
    Con Try.prog 36 [vN .u32 h, vL 1 (l.map eB)] [] (vN .u32 (sumI h l)) [] := by
  refine Con.enterL (n := 13) Try.func36 rfl rfl rfl (fun τ w ok vs hin => ?_)
  have hl1 := hin.len (i := 1) rfl
  try rw [List.length_map] at hl1
  clear hin
  refine W.seq ?_
  refine W.region ?_
  refine SL.val (O.assign rfl rfl Taken.no) ?_
  refine SL.nil ?_
  refine E.to ?_
  refine W.seq ?_
  refine W.region ?_
  refine SL.val (O.move rfl rfl Taken.no) ?_
  refine SL.val (O.move rfl rfl Taken.no) ?_
  refine SL.val (O.lenE (SlOf.fz rfl (by decide)) (by first | exact List.length_map _ | rfl) Try.underlying22 rfl Taken.no) ?_
  refine SL.val (O.det (fun _ => by first | exact G.R.conv32 rfl Try.underlying3 Try.underlying61 (by omega) | exact G.R.conv rfl Try.underlying3 Try.underlying61) rfl Taken.no) ?_
  refine SL.val (O.callp rfl rfl rfl (Con.fz (four_h _) rfl rfl) (.cons (ArgOk.same rfl) .nil) hcallOk35 rfl Taken.no) ?_
  refine SL.val (O.callp rfl rfl rfl (more_h _ _) (.cons (ArgOk.same rfl) (.cons (ArgOk.same rfl) .nil)) hcallOk43 rfl Taken.no) ?_
  refine SL.val (O.move rfl rfl Taken.no) ?_
  refine SL.val (O.callp rfl rfl rfl (more_h _ _) (.cons (ArgOk.same rfl) (.cons (ArgOk.same rfl) .nil)) hcallOk43 rfl Taken.no) ?_
  refine SL.val (O.assign rfl rfl Taken.no) ?_
  refine SL.nil ?_
  refine E.to ?_
  refine W.ret ?_
  refine E.fin (rs := [_]) (rn []) (.inl rfl) rfl (.cons (ResOne.tmp rfl) .nil) ?_ ?_ rfl (fixL_spec rfl)
  · skip
    rfl
  · exact SubS.nil

/-- slices.Index[[]int,int]. -/
theorem index_h {l : List Int} (x : Int) :
    Con Try.prog 45 [vL 1 (l.map eI), vI x] [] (vI (if x ∈ l then (l.idxOf x : Nat) else -1)) [] := by
  obtain ⟨i3, hi3, hz3, hs3, hb3⟩ := hinf3
  refine Con.enterL (n := 19) Try.func45 rfl rfl rfl (fun τ w ok vs hin => ?_)
  have hl0 := hin.len (i := 0) rfl
  try rw [List.length_map] at hl0
  clear hin
  refine W.seq ?_
  refine W.region ?_
  refine SL.val (O.assign rfl rfl Taken.no) ?_
  refine SL.nil ?_
  refine E.to ?_
  refine W.seq ?_
  refine W.seq ?_
  refine W.region ?_
  refine SL.val (O.move rfl rfl Taken.no) ?_
  refine SL.val (O.lenE (SlOf.fz rfl (by decide)) (by first | exact List.length_map _ | rfl) Try.underlying60 rfl Taken.no) ?_
  refine SL.val (O.move rfl rfl Taken.no) ?_
  refine SL.nil ?_
  refine E.to ?_
  refine W.block ?_
  refine W.loopx1 (fun (k : Nat) => [(8, vI (k : Int))]) (fun (k : Nat) => []) (fun (k : Nat) => k ≤ l.length ∧ ∀ j, j < k → l[j]! ≠ x) (fun (k : Nat) => l.length - k) (0) (rn []) (.cons (t := 0) rfl (.cons (t := 1) rfl (.cons (t := 7) rfl .nil))) .nil rfl ?_ ?_ rfl rfl ?_ ?_
  · exact (SubF.cons rfl SubF.nil)
  · exact SubS.nil
  · skip
    exact ⟨by omega, fun j h => by omega⟩
  intro k hinv
  obtain ⟨hk, hp⟩ := hinv
  refine W.seq ?_
  refine W.region ?_
  refine SL.val (O.det (fun _ => G.R.lss rfl rfl) rfl Taken.no) ?_
  refine SL.nil ?_
  refine E.to ?_
  refine W.seq ?_
  first | refine W.cond_d rfl (fun hc1 => ?_) (fun hc1 => ?_) | refine W.cond_nd rfl (fun hc1 => ?_) (fun hc1 => ?_) | refine W.cond rfl (fun hc1 => ?_) (fun hc1 => ?_)
  · skip
    refine W.skip ?_
    refine E.to ?_
    refine W.seq ?_
    refine W.block ?_
    refine W.seq ?_
    refine W.region ?_
    refine SL.val (O.move rfl rfl Taken.no) ?_
    refine SL.val (O.assign rfl rfl Taken.no) ?_
    refine SL.nil ?_
    refine E.to ?_
    refine W.seq ?_
    refine W.region ?_
    refine SL.val (O.move rfl rfl Taken.no) ?_
    refine SL.val (O.move rfl rfl Taken.no) ?_
    refine SL.val (O.move rfl rfl Taken.no) ?_
    refine SL.val (O.idx_fz rfl rfl (rfl) (row_get (by omega)) Try.underlying60 hi3 hs3 rfl Taken.no) ?_
    refine SL.val (O.ld1 (PtI.ofU (PtU.fz rfl)) rfl Try.underlying3 rfl rfl Taken.no) ?_
    refine SL.val (O.det (fun _ => G.R.eql rfl rfl) rfl Taken.no) ?_
    refine SL.nil ?_
    refine E.to ?_
    first | refine W.cond_d rfl (fun hc2 => ?_) (fun hc2 => ?_) | refine W.cond_nd rfl (fun hc2 => ?_) (fun hc2 => ?_) | refine W.cond rfl (fun hc2 => ?_) (fun hc2 => ?_)
    · skip
      refine W.seq ?_
      refine W.region ?_
      refine SL.val (O.move rfl rfl Taken.no) ?_
      refine SL.val (O.assign rfl rfl Taken.no) ?_
      refine SL.nil ?_
      refine E.to ?_
      refine W.ret ?_
      refine E.inr ?_
      refine E.thr ?_
      refine E.thr ?_
      refine E.inr ?_
      refine E.thr ?_
      refine E.fin (rs := [_]) (rn []) (.inl rfl) rfl (.cons (ResOne.tmp rfl) .nil) ?_ ?_ rfl (fixL_spec rfl)
      · skip
        exact iv_int (idx_here (by omega) hp (by assumption))
      · exact SubS.nil
    · skip
      refine W.skip ?_
      refine E.inn ?_
      refine E.to ?_
      refine W.region ?_
      refine SL.val (O.det (fun _ => by first | exact G.R.add64 rfl rfl (by omega) | exact G.R.add rfl rfl) rfl Taken.no) ?_
      refine SL.val (O.move rfl rfl Taken.no) ?_
      refine SL.nil ?_
      refine E.again ((k + 1)) (rn []) ?_ ?_ rfl (fixL_spec rfl) ?_ ?_
      · exact (SubF.cons rfl (SubF.cons rfl (SubF.cons rfl (SubF.cons rfl SubF.nil))))
      · exact SubS.nil
      · try dsimp only
        exact ⟨by omega, fun j hj => by rcases Nat.lt_succ_iff_lt_or_eq.1 hj with h | h; exact hp j h; subst h; exact fun e => absurd e.symm (by assumption)⟩
      · (try dsimp only); omega
  · skip
    refine W.exit ?_
    refine E.th ?_
    refine E.th ?_
    refine E.hit ?_
    refine E.to ?_
    refine W.seq ?_
    refine W.region ?_
    refine SL.val (O.assign rfl rfl Taken.no) ?_
    refine SL.nil ?_
    refine E.to ?_
    refine W.ret ?_
    refine E.fin (rs := [_]) (rn []) (.inl rfl) rfl (.cons (ResOne.tmp rfl) .nil) ?_ ?_ rfl (fixL_spec rfl)
    · skip
      exact iv_int (if_neg (idx_none (by omega) hp))
    · exact SubS.nil

/-- slices.Contains[[]int,int]. -/
theorem contains_h {l : List Int} (x : Int) :
    Con Try.prog 41 [vL 1 (l.map eI), vI x] [] (vB (decide (x ∈ l))) [] := by
  refine Con.enterL (n := 9) Try.func41 rfl rfl rfl (fun τ w ok vs hin => ?_)
  have hl0 := hin.len (i := 0) rfl
  try rw [List.length_map] at hl0
  clear hin
  refine W.seq ?_
  refine W.region ?_
  refine SL.val (O.assign rfl rfl Taken.no) ?_
  refine SL.nil ?_
  refine E.to ?_
  refine W.seq ?_
  refine W.region ?_
  refine SL.val (O.move rfl rfl Taken.no) ?_
  refine SL.val (O.move rfl rfl Taken.no) ?_
  refine SL.val (O.callp rfl rfl rfl (index_h _) (.cons (ArgOk.same rfl) (.cons (ArgOk.same rfl) .nil)) hcallOk45 rfl Taken.no) ?_
  refine SL.val (O.det (fun _ => G.R.geq rfl rfl) rfl Taken.no) ?_
  refine SL.val (O.assign rfl rfl Taken.no) ?_
  refine SL.nil ?_
  refine E.to ?_
  refine W.ret ?_
  refine E.fin (rs := [_]) (rn []) (.inl rfl) rfl (.cons (ResOne.tmp rfl) .nil) ?_ ?_ rfl (fixL_spec rfl)
  · skip
    exact iv_bool (by by_cases h : x ∈ l <;> simp [h] <;> omega)
  · exact SubS.nil

/-- bookplate/bookplateref20.end. -/
theorem end_h {l : List Int} :
    Con Try.prog 32 [vL 1 (l.map eI)] [] (vI (endI l)) [] := by
  obtain ⟨i3, hi3, hz3, hs3, hb3⟩ := hinf3
  refine Con.enterL (n := 12) Try.func32 rfl rfl rfl (fun τ w ok vs hin => ?_)
  have hl0 := hin.len (i := 0) rfl
  try rw [List.length_map] at hl0
  clear hin
  refine W.seq ?_
  refine W.region ?_
  refine SL.val (O.assign rfl rfl Taken.no) ?_
  refine SL.nil ?_
  refine E.to ?_
  refine W.seq ?_
  refine W.seq ?_
  refine W.region ?_
  refine SL.val (O.move rfl rfl Taken.no) ?_
  refine SL.val (O.lenE (SlOf.fz rfl (by decide)) (by first | exact List.length_map _ | rfl) Try.underlying60 rfl Taken.no) ?_
  refine SL.val (O.det (fun _ => G.R.eql rfl rfl) rfl Taken.no) ?_
  refine SL.nil ?_
  refine E.to ?_
  first | refine W.cond_d rfl (fun hc1 => ?_) (fun hc1 => ?_) | refine W.cond_nd rfl (fun hc1 => ?_) (fun hc1 => ?_) | refine W.cond rfl (fun hc1 => ?_) (fun hc1 => ?_)
  · skip
    refine W.seq ?_
    refine W.region ?_
    refine SL.val (O.assign rfl rfl Taken.no) ?_
    refine SL.nil ?_
    refine E.to ?_
    refine W.ret ?_
    refine E.thr ?_
    refine E.fin (rs := [_]) (rn []) (.inl rfl) rfl (.cons (ResOne.tmp rfl) .nil) ?_ ?_ rfl (fixL_spec rfl)
    · skip
      exact iv_int (by rw [endI, if_pos (by omega)])
    · exact SubS.nil
  · skip
    refine W.skip ?_
    refine E.to ?_
    refine W.seq ?_
    refine W.region ?_
    refine SL.val (O.move rfl rfl Taken.no) ?_
    refine SL.val (O.move rfl rfl Taken.no) ?_
    refine SL.val (O.lenE (SlOf.fz rfl (by decide)) (by first | exact List.length_map _ | rfl) Try.underlying60 rfl Taken.no) ?_
    refine SL.val (O.det (fun _ => by first | exact G.R.sub64 rfl rfl (by omega) | exact G.R.sub rfl rfl) rfl Taken.no) ?_
    refine SL.val (O.idx_fz (i := (l.length - 1)) rfl rfl (by omega) (row_get (by omega)) Try.underlying60 hi3 hs3 rfl Taken.no) ?_
    refine SL.val (O.ld1 (PtI.ofU (PtU.fz rfl)) rfl Try.underlying3 rfl rfl Taken.no) ?_
    refine SL.val (O.assign rfl rfl Taken.no) ?_
    refine SL.nil ?_
    refine E.to ?_
    refine W.ret ?_
    refine E.fin (rs := [_]) (rn []) (.inl rfl) rfl (.cons (ResOne.tmp rfl) .nil) ?_ ?_ rfl (fixL_spec rfl)
    · skip
      exact iv_int (by rw [endI, if_neg (by omega)])
    · exact SubS.nil

/-- (bookplate/wal.part).length. -/
theorem length_h {ps : List (List UInt8)} {l : List Int} (h : Int) :
    Con Try.prog 29 [vA [.sl 1 (ps.map eL), .sl 1 (l.map eI), uN .u32 h]] [] (vI (endI l)) [] := by
  obtain ⟨i3, hi3, hz3, hs3, hb3⟩ := hinf3
  refine Con.enterL (n := 15) Try.func29 rfl rfl rfl (fun τ w ok vs hin => ?_)
  have hl0_0 := hin.lenA (i := 0) (j := 0) rfl rfl
  try rw [List.length_map] at hl0_0
  have hl0_1 := hin.lenA (i := 0) (j := 1) rfl rfl
  try rw [List.length_map] at hl0_1
  clear hin
  refine W.seq ?_
  refine W.region ?_
  refine SL.memS (O.box (is := [_, _, _]) 101 rfl rfl (by simp) rfl rfl Taken.no) rfl rfl (S' := (101, _) :: _) rfl ?_
  refine SL.val (O.assign rfl rfl Taken.no) ?_
  refine SL.nil ?_
  refine E.to ?_
  refine W.seq ?_
  refine W.seq ?_
  refine W.region ?_
  refine SL.val (O.fld_ref (o' := 1) rfl Try.underlying63 rfl (m := 0) (by kernel_rfl) rfl rfl Taken.no) ?_
  refine SL.val (O.ld1 (PtI.ref rfl rfl) rfl Try.underlying60 rfl rfl Taken.no) ?_
  refine SL.val (O.lenE (SlOf.fz rfl (by decide)) (by first | exact List.length_map _ | rfl) Try.underlying60 rfl Taken.no) ?_
  refine SL.val (O.det (fun _ => G.R.eql rfl rfl) rfl Taken.no) ?_
  refine SL.nil ?_
  refine E.to ?_
  first | refine W.cond_d rfl (fun hc1 => ?_) (fun hc1 => ?_) | refine W.cond_nd rfl (fun hc1 => ?_) (fun hc1 => ?_) | refine W.cond rfl (fun hc1 => ?_) (fun hc1 => ?_)
  · skip
    refine W.seq ?_
    refine W.region ?_
    refine SL.val (O.assign rfl rfl Taken.no) ?_
    refine SL.nil ?_
    refine E.to ?_
    refine W.ret ?_
    refine E.thr ?_
    refine E.fin (rs := [_]) (rn []) (.inl rfl) rfl (.cons (ResOne.tmp rfl) .nil) ?_ ?_ rfl (fixL_spec rfl)
    · skip
      exact iv_int (by rw [endI, if_pos (by omega)])
    · exact SubS.nil
  · skip
    refine W.skip ?_
    refine E.to ?_
    refine W.seq ?_
    refine W.region ?_
    refine SL.val (O.fld_ref (o' := 1) rfl Try.underlying63 rfl (m := 0) (by kernel_rfl) rfl rfl Taken.no) ?_
    refine SL.val (O.ld1 (PtI.ref rfl rfl) rfl Try.underlying60 rfl rfl Taken.no) ?_
    refine SL.val (O.fld_ref (o' := 1) rfl Try.underlying63 rfl (m := 0) (by kernel_rfl) rfl rfl Taken.no) ?_
    refine SL.val (O.ld1 (PtI.ref rfl rfl) rfl Try.underlying60 rfl rfl Taken.no) ?_
    refine SL.val (O.lenE (SlOf.fz rfl (by decide)) (by first | exact List.length_map _ | rfl) Try.underlying60 rfl Taken.no) ?_
    refine SL.val (O.det (fun _ => by first | exact G.R.sub64 rfl rfl (by omega) | exact G.R.sub rfl rfl) rfl Taken.no) ?_
    refine SL.val (O.idx_fz (i := (l.length - 1)) rfl rfl (by omega) (row_get (by omega)) Try.underlying60 hi3 hs3 rfl Taken.no) ?_
    refine SL.val (O.ld1 (PtI.ofU (PtU.fz rfl)) rfl Try.underlying3 rfl rfl Taken.no) ?_
    refine SL.val (O.assign rfl rfl Taken.no) ?_
    refine SL.nil ?_
    refine E.to ?_
    refine W.ret ?_
    refine E.fin (rs := [_]) (rn []) (.inl rfl) rfl (.cons (ResOne.tmp rfl) .nil) ?_ ?_ rfl (fixL_spec rfl)
    · skip
      exact iv_int (by rw [endI, if_neg (by omega)])
    · exact SubS.nil

/-- bytes.Equal. -/
theorem bequal_h {l1 l2 : List UInt8} :
    Con Try.prog 18 [vL 1 (l1.map eB), vL 1 (l2.map eB)] [] (vB (decide (l1 = l2))) [] := by
  refine Con.enterL (n := 10) Try.func18 rfl rfl rfl (fun τ w ok vs hin => ?_)
  have hl0 := hin.len (i := 0) rfl
  try rw [List.length_map] at hl0
  have hl1 := hin.len (i := 1) rfl
  try rw [List.length_map] at hl1
  clear hin
  refine W.seq ?_
  refine W.region ?_
  refine SL.val (O.assign rfl rfl Taken.no) ?_
  refine SL.nil ?_
  refine E.to ?_
  refine W.seq ?_
  refine W.region ?_
  refine SL.val (O.move rfl rfl Taken.no) ?_
  refine SL.val (O.b2s (SlOf.fz rfl (by decide)) Try.underlying22 Try.underlying5 Try.underlying9 rfl Taken.no) ?_
  refine SL.val (O.move rfl rfl Taken.no) ?_
  refine SL.val (O.b2s (SlOf.fz rfl (by decide)) Try.underlying22 Try.underlying5 Try.underlying9 rfl Taken.no) ?_
  refine SL.val (O.det (fun _ => G.R.streq rfl rfl) rfl Taken.no) ?_
  refine SL.val (O.assign rfl rfl Taken.no) ?_
  refine SL.nil ?_
  refine E.to ?_
  refine W.ret ?_
  refine E.fin (rs := [_]) (rn []) (.inl rfl) rfl (.cons (ResOne.tmp rfl) .nil) ?_ ?_ rfl (fixL_spec rfl)
  · skip
    exact iv_bool (by simp [bytes_toList])
  · exact SubS.nil

/-- bookplate/bookplateref20.Same. -/
theorem same_h {ls1 ls2 : List (List UInt8)} :
    Con Try.prog 14 [vL 1 (ls1.map eL), vL 1 (ls2.map eL)] [] (vB (decide (ls1 = ls2))) [] := by
  obtain ⟨i22, hi22, hz22, hs22, hb22⟩ := hinf22
  refine Con.enterL (n := 28) Try.func14 rfl rfl rfl (fun τ w ok vs hin => ?_)
  have hl0 := hin.len (i := 0) rfl
  try rw [List.length_map] at hl0
  have hl1 := hin.len (i := 1) rfl
  try rw [List.length_map] at hl1
  clear hin
  refine W.seq ?_
  refine W.region ?_
  refine SL.val (O.assign rfl rfl Taken.no) ?_
  refine SL.nil ?_
  refine E.to ?_
  refine W.seq ?_
  refine W.seq ?_
  refine W.region ?_
  refine SL.val (O.move rfl rfl Taken.no) ?_
  refine SL.val (O.lenE (SlOf.fz rfl (by decide)) (by first | exact List.length_map _ | rfl) Try.underlying26 rfl Taken.no) ?_
  refine SL.val (O.move rfl rfl Taken.no) ?_
  refine SL.val (O.lenE (SlOf.fz rfl (by decide)) (by first | exact List.length_map _ | rfl) Try.underlying26 rfl Taken.no) ?_
  refine SL.val (O.det (fun _ => G.R.neq rfl rfl) rfl Taken.no) ?_
  refine SL.nil ?_
  refine E.to ?_
  first | refine W.cond_d rfl (fun hc1 => ?_) (fun hc1 => ?_) | refine W.cond_nd rfl (fun hc1 => ?_) (fun hc1 => ?_) | refine W.cond rfl (fun hc1 => ?_) (fun hc1 => ?_)
  · skip
    refine W.seq ?_
    refine W.region ?_
    refine SL.val (O.assign rfl rfl Taken.no) ?_
    refine SL.nil ?_
    refine E.to ?_
    refine W.ret ?_
    refine E.thr ?_
    refine E.fin (rs := [_]) (rn []) (.inl rfl) rfl (.cons (ResOne.tmp rfl) .nil) ?_ ?_ rfl (fixL_spec rfl)
    · skip
      exact iv_bool (by rw [eq_comm, decide_eq_false]; intro e; subst e; exfalso; omega)
    · exact SubS.nil
  · skip
    refine W.skip ?_
    refine E.to ?_
    refine W.seq ?_
    refine W.seq ?_
    refine W.region ?_
    refine SL.val (O.assign rfl rfl Taken.no) ?_
    refine SL.nil ?_
    refine E.to ?_
    refine W.block ?_
    refine W.loopx1 (fun (k : Nat) => [(5, vI (k : Int))]) (fun (k : Nat) => []) (fun (k : Nat) => k ≤ ls1.length ∧ ls1.take k = ls2.take k) (fun (k : Nat) => ls1.length - k) (0) (rn []) (.cons (t := 0) rfl (.cons (t := 1) rfl .nil)) .nil rfl ?_ ?_ rfl rfl ?_ ?_
    · exact (SubF.cons rfl SubF.nil)
    · exact SubS.nil
    · skip
      exact ⟨by omega, rfl⟩
    intro k hinv
    obtain ⟨hk, hp⟩ := hinv
    refine W.seq ?_
    refine W.seq ?_
    refine W.region ?_
    refine SL.val (O.move rfl rfl Taken.no) ?_
    refine SL.val (O.move rfl rfl Taken.no) ?_
    refine SL.val (O.lenE (SlOf.fz rfl (by decide)) (by first | exact List.length_map _ | rfl) Try.underlying26 rfl Taken.no) ?_
    refine SL.val (O.det (fun _ => G.R.lss rfl rfl) rfl Taken.no) ?_
    refine SL.nil ?_
    refine E.to ?_
    first | refine W.cond_d rfl (fun hc2 => ?_) (fun hc2 => ?_) | refine W.cond_nd rfl (fun hc2 => ?_) (fun hc2 => ?_) | refine W.cond rfl (fun hc2 => ?_) (fun hc2 => ?_)
    · skip
      refine W.skip ?_
      refine E.to ?_
      refine W.seq ?_
      refine W.block ?_
      refine W.seq ?_
      refine W.draw [⟨[], [], []⟩, ⟨[], [], []⟩, ⟨[], [], []⟩, ⟨[], [], []⟩, ⟨[], [], []⟩, ⟨[], [], []⟩, ⟨[], [], []⟩, ⟨[], [], []⟩, ⟨[], [], []⟩, ⟨[], [], []⟩, ⟨[], [], []⟩] rfl (by kernel_rfl) (by kernel_rfl) rfl rfl ?_
      refine WH.val (O.move rfl rfl Taken.no) rfl rfl ?_
      refine WH.val (O.move rfl rfl Taken.no) rfl rfl ?_
      refine WH.val (O.idx_fz rfl rfl (rfl) (row_get (by omega)) Try.underlying26 hi22 hs22 rfl Taken.no) rfl rfl ?_
      refine WH.val (O.ld1 (PtI.ofU (PtU.fz rfl)) rfl Try.underlying22 rfl rfl Taken.no) rfl rfl ?_
      refine WH.val (O.b2s (SlOf.fz rfl (by decide)) Try.underlying22 Try.underlying5 Try.underlying9 rfl Taken.no) rfl rfl ?_
      refine WH.val (O.move rfl rfl Taken.no) rfl rfl ?_
      refine WH.val (O.move rfl rfl Taken.no) rfl rfl ?_
      refine WH.val (O.idx_fz rfl rfl (rfl) (row_get (by omega)) Try.underlying26 hi22 hs22 rfl Taken.no) rfl rfl ?_
      refine WH.val (O.ld1 (PtI.ofU (PtU.fz rfl)) rfl Try.underlying22 rfl rfl Taken.no) rfl rfl ?_
      refine WH.val (O.b2s (SlOf.fz rfl (by decide)) Try.underlying22 Try.underlying5 Try.underlying9 rfl Taken.no) rfl rfl ?_
      refine WH.val (O.det (fun _ => G.R.strne rfl rfl) rfl Taken.no) rfl rfl ?_
      refine WH.nil ?_
      refine E.to ?_
      first | refine W.cond_d rfl (fun hc3 => ?_) (fun hc3 => ?_) | refine W.cond_nd rfl (fun hc3 => ?_) (fun hc3 => ?_) | refine W.cond rfl (fun hc3 => ?_) (fun hc3 => ?_)
      · skip
        refine W.seq ?_
        refine W.region ?_
        refine SL.val (O.assign rfl rfl Taken.no) ?_
        refine SL.nil ?_
        refine E.to ?_
        refine W.ret ?_
        refine E.inr ?_
        refine E.thr ?_
        refine E.thr ?_
        refine E.inr ?_
        refine E.thr ?_
        refine E.fin (rs := [_]) (rn []) (.inl rfl) rfl (.cons (ResOne.tmp rfl) .nil) ?_ ?_ rfl (fixL_spec rfl)
        · skip
          exact iv_bool (by rw [decide_eq_false]; intro e; subst e; simp at hc3)
        · exact SubS.nil
      · skip
        refine W.skip ?_
        refine E.inn ?_
        refine E.to ?_
        refine W.region ?_
        refine SL.val (O.move rfl rfl Taken.no) ?_
        refine SL.val (O.det (fun _ => by first | exact G.R.add64 rfl rfl (by omega) | exact G.R.add rfl rfl) rfl Taken.no) ?_
        refine SL.val (O.assign rfl rfl Taken.no) ?_
        refine SL.nil ?_
        refine E.again ((k + 1)) (rn []) ?_ ?_ rfl (fixL_spec rfl) ?_ ?_
        · exact (SubF.cons rfl (SubF.cons rfl (SubF.cons rfl SubF.nil)))
        · exact SubS.nil
        · try dsimp only
          exact ⟨by omega, take_eq (by omega) (by omega) hp (by simpa [bytes_toList] using hc3)⟩
        · (try dsimp only); omega
    · skip
      refine W.exit ?_
      refine E.th ?_
      refine E.th ?_
      refine E.hit ?_
      refine E.to ?_
      refine W.seq ?_
      refine W.region ?_
      refine SL.val (O.assign rfl rfl Taken.no) ?_
      refine SL.nil ?_
      refine E.to ?_
      refine W.ret ?_
      refine E.fin (rs := [_]) (rn []) (.inl rfl) rfl (.cons (ResOne.tmp rfl) .nil) ?_ ?_ rfl (fixL_spec rfl)
      · skip
        exact iv_bool (by rw [decide_eq_true]; rw [List.take_of_length_le (by omega), List.take_of_length_le (by omega)] at hp; exact hp)
      · exact SubS.nil

/-- bookplate/bookplateref20.SameLog. -/
theorem samelog_h {l1 l2 : List UInt8} (n1 n2 : Int) :
    Con Try.prog 13 [vA [.sl 1 (l1.map eB), uI n1], vA [.sl 1 (l2.map eB), uI n2]] [] (vB (decide (l1 = l2 ∧ n1 = n2))) [] := by
  refine Con.enterL (n := 19) Try.func13 rfl rfl rfl (fun τ w ok vs hin => ?_)
  have hl0_0 := hin.lenA (i := 0) (j := 0) rfl rfl
  try rw [List.length_map] at hl0_0
  have hl1_0 := hin.lenA (i := 1) (j := 0) rfl rfl
  try rw [List.length_map] at hl1_0
  clear hin
  refine W.seq ?_
  refine W.region ?_
  refine SL.memS (O.box (is := [_, _]) 101 rfl rfl (by simp) rfl rfl Taken.no) rfl rfl (S' := (101, _) :: _) rfl ?_
  refine SL.memS (O.box (is := [_, _]) 102 rfl rfl (by simp) rfl rfl Taken.no) rfl rfl (S' := (102, _) :: _) rfl ?_
  refine SL.val (O.assign rfl rfl Taken.no) ?_
  refine SL.nil ?_
  refine E.to ?_
  refine W.seq ?_
  refine W.region ?_
  refine SL.val (O.fld_ref (o' := 0) rfl Try.underlying29 rfl (m := 0) (by kernel_rfl) rfl rfl Taken.no) ?_
  refine SL.val (O.ld1 (PtI.ref rfl rfl) rfl Try.underlying22 rfl rfl Taken.no) ?_
  refine SL.val (O.b2s (SlOf.fz rfl (by decide)) Try.underlying22 Try.underlying5 Try.underlying9 rfl Taken.no) ?_
  refine SL.val (O.fld_ref (o' := 0) rfl Try.underlying29 rfl (m := 0) (by kernel_rfl) rfl rfl Taken.no) ?_
  refine SL.val (O.ld1 (PtI.ref rfl rfl) rfl Try.underlying22 rfl rfl Taken.no) ?_
  refine SL.val (O.b2s (SlOf.fz rfl (by decide)) Try.underlying22 Try.underlying5 Try.underlying9 rfl Taken.no) ?_
  refine SL.val (O.det (fun _ => G.R.streq rfl rfl) rfl Taken.no) ?_
  refine SL.val (O.move rfl rfl Taken.no) ?_
  refine SL.case (j := 7) (g := 12) (want := true) rfl rfl (fun hg1 => ?_) (fun hg1 => ?_)
  · skip
    first | have hg1p := G.gA1 hg1 | have hg1p := G.gA2 hg1 | have hg1p := hg1
    refine SL.val (O.fld_ref (o' := 1) rfl Try.underlying29 rfl (m := 0) (by kernel_rfl) rfl rfl (Taken.yes rfl rfl hg1)) ?_
    refine SL.val (O.ld1 (PtI.ref rfl rfl) rfl Try.underlying3 rfl rfl (Taken.yes rfl rfl hg1)) ?_
    refine SL.val (O.fld_ref (o' := 1) rfl Try.underlying29 rfl (m := 0) (by kernel_rfl) rfl rfl (Taken.yes rfl rfl hg1)) ?_
    refine SL.val (O.ld1 (PtI.ref rfl rfl) rfl Try.underlying3 rfl rfl (Taken.yes rfl rfl hg1)) ?_
    refine SL.val (O.det (fun _ => G.R.eql rfl rfl) rfl (Taken.yes rfl rfl hg1)) ?_
    refine SL.val (O.pick_t rfl hg1 rfl rfl Taken.no) ?_
    refine SL.val (O.assign rfl rfl Taken.no) ?_
    refine SL.nil ?_
    refine E.to ?_
    refine W.ret ?_
    refine E.fin (rs := [_]) (rn []) (.inl rfl) rfl (.cons (ResOne.tmp rfl) .nil) ?_ ?_ rfl (fixL_spec rfl)
    · skip
      first | exact iv_bool (by rw [bytes_toList, bytes_toList] at hg1p; simp [hg1p]) | exact iv_bool (by rw [bytes_toList, bytes_toList] at hg1; simp_all)
    · exact SubS.nil
  · skip
    first | have hg1p := G.gA5 hg1 | have hg1p := G.gA6 hg1 | have hg1p := hg1
    refine SL.skip (OpOk.not rfl rfl rfl hg1) ?_
    refine SL.skip (OpOk.not rfl rfl rfl hg1) ?_
    refine SL.skip (OpOk.not rfl rfl rfl hg1) ?_
    refine SL.skip (OpOk.not rfl rfl rfl hg1) ?_
    refine SL.skip (OpOk.not rfl rfl rfl hg1) ?_
    refine SL.val (O.pick_f rfl (G.ne_t hg1) rfl rfl Taken.no) ?_
    refine SL.val (O.assign rfl rfl Taken.no) ?_
    refine SL.nil ?_
    refine E.to ?_
    refine W.ret ?_
    refine E.fin (rs := [_]) (rn []) (.inl rfl) rfl (.cons (ResOne.tmp rfl) .nil) ?_ ?_ rfl (fixL_spec rfl)
    · skip
      first | exact iv_bool (by rw [bytes_toList, bytes_toList] at hg1p; simp [hg1p]) | exact iv_bool (by rw [bytes_toList, bytes_toList] at hg1; simp_all)
    · exact SubS.nil

/-- slices.Clone[[]byte,byte]. -/
theorem clone_h {l : List UInt8} (hb : l.length ≤ 1000000000) :
    Con Try.prog 30 [vL 1 (l.map eB)] [] (.own 0) [(0, .data 5 1 (l.map eB))] := by
  obtain ⟨i5, hi5, hz5, hs5, hb5⟩ := hinf5
  refine Con.enterL (n := 8) Try.func30 rfl rfl rfl (fun τ w ok vs hin => ?_)
  have hl0 := hin.len (i := 0) rfl
  try rw [List.length_map] at hl0
  clear hin
  refine W.seq ?_
  refine W.region ?_
  refine SL.val (O.assign rfl rfl Taken.no) ?_
  refine SL.nil ?_
  refine E.to ?_
  refine W.seq ?_
  refine W.seq ?_
  refine W.region ?_
  refine SL.val (O.move rfl rfl Taken.no) ?_
  refine SL.isnil (SlOf.fz rfl (by decide)) Try.underlying22 rfl Taken.no (fun bn1 hbn1 => ?_)
  refine SL.nil ?_
  refine E.to ?_
  first | refine W.cond_d rfl (fun hc2 => ?_) (fun hc2 => ?_) | refine W.cond_nd rfl (fun hc2 => ?_) (fun hc2 => ?_) | refine W.cond rfl (fun hc2 => ?_) (fun hc2 => ?_)
  · skip
    refine W.seq ?_
    refine W.region ?_
    refine SL.val (O.assign rfl rfl Taken.no) ?_
    refine SL.nil ?_
    refine E.to ?_
    refine W.ret ?_
    refine E.thr ?_
    refine E.adopt 2 101 5 1 (by decide) rfl rfl rfl ?_
    refine E.fin (rs := [_]) (rn [(0, 101)]) (.inl rfl) rfl (.cons (ResOne.tmp rfl) .nil) ?_ ?_ rfl (fixL_spec rfl)
    · skip
      rfl
    · exact (SubS.val rfl (by rw [List.length_map] at hbn1; rw [List.eq_nil_of_length_eq_zero (hbn1 (by assumption))]; rfl) SubS.nil)
  · skip
    refine W.skip ?_
    refine E.to ?_
    refine W.seq ?_
    refine W.region ?_
    refine SL.memS (O.buildSlice 102 rfl rfl Try.underlying22 hi5 hz5 hs5 (by decide) rfl (by decide) rfl rfl rfl Taken.no) rfl rfl (S' := (102, _) :: _) rfl ?_
    refine SL.val (O.move rfl rfl Taken.no) ?_
    refine SL.memS (O.app (k' := 103) rfl rfl (SlOf.fz rfl (by decide)) Try.underlying22 hi5 hz5 hs5 rfl rfl (by first | exact map_snoc rfl | exact app_map | exact List.nil_append _ | rfl) (by rw [hb5]; first | omega | (simp only [List.length_map]; omega) | (simp <;> omega)) (by first | omega | (simp only [List.length_map]; omega) | (simp <;> omega)) rfl Taken.no) rfl rfl (S' := (103, _) :: (102, .dead) :: _) rfl ?_
    refine SL.val (O.assign rfl rfl Taken.no) ?_
    refine SL.nil ?_
    refine E.to ?_
    refine W.ret ?_
    refine E.fin (rs := [_]) (rn [(0, 103)]) (.inl rfl) rfl (.cons (ResOne.tmp rfl) .nil) ?_ ?_ rfl (fixL_spec rfl)
    · skip
      rfl
    · exact (SubS.val rfl (by rfl) SubS.nil)

end Go.Proofs.Ytnmngpmdphkcpaa
