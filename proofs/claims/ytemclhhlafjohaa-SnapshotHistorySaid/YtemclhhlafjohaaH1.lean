/-
  The walks.
-/
import Derived.Test.YtemclhhlafjohaaHSub
import Derived.Test.YtemclhhlafjohaaHMax
import Derived.Test.YtemclhhlafjohaaHArr
import Derived.Test.YtemclhhlafjohaaW1
import Derived.Test.YtemclhhlafjohaaRows
import Derived.Test.YtemclhhlafjohaaM20
namespace Go.Proofs.Ytemclhhlafjohaa
open Go Go.RowKit Go.H Go.D20 Go.D02

theorem hinf3 : ∃ i, Try.prog.info? 3 = some i ∧ i.zero = some (.int .i64 0) ∧ i.size = 1 ∧ i.bytes = 8 := G.info_of (by kernel_rfl)
theorem hinf5 : ∃ i, Try.prog.info? 5 = some i ∧ i.zero = some (.int .u8 0) ∧ i.size = 1 ∧ i.bytes = 1 := G.info_of (by kernel_rfl)
theorem hinf22 : ∃ i, Try.prog.info? 22 = some i ∧ i.zero = some (.slice none 0 0) ∧ i.size = 1 ∧ i.bytes = 24 := G.info_of (by kernel_rfl)
theorem hcallOk62 : G.callOk Try.prog 62 = true := by kernel_rfl
theorem hcallOk64 : G.callOk Try.prog 64 = true := by kernel_rfl
theorem hcallOk74 : G.callOk Try.prog 74 = true := by kernel_rfl

theorem more_h (h : Int) (l : List UInt8) : Con Try.prog 64 [vN .u32 h, vL 1 (l.map eB)] [] (vN .u32 (moreI h l)) [] :=
  Con.ofG fun τ w ok vs hA => by
    obtain ⟨u, v, rfl, h1, h2⟩ := allI_2 hA
    obtain ⟨lo, hi, h3⟩ := rep_u8 h2
    rw [rep_sc h1]
    exact more_spec h w h3
theorem refmore_h (h : Int) (l : List UInt8) : Con Try.prog 67 [vN .u32 h, vL 1 (l.map eB)] [] (vN .u32 (refMoreI h l)) [] :=
  Con.ofG fun τ w ok vs hA => by
    obtain ⟨u, v, rfl, h1, h2⟩ := allI_2 hA
    obtain ⟨lo, hi, h3⟩ := rep_u8 h2
    rw [rep_sc h1]
    exact refmore_spec h w h3
theorem rows_four (h : Int) : List.map IV.us [vN .u8 (IntKind.u8.wrap (h / 16777216)), vN .u8 (IntKind.u8.wrap (h / 65536)), vN .u8 (IntKind.u8.wrap (h / 256)), vN .u8 (IntKind.u8.wrap h)] = (fourL h).map eB := by
  simp [fourL, eB, IV.us, IV.cells, IV.toU, Value.cells, u8_wrap]; omega

set_option maxRecDepth 8000 in
/-- bookplate/wal.four. -/
theorem four_h (h : Int) :
    Con Try.prog 62 [vN .u32 h] [] (.own 0) [(0, .data 5 1 ((fourL h).map eB))] := by
 obtain ⟨i5, hi5, hz5, hs5, hb5⟩ := hinf5
 refine Con.enterL (n := 15) Try.func62 rfl rfl rfl (fun τ w ok vs hin => ?_)
 clear hin
 refine W.seq ?_
 refine W.region ?_
 refine SL.val (O.assign rfl rfl Taken.no) ?_
 refine SL.nil ?_
 refine E.to ?_
 refine W.seq ?_
 refine W.region ?_
 refine SL.val (O.move rfl rfl Taken.no) ?_
 refine SL.val (O.det (fun _ => G.R.shr_c (q := 16777216) rfl rfl (by decide) (by decide)) rfl Taken.no) ?_
 refine SL.val (O.det (fun _ => G.R.conv rfl Try.underlying90 Try.underlying5) rfl Taken.no) ?_
 refine SL.val (O.move rfl rfl Taken.no) ?_
 refine SL.val (O.det (fun _ => G.R.shr_c (q := 65536) rfl rfl (by decide) (by decide)) rfl Taken.no) ?_
 refine SL.val (O.det (fun _ => G.R.conv rfl Try.underlying90 Try.underlying5) rfl Taken.no) ?_
 refine SL.val (O.move rfl rfl Taken.no) ?_
 refine SL.val (O.det (fun _ => G.R.shr_c (q := 256) rfl rfl (by decide) (by decide)) rfl Taken.no) ?_
 refine SL.val (O.det (fun _ => G.R.conv rfl Try.underlying90 Try.underlying5) rfl Taken.no) ?_
 refine SL.val (O.move rfl rfl Taken.no) ?_
 refine SL.val (O.det (fun _ => G.R.conv rfl Try.underlying90 Try.underlying5) rfl Taken.no) ?_
 refine SL.memS (O.buildSlice 101 rfl rfl Try.underlying22 hi5 hz5 hs5 (by decide) rfl (by decide) rfl rfl rfl Taken.no) rfl rfl (S' := (101, _) :: _) rfl ?_
 refine SL.val (O.assign rfl rfl Taken.no) ?_
 refine SL.nil ?_
 refine E.to ?_
 refine W.ret ?_
 refine E.fin (rs := [_]) (rn [(0, 101)]) (.inl rfl) rfl (.cons (ResOne.tmp rfl) .nil) ?_ ?_ rfl (fixL_spec rfl)
 ·skip
  rfl
 · exact (SubS.val rfl (by exact sb_data (rows_four h)) SubS.nil)

set_option maxRecDepth 8000 in
/-- bookplate/wal.number. -/
theorem number_h {l : List UInt8} (hb : 4 ≤ l.length) :
    Con Try.prog 68 [vL 1 (l.map eB)] [] (vN .u32 (numI l)) [] := by
 obtain ⟨i5, hi5, hz5, hs5, hb5⟩ := hinf5
 refine Con.enterL (n := 25) Try.func68 rfl rfl rfl (fun τ w ok vs hin => ?_)
 have hl0 := hin.len (i := 0) rfl
 try rw [List.length_map] at hl0
 clear hin
 refine W.seq ?_
 refine W.region ?_
 refine SL.val (O.assign rfl rfl Taken.no) ?_
 refine SL.nil ?_
 refine E.to ?_
 refine W.seq ?_
 refine W.draw [⟨[], [], [], []⟩, ⟨[], [], [], []⟩, ⟨[], [], [], []⟩, ⟨[], [], [], []⟩, ⟨[], [], [], []⟩, ⟨[], [], [], []⟩, ⟨[], [], [], []⟩, ⟨[], [], [], []⟩, ⟨[], [], [], []⟩, ⟨[], [], [], []⟩, ⟨[], [], [], []⟩, ⟨[], [], [], []⟩, ⟨[], [], [], []⟩, ⟨[], [], [], []⟩, ⟨[], [], [], []⟩, ⟨[], [], [], []⟩, ⟨[], [], [], []⟩, ⟨[], [], [], []⟩, ⟨[], [], [], []⟩, ⟨[], [], [], []⟩, ⟨[], [], [], []⟩, ⟨[], [], [], []⟩, ⟨[], [], [], []⟩] rfl (by kernel_rfl) (by kernel_rfl) rfl rfl ?_
 refine WH.val (O.move rfl rfl Taken.no) rfl rfl ?_
 refine WH.val (O.idx_fz (i := 0) rfl rfl (rfl) (row_get (by omega)) Try.underlying22 hi5 hs5 rfl Taken.no) rfl rfl ?_
 refine WH.val (O.ld1 (PtI.ofU (PtU.fz rfl)) rfl Try.underlying5 rfl rfl Taken.no) rfl rfl ?_
 refine WH.val (O.det (fun _ => G.R.mv (G.R.conv rfl Try.underlying5 Try.underlying90) (congrArg _ (IntWalk.u32_in _ (u8r _)))) rfl Taken.no) rfl rfl ?_
 refine WH.val (O.det (fun _ => G.R.shl_c (q := 16777216) rfl rfl (by decide) (by decide)) rfl Taken.no) rfl rfl ?_
 refine WH.val (O.move rfl rfl Taken.no) rfl rfl ?_
 refine WH.val (O.idx_fz (i := 1) rfl rfl (rfl) (row_get (by omega)) Try.underlying22 hi5 hs5 rfl Taken.no) rfl rfl ?_
 refine WH.val (O.ld1 (PtI.ofU (PtU.fz rfl)) rfl Try.underlying5 rfl rfl Taken.no) rfl rfl ?_
 refine WH.val (O.det (fun _ => G.R.mv (G.R.conv rfl Try.underlying5 Try.underlying90) (congrArg _ (IntWalk.u32_in _ (u8r _)))) rfl Taken.no) rfl rfl ?_
 refine WH.val (O.det (fun _ => G.R.shl_c (q := 65536) rfl rfl (by decide) (by decide)) rfl Taken.no) rfl rfl ?_
 refine WH.val (O.det (fun _ => G.R.or rfl rfl) rfl Taken.no) rfl rfl ?_
 refine WH.val (O.move rfl rfl Taken.no) rfl rfl ?_
 refine WH.val (O.idx_fz (i := 2) rfl rfl (rfl) (row_get (by omega)) Try.underlying22 hi5 hs5 rfl Taken.no) rfl rfl ?_
 refine WH.val (O.ld1 (PtI.ofU (PtU.fz rfl)) rfl Try.underlying5 rfl rfl Taken.no) rfl rfl ?_
 refine WH.val (O.det (fun _ => G.R.mv (G.R.conv rfl Try.underlying5 Try.underlying90) (congrArg _ (IntWalk.u32_in _ (u8r _)))) rfl Taken.no) rfl rfl ?_
 refine WH.val (O.det (fun _ => G.R.shl_c (q := 256) rfl rfl (by decide) (by decide)) rfl Taken.no) rfl rfl ?_
 refine WH.val (O.det (fun _ => G.R.or rfl rfl) rfl Taken.no) rfl rfl ?_
 refine WH.val (O.move rfl rfl Taken.no) rfl rfl ?_
 refine WH.val (O.idx_fz (i := 3) rfl rfl (rfl) (row_get (by omega)) Try.underlying22 hi5 hs5 rfl Taken.no) rfl rfl ?_
 refine WH.val (O.ld1 (PtI.ofU (PtU.fz rfl)) rfl Try.underlying5 rfl rfl Taken.no) rfl rfl ?_
 refine WH.val (O.det (fun _ => G.R.mv (G.R.conv rfl Try.underlying5 Try.underlying90) (congrArg _ (IntWalk.u32_in _ (u8r _)))) rfl Taken.no) rfl rfl ?_
 refine WH.val (O.det (fun _ => G.R.or rfl rfl) rfl Taken.no) rfl rfl ?_
 refine WH.val (O.assign rfl rfl Taken.no) rfl rfl ?_
 refine WH.nil ?_
 refine E.to ?_
 refine W.pick (.cons (t := 2) rfl .nil) .nil ?_
 refine W.ret ?_
 refine E.fin (rs := [_]) (rn []) (.inl rfl) rfl (.cons (ResOne.tmp rfl) .nil) ?_ ?_ rfl (fixL_spec rfl)
 ·skip
  rfl
 · exact SubS.nil

set_option maxRecDepth 8000 in
/-- bookplate/bookplateref20.number. -/
theorem refnumber_h {l : List UInt8} (hb : 4 ≤ l.length) :
    Con Try.prog 69 [vL 1 (l.map eB)] [] (vN .u32 (numI l)) [] := by
 obtain ⟨i5, hi5, hz5, hs5, hb5⟩ := hinf5
 refine Con.enterL (n := 25) Try.func69 rfl rfl rfl (fun τ w ok vs hin => ?_)
 have hl0 := hin.len (i := 0) rfl
 try rw [List.length_map] at hl0
 clear hin
 refine W.seq ?_
 refine W.region ?_
 refine SL.val (O.assign rfl rfl Taken.no) ?_
 refine SL.nil ?_
 refine E.to ?_
 refine W.seq ?_
 refine W.draw [⟨[], [], [], []⟩, ⟨[], [], [], []⟩, ⟨[], [], [], []⟩, ⟨[], [], [], []⟩, ⟨[], [], [], []⟩, ⟨[], [], [], []⟩, ⟨[], [], [], []⟩, ⟨[], [], [], []⟩, ⟨[], [], [], []⟩, ⟨[], [], [], []⟩, ⟨[], [], [], []⟩, ⟨[], [], [], []⟩, ⟨[], [], [], []⟩, ⟨[], [], [], []⟩, ⟨[], [], [], []⟩, ⟨[], [], [], []⟩, ⟨[], [], [], []⟩, ⟨[], [], [], []⟩, ⟨[], [], [], []⟩, ⟨[], [], [], []⟩, ⟨[], [], [], []⟩, ⟨[], [], [], []⟩, ⟨[], [], [], []⟩] rfl (by kernel_rfl) (by kernel_rfl) rfl rfl ?_
 refine WH.val (O.move rfl rfl Taken.no) rfl rfl ?_
 refine WH.val (O.idx_fz (i := 0) rfl rfl (rfl) (row_get (by omega)) Try.underlying22 hi5 hs5 rfl Taken.no) rfl rfl ?_
 refine WH.val (O.ld1 (PtI.ofU (PtU.fz rfl)) rfl Try.underlying5 rfl rfl Taken.no) rfl rfl ?_
 refine WH.val (O.det (fun _ => G.R.mv (G.R.conv rfl Try.underlying5 Try.underlying90) (congrArg _ (IntWalk.u32_in _ (u8r _)))) rfl Taken.no) rfl rfl ?_
 refine WH.val (O.det (fun _ => G.R.shl_c (q := 16777216) rfl rfl (by decide) (by decide)) rfl Taken.no) rfl rfl ?_
 refine WH.val (O.move rfl rfl Taken.no) rfl rfl ?_
 refine WH.val (O.idx_fz (i := 1) rfl rfl (rfl) (row_get (by omega)) Try.underlying22 hi5 hs5 rfl Taken.no) rfl rfl ?_
 refine WH.val (O.ld1 (PtI.ofU (PtU.fz rfl)) rfl Try.underlying5 rfl rfl Taken.no) rfl rfl ?_
 refine WH.val (O.det (fun _ => G.R.mv (G.R.conv rfl Try.underlying5 Try.underlying90) (congrArg _ (IntWalk.u32_in _ (u8r _)))) rfl Taken.no) rfl rfl ?_
 refine WH.val (O.det (fun _ => G.R.shl_c (q := 65536) rfl rfl (by decide) (by decide)) rfl Taken.no) rfl rfl ?_
 refine WH.val (O.det (fun _ => G.R.or rfl rfl) rfl Taken.no) rfl rfl ?_
 refine WH.val (O.move rfl rfl Taken.no) rfl rfl ?_
 refine WH.val (O.idx_fz (i := 2) rfl rfl (rfl) (row_get (by omega)) Try.underlying22 hi5 hs5 rfl Taken.no) rfl rfl ?_
 refine WH.val (O.ld1 (PtI.ofU (PtU.fz rfl)) rfl Try.underlying5 rfl rfl Taken.no) rfl rfl ?_
 refine WH.val (O.det (fun _ => G.R.mv (G.R.conv rfl Try.underlying5 Try.underlying90) (congrArg _ (IntWalk.u32_in _ (u8r _)))) rfl Taken.no) rfl rfl ?_
 refine WH.val (O.det (fun _ => G.R.shl_c (q := 256) rfl rfl (by decide) (by decide)) rfl Taken.no) rfl rfl ?_
 refine WH.val (O.det (fun _ => G.R.or rfl rfl) rfl Taken.no) rfl rfl ?_
 refine WH.val (O.move rfl rfl Taken.no) rfl rfl ?_
 refine WH.val (O.idx_fz (i := 3) rfl rfl (rfl) (row_get (by omega)) Try.underlying22 hi5 hs5 rfl Taken.no) rfl rfl ?_
 refine WH.val (O.ld1 (PtI.ofU (PtU.fz rfl)) rfl Try.underlying5 rfl rfl Taken.no) rfl rfl ?_
 refine WH.val (O.det (fun _ => G.R.mv (G.R.conv rfl Try.underlying5 Try.underlying90) (congrArg _ (IntWalk.u32_in _ (u8r _)))) rfl Taken.no) rfl rfl ?_
 refine WH.val (O.det (fun _ => G.R.or rfl rfl) rfl Taken.no) rfl rfl ?_
 refine WH.val (O.assign rfl rfl Taken.no) rfl rfl ?_
 refine WH.nil ?_
 refine E.to ?_
 refine W.pick (.cons (t := 2) rfl .nil) .nil ?_
 refine W.ret ?_
 refine E.fin (rs := [_]) (rn []) (.inl rfl) rfl (.cons (ResOne.tmp rfl) .nil) ?_ ?_ rfl (fixL_spec rfl)
 ·skip
  rfl
 · exact SubS.nil

set_option maxRecDepth 8000 in
/-- bookplate/wal.sum. -/
theorem sum_h (h : Int) {l : List UInt8} (hb : l.length ≤ 4294967295) :
    Con Try.prog 63 [vN .u32 h, vL 1 (l.map eB)] [] (vN .u32 (sumI h l)) [] := by
 refine Con.enterL (n := 13) Try.func63 rfl rfl rfl (fun τ w ok vs hin => ?_)
 have hl1 := hin.len (i := 1) rfl
 try rw [List.length_map] at hl1
 clear hin
 refine W.seq ?_
 refine W.region ?_
 refine SL.val (O.assign rfl rfl Taken.no) ?_
 refine SL.nil ?_
 refine E.to ?_
 refine W.seq ?_
 refine W.region ?_
 refine SL.val (O.move rfl rfl Taken.no) ?_
 refine SL.val (O.move rfl rfl Taken.no) ?_
 refine SL.val (O.lenE (SlOf.fz rfl (by decide)) (by first | exact List.length_map _ | rfl) Try.underlying22 rfl Taken.no) ?_
 refine SL.val (O.det (fun _ => by first | exact G.R.conv32 rfl Try.underlying3 Try.underlying90 (by omega) | exact G.R.conv rfl Try.underlying3 Try.underlying90) rfl Taken.no) ?_
 refine SL.val (O.callp rfl rfl rfl (Con.fz (four_h _) rfl rfl) (.cons (ArgOk.same rfl) .nil) hcallOk62 rfl Taken.no) ?_
 refine SL.val (O.callp rfl rfl rfl (more_h _ _) (.cons (ArgOk.same rfl) (.cons (ArgOk.same rfl) .nil)) hcallOk64 rfl Taken.no) ?_
 refine SL.val (O.move rfl rfl Taken.no) ?_
 refine SL.val (O.callp rfl rfl rfl (more_h _ _) (.cons (ArgOk.same rfl) (.cons (ArgOk.same rfl) .nil)) hcallOk64 rfl Taken.no) ?_
 refine SL.val (O.assign rfl rfl Taken.no) ?_
 refine SL.nil ?_
 refine E.to ?_
 refine W.ret ?_
 refine E.fin (rs := [_]) (rn []) (.inl rfl) rfl (.cons (ResOne.tmp rfl) .nil) ?_ ?_ rfl (fixL_spec rfl)
 ·skip
  rfl
 · exact SubS.nil

set_option maxRecDepth 8000 in
/-- slices.Index[[]int,int]. -/
theorem index_h {l : List Int} (x : Int) :
    Con Try.prog 74 [vL 1 (l.map eI), vI x] [] (vI (if x ∈ l then (l.idxOf x : Nat) else -1)) [] := by
 obtain ⟨i3, hi3, hz3, hs3, hb3⟩ := hinf3
 refine Con.enterL (n := 19) Try.func74 rfl rfl rfl (fun τ w ok vs hin => ?_)
 have hl0 := hin.len (i := 0) rfl
 try rw [List.length_map] at hl0
 clear hin
 refine W.seq ?_
 refine W.region ?_
 refine SL.val (O.assign rfl rfl Taken.no) ?_
 refine SL.nil ?_
 refine E.to ?_
 refine W.seq ?_
 refine W.seq ?_
 refine W.region ?_
 refine SL.val (O.move rfl rfl Taken.no) ?_
 refine SL.val (O.lenE (SlOf.fz rfl (by decide)) (by first | exact List.length_map _ | rfl) Try.underlying102 rfl Taken.no) ?_
 refine SL.val (O.move rfl rfl Taken.no) ?_
 refine SL.nil ?_
 refine E.to ?_
 refine W.block ?_
 refine W.loopx1 (fun (k : Nat) => [(8, vI (k : Int))]) (fun (k : Nat) => []) (fun (k : Nat) => k ≤ l.length ∧ ∀ j, j < k → l[j]! ≠ x) (fun (k : Nat) => l.length - k) (0) (rn []) (.cons (t := 0) rfl (.cons (t := 1) rfl (.cons (t := 7) rfl .nil))) .nil rfl ?_ ?_ rfl rfl ?_ ?_
 · exact (SubF.cons rfl SubF.nil)
 · exact SubS.nil
 ·skip
  exact ⟨by omega, fun j h => by omega⟩
 intro k hinv
 obtain ⟨hk, hp⟩ := hinv
 refine W.seq ?_
 refine W.region ?_
 refine SL.val (O.det (fun _ => G.R.lss rfl rfl) rfl Taken.no) ?_
 refine SL.nil ?_
 refine E.to ?_
 refine W.seq ?_
 first | refine W.cond_d rfl (fun hc1 => ?_) (fun hc1 => ?_) | refine W.cond_nd rfl (fun hc1 => ?_) (fun hc1 => ?_) | refine W.cond rfl (fun hc1 => ?_) (fun hc1 => ?_)
 ·skip
  refine W.skip ?_
  refine E.to ?_
  refine W.seq ?_
  refine W.block ?_
  refine W.seq ?_
  refine W.region ?_
  refine SL.val (O.move rfl rfl Taken.no) ?_
  refine SL.val (O.assign rfl rfl Taken.no) ?_
  refine SL.nil ?_
  refine E.to ?_
  refine W.seq ?_
  refine W.region ?_
  refine SL.val (O.move rfl rfl Taken.no) ?_
  refine SL.val (O.move rfl rfl Taken.no) ?_
  refine SL.val (O.move rfl rfl Taken.no) ?_
  refine SL.val (O.idx_fz rfl rfl (rfl) (row_get (by omega)) Try.underlying102 hi3 hs3 rfl Taken.no) ?_
  refine SL.val (O.ld1 (PtI.ofU (PtU.fz rfl)) rfl Try.underlying3 rfl rfl Taken.no) ?_
  refine SL.val (O.det (fun _ => G.R.eql rfl rfl) rfl Taken.no) ?_
  refine SL.nil ?_
  refine E.to ?_
  first | refine W.cond_d rfl (fun hc2 => ?_) (fun hc2 => ?_) | refine W.cond_nd rfl (fun hc2 => ?_) (fun hc2 => ?_) | refine W.cond rfl (fun hc2 => ?_) (fun hc2 => ?_)
  ·skip
   refine W.seq ?_
   refine W.region ?_
   refine SL.val (O.move rfl rfl Taken.no) ?_
   refine SL.val (O.assign rfl rfl Taken.no) ?_
   refine SL.nil ?_
   refine E.to ?_
   refine W.ret ?_
   refine E.inr ?_
   refine E.thr ?_
   refine E.thr ?_
   refine E.inr ?_
   refine E.thr ?_
   refine E.fin (rs := [_]) (rn []) (.inl rfl) rfl (.cons (ResOne.tmp rfl) .nil) ?_ ?_ rfl (fixL_spec rfl)
   ·skip
    exact iv_int (idx_here (by omega) hp (by assumption))
   · exact SubS.nil
  ·skip
   refine W.skip ?_
   refine E.inn ?_
   refine E.to ?_
   refine W.region ?_
   refine SL.val (O.det (fun _ => by first | exact G.R.add64 rfl rfl (by omega) | exact G.R.add rfl rfl) rfl Taken.no) ?_
   refine SL.val (O.move rfl rfl Taken.no) ?_
   refine SL.nil ?_
   refine E.again ((k + 1)) (rn []) ?_ ?_ rfl (fixL_spec rfl) ?_ ?_
   · exact (SubF.cons rfl (SubF.cons rfl (SubF.cons rfl (SubF.cons rfl SubF.nil))))
   · exact SubS.nil
   ·try dsimp only
    exact ⟨by omega, fun j hj => by rcases Nat.lt_succ_iff_lt_or_eq.1 hj with h | h; exact hp j h; subst h; exact fun e => absurd e.symm (by assumption)⟩
   · (try dsimp only); omega
 ·skip
  refine W.exit ?_
  refine E.th ?_
  refine E.th ?_
  refine E.hit ?_
  refine E.to ?_
  refine W.seq ?_
  refine W.region ?_
  refine SL.val (O.assign rfl rfl Taken.no) ?_
  refine SL.nil ?_
  refine E.to ?_
  refine W.ret ?_
  refine E.fin (rs := [_]) (rn []) (.inl rfl) rfl (.cons (ResOne.tmp rfl) .nil) ?_ ?_ rfl (fixL_spec rfl)
  ·skip
   exact iv_int (if_neg (idx_none (by omega) hp))
  · exact SubS.nil

set_option maxRecDepth 8000 in
/-- slices.Contains[[]int,int]. -/
theorem contains_h {l : List Int} (x : Int) :
    Con Try.prog 70 [vL 1 (l.map eI), vI x] [] (vB (decide (x ∈ l))) [] := by
 refine Con.enterL (n := 9) Try.func70 rfl rfl rfl (fun τ w ok vs hin => ?_)
 have hl0 := hin.len (i := 0) rfl
 try rw [List.length_map] at hl0
 clear hin
 refine W.seq ?_
 refine W.region ?_
 refine SL.val (O.assign rfl rfl Taken.no) ?_
 refine SL.nil ?_
 refine E.to ?_
 refine W.seq ?_
 refine W.region ?_
 refine SL.val (O.move rfl rfl Taken.no) ?_
 refine SL.val (O.move rfl rfl Taken.no) ?_
 refine SL.val (O.callp rfl rfl rfl (index_h _) (.cons (ArgOk.same rfl) (.cons (ArgOk.same rfl) .nil)) hcallOk74 rfl Taken.no) ?_
 refine SL.val (O.det (fun _ => G.R.geq rfl rfl) rfl Taken.no) ?_
 refine SL.val (O.assign rfl rfl Taken.no) ?_
 refine SL.nil ?_
 refine E.to ?_
 refine W.ret ?_
 refine E.fin (rs := [_]) (rn []) (.inl rfl) rfl (.cons (ResOne.tmp rfl) .nil) ?_ ?_ rfl (fixL_spec rfl)
 ·skip
  exact iv_bool (by by_cases h : x ∈ l <;> simp [h] <;> omega)
 · exact SubS.nil

set_option maxRecDepth 8000 in
/-- bookplate/bookplateref20.end. -/
theorem end_h {l : List Int} :
    Con Try.prog 59 [vL 1 (l.map eI)] [] (vI (endI l)) [] := by
 obtain ⟨i3, hi3, hz3, hs3, hb3⟩ := hinf3
 refine Con.enterL (n := 12) Try.func59 rfl rfl rfl (fun τ w ok vs hin => ?_)
 have hl0 := hin.len (i := 0) rfl
 try rw [List.length_map] at hl0
 clear hin
 refine W.seq ?_
 refine W.region ?_
 refine SL.val (O.assign rfl rfl Taken.no) ?_
 refine SL.nil ?_
 refine E.to ?_
 refine W.seq ?_
 refine W.seq ?_
 refine W.region ?_
 refine SL.val (O.move rfl rfl Taken.no) ?_
 refine SL.val (O.lenE (SlOf.fz rfl (by decide)) (by first | exact List.length_map _ | rfl) Try.underlying102 rfl Taken.no) ?_
 refine SL.val (O.det (fun _ => G.R.eql rfl rfl) rfl Taken.no) ?_
 refine SL.nil ?_
 refine E.to ?_
 first | refine W.cond_d rfl (fun hc1 => ?_) (fun hc1 => ?_) | refine W.cond_nd rfl (fun hc1 => ?_) (fun hc1 => ?_) | refine W.cond rfl (fun hc1 => ?_) (fun hc1 => ?_)
 ·skip
  refine W.seq ?_
  refine W.region ?_
  refine SL.val (O.assign rfl rfl Taken.no) ?_
  refine SL.nil ?_
  refine E.to ?_
  refine W.ret ?_
  refine E.thr ?_
  refine E.fin (rs := [_]) (rn []) (.inl rfl) rfl (.cons (ResOne.tmp rfl) .nil) ?_ ?_ rfl (fixL_spec rfl)
  ·skip
   exact iv_int (by rw [endI, if_pos (by omega)])
  · exact SubS.nil
 ·skip
  refine W.skip ?_
  refine E.to ?_
  refine W.seq ?_
  refine W.region ?_
  refine SL.val (O.move rfl rfl Taken.no) ?_
  refine SL.val (O.move rfl rfl Taken.no) ?_
  refine SL.val (O.lenE (SlOf.fz rfl (by decide)) (by first | exact List.length_map _ | rfl) Try.underlying102 rfl Taken.no) ?_
  refine SL.val (O.det (fun _ => by first | exact G.R.sub64 rfl rfl (by omega) | exact G.R.sub rfl rfl) rfl Taken.no) ?_
  refine SL.val (O.idx_fz (i := (l.length - 1)) rfl rfl (by omega) (row_get (by omega)) Try.underlying102 hi3 hs3 rfl Taken.no) ?_
  refine SL.val (O.ld1 (PtI.ofU (PtU.fz rfl)) rfl Try.underlying3 rfl rfl Taken.no) ?_
  refine SL.val (O.assign rfl rfl Taken.no) ?_
  refine SL.nil ?_
  refine E.to ?_
  refine W.ret ?_
  refine E.fin (rs := [_]) (rn []) (.inl rfl) rfl (.cons (ResOne.tmp rfl) .nil) ?_ ?_ rfl (fixL_spec rfl)
  ·skip
   exact iv_int (by rw [endI, if_neg (by omega)])
  · exact SubS.nil

set_option maxRecDepth 8000 in
/-- (bookplate/wal.part).length. -/
theorem length_h {ps : List (List UInt8)} {l : List Int} (h : Int) :
    Con Try.prog 57 [vA [.sl 1 (ps.map eL), .sl 1 (l.map eI), uN .u32 h]] [] (vI (endI l)) [] := by
 obtain ⟨i3, hi3, hz3, hs3, hb3⟩ := hinf3
 refine Con.enterL (n := 15) Try.func57 rfl rfl rfl (fun τ w ok vs hin => ?_)
 have hl0_0 := hin.lenA (i := 0) (j := 0) rfl rfl
 try rw [List.length_map] at hl0_0
 have hl0_1 := hin.lenA (i := 0) (j := 1) rfl rfl
 try rw [List.length_map] at hl0_1
 clear hin
 refine W.seq ?_
 refine W.region ?_
 refine SL.memS (O.box (is := [_, _, _]) 101 rfl rfl (by simp) rfl rfl Taken.no) rfl rfl (S' := (101, _) :: _) rfl ?_
 refine SL.val (O.assign rfl rfl Taken.no) ?_
 refine SL.nil ?_
 refine E.to ?_
 refine W.seq ?_
 refine W.seq ?_
 refine W.region ?_
 refine SL.val (O.fld_ref (o' := 1) rfl Try.underlying104 rfl (m := 0) (by kernel_rfl) rfl rfl Taken.no) ?_
 refine SL.val (O.ld1 (PtI.ref rfl rfl) rfl Try.underlying102 rfl rfl Taken.no) ?_
 refine SL.val (O.lenE (SlOf.fz rfl (by decide)) (by first | exact List.length_map _ | rfl) Try.underlying102 rfl Taken.no) ?_
 refine SL.val (O.det (fun _ => G.R.eql rfl rfl) rfl Taken.no) ?_
 refine SL.nil ?_
 refine E.to ?_
 first | refine W.cond_d rfl (fun hc1 => ?_) (fun hc1 => ?_) | refine W.cond_nd rfl (fun hc1 => ?_) (fun hc1 => ?_) | refine W.cond rfl (fun hc1 => ?_) (fun hc1 => ?_)
 ·skip
  refine W.seq ?_
  refine W.region ?_
  refine SL.val (O.assign rfl rfl Taken.no) ?_
  refine SL.nil ?_
  refine E.to ?_
  refine W.ret ?_
  refine E.thr ?_
  refine E.fin (rs := [_]) (rn []) (.inl rfl) rfl (.cons (ResOne.tmp rfl) .nil) ?_ ?_ rfl (fixL_spec rfl)
  ·skip
   exact iv_int (by rw [endI, if_pos (by omega)])
  · exact SubS.nil
 ·skip
  refine W.skip ?_
  refine E.to ?_
  refine W.seq ?_
  refine W.region ?_
  refine SL.val (O.fld_ref (o' := 1) rfl Try.underlying104 rfl (m := 0) (by kernel_rfl) rfl rfl Taken.no) ?_
  refine SL.val (O.ld1 (PtI.ref rfl rfl) rfl Try.underlying102 rfl rfl Taken.no) ?_
  refine SL.val (O.fld_ref (o' := 1) rfl Try.underlying104 rfl (m := 0) (by kernel_rfl) rfl rfl Taken.no) ?_
  refine SL.val (O.ld1 (PtI.ref rfl rfl) rfl Try.underlying102 rfl rfl Taken.no) ?_
  refine SL.val (O.lenE (SlOf.fz rfl (by decide)) (by first | exact List.length_map _ | rfl) Try.underlying102 rfl Taken.no) ?_
  refine SL.val (O.det (fun _ => by first | exact G.R.sub64 rfl rfl (by omega) | exact G.R.sub rfl rfl) rfl Taken.no) ?_
  refine SL.val (O.idx_fz (i := (l.length - 1)) rfl rfl (by omega) (row_get (by omega)) Try.underlying102 hi3 hs3 rfl Taken.no) ?_
  refine SL.val (O.ld1 (PtI.ofU (PtU.fz rfl)) rfl Try.underlying3 rfl rfl Taken.no) ?_
  refine SL.val (O.assign rfl rfl Taken.no) ?_
  refine SL.nil ?_
  refine E.to ?_
  refine W.ret ?_
  refine E.fin (rs := [_]) (rn []) (.inl rfl) rfl (.cons (ResOne.tmp rfl) .nil) ?_ ?_ rfl (fixL_spec rfl)
  ·skip
   exact iv_int (by rw [endI, if_neg (by omega)])
  · exact SubS.nil

set_option maxRecDepth 8000 in
/-- bytes.Equal. -/
theorem bequal_h {l1 l2 : List UInt8} :
    Con Try.prog 14 [vL 1 (l1.map eB), vL 1 (l2.map eB)] [] (vB (decide (l1 = l2))) [] := by
 refine Con.enterL (n := 10) Try.func14 rfl rfl rfl (fun τ w ok vs hin => ?_)
 have hl0 := hin.len (i := 0) rfl
 try rw [List.length_map] at hl0
 have hl1 := hin.len (i := 1) rfl
 try rw [List.length_map] at hl1
 clear hin
 refine W.seq ?_
 refine W.region ?_
 refine SL.val (O.assign rfl rfl Taken.no) ?_
 refine SL.nil ?_
 refine E.to ?_
 refine W.seq ?_
 refine W.region ?_
 refine SL.val (O.move rfl rfl Taken.no) ?_
 refine SL.val (O.b2s (SlOf.fz rfl (by decide)) Try.underlying22 Try.underlying5 Try.underlying9 rfl Taken.no) ?_
 refine SL.val (O.move rfl rfl Taken.no) ?_
 refine SL.val (O.b2s (SlOf.fz rfl (by decide)) Try.underlying22 Try.underlying5 Try.underlying9 rfl Taken.no) ?_
 refine SL.val (O.det (fun _ => G.R.streq rfl rfl) rfl Taken.no) ?_
 refine SL.val (O.assign rfl rfl Taken.no) ?_
 refine SL.nil ?_
 refine E.to ?_
 refine W.ret ?_
 refine E.fin (rs := [_]) (rn []) (.inl rfl) rfl (.cons (ResOne.tmp rfl) .nil) ?_ ?_ rfl (fixL_spec rfl)
 ·skip
  exact iv_bool (by simp)
 · exact SubS.nil

set_option maxRecDepth 8000 in
/-- bookplate/bookplateref20.Same. -/
theorem same_h {ls1 ls2 : List (List UInt8)} :
    Con Try.prog 18 [vL 1 (ls1.map eL), vL 1 (ls2.map eL)] [] (vB (decide (ls1 = ls2))) [] := by
 obtain ⟨i22, hi22, hz22, hs22, hb22⟩ := hinf22
 refine Con.enterL (n := 28) Try.func18 rfl rfl rfl (fun τ w ok vs hin => ?_)
 have hl0 := hin.len (i := 0) rfl
 try rw [List.length_map] at hl0
 have hl1 := hin.len (i := 1) rfl
 try rw [List.length_map] at hl1
 clear hin
 refine W.seq ?_
 refine W.region ?_
 refine SL.val (O.assign rfl rfl Taken.no) ?_
 refine SL.nil ?_
 refine E.to ?_
 refine W.seq ?_
 refine W.seq ?_
 refine W.region ?_
 refine SL.val (O.move rfl rfl Taken.no) ?_
 refine SL.val (O.lenE (SlOf.fz rfl (by decide)) (by first | exact List.length_map _ | rfl) Try.underlying32 rfl Taken.no) ?_
 refine SL.val (O.move rfl rfl Taken.no) ?_
 refine SL.val (O.lenE (SlOf.fz rfl (by decide)) (by first | exact List.length_map _ | rfl) Try.underlying32 rfl Taken.no) ?_
 refine SL.val (O.det (fun _ => G.R.neq rfl rfl) rfl Taken.no) ?_
 refine SL.nil ?_
 refine E.to ?_
 first | refine W.cond_d rfl (fun hc1 => ?_) (fun hc1 => ?_) | refine W.cond_nd rfl (fun hc1 => ?_) (fun hc1 => ?_) | refine W.cond rfl (fun hc1 => ?_) (fun hc1 => ?_)
 ·skip
  refine W.seq ?_
  refine W.region ?_
  refine SL.val (O.assign rfl rfl Taken.no) ?_
  refine SL.nil ?_
  refine E.to ?_
  refine W.ret ?_
  refine E.thr ?_
  refine E.fin (rs := [_]) (rn []) (.inl rfl) rfl (.cons (ResOne.tmp rfl) .nil) ?_ ?_ rfl (fixL_spec rfl)
  ·skip
   exact iv_bool (by rw [eq_comm, decide_eq_false]; intro e; subst e; exfalso; omega)
  · exact SubS.nil
 ·skip
  refine W.skip ?_
  refine E.to ?_
  refine W.seq ?_
  refine W.seq ?_
  refine W.region ?_
  refine SL.val (O.assign rfl rfl Taken.no) ?_
  refine SL.nil ?_
  refine E.to ?_
  refine W.block ?_
  refine W.loopx1 (fun (k : Nat) => [(5, vI (k : Int))]) (fun (k : Nat) => []) (fun (k : Nat) => k ≤ ls1.length ∧ ls1.take k = ls2.take k) (fun (k : Nat) => ls1.length - k) (0) (rn []) (.cons (t := 0) rfl (.cons (t := 1) rfl .nil)) .nil rfl ?_ ?_ rfl rfl ?_ ?_
  · exact (SubF.cons rfl SubF.nil)
  · exact SubS.nil
  ·skip
   exact ⟨by omega, rfl⟩
  intro k hinv
  obtain ⟨hk, hp⟩ := hinv
  refine W.seq ?_
  refine W.seq ?_
  refine W.region ?_
  refine SL.val (O.move rfl rfl Taken.no) ?_
  refine SL.val (O.move rfl rfl Taken.no) ?_
  refine SL.val (O.lenE (SlOf.fz rfl (by decide)) (by first | exact List.length_map _ | rfl) Try.underlying32 rfl Taken.no) ?_
  refine SL.val (O.det (fun _ => G.R.lss rfl rfl) rfl Taken.no) ?_
  refine SL.nil ?_
  refine E.to ?_
  first | refine W.cond_d rfl (fun hc2 => ?_) (fun hc2 => ?_) | refine W.cond_nd rfl (fun hc2 => ?_) (fun hc2 => ?_) | refine W.cond rfl (fun hc2 => ?_) (fun hc2 => ?_)
  ·skip
   refine W.skip ?_
   refine E.to ?_
   refine W.seq ?_
   refine W.block ?_
   refine W.seq ?_
   refine W.draw [⟨[], [], [], []⟩, ⟨[], [], [], []⟩, ⟨[], [], [], []⟩, ⟨[], [], [], []⟩, ⟨[], [], [], []⟩, ⟨[], [], [], []⟩, ⟨[], [], [], []⟩, ⟨[], [], [], []⟩, ⟨[], [], [], []⟩, ⟨[], [], [], []⟩, ⟨[], [], [], []⟩] rfl (by kernel_rfl) (by kernel_rfl) rfl rfl ?_
   refine WH.val (O.move rfl rfl Taken.no) rfl rfl ?_
   refine WH.val (O.move rfl rfl Taken.no) rfl rfl ?_
   refine WH.val (O.idx_fz rfl rfl (rfl) (row_get (by omega)) Try.underlying32 hi22 hs22 rfl Taken.no) rfl rfl ?_
   refine WH.val (O.ld1 (PtI.ofU (PtU.fz rfl)) rfl Try.underlying22 rfl rfl Taken.no) rfl rfl ?_
   refine WH.val (O.b2s (SlOf.fz rfl (by decide)) Try.underlying22 Try.underlying5 Try.underlying9 rfl Taken.no) rfl rfl ?_
   refine WH.val (O.move rfl rfl Taken.no) rfl rfl ?_
   refine WH.val (O.move rfl rfl Taken.no) rfl rfl ?_
   refine WH.val (O.idx_fz rfl rfl (rfl) (row_get (by omega)) Try.underlying32 hi22 hs22 rfl Taken.no) rfl rfl ?_
   refine WH.val (O.ld1 (PtI.ofU (PtU.fz rfl)) rfl Try.underlying22 rfl rfl Taken.no) rfl rfl ?_
   refine WH.val (O.b2s (SlOf.fz rfl (by decide)) Try.underlying22 Try.underlying5 Try.underlying9 rfl Taken.no) rfl rfl ?_
   refine WH.val (O.det (fun _ => G.R.strne rfl rfl) rfl Taken.no) rfl rfl ?_
   refine WH.nil ?_
   refine E.to ?_
   first | refine W.cond_d rfl (fun hc3 => ?_) (fun hc3 => ?_) | refine W.cond_nd rfl (fun hc3 => ?_) (fun hc3 => ?_) | refine W.cond rfl (fun hc3 => ?_) (fun hc3 => ?_)
   ·skip
    refine W.seq ?_
    refine W.region ?_
    refine SL.val (O.assign rfl rfl Taken.no) ?_
    refine SL.nil ?_
    refine E.to ?_
    refine W.ret ?_
    refine E.inr ?_
    refine E.thr ?_
    refine E.thr ?_
    refine E.inr ?_
    refine E.thr ?_
    refine E.fin (rs := [_]) (rn []) (.inl rfl) rfl (.cons (ResOne.tmp rfl) .nil) ?_ ?_ rfl (fixL_spec rfl)
    ·skip
     exact iv_bool (by rw [decide_eq_false]; intro e; subst e; simp at hc3)
    · exact SubS.nil
   ·skip
    refine W.skip ?_
    refine E.inn ?_
    refine E.to ?_
    refine W.region ?_
    refine SL.val (O.move rfl rfl Taken.no) ?_
    refine SL.val (O.det (fun _ => by first | exact G.R.add64 rfl rfl (by omega) | exact G.R.add rfl rfl) rfl Taken.no) ?_
    refine SL.val (O.assign rfl rfl Taken.no) ?_
    refine SL.nil ?_
    refine E.again ((k + 1)) (rn []) ?_ ?_ rfl (fixL_spec rfl) ?_ ?_
    · exact (SubF.cons rfl (SubF.cons rfl (SubF.cons rfl SubF.nil)))
    · exact SubS.nil
    ·try dsimp only
     exact ⟨by omega, take_eq (by omega) (by omega) hp (by simpa [bytes_toList] using hc3)⟩
    · (try dsimp only); omega
  ·skip
   refine W.exit ?_
   refine E.th ?_
   refine E.th ?_
   refine E.hit ?_
   refine E.to ?_
   refine W.seq ?_
   refine W.region ?_
   refine SL.val (O.assign rfl rfl Taken.no) ?_
   refine SL.nil ?_
   refine E.to ?_
   refine W.ret ?_
   refine E.fin (rs := [_]) (rn []) (.inl rfl) rfl (.cons (ResOne.tmp rfl) .nil) ?_ ?_ rfl (fixL_spec rfl)
   ·skip
    exact iv_bool (by rw [decide_eq_true]; rw [List.take_of_length_le (by omega), List.take_of_length_le (by omega)] at hp; exact hp)
   · exact SubS.nil

set_option maxRecDepth 8000 in
/-- slices.Clone[[]byte,byte]. -/
theorem clone_h {l : List UInt8} (hb : l.length ≤ 1000000000) :
    Con Try.prog 32 [vL 1 (l.map eB)] [] (.own 0) [(0, .data 5 1 (l.map eB))] := by
 obtain ⟨i5, hi5, hz5, hs5, hb5⟩ := hinf5
 refine Con.enterL (n := 8) Try.func32 rfl rfl rfl (fun τ w ok vs hin => ?_)
 have hl0 := hin.len (i := 0) rfl
 try rw [List.length_map] at hl0
 clear hin
 refine W.seq ?_
 refine W.region ?_
 refine SL.val (O.assign rfl rfl Taken.no) ?_
 refine SL.nil ?_
 refine E.to ?_
 refine W.seq ?_
 refine W.seq ?_
 refine W.region ?_
 refine SL.val (O.move rfl rfl Taken.no) ?_
 refine SL.isnil (SlOf.fz rfl (by decide)) Try.underlying22 rfl Taken.no (fun bn1 hbn1 => ?_)
 refine SL.nil ?_
 refine E.to ?_
 first | refine W.cond_d rfl (fun hc2 => ?_) (fun hc2 => ?_) | refine W.cond_nd rfl (fun hc2 => ?_) (fun hc2 => ?_) | refine W.cond rfl (fun hc2 => ?_) (fun hc2 => ?_)
 ·skip
  refine W.seq ?_
  refine W.region ?_
  refine SL.val (O.assign rfl rfl Taken.no) ?_
  refine SL.nil ?_
  refine E.to ?_
  refine W.ret ?_
  refine E.thr ?_
  refine E.adopt 2 101 5 1 (by decide) rfl rfl rfl ?_
  refine E.fin (rs := [_]) (rn [(0, 101)]) (.inl rfl) rfl (.cons (ResOne.tmp rfl) .nil) ?_ ?_ rfl (fixL_spec rfl)
  ·skip
   rfl
  · exact (SubS.val rfl (by rw [List.length_map] at hbn1; rw [List.eq_nil_of_length_eq_zero (hbn1 (by assumption))]; rfl) SubS.nil)
 ·skip
  refine W.skip ?_
  refine E.to ?_
  refine W.seq ?_
  refine W.region ?_
  refine SL.memS (O.buildSlice 102 rfl rfl Try.underlying22 hi5 hz5 hs5 (by decide) rfl (by decide) rfl rfl rfl Taken.no) rfl rfl (S' := (102, _) :: _) rfl ?_
  refine SL.val (O.move rfl rfl Taken.no) ?_
  refine SL.memS (O.app (k' := 103) rfl rfl (SlOf.fz rfl (by decide)) Try.underlying22 hi5 hz5 hs5 rfl rfl (by first | exact map_snoc rfl | exact app_map | exact List.nil_append _ | rfl) (by rw [hb5]; first | omega | (simp only [List.length_map]; omega) | (simp <;> omega)) (by first | omega | (simp only [List.length_map]; omega) | (simp <;> omega)) rfl Taken.no) rfl rfl (S' := (103, _) :: (102, .dead) :: _) rfl ?_
  refine SL.val (O.assign rfl rfl Taken.no) ?_
  refine SL.nil ?_
  refine E.to ?_
  refine W.ret ?_
  refine E.fin (rs := [_]) (rn [(0, 103)]) (.inl rfl) rfl (.cons (ResOne.tmp rfl) .nil) ?_ ?_ rfl (fixL_spec rfl)
  ·skip
   rfl
  · exact (SubS.val rfl (by rfl) SubS.nil)

end Go.Proofs.Ytemclhhlafjohaa
