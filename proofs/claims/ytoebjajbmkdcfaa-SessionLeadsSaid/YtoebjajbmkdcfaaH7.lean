/-
  The walks.
-/
import Derived.Test.YtoebjajbmkdcfaaH6
import Derived.Test.YtoebjajbmkdcfaaHMax
namespace Go.Proofs.Ytoebjajbmkdcfaa
open Go Go.RowKit Go.H Go.D51

theorem hinf82 : ∃ i, Try.prog.info? 82 = some i ∧ i.zero = some (.agg #[.int .i64 0, .int .i64 0, .int .i64 0, .int .i64 0, .int .i64 0, .slice none 0 0]) ∧ i.size = 6 ∧ i.bytes = 64 := G.info_of (by kernel_rfl)
theorem hcallOk13 : G.callOk Try.prog 13 = true := by kernel_rfl
theorem hcallOk16 : G.callOk Try.prog 16 = true := by kernel_rfl
theorem hcallOk18 : G.callOk Try.prog 18 = true := by kernel_rfl
theorem hcallOk20 : G.callOk Try.prog 20 = true := by kernel_rfl
theorem hcallOk23 : G.callOk Try.prog 23 = true := by kernel_rfl
theorem hcallOk26 : G.callOk Try.prog 26 = true := by kernel_rfl
theorem hcallOk35 : G.callOk Try.prog 35 = true := by kernel_rfl
theorem hcallOk41 : G.callOk Try.prog 41 = true := by kernel_rfl
theorem hcallOk43 : G.callOk Try.prog 43 = true := by kernel_rfl
theorem hcallOk45 : G.callOk Try.prog 45 = true := by kernel_rfl
theorem hcallOk46 : G.callOk Try.prog 46 = true := by kernel_rfl
theorem hcallOk47 : G.callOk Try.prog 47 = true := by kernel_rfl
theorem hcallOk48 : G.callOk Try.prog 48 = true := by kernel_rfl

set_option maxRecDepth 8000 in
/-- bookplate/bookplatelaw51.own. -/
theorem own_h {st : Store} (hb : st.opn.length ≤ 1000) :
    Con Try.prog 44 [vA [uI st.next, uI st.time, .sl 4 (st.opn.map eO)]] [] (.agg [vI st.next, vI st.time, vL 4 (st.opn.map eO)]) [] := by
 obtain ⟨i92, hi92, hz92, hs92, hb92⟩ := hinf92
 obtain ⟨i119, hi119, hz119, hs119, hb119⟩ := hinf119
 refine Con.enterL (n := 37) Try.func44 rfl rfl rfl (fun τ w ok vs hin => ?_)
 have hl0_2 := hin.lenA (i := 0) (j := 2) rfl rfl
 try rw [List.length_map] at hl0_2
 clear hin
 refine W.seq ?_
 refine W.region ?_
 refine SL.memS (O.box (is := [_, _, _]) 101 rfl rfl (by simp) rfl rfl Taken.no) rfl rfl (S' := (101, _) :: _) rfl ?_
 refine SL.memS (O.alloc (z := .agg #[.int .i64 0, .int .i64 0, .slice none 0 0]) (is := [.u (.sc (.int .i64 0)), .u (.sc (.int .i64 0)), .u (.sc (.slice none 0 0))]) 102 (by kernel_rfl) rfl rfl rfl Taken.no) rfl rfl (S' := (102, _) :: _) rfl ?_
 refine SL.nil ?_
 refine E.to ?_
 refine W.seq ?_
 refine W.region ?_
 refine SL.val (O.fld_ref (o' := 0) rfl Try.underlying77 rfl (m := 0) (by kernel_rfl) rfl rfl Taken.no) ?_
 refine SL.val (O.ld1 (PtI.ref rfl rfl) rfl Try.underlying3 rfl rfl Taken.no) ?_
 refine SL.val (O.fld_ref (o' := 1) rfl Try.underlying77 rfl (m := 0) (by kernel_rfl) rfl rfl Taken.no) ?_
 refine SL.val (O.ld1 (PtI.ref rfl rfl) rfl Try.underlying3 rfl rfl Taken.no) ?_
 refine SL.val (O.build (res := [_, _, _]) (z := .agg #[.int .i64 0, .int .i64 0, .slice none 0 0]) (places := [(0, 1), (1, 1), (2, 1)]) rfl rfl Try.underlying73 (by kernel_rfl) (fun _ => by kernel_rfl) rfl rfl Taken.no) ?_
 refine SL.memS (O.alloc (z := .agg #[.int .i64 0, .int .i64 0, .slice none 0 0]) (is := [.u (.sc (.int .i64 0)), .u (.sc (.int .i64 0)), .u (.sc (.slice none 0 0))]) 103 (by kernel_rfl) rfl rfl rfl Taken.no) rfl rfl (S' := (103, _) :: _) rfl ?_
 refine SL.effS (O.st_ref (m := 3) rfl rfl rfl (js := [_, _, _]) rfl rfl (by kernel_rfl) (by simp) (Nat.le_of_ble_eq_true rfl) rfl (is' := [_, _, _]) rfl Taken.no) (S' := (103, _) :: _) rfl ?_
 refine SL.nil ?_
 refine E.to ?_
 refine W.seq ?_
 refine W.seq ?_
 refine W.region ?_
 refine SL.val (O.assign rfl rfl Taken.no) ?_
 refine SL.nil ?_
 refine E.to ?_
 refine W.block ?_
 refine W.adoptC 103 2 105 119 4 (is' := [_, _, _]) (by decide) rfl rfl rfl rfl rfl ?_
 refine W.loopx1 (fun (k : Nat) => [(4, vI (k : Int))]) (fun (k : Nat) => [(104, .data 119 4 ((st.opn.take k).map eO)), (103, .cells 73 [.u (uI st.next), .u (uI st.time), .own 104])]) (fun (k : Nat) => k ≤ st.opn.length) (fun (k : Nat) => st.opn.length - k) (0) (rn [(104, 105)]) (.cons (t := 1) rfl (.cons (t := 2) rfl (.cons (t := 3) rfl .nil))) (.cons (t := 101) rfl (.cons (t := 102) rfl .nil)) rfl ?_ ?_ rfl rfl ?_ ?_
 · exact (SubF.cons rfl SubF.nil)
 · exact (SubS.cons rfl (SubS.cons rfl SubS.nil))
 ·skip
  omega
 intro k hinv
 have hk := hinv
 have htl : (st.opn.take k).length = k := by rw [List.length_take]; omega
 refine W.seq ?_
 refine W.seq ?_
 refine W.region ?_
 refine SL.val (O.move rfl rfl Taken.no) ?_
 refine SL.val (O.fld_ref (o' := 2) rfl Try.underlying77 rfl (m := 0) (by kernel_rfl) rfl rfl Taken.no) ?_
 refine SL.val (O.ld1 (PtI.ref rfl rfl) rfl Try.underlying75 rfl rfl Taken.no) ?_
 refine SL.val (O.lenE (SlOf.fz rfl (by decide)) (by first | exact List.length_map _ | rfl) Try.underlying75 rfl Taken.no) ?_
 refine SL.val (O.det (fun _ => G.R.lss rfl rfl) rfl Taken.no) ?_
 refine SL.nil ?_
 refine E.to ?_
 first | refine W.cond_d rfl (fun hc1 => ?_) (fun hc1 => ?_) | refine W.cond_nd rfl (fun hc1 => ?_) (fun hc1 => ?_) | refine W.cond rfl (fun hc1 => ?_) (fun hc1 => ?_)
 ·skip
  refine W.skip ?_
  refine E.to ?_
  refine W.seq ?_
  refine W.block ?_
  refine W.seq ?_
  refine W.region ?_
  refine SL.val (O.fld_ref (o' := 2) rfl Try.underlying77 rfl (m := 0) (by kernel_rfl) rfl rfl Taken.no) ?_
  refine SL.val (O.ld1 (PtI.ref rfl rfl) rfl Try.underlying75 rfl rfl Taken.no) ?_
  refine SL.val (O.move rfl rfl Taken.no) ?_
  refine SL.val (O.idx_fz rfl rfl (rfl) (row_get (by omega)) Try.underlying75 hi92 hs92 rfl Taken.no) ?_
  refine SL.val (O.ldU (m := 4) (PtU.fz rfl) rfl Try.underlying92 rfl (by kernel_rfl) rfl Taken.no) ?_
  refine SL.memS (O.alloc (z := .agg #[.int .i64 0, .int .i64 0, .int .i64 0, .slice none 0 0]) (is := [.u (.sc (.int .i64 0)), .u (.sc (.int .i64 0)), .u (.sc (.int .i64 0)), .u (.sc (.slice none 0 0))]) 106 (by kernel_rfl) rfl rfl rfl Taken.no) rfl rfl (S' := (106, _) :: _) rfl ?_
  refine SL.effS (O.st_ref (m := 4) rfl rfl rfl (js := [_, _, _, _]) rfl rfl (by kernel_rfl) (by simp) (Nat.le_of_ble_eq_true rfl) rfl (is' := [_, _, _, _]) rfl Taken.no) (S' := (106, _) :: _) rfl ?_
  refine SL.nil ?_
  refine E.to ?_
  refine W.draw [⟨[103], [], []⟩, ⟨[103, 104], [], []⟩, ⟨[106], [], []⟩, ⟨[106], [], []⟩, ⟨[106], [], []⟩, ⟨[106], [], []⟩, ⟨[106], [], []⟩, ⟨[106], [], []⟩, ⟨[], [], []⟩, ⟨[], [], []⟩, ⟨[107], [107], [107]⟩, ⟨[104, 107, 108], [104, 108], [108]⟩, ⟨[103], [], []⟩, ⟨[103, 108], [103], []⟩] rfl (by kernel_rfl) (by kernel_rfl) rfl rfl ?_
  refine WH.val (O.fld_ref (o' := 2) rfl Try.underlying73 rfl (m := 0) (by kernel_rfl) rfl rfl Taken.no) rfl rfl ?_
  refine WH.val (O.ld1 (PtI.ref rfl rfl) rfl Try.underlying71 rfl rfl Taken.no) rfl rfl ?_
  refine WH.val (O.fld_ref (o' := 0) rfl Try.underlying92 rfl (m := 0) (by kernel_rfl) rfl rfl Taken.no) rfl rfl ?_
  refine WH.val (O.ld1 (PtI.ref rfl rfl) rfl Try.underlying3 rfl rfl Taken.no) rfl rfl ?_
  refine WH.val (O.fld_ref (o' := 1) rfl Try.underlying92 rfl (m := 0) (by kernel_rfl) rfl rfl Taken.no) rfl rfl ?_
  refine WH.val (O.ld1 (PtI.ref rfl rfl) rfl Try.underlying3 rfl rfl Taken.no) rfl rfl ?_
  refine WH.val (O.fld_ref (o' := 2) rfl Try.underlying92 rfl (m := 1) (by kernel_rfl) rfl rfl Taken.no) rfl rfl ?_
  refine WH.val (O.ldN (m := 2) (PtI.ref rfl rfl) (js := [_, _]) rfl (Nat.le_of_ble_eq_true rfl) Try.underlying31 rfl (by kernel_rfl) rfl Taken.no) rfl rfl ?_
  refine WH.memS (O.call (rn []) [] rfl rfl rfl (ours_h) (.cons (ArgOk.aggU (.cons (ArgOk.same rfl) (.cons (ArgOk.same rfl) .nil))) .nil) SubS.nil rfl rfl rfl rfl rfl (.inl rfl) hcallOk16 (r' := .agg [.u _, .u _]) rfl rfl Taken.no) rfl rfl rfl rfl rfl (S' := _) rfl ?_
  refine WH.val (O.build (res := [_, _, _, _]) (z := .agg #[.int .i64 0, .int .i64 0, .int .i64 0, .slice none 0 0]) (places := [(0, 1), (1, 1), (2, 2)]) rfl rfl Try.underlying119 (by kernel_rfl) (fun _ => by kernel_rfl) rfl rfl Taken.no) rfl rfl ?_
  refine WH.memS (O.buildSlice 107 rfl rfl Try.underlying71 hi119 hz119 hs119 (by decide) rfl (by decide) rfl rfl rfl Taken.no) rfl rfl rfl rfl rfl (S' := (107, _) :: _) rfl ?_
  refine WH.memS (O.app (k' := 108) rfl rfl (SlOf.own rfl rfl) Try.underlying71 hi119 hz119 hs119 rfl rfl (by exact map_snoc (x := st.opn[k]!) rfl) (by rw [hb119]; first | omega | (simp only [List.length_map]; omega) | (simp <;> omega)) (by first | omega | (simp only [List.length_map]; omega) | (simp <;> omega)) rfl Taken.no) rfl rfl rfl rfl rfl (S' := (108, _) :: (104, .dead) :: _) rfl ?_
  refine WH.val (O.fld_ref (o' := 2) rfl Try.underlying73 rfl (m := 0) (by kernel_rfl) rfl rfl Taken.no) rfl rfl ?_
  refine WH.effS (O.st_ref (m := 1) rfl rfl rfl (js := [_]) rfl rfl (by kernel_rfl) (by simp) (Nat.le_of_ble_eq_true rfl) rfl (is' := [_, _, _]) rfl Taken.no) rfl rfl rfl (S' := (103, _) :: _) rfl ?_
  refine WH.nil ?_
  refine E.inn ?_
  refine E.to ?_
  refine W.pick (.cons (t := 1) rfl (.cons (t := 2) rfl (.cons (t := 3) rfl (.cons (t := 4) rfl .nil)))) (.cons (t := 101) rfl (.cons (t := 102) rfl (.cons (t := 103) rfl (.cons (t := 106) rfl (.cons (t := 107) rfl (.cons (t := 108) rfl .nil)))))) ?_
  refine W.region ?_
  refine SL.val (O.move rfl rfl Taken.no) ?_
  refine SL.val (O.det (fun _ => by first | exact G.R.add64 rfl rfl (by omega) | exact G.R.add rfl rfl) rfl Taken.no) ?_
  refine SL.val (O.assign rfl rfl Taken.no) ?_
  refine SL.nil ?_
  refine E.again ((k + 1)) (rn [(104, 108)]) ?_ ?_ rfl (fixL_spec rfl) ?_ ?_
  · exact (SubF.cons rfl (SubF.cons rfl (SubF.cons rfl (SubF.cons rfl SubF.nil))))
  · exact (SubS.val rfl (by (try dsimp only); exact sb_data (by rw [snocT (by omega)])) (SubS.cons rfl (SubS.cons rfl (SubS.cons rfl SubS.nil))))
  ·try dsimp only
   omega
  · (try dsimp only); omega
 ·skip
  refine W.exit ?_
  refine E.th ?_
  refine E.th ?_
  refine E.hit ?_
  refine E.to ?_
  refine W.seq ?_
  refine W.region ?_
  refine SL.val (O.ldN (m := 3) (PtI.ref rfl rfl) (js := [_, _, _]) rfl (Nat.le_of_ble_eq_true rfl) Try.underlying73 rfl (by kernel_rfl) rfl Taken.no) ?_
  refine SL.effS (O.st_ref (m := 3) rfl rfl rfl (js := [_, _, _]) rfl rfl (by kernel_rfl) (by simp) (Nat.le_of_ble_eq_true rfl) rfl (is' := [_, _, _]) rfl Taken.no) (S' := (102, _) :: _) rfl ?_
  refine SL.nil ?_
  refine E.to ?_
  refine W.ret ?_
  refine E.freezeC 102 2 104 (is' := [_, _, _]) rfl rfl rfl rfl ?_
  refine E.fin (rs := [_]) (rn []) (.inl rfl) rfl (.cons (ResOne.cellN (m := 3) (PtI.ref rfl rfl) (js := [_, _, _]) rfl (Nat.le_of_ble_eq_true rfl) Try.underlying73 rfl (by kernel_rfl)) .nil) ?_ ?_ rfl (fixL_spec rfl)
  ·skip
   obtain rfl : k = st.opn.length := by omega
   rw [List.take_length]; rfl
  · exact SubS.nil

set_option maxRecDepth 8000 in
/-- bookplate/bookplatelaw51.store. -/
theorem store_h {st : Store} (hb : st.opn.length ≤ 1000) :
    Con Try.prog 40 [vA [uI st.next, uI st.time, .sl 4 (st.opn.map eO)]] [] (.agg [vI st.next, vI st.time, vL 4 (st.opn.map eO)]) [] := by
 obtain ⟨i92, hi92, hz92, hs92, hb92⟩ := hinf92
 obtain ⟨i119, hi119, hz119, hs119, hb119⟩ := hinf119
 refine Con.enterL (n := 36) Try.func40 rfl rfl rfl (fun τ w ok vs hin => ?_)
 have hl0_2 := hin.lenA (i := 0) (j := 2) rfl rfl
 try rw [List.length_map] at hl0_2
 clear hin
 refine W.seq ?_
 refine W.region ?_
 refine SL.memS (O.box (is := [_, _, _]) 101 rfl rfl (by simp) rfl rfl Taken.no) rfl rfl (S' := (101, _) :: _) rfl ?_
 refine SL.memS (O.alloc (z := .agg #[.int .i64 0, .int .i64 0, .slice none 0 0]) (is := [.u (.sc (.int .i64 0)), .u (.sc (.int .i64 0)), .u (.sc (.slice none 0 0))]) 102 (by kernel_rfl) rfl rfl rfl Taken.no) rfl rfl (S' := (102, _) :: _) rfl ?_
 refine SL.nil ?_
 refine E.to ?_
 refine W.seq ?_
 refine W.region ?_
 refine SL.val (O.fld_ref (o' := 0) rfl Try.underlying73 rfl (m := 0) (by kernel_rfl) rfl rfl Taken.no) ?_
 refine SL.val (O.ld1 (PtI.ref rfl rfl) rfl Try.underlying3 rfl rfl Taken.no) ?_
 refine SL.val (O.fld_ref (o' := 1) rfl Try.underlying73 rfl (m := 0) (by kernel_rfl) rfl rfl Taken.no) ?_
 refine SL.val (O.ld1 (PtI.ref rfl rfl) rfl Try.underlying3 rfl rfl Taken.no) ?_
 refine SL.val (O.build (res := [_, _, _]) (z := .agg #[.int .i64 0, .int .i64 0, .slice none 0 0]) (places := [(0, 1), (1, 1), (2, 1)]) rfl rfl Try.underlying77 (by kernel_rfl) (fun _ => by kernel_rfl) rfl rfl Taken.no) ?_
 refine SL.memS (O.alloc (z := .agg #[.int .i64 0, .int .i64 0, .slice none 0 0]) (is := [.u (.sc (.int .i64 0)), .u (.sc (.int .i64 0)), .u (.sc (.slice none 0 0))]) 103 (by kernel_rfl) rfl rfl rfl Taken.no) rfl rfl (S' := (103, _) :: _) rfl ?_
 refine SL.effS (O.st_ref (m := 3) rfl rfl rfl (js := [_, _, _]) rfl rfl (by kernel_rfl) (by simp) (Nat.le_of_ble_eq_true rfl) rfl (is' := [_, _, _]) rfl Taken.no) (S' := (103, _) :: _) rfl ?_
 refine SL.nil ?_
 refine E.to ?_
 refine W.seq ?_
 refine W.seq ?_
 refine W.region ?_
 refine SL.val (O.assign rfl rfl Taken.no) ?_
 refine SL.nil ?_
 refine E.to ?_
 refine W.block ?_
 refine W.adoptC 103 2 105 92 4 (is' := [_, _, _]) (by decide) rfl rfl rfl rfl rfl ?_
 refine W.loopx1 (fun (k : Nat) => [(4, vI (k : Int))]) (fun (k : Nat) => [(104, .data 92 4 ((st.opn.take k).map eO)), (103, .cells 77 [.u (uI st.next), .u (uI st.time), .own 104])]) (fun (k : Nat) => k ≤ st.opn.length) (fun (k : Nat) => st.opn.length - k) (0) (rn [(104, 105)]) (.cons (t := 1) rfl (.cons (t := 2) rfl (.cons (t := 3) rfl .nil))) (.cons (t := 101) rfl (.cons (t := 102) rfl .nil)) rfl ?_ ?_ rfl rfl ?_ ?_
 · exact (SubF.cons rfl SubF.nil)
 · exact (SubS.cons rfl (SubS.cons rfl SubS.nil))
 ·skip
  omega
 intro k hinv
 have hk := hinv
 have htl : (st.opn.take k).length = k := by rw [List.length_take]; omega
 refine W.seq ?_
 refine W.seq ?_
 refine W.region ?_
 refine SL.val (O.move rfl rfl Taken.no) ?_
 refine SL.val (O.fld_ref (o' := 2) rfl Try.underlying73 rfl (m := 0) (by kernel_rfl) rfl rfl Taken.no) ?_
 refine SL.val (O.ld1 (PtI.ref rfl rfl) rfl Try.underlying71 rfl rfl Taken.no) ?_
 refine SL.val (O.lenE (SlOf.fz rfl (by decide)) (by first | exact List.length_map _ | rfl) Try.underlying71 rfl Taken.no) ?_
 refine SL.val (O.det (fun _ => G.R.lss rfl rfl) rfl Taken.no) ?_
 refine SL.nil ?_
 refine E.to ?_
 first | refine W.cond_d rfl (fun hc1 => ?_) (fun hc1 => ?_) | refine W.cond_nd rfl (fun hc1 => ?_) (fun hc1 => ?_) | refine W.cond rfl (fun hc1 => ?_) (fun hc1 => ?_)
 ·skip
  refine W.skip ?_
  refine E.to ?_
  refine W.seq ?_
  refine W.block ?_
  refine W.seq ?_
  refine W.region ?_
  refine SL.val (O.fld_ref (o' := 2) rfl Try.underlying73 rfl (m := 0) (by kernel_rfl) rfl rfl Taken.no) ?_
  refine SL.val (O.ld1 (PtI.ref rfl rfl) rfl Try.underlying71 rfl rfl Taken.no) ?_
  refine SL.val (O.move rfl rfl Taken.no) ?_
  refine SL.val (O.idx_fz rfl rfl (rfl) (row_get (by omega)) Try.underlying71 hi119 hs119 rfl Taken.no) ?_
  refine SL.val (O.ldU (m := 4) (PtU.fz rfl) rfl Try.underlying119 rfl (by kernel_rfl) rfl Taken.no) ?_
  refine SL.memS (O.alloc (z := .agg #[.int .i64 0, .int .i64 0, .int .i64 0, .slice none 0 0]) (is := [.u (.sc (.int .i64 0)), .u (.sc (.int .i64 0)), .u (.sc (.int .i64 0)), .u (.sc (.slice none 0 0))]) 106 (by kernel_rfl) rfl rfl rfl Taken.no) rfl rfl (S' := (106, _) :: _) rfl ?_
  refine SL.effS (O.st_ref (m := 4) rfl rfl rfl (js := [_, _, _, _]) rfl rfl (by kernel_rfl) (by simp) (Nat.le_of_ble_eq_true rfl) rfl (is' := [_, _, _, _]) rfl Taken.no) (S' := (106, _) :: _) rfl ?_
  refine SL.nil ?_
  refine E.to ?_
  refine W.region ?_
  refine SL.val (O.fld_ref (o' := 2) rfl Try.underlying77 rfl (m := 0) (by kernel_rfl) rfl rfl Taken.no) ?_
  refine SL.val (O.ld1 (PtI.ref rfl rfl) rfl Try.underlying75 rfl rfl Taken.no) ?_
  refine SL.val (O.fld_ref (o' := 0) rfl Try.underlying119 rfl (m := 0) (by kernel_rfl) rfl rfl Taken.no) ?_
  refine SL.val (O.ld1 (PtI.ref rfl rfl) rfl Try.underlying3 rfl rfl Taken.no) ?_
  refine SL.val (O.fld_ref (o' := 1) rfl Try.underlying119 rfl (m := 0) (by kernel_rfl) rfl rfl Taken.no) ?_
  refine SL.val (O.ld1 (PtI.ref rfl rfl) rfl Try.underlying3 rfl rfl Taken.no) ?_
  refine SL.val (O.fld_ref (o' := 2) rfl Try.underlying119 rfl (m := 1) (by kernel_rfl) rfl rfl Taken.no) ?_
  refine SL.val (O.ldN (m := 2) (PtI.ref rfl rfl) (js := [_, _]) rfl (Nat.le_of_ble_eq_true rfl) Try.underlying27 rfl (by kernel_rfl) rfl Taken.no) ?_
  refine SL.val (O.build (res := [_, _, _, _]) (z := .agg #[.int .i64 0, .int .i64 0, .int .i64 0, .slice none 0 0]) (places := [(0, 1), (1, 1), (2, 2)]) rfl rfl Try.underlying92 (by kernel_rfl) (fun _ => by kernel_rfl) rfl rfl Taken.no) ?_
  refine SL.memS (O.buildSlice 107 rfl rfl Try.underlying75 hi92 hz92 hs92 (by decide) rfl (by decide) rfl rfl rfl Taken.no) rfl rfl (S' := (107, _) :: _) rfl ?_
  refine SL.memS (O.app (k' := 108) rfl rfl (SlOf.own rfl rfl) Try.underlying75 hi92 hz92 hs92 rfl rfl (by exact map_snoc (x := st.opn[k]!) rfl) (by rw [hb92]; first | omega | (simp only [List.length_map]; omega) | (simp <;> omega)) (by first | omega | (simp only [List.length_map]; omega) | (simp <;> omega)) rfl Taken.no) rfl rfl (S' := (108, _) :: (104, .dead) :: _) rfl ?_
  refine SL.val (O.fld_ref (o' := 2) rfl Try.underlying77 rfl (m := 0) (by kernel_rfl) rfl rfl Taken.no) ?_
  refine SL.effS (O.st_ref (m := 1) rfl rfl rfl (js := [_]) rfl rfl (by kernel_rfl) (by simp) (Nat.le_of_ble_eq_true rfl) rfl (is' := [_, _, _]) rfl Taken.no) (S' := (103, _) :: _) rfl ?_
  refine SL.nil ?_
  refine E.inn ?_
  refine E.to ?_
  refine W.pick (.cons (t := 1) rfl (.cons (t := 2) rfl (.cons (t := 3) rfl (.cons (t := 4) rfl .nil)))) (.cons (t := 101) rfl (.cons (t := 102) rfl (.cons (t := 103) rfl (.cons (t := 106) rfl (.cons (t := 107) rfl (.cons (t := 108) rfl .nil)))))) ?_
  refine W.region ?_
  refine SL.val (O.move rfl rfl Taken.no) ?_
  refine SL.val (O.det (fun _ => by first | exact G.R.add64 rfl rfl (by omega) | exact G.R.add rfl rfl) rfl Taken.no) ?_
  refine SL.val (O.assign rfl rfl Taken.no) ?_
  refine SL.nil ?_
  refine E.again ((k + 1)) (rn [(104, 108)]) ?_ ?_ rfl (fixL_spec rfl) ?_ ?_
  · exact (SubF.cons rfl (SubF.cons rfl (SubF.cons rfl (SubF.cons rfl SubF.nil))))
  · exact (SubS.val rfl (by (try dsimp only); exact sb_data (by rw [snocT (by omega)])) (SubS.cons rfl (SubS.cons rfl (SubS.cons rfl SubS.nil))))
  ·try dsimp only
   omega
  · (try dsimp only); omega
 ·skip
  refine W.exit ?_
  refine E.th ?_
  refine E.th ?_
  refine E.hit ?_
  refine E.to ?_
  refine W.seq ?_
  refine W.region ?_
  refine SL.val (O.ldN (m := 3) (PtI.ref rfl rfl) (js := [_, _, _]) rfl (Nat.le_of_ble_eq_true rfl) Try.underlying77 rfl (by kernel_rfl) rfl Taken.no) ?_
  refine SL.effS (O.st_ref (m := 3) rfl rfl rfl (js := [_, _, _]) rfl rfl (by kernel_rfl) (by simp) (Nat.le_of_ble_eq_true rfl) rfl (is' := [_, _, _]) rfl Taken.no) (S' := (102, _) :: _) rfl ?_
  refine SL.nil ?_
  refine E.to ?_
  refine W.ret ?_
  refine E.freezeC 102 2 104 (is' := [_, _, _]) rfl rfl rfl rfl ?_
  refine E.fin (rs := [_]) (rn []) (.inl rfl) rfl (.cons (ResOne.cellN (m := 3) (PtI.ref rfl rfl) (js := [_, _, _]) rfl (Nat.le_of_ble_eq_true rfl) Try.underlying77 rfl (by kernel_rfl)) .nil) ?_ ?_ rfl (fixL_spec rfl)
  ·skip
   obtain rfl : k = st.opn.length := by omega
   rw [List.take_length]; rfl
  · exact SubS.nil

set_option maxRecDepth 8000 in
/-- bookplate/bookplateref51.SameStore. -/
theorem sameStore_h {a b : Store} :
    Con Try.prog 39 [vA [uI a.next, uI a.time, .sl 4 (a.opn.map eO)], vA [uI b.next, uI b.time, .sl 4 (b.opn.map eO)]] [] (vB (decide (a = b))) [] := by
 obtain ⟨i92, hi92, hz92, hs92, hb92⟩ := hinf92
 refine Con.enterL (n := 78) Try.func39 rfl rfl rfl (fun τ w ok vs hin => ?_)
 have hl0_2 := hin.lenA (i := 0) (j := 2) rfl rfl
 try rw [List.length_map] at hl0_2
 have hl1_2 := hin.lenA (i := 1) (j := 2) rfl rfl
 try rw [List.length_map] at hl1_2
 clear hin
 refine W.seq ?_
 refine W.region ?_
 refine SL.memS (O.box (is := [_, _, _]) 101 rfl rfl (by simp) rfl rfl Taken.no) rfl rfl (S' := (101, _) :: _) rfl ?_
 refine SL.memS (O.box (is := [_, _, _]) 102 rfl rfl (by simp) rfl rfl Taken.no) rfl rfl (S' := (102, _) :: _) rfl ?_
 refine SL.val (O.assign rfl rfl Taken.no) ?_
 refine SL.nil ?_
 refine E.to ?_
 refine W.seq ?_
 refine W.seq ?_
 refine W.region ?_
 refine SL.val (O.fld_ref (o' := 0) rfl Try.underlying77 rfl (m := 0) (by kernel_rfl) rfl rfl Taken.no) ?_
 refine SL.val (O.ld1 (PtI.ref rfl rfl) rfl Try.underlying3 rfl rfl Taken.no) ?_
 refine SL.val (O.fld_ref (o' := 0) rfl Try.underlying77 rfl (m := 0) (by kernel_rfl) rfl rfl Taken.no) ?_
 refine SL.val (O.ld1 (PtI.ref rfl rfl) rfl Try.underlying3 rfl rfl Taken.no) ?_
 refine SL.val (O.det (fun _ => G.R.neq rfl rfl) rfl Taken.no) ?_
 refine SL.val (O.move rfl rfl Taken.no) ?_
 refine SL.case (j := 5) (g := 11) (want := false) rfl rfl (fun hg1 => ?_) (fun hg1 => ?_)
 ·skip
  first | have hg1p := G.gA3 hg1 | have hg1p := G.gA4 hg1 | have hg1p := hg1
  refine SL.val (O.fld_ref (o' := 1) rfl Try.underlying77 rfl (m := 0) (by kernel_rfl) rfl rfl (Taken.yes rfl rfl hg1)) ?_
  refine SL.val (O.ld1 (PtI.ref rfl rfl) rfl Try.underlying3 rfl rfl (Taken.yes rfl rfl hg1)) ?_
  refine SL.val (O.fld_ref (o' := 1) rfl Try.underlying77 rfl (m := 0) (by kernel_rfl) rfl rfl (Taken.yes rfl rfl hg1)) ?_
  refine SL.val (O.ld1 (PtI.ref rfl rfl) rfl Try.underlying3 rfl rfl (Taken.yes rfl rfl hg1)) ?_
  refine SL.val (O.det (fun _ => G.R.neq rfl rfl) rfl (Taken.yes rfl rfl hg1)) ?_
  refine SL.val (O.pick_f rfl hg1 rfl rfl Taken.no) ?_
  refine SL.val (O.move rfl rfl Taken.no) ?_
  refine SL.case (j := 12) (g := 18) (want := false) rfl rfl (fun hg2 => ?_) (fun hg2 => ?_)
  ·skip
   first | have hg2p := G.gA3 hg2 | have hg2p := G.gA4 hg2 | have hg2p := hg2
   refine SL.val (O.fld_ref (o' := 2) rfl Try.underlying77 rfl (m := 0) (by kernel_rfl) rfl rfl (Taken.yes rfl rfl hg2)) ?_
   refine SL.val (O.ld1 (PtI.ref rfl rfl) rfl Try.underlying75 rfl rfl (Taken.yes rfl rfl hg2)) ?_
   refine SL.val (O.lenE (SlOf.fz rfl (by decide)) (by first | exact List.length_map _ | rfl) Try.underlying75 rfl (Taken.yes rfl rfl hg2)) ?_
   refine SL.val (O.fld_ref (o' := 2) rfl Try.underlying77 rfl (m := 0) (by kernel_rfl) rfl rfl (Taken.yes rfl rfl hg2)) ?_
   refine SL.val (O.ld1 (PtI.ref rfl rfl) rfl Try.underlying75 rfl rfl (Taken.yes rfl rfl hg2)) ?_
   refine SL.val (O.lenE (SlOf.fz rfl (by decide)) (by first | exact List.length_map _ | rfl) Try.underlying75 rfl (Taken.yes rfl rfl hg2)) ?_
   refine SL.val (O.det (fun _ => G.R.neq rfl rfl) rfl (Taken.yes rfl rfl hg2)) ?_
   refine SL.val (O.pick_f rfl hg2 rfl rfl Taken.no) ?_
   refine SL.nil ?_
   refine E.to ?_
   refine W.pick (.cons (t := 2) rfl (.cons (t := 3) rfl (.cons (t := 4) rfl (.cons (t := 26) rfl .nil)))) (.cons (t := 101) rfl (.cons (t := 102) rfl .nil)) ?_
   first | refine W.cond_d rfl (fun hc3 => ?_) (fun hc3 => ?_) | refine W.cond_nd rfl (fun hc3 => ?_) (fun hc3 => ?_) | refine W.cond rfl (fun hc3 => ?_) (fun hc3 => ?_)
   ·skip
    refine W.seq ?_
    refine W.region ?_
    refine SL.val (O.assign rfl rfl Taken.no) ?_
    refine SL.nil ?_
    refine E.to ?_
    refine W.ret ?_
    refine E.thr ?_
    refine E.fin (rs := [_]) (rn []) (.inl rfl) rfl (.cons (ResOne.tmp rfl) .nil) ?_ ?_ rfl (fixL_spec rfl)
    ·skip
     exact iv_bool (decide_eq_false fun e => by subst e; omega)
    · exact SubS.nil
   ·skip
    refine W.skip ?_
    refine E.to ?_
    refine W.seq ?_
    refine W.seq ?_
    refine W.region ?_
    refine SL.val (O.assign rfl rfl Taken.no) ?_
    refine SL.nil ?_
    refine E.to ?_
    refine W.block ?_
    refine W.loopx1 (fun (k : Nat) => [(5, vI (k : Int))]) (fun (k : Nat) => []) (fun (k : Nat) => k ≤ a.opn.length ∧ ∀ j, j < k → a.opn[j]! = b.opn[j]!) (fun (k : Nat) => a.opn.length - k) (0) (rn []) (.cons (t := 2) rfl (.cons (t := 3) rfl .nil)) (.cons (t := 101) rfl (.cons (t := 102) rfl .nil)) rfl ?_ ?_ rfl rfl ?_ ?_
    · exact (SubF.cons rfl SubF.nil)
    · exact SubS.nil
    ·skip
     exact ⟨by omega, fun j h => by omega⟩
    intro k hinv
    obtain ⟨hk, hp⟩ := hinv
    refine W.seq ?_
    refine W.seq ?_
    refine W.region ?_
    refine SL.val (O.move rfl rfl Taken.no) ?_
    refine SL.val (O.fld_ref (o' := 2) rfl Try.underlying77 rfl (m := 0) (by kernel_rfl) rfl rfl Taken.no) ?_
    refine SL.val (O.ld1 (PtI.ref rfl rfl) rfl Try.underlying75 rfl rfl Taken.no) ?_
    refine SL.val (O.lenE (SlOf.fz rfl (by decide)) (by first | exact List.length_map _ | rfl) Try.underlying75 rfl Taken.no) ?_
    refine SL.val (O.det (fun _ => G.R.lss rfl rfl) rfl Taken.no) ?_
    refine SL.nil ?_
    refine E.to ?_
    first | refine W.cond_d rfl (fun hc4 => ?_) (fun hc4 => ?_) | refine W.cond_nd rfl (fun hc4 => ?_) (fun hc4 => ?_) | refine W.cond rfl (fun hc4 => ?_) (fun hc4 => ?_)
    ·skip
     refine W.skip ?_
     refine E.to ?_
     refine W.seq ?_
     refine W.block ?_
     refine W.seq ?_
     refine W.draw [⟨[101], [], []⟩, ⟨[101], [], []⟩, ⟨[], [], []⟩, ⟨[], [], []⟩, ⟨[], [], []⟩, ⟨[], [], []⟩, ⟨[102], [], []⟩, ⟨[102], [], []⟩, ⟨[], [], []⟩, ⟨[], [], []⟩, ⟨[], [], []⟩, ⟨[], [], []⟩, ⟨[], [], []⟩, ⟨[], [], []⟩, ⟨[101], [], []⟩, ⟨[101], [], []⟩, ⟨[], [], []⟩, ⟨[], [], []⟩, ⟨[], [], []⟩, ⟨[], [], []⟩, ⟨[102], [], []⟩, ⟨[102], [], []⟩, ⟨[], [], []⟩, ⟨[], [], []⟩, ⟨[], [], []⟩, ⟨[], [], []⟩, ⟨[], [], []⟩, ⟨[], [], []⟩, ⟨[], [], []⟩, ⟨[101], [], []⟩, ⟨[101], [], []⟩, ⟨[], [], []⟩, ⟨[], [], []⟩, ⟨[], [], []⟩, ⟨[], [], []⟩, ⟨[102], [], []⟩, ⟨[102], [], []⟩, ⟨[], [], []⟩, ⟨[], [], []⟩, ⟨[], [], []⟩, ⟨[], [], []⟩, ⟨[], [], []⟩, ⟨[], [], []⟩, ⟨[], [], []⟩] rfl (by kernel_rfl) (by kernel_rfl) rfl rfl ?_
     refine WH.val (O.fld_ref (o' := 2) rfl Try.underlying77 rfl (m := 0) (by kernel_rfl) rfl rfl Taken.no) rfl rfl ?_
     refine WH.val (O.ld1 (PtI.ref rfl rfl) rfl Try.underlying75 rfl rfl Taken.no) rfl rfl ?_
     refine WH.val (O.move rfl rfl Taken.no) rfl rfl ?_
     refine WH.val (O.idx_fz rfl rfl (rfl) (row_get (by omega)) Try.underlying75 hi92 hs92 rfl Taken.no) rfl rfl ?_
     refine WH.val (O.fld_fz rfl Try.underlying92 rfl (m := 0) (by kernel_rfl) rfl rfl Taken.no) rfl rfl ?_
     refine WH.val (O.ld1 (PtI.ofU (PtU.fz rfl)) rfl Try.underlying3 rfl rfl Taken.no) rfl rfl ?_
     refine WH.val (O.fld_ref (o' := 2) rfl Try.underlying77 rfl (m := 0) (by kernel_rfl) rfl rfl Taken.no) rfl rfl ?_
     refine WH.val (O.ld1 (PtI.ref rfl rfl) rfl Try.underlying75 rfl rfl Taken.no) rfl rfl ?_
     refine WH.val (O.move rfl rfl Taken.no) rfl rfl ?_
     refine WH.val (O.idx_fz rfl rfl (rfl) (row_get (by omega)) Try.underlying75 hi92 hs92 rfl Taken.no) rfl rfl ?_
     refine WH.val (O.fld_fz rfl Try.underlying92 rfl (m := 0) (by kernel_rfl) rfl rfl Taken.no) rfl rfl ?_
     refine WH.val (O.ld1 (PtI.ofU (PtU.fz rfl)) rfl Try.underlying3 rfl rfl Taken.no) rfl rfl ?_
     refine WH.val (O.det (fun _ => G.R.neq rfl rfl) rfl Taken.no) rfl rfl ?_
     refine WH.val (O.move rfl rfl Taken.no) rfl rfl ?_
     refine WH.case (j := 13) (g := 47) (want := false) rfl rfl (fun hg5 => ?_) (fun hg5 => ?_)
     ·skip
      first | have hg5p := G.gA3 hg5 | have hg5p := G.gA4 hg5 | have hg5p := hg5
      refine WH.val (O.fld_ref (o' := 2) rfl Try.underlying77 rfl (m := 0) (by kernel_rfl) rfl rfl (Taken.yes rfl rfl hg5)) rfl rfl ?_
      refine WH.val (O.ld1 (PtI.ref rfl rfl) rfl Try.underlying75 rfl rfl (Taken.yes rfl rfl hg5)) rfl rfl ?_
      refine WH.val (O.move rfl rfl (Taken.yes rfl rfl hg5)) rfl rfl ?_
      refine WH.val (O.idx_fz rfl rfl (rfl) (row_get (by omega)) Try.underlying75 hi92 hs92 rfl (Taken.yes rfl rfl hg5)) rfl rfl ?_
      refine WH.val (O.fld_fz rfl Try.underlying92 rfl (m := 0) (by kernel_rfl) rfl rfl (Taken.yes rfl rfl hg5)) rfl rfl ?_
      refine WH.val (O.ld1 (PtI.ofU (PtU.fz rfl)) rfl Try.underlying3 rfl rfl (Taken.yes rfl rfl hg5)) rfl rfl ?_
      refine WH.val (O.fld_ref (o' := 2) rfl Try.underlying77 rfl (m := 0) (by kernel_rfl) rfl rfl (Taken.yes rfl rfl hg5)) rfl rfl ?_
      refine WH.val (O.ld1 (PtI.ref rfl rfl) rfl Try.underlying75 rfl rfl (Taken.yes rfl rfl hg5)) rfl rfl ?_
      refine WH.val (O.move rfl rfl (Taken.yes rfl rfl hg5)) rfl rfl ?_
      refine WH.val (O.idx_fz rfl rfl (rfl) (row_get (by omega)) Try.underlying75 hi92 hs92 rfl (Taken.yes rfl rfl hg5)) rfl rfl ?_
      refine WH.val (O.fld_fz rfl Try.underlying92 rfl (m := 0) (by kernel_rfl) rfl rfl (Taken.yes rfl rfl hg5)) rfl rfl ?_
      refine WH.val (O.ld1 (PtI.ofU (PtU.fz rfl)) rfl Try.underlying3 rfl rfl (Taken.yes rfl rfl hg5)) rfl rfl ?_
      refine WH.val (O.det (fun _ => G.R.neq rfl rfl) rfl (Taken.yes rfl rfl hg5)) rfl rfl ?_
      refine WH.val (O.pick_f rfl hg5 rfl rfl Taken.no) rfl rfl ?_
      refine WH.val (O.move rfl rfl Taken.no) rfl rfl ?_
      refine WH.case (j := 28) (g := 62) (want := false) rfl rfl (fun hg6 => ?_) (fun hg6 => ?_)
      ·skip
       first | have hg6p := G.gA3 hg6 | have hg6p := G.gA4 hg6 | have hg6p := hg6
       refine WH.val (O.fld_ref (o' := 2) rfl Try.underlying77 rfl (m := 0) (by kernel_rfl) rfl rfl (Taken.yes rfl rfl hg6)) rfl rfl ?_
       refine WH.val (O.ld1 (PtI.ref rfl rfl) rfl Try.underlying75 rfl rfl (Taken.yes rfl rfl hg6)) rfl rfl ?_
       refine WH.val (O.move rfl rfl (Taken.yes rfl rfl hg6)) rfl rfl ?_
       refine WH.val (O.idx_fz rfl rfl (rfl) (row_get (by omega)) Try.underlying75 hi92 hs92 rfl (Taken.yes rfl rfl hg6)) rfl rfl ?_
       refine WH.val (O.fld_fz rfl Try.underlying92 rfl (m := 1) (by kernel_rfl) rfl rfl (Taken.yes rfl rfl hg6)) rfl rfl ?_
       refine WH.val (O.ldU (m := 2) (PtU.fz rfl) rfl Try.underlying31 rfl (by kernel_rfl) rfl (Taken.yes rfl rfl hg6)) rfl rfl ?_
       refine WH.val (O.fld_ref (o' := 2) rfl Try.underlying77 rfl (m := 0) (by kernel_rfl) rfl rfl (Taken.yes rfl rfl hg6)) rfl rfl ?_
       refine WH.val (O.ld1 (PtI.ref rfl rfl) rfl Try.underlying75 rfl rfl (Taken.yes rfl rfl hg6)) rfl rfl ?_
       refine WH.val (O.move rfl rfl (Taken.yes rfl rfl hg6)) rfl rfl ?_
       refine WH.val (O.idx_fz rfl rfl (rfl) (row_get (by omega)) Try.underlying75 hi92 hs92 rfl (Taken.yes rfl rfl hg6)) rfl rfl ?_
       refine WH.val (O.fld_fz rfl Try.underlying92 rfl (m := 1) (by kernel_rfl) rfl rfl (Taken.yes rfl rfl hg6)) rfl rfl ?_
       refine WH.val (O.ldU (m := 2) (PtU.fz rfl) rfl Try.underlying31 rfl (by kernel_rfl) rfl (Taken.yes rfl rfl hg6)) rfl rfl ?_
       refine WH.val (O.callp rfl rfl rfl (equal_h (a := a.opn[k]!.s) (b := b.opn[k]!.s)) (.cons (ArgOk.same rfl) (.cons (ArgOk.same rfl) .nil)) hcallOk20 rfl (Taken.yes rfl rfl hg6)) rfl rfl ?_
       refine WH.val (O.det (fun _ => G.R.not rfl) rfl (Taken.yes rfl rfl hg6)) rfl rfl ?_
       refine WH.val (O.pick_f rfl hg6 rfl rfl Taken.no) rfl rfl ?_
       refine WH.nil ?_
       refine E.to ?_
       refine W.pick (.cons (t := 2) rfl (.cons (t := 3) rfl (.cons (t := 5) rfl (.cons (t := 77) rfl .nil)))) (.cons (t := 101) rfl (.cons (t := 102) rfl .nil)) ?_
       first | refine W.cond_d rfl (fun hc7 => ?_) (fun hc7 => ?_) | refine W.cond_nd rfl (fun hc7 => ?_) (fun hc7 => ?_) | refine W.cond rfl (fun hc7 => ?_) (fun hc7 => ?_)
       ·skip
        refine W.seq ?_
        refine W.region ?_
        refine SL.val (O.assign rfl rfl Taken.no) ?_
        refine SL.nil ?_
        refine E.to ?_
        refine W.ret ?_
        refine E.inr ?_
        refine E.thr ?_
        refine E.thr ?_
        refine E.inr ?_
        refine E.thr ?_
        refine E.fin (rs := [_]) (rn []) (.inl rfl) rfl (.cons (ResOne.tmp rfl) .nil) ?_ ?_ rfl (fixL_spec rfl)
        ·skip
         exact iv_bool (decide_eq_false fun e => by subst e; simp_all)
        · exact SubS.nil
       ·skip
        refine W.skip ?_
        refine E.inn ?_
        refine E.to ?_
        refine W.region ?_
        refine SL.val (O.move rfl rfl Taken.no) ?_
        refine SL.val (O.det (fun _ => by first | exact G.R.add64 rfl rfl (by omega) | exact G.R.add rfl rfl) rfl Taken.no) ?_
        refine SL.val (O.assign rfl rfl Taken.no) ?_
        refine SL.nil ?_
        refine E.again ((k + 1)) (rn []) ?_ ?_ rfl (fixL_spec rfl) ?_ ?_
        · exact (SubF.cons rfl (SubF.cons rfl (SubF.cons rfl SubF.nil)))
        · exact (SubS.cons rfl (SubS.cons rfl SubS.nil))
        ·try dsimp only
         exact ⟨by omega, fun j hj => by rcases Nat.lt_succ_iff_lt_or_eq.1 hj with h | h; exact hp j h; subst h; exact Opn.ext (by omega) (by omega) (by simp_all) (by simp_all)⟩
        · (try dsimp only); omega
      ·skip
       first | have hg6p := G.gA7 hg6 | have hg6p := G.gA8 hg6 | have hg6p := hg6
       refine WH.skip (OpOk.not rfl rfl rfl hg6) ?_
       refine WH.skip (OpOk.not rfl rfl rfl hg6) ?_
       refine WH.skip (OpOk.not rfl rfl rfl hg6) ?_
       refine WH.skip (OpOk.not rfl rfl rfl hg6) ?_
       refine WH.skip (OpOk.not rfl rfl rfl hg6) ?_
       refine WH.skip (OpOk.not rfl rfl rfl hg6) ?_
       refine WH.skip (OpOk.not rfl rfl rfl hg6) ?_
       refine WH.skip (OpOk.not rfl rfl rfl hg6) ?_
       refine WH.skip (OpOk.not rfl rfl rfl hg6) ?_
       refine WH.skip (OpOk.not rfl rfl rfl hg6) ?_
       refine WH.skip (OpOk.not rfl rfl rfl hg6) ?_
       refine WH.skip (OpOk.not rfl rfl rfl hg6) ?_
       refine WH.skip (OpOk.not rfl rfl rfl hg6) ?_
       refine WH.skip (OpOk.not rfl rfl rfl hg6) ?_
       refine WH.val (O.pick_t rfl (G.ne_f hg6) rfl rfl Taken.no) rfl rfl ?_
       refine WH.nil ?_
       refine E.to ?_
       refine W.pick (.cons (t := 2) rfl (.cons (t := 3) rfl (.cons (t := 5) rfl (.cons (t := 77) rfl .nil)))) (.cons (t := 101) rfl (.cons (t := 102) rfl .nil)) ?_
       refine W.cond_t rfl ?_
       refine W.seq ?_
       refine W.region ?_
       refine SL.val (O.assign rfl rfl Taken.no) ?_
       refine SL.nil ?_
       refine E.to ?_
       refine W.ret ?_
       refine E.inr ?_
       refine E.thr ?_
       refine E.thr ?_
       refine E.inr ?_
       refine E.thr ?_
       refine E.fin (rs := [_]) (rn []) (.inl rfl) rfl (.cons (ResOne.tmp rfl) .nil) ?_ ?_ rfl (fixL_spec rfl)
       ·skip
        exact iv_bool (decide_eq_false fun e => by subst e; simp_all)
       · exact SubS.nil
     ·skip
      first | have hg5p := G.gA7 hg5 | have hg5p := G.gA8 hg5 | have hg5p := hg5
      refine WH.skip (OpOk.not rfl rfl rfl hg5) ?_
      refine WH.skip (OpOk.not rfl rfl rfl hg5) ?_
      refine WH.skip (OpOk.not rfl rfl rfl hg5) ?_
      refine WH.skip (OpOk.not rfl rfl rfl hg5) ?_
      refine WH.skip (OpOk.not rfl rfl rfl hg5) ?_
      refine WH.skip (OpOk.not rfl rfl rfl hg5) ?_
      refine WH.skip (OpOk.not rfl rfl rfl hg5) ?_
      refine WH.skip (OpOk.not rfl rfl rfl hg5) ?_
      refine WH.skip (OpOk.not rfl rfl rfl hg5) ?_
      refine WH.skip (OpOk.not rfl rfl rfl hg5) ?_
      refine WH.skip (OpOk.not rfl rfl rfl hg5) ?_
      refine WH.skip (OpOk.not rfl rfl rfl hg5) ?_
      refine WH.skip (OpOk.not rfl rfl rfl hg5) ?_
      refine WH.val (O.pick_t rfl (G.ne_f hg5) rfl rfl Taken.no) rfl rfl ?_
      refine WH.val (O.move rfl rfl Taken.no) rfl rfl ?_
      have hg8 : true ≠ false := by decide
      refine WH.skip (OpOk.not rfl rfl rfl hg8) ?_
      refine WH.skip (OpOk.not rfl rfl rfl hg8) ?_
      refine WH.skip (OpOk.not rfl rfl rfl hg8) ?_
      refine WH.skip (OpOk.not rfl rfl rfl hg8) ?_
      refine WH.skip (OpOk.not rfl rfl rfl hg8) ?_
      refine WH.skip (OpOk.not rfl rfl rfl hg8) ?_
      refine WH.skip (OpOk.not rfl rfl rfl hg8) ?_
      refine WH.skip (OpOk.not rfl rfl rfl hg8) ?_
      refine WH.skip (OpOk.not rfl rfl rfl hg8) ?_
      refine WH.skip (OpOk.not rfl rfl rfl hg8) ?_
      refine WH.skip (OpOk.not rfl rfl rfl hg8) ?_
      refine WH.skip (OpOk.not rfl rfl rfl hg8) ?_
      refine WH.skip (OpOk.not rfl rfl rfl hg8) ?_
      refine WH.skip (OpOk.not rfl rfl rfl hg8) ?_
      refine WH.val (O.pick_t rfl rfl rfl rfl Taken.no) rfl rfl ?_
      refine WH.nil ?_
      refine E.to ?_
      refine W.pick (.cons (t := 2) rfl (.cons (t := 3) rfl (.cons (t := 5) rfl (.cons (t := 77) rfl .nil)))) (.cons (t := 101) rfl (.cons (t := 102) rfl .nil)) ?_
      refine W.cond_t rfl ?_
      refine W.seq ?_
      refine W.region ?_
      refine SL.val (O.assign rfl rfl Taken.no) ?_
      refine SL.nil ?_
      refine E.to ?_
      refine W.ret ?_
      refine E.inr ?_
      refine E.thr ?_
      refine E.thr ?_
      refine E.inr ?_
      refine E.thr ?_
      refine E.fin (rs := [_]) (rn []) (.inl rfl) rfl (.cons (ResOne.tmp rfl) .nil) ?_ ?_ rfl (fixL_spec rfl)
      ·skip
       exact iv_bool (decide_eq_false fun e => by subst e; simp_all)
      · exact SubS.nil
    ·skip
     refine W.exit ?_
     refine E.th ?_
     refine E.th ?_
     refine E.hit ?_
     refine E.to ?_
     refine W.seq ?_
     refine W.region ?_
     refine SL.val (O.assign rfl rfl Taken.no) ?_
     refine SL.nil ?_
     refine E.to ?_
     refine W.ret ?_
     refine E.fin (rs := [_]) (rn []) (.inl rfl) rfl (.cons (ResOne.tmp rfl) .nil) ?_ ?_ rfl (fixL_spec rfl)
     ·skip
      exact iv_bool (decide_eq_true (Store.ext (by omega) (by omega) (ext_get (by omega) (fun j hj => hp j (by omega)))))
     · exact SubS.nil
  ·skip
   first | have hg2p := G.gA7 hg2 | have hg2p := G.gA8 hg2 | have hg2p := hg2
   refine SL.skip (OpOk.not rfl rfl rfl hg2) ?_
   refine SL.skip (OpOk.not rfl rfl rfl hg2) ?_
   refine SL.skip (OpOk.not rfl rfl rfl hg2) ?_
   refine SL.skip (OpOk.not rfl rfl rfl hg2) ?_
   refine SL.skip (OpOk.not rfl rfl rfl hg2) ?_
   refine SL.skip (OpOk.not rfl rfl rfl hg2) ?_
   refine SL.skip (OpOk.not rfl rfl rfl hg2) ?_
   refine SL.val (O.pick_t rfl (G.ne_f hg2) rfl rfl Taken.no) ?_
   refine SL.nil ?_
   refine E.to ?_
   refine W.pick (.cons (t := 2) rfl (.cons (t := 3) rfl (.cons (t := 4) rfl (.cons (t := 26) rfl .nil)))) (.cons (t := 101) rfl (.cons (t := 102) rfl .nil)) ?_
   refine W.cond_t rfl ?_
   refine W.seq ?_
   refine W.region ?_
   refine SL.val (O.assign rfl rfl Taken.no) ?_
   refine SL.nil ?_
   refine E.to ?_
   refine W.ret ?_
   refine E.thr ?_
   refine E.fin (rs := [_]) (rn []) (.inl rfl) rfl (.cons (ResOne.tmp rfl) .nil) ?_ ?_ rfl (fixL_spec rfl)
   ·skip
    exact iv_bool (decide_eq_false fun e => by subst e; omega)
   · exact SubS.nil
 ·skip
  first | have hg1p := G.gA7 hg1 | have hg1p := G.gA8 hg1 | have hg1p := hg1
  refine SL.skip (OpOk.not rfl rfl rfl hg1) ?_
  refine SL.skip (OpOk.not rfl rfl rfl hg1) ?_
  refine SL.skip (OpOk.not rfl rfl rfl hg1) ?_
  refine SL.skip (OpOk.not rfl rfl rfl hg1) ?_
  refine SL.skip (OpOk.not rfl rfl rfl hg1) ?_
  refine SL.val (O.pick_t rfl (G.ne_f hg1) rfl rfl Taken.no) ?_
  refine SL.val (O.move rfl rfl Taken.no) ?_
  have hg9 : true ≠ false := by decide
  refine SL.skip (OpOk.not rfl rfl rfl hg9) ?_
  refine SL.skip (OpOk.not rfl rfl rfl hg9) ?_
  refine SL.skip (OpOk.not rfl rfl rfl hg9) ?_
  refine SL.skip (OpOk.not rfl rfl rfl hg9) ?_
  refine SL.skip (OpOk.not rfl rfl rfl hg9) ?_
  refine SL.skip (OpOk.not rfl rfl rfl hg9) ?_
  refine SL.skip (OpOk.not rfl rfl rfl hg9) ?_
  refine SL.val (O.pick_t rfl rfl rfl rfl Taken.no) ?_
  refine SL.nil ?_
  refine E.to ?_
  refine W.pick (.cons (t := 2) rfl (.cons (t := 3) rfl (.cons (t := 4) rfl (.cons (t := 26) rfl .nil)))) (.cons (t := 101) rfl (.cons (t := 102) rfl .nil)) ?_
  refine W.cond_t rfl ?_
  refine W.seq ?_
  refine W.region ?_
  refine SL.val (O.assign rfl rfl Taken.no) ?_
  refine SL.nil ?_
  refine E.to ?_
  refine W.ret ?_
  refine E.thr ?_
  refine E.fin (rs := [_]) (rn []) (.inl rfl) rfl (.cons (ResOne.tmp rfl) .nil) ?_ ?_ rfl (fixL_spec rfl)
  ·skip
   exact iv_bool (decide_eq_false fun e => by subst e; omega)
  · exact SubS.nil

set_option maxRecDepth 8000 in
/-- bookplate/bookplatelaw51.do. -/
theorem do_h {st : Store} {o : Opr} (ht : tm st) :
    Con Try.prog 37 [vA [uI st.next, uI st.time, .sl 4 (st.opn.map eO)], vA (eOp o)] [] (.tup [.agg [vI (doS st o).next, vI (doS st o).time, vL 4 ((doS st o).opn.map eO)], vI (doN st o), vL 2 ((doQ st o).map eT), vI (doE st o)]) [] := by
 have ht1 := ht.1
 have ht2 := ht.2
 refine Con.enterL (n := 67) Try.func37 rfl rfl rfl (fun τ w ok vs hin => ?_)
 have hl0_2 := hin.lenA (i := 0) (j := 2) rfl rfl
 try rw [List.length_map] at hl0_2
 clear hin
 refine W.seq ?_
 refine W.region ?_
 refine SL.memS (O.box (is := [_, _, _]) 101 rfl rfl (by simp) rfl rfl Taken.no) rfl rfl (S' := (101, _) :: _) rfl ?_
 refine SL.memS (O.box (is := [_, _, _, _, _, _]) 102 rfl rfl (by simp) rfl rfl Taken.no) rfl rfl (S' := (102, _) :: _) rfl ?_
 refine SL.memS (O.alloc (z := .agg #[.int .i64 0, .int .i64 0, .slice none 0 0]) (is := [.u (.sc (.int .i64 0)), .u (.sc (.int .i64 0)), .u (.sc (.slice none 0 0))]) 103 (by kernel_rfl) rfl rfl rfl Taken.no) rfl rfl (S' := (103, _) :: _) rfl ?_
 refine SL.val (O.assign rfl rfl Taken.no) ?_
 refine SL.val (O.assign rfl rfl Taken.no) ?_
 refine SL.val (O.assign rfl rfl Taken.no) ?_
 refine SL.nil ?_
 refine E.to ?_
 refine W.seq ?_
 refine W.region ?_
 refine SL.val (O.fld_ref (o' := 1) rfl Try.underlying73 rfl (m := 0) (by kernel_rfl) rfl rfl Taken.no) ?_
 refine SL.val (O.ld1 (PtI.ref rfl rfl) rfl Try.underlying3 rfl rfl Taken.no) ?_
 refine SL.val (O.fld_ref (o' := 3) rfl Try.underlying82 rfl (m := 0) (by kernel_rfl) rfl rfl Taken.no) ?_
 refine SL.val (O.ld1 (PtI.ref rfl rfl) rfl Try.underlying3 rfl rfl Taken.no) ?_
 refine SL.val (O.det (fun _ => G.R.mv (G.R.max2 rfl rfl) (congrArg (Value.int .i64) (show _ = max o.by_ (-1) by split <;> omega))) rfl Taken.no) ?_
 refine SL.val (O.det (fun _ => G.R.mv (G.R.min2 rfl rfl) (congrArg (Value.int .i64) (show _ = min (max o.by_ (-1)) 1000000 by split <;> omega))) rfl Taken.no) ?_
 refine SL.val (O.det (fun _ => by first | exact G.R.add64 rfl rfl (by omega) | exact G.R.add rfl rfl) rfl Taken.no) ?_
 refine SL.val (O.assign rfl rfl Taken.no) ?_
 refine SL.nil ?_
 refine E.to ?_
 refine W.seq ?_
 refine W.seq ?_
 refine W.region ?_
 refine SL.val (O.fld_ref (o' := 0) rfl Try.underlying82 rfl (m := 0) (by kernel_rfl) rfl rfl Taken.no) ?_
 refine SL.val (O.ld1 (PtI.ref rfl rfl) rfl Try.underlying3 rfl rfl Taken.no) ?_
 refine SL.nil ?_
 refine E.to ?_
 refine W.block ?_
 refine W.seq ?_
 refine W.region ?_
 refine SL.val (O.det (fun _ => G.R.eql rfl rfl) rfl Taken.no) ?_
 refine SL.val (O.assign rfl rfl Taken.no) ?_
 refine SL.nil ?_
 refine E.to ?_
 first | refine W.cond_d rfl (fun hc1 => ?_) (fun hc1 => ?_) | refine W.cond_nd rfl (fun hc1 => ?_) (fun hc1 => ?_) | refine W.cond rfl (fun hc1 => ?_) (fun hc1 => ?_)
 ·skip
  refine W.seq ?_
  refine W.draw [⟨[101], [], []⟩, ⟨[102], [], []⟩, ⟨[102], [], []⟩, ⟨[], [], []⟩, ⟨[], [], []⟩, ⟨[], [], []⟩, ⟨[], [], []⟩, ⟨[], [], []⟩, ⟨[], [], []⟩, ⟨[], [], []⟩, ⟨[104], [104], [104]⟩, ⟨[104], [104], []⟩, ⟨[], [], []⟩, ⟨[], [], []⟩] rfl (by kernel_rfl) (by kernel_rfl) rfl rfl ?_
  refine WH.val (O.ldN (m := 3) (PtI.ref rfl rfl) (js := [_, _, _]) rfl (Nat.le_of_ble_eq_true rfl) Try.underlying73 rfl (by kernel_rfl) rfl Taken.no) rfl rfl ?_
  refine WH.val (O.fld_ref (o' := 4) rfl Try.underlying82 rfl (m := 1) (by kernel_rfl) rfl rfl Taken.no) rfl rfl ?_
  refine WH.val (O.ldN (m := 2) (PtI.ref rfl rfl) (js := [_, _]) rfl (Nat.le_of_ble_eq_true rfl) Try.underlying31 rfl (by kernel_rfl) rfl Taken.no) rfl rfl ?_
  refine WH.memS (O.call (rn []) [] rfl rfl rfl (ours_h) (.cons (ArgOk.aggU (.cons (ArgOk.same rfl) (.cons (ArgOk.same rfl) .nil))) .nil) SubS.nil rfl rfl rfl rfl rfl (.inl rfl) hcallOk16 (r' := .agg [.u _, .u _]) rfl rfl Taken.no) rfl rfl rfl rfl rfl (S' := _) rfl ?_
  refine WH.val (O.move rfl rfl Taken.no) rfl rfl ?_
  refine WH.memS (O.call (rn []) [] rfl rfl rfl (open_h (st := st) (s := o.s) (now := nowD st o)) (.cons (ArgOk.aggU (.cons (ArgOk.same rfl) (.cons (ArgOk.same rfl) (.cons (ArgOk.same rfl) .nil)))) (.cons (ArgOk.aggU (.cons (ArgOk.same rfl) (.cons (ArgOk.same rfl) .nil))) (.cons (ArgOk.same rfl) .nil))) SubS.nil rfl rfl rfl rfl rfl (.inl rfl) hcallOk43 (r' := .tup [.agg [.u _, .u _, .u _], .u _, .u _]) rfl rfl Taken.no) rfl rfl rfl rfl rfl (S' := _) rfl ?_
  refine WH.val (O.move rfl rfl Taken.no) rfl rfl ?_
  refine WH.val (O.extract rfl rfl rfl Taken.no) rfl rfl ?_
  refine WH.val (O.extract rfl rfl rfl Taken.no) rfl rfl ?_
  refine WH.val (O.extract rfl rfl rfl Taken.no) rfl rfl ?_
  refine WH.memS (O.alloc (z := .agg #[.int .i64 0, .int .i64 0, .slice none 0 0]) (is := [.u (.sc (.int .i64 0)), .u (.sc (.int .i64 0)), .u (.sc (.slice none 0 0))]) 104 (by kernel_rfl) rfl rfl rfl Taken.no) rfl rfl rfl rfl rfl (S' := (104, _) :: _) rfl ?_
  refine WH.effS (O.st_ref (m := 3) rfl rfl rfl (js := [_, _, _]) rfl rfl (by kernel_rfl) (by simp) (Nat.le_of_ble_eq_true rfl) rfl (is' := [_, _, _]) rfl Taken.no) rfl rfl rfl (S' := (104, _) :: _) rfl ?_
  refine WH.val (O.assign rfl rfl Taken.no) rfl rfl ?_
  refine WH.val (O.assign rfl rfl Taken.no) rfl rfl ?_
  refine WH.nil ?_
  refine E.to ?_
  refine W.pick (.cons (t := 2) rfl (.cons (t := 3) rfl (.cons (t := 4) rfl (.cons (t := 5) rfl (.cons (t := 6) rfl (.cons (t := 7) rfl (.cons (t := 8) rfl (.cons (t := 9) rfl (.cons (t := 10) rfl (.cons (t := 11) rfl .nil)))))))))) (.cons (t := 101) rfl (.cons (t := 102) rfl (.cons (t := 103) rfl (.cons (t := 104) rfl .nil)))) ?_
  refine W.seq ?_
  refine W.region ?_
  refine SL.val (O.ldN (m := 3) (PtI.ref rfl rfl) (js := [_, _, _]) rfl (Nat.le_of_ble_eq_true rfl) Try.underlying73 rfl (by kernel_rfl) rfl Taken.no) ?_
  refine SL.val (O.move rfl rfl Taken.no) ?_
  refine SL.val (O.move rfl rfl Taken.no) ?_
  refine SL.effS (O.st_ref (m := 3) rfl rfl rfl (js := [_, _, _]) rfl rfl (by kernel_rfl) (by simp) (Nat.le_of_ble_eq_true rfl) rfl (is' := [_, _, _]) rfl Taken.no) (S' := (103, _) :: _) rfl ?_
  refine SL.val (O.assign rfl rfl Taken.no) ?_
  refine SL.val (O.assign rfl rfl Taken.no) ?_
  refine SL.val (O.assign rfl rfl Taken.no) ?_
  refine SL.nil ?_
  refine E.to ?_
  refine W.ret ?_
  refine E.inr ?_
  refine E.thr ?_
  refine E.nilsl 6 2 rfl ?_
  refine E.fin (rs := [_, _, _, _]) (rn []) (.inl rfl) rfl (.cons (ResOne.cellN (m := 3) (PtI.ref rfl rfl) (js := [_, _, _]) rfl (Nat.le_of_ble_eq_true rfl) Try.underlying73 rfl (by kernel_rfl)) (.cons (ResOne.tmp rfl) (.cons (ResOne.tmp rfl) (.cons (ResOne.tmp rfl) .nil)))) ?_ ?_ rfl (fixL_spec rfl)
  ·skip
   rw [(do_0 (st := st) (o := o) (by omega)).1, (do_0 (st := st) (o := o) (by omega)).2.1, (do_0 (st := st) (o := o) (by omega)).2.2.1, (do_0 (st := st) (o := o) (by omega)).2.2.2]; rfl
  · exact SubS.nil
 ·skip
  refine W.seq ?_
  refine W.region ?_
  refine SL.val (O.det (fun _ => G.R.eql rfl rfl) rfl Taken.no) ?_
  refine SL.val (O.assign rfl rfl Taken.no) ?_
  refine SL.nil ?_
  refine E.to ?_
  first | refine W.cond_d rfl (fun hc2 => ?_) (fun hc2 => ?_) | refine W.cond_nd rfl (fun hc2 => ?_) (fun hc2 => ?_) | refine W.cond rfl (fun hc2 => ?_) (fun hc2 => ?_)
  ·skip
   refine W.seq ?_
   refine W.region ?_
   refine SL.val (O.ldN (m := 3) (PtI.ref rfl rfl) (js := [_, _, _]) rfl (Nat.le_of_ble_eq_true rfl) Try.underlying73 rfl (by kernel_rfl) rfl Taken.no) ?_
   refine SL.val (O.fld_ref (o' := 1) rfl Try.underlying82 rfl (m := 0) (by kernel_rfl) rfl rfl Taken.no) ?_
   refine SL.val (O.ld1 (PtI.ref rfl rfl) rfl Try.underlying3 rfl rfl Taken.no) ?_
   refine SL.val (O.fld_ref (o' := 2) rfl Try.underlying82 rfl (m := 0) (by kernel_rfl) rfl rfl Taken.no) ?_
   refine SL.val (O.ld1 (PtI.ref rfl rfl) rfl Try.underlying3 rfl rfl Taken.no) ?_
   refine SL.val (O.move rfl rfl Taken.no) ?_
   refine SL.memS (O.call (rn []) [] rfl rfl rfl (get_h (st := st) o.num o.pg (now := nowD st o)) (.cons (ArgOk.aggU (.cons (ArgOk.same rfl) (.cons (ArgOk.same rfl) (.cons (ArgOk.same rfl) .nil)))) (.cons (ArgOk.same rfl) (.cons (ArgOk.same rfl) (.cons (ArgOk.same rfl) .nil)))) SubS.nil rfl rfl rfl rfl rfl (.inl rfl) hcallOk46 (r' := .tup [.agg [.u _, .u _, .u _], .u _, .u _]) rfl rfl Taken.no) rfl rfl (S' := _) rfl ?_
   refine SL.val (O.move rfl rfl Taken.no) ?_
   refine SL.val (O.extract rfl rfl rfl Taken.no) ?_
   refine SL.val (O.extract rfl rfl rfl Taken.no) ?_
   refine SL.val (O.extract rfl rfl rfl Taken.no) ?_
   refine SL.memS (O.alloc (z := .agg #[.int .i64 0, .int .i64 0, .slice none 0 0]) (is := [.u (.sc (.int .i64 0)), .u (.sc (.int .i64 0)), .u (.sc (.slice none 0 0))]) 105 (by kernel_rfl) rfl rfl rfl Taken.no) rfl rfl (S' := (105, _) :: _) rfl ?_
   refine SL.effS (O.st_ref (m := 3) rfl rfl rfl (js := [_, _, _]) rfl rfl (by kernel_rfl) (by simp) (Nat.le_of_ble_eq_true rfl) rfl (is' := [_, _, _]) rfl Taken.no) (S' := (105, _) :: _) rfl ?_
   refine SL.val (O.assign rfl rfl Taken.no) ?_
   refine SL.val (O.assign rfl rfl Taken.no) ?_
   refine SL.nil ?_
   refine E.to ?_
   refine W.pick (.cons (t := 2) rfl (.cons (t := 3) rfl (.cons (t := 4) rfl (.cons (t := 5) rfl (.cons (t := 6) rfl (.cons (t := 7) rfl (.cons (t := 8) rfl (.cons (t := 12) rfl (.cons (t := 13) rfl (.cons (t := 14) rfl .nil)))))))))) (.cons (t := 101) rfl (.cons (t := 102) rfl (.cons (t := 103) rfl (.cons (t := 105) rfl .nil)))) ?_
   refine W.seq ?_
   refine W.region ?_
   refine SL.val (O.ldN (m := 3) (PtI.ref rfl rfl) (js := [_, _, _]) rfl (Nat.le_of_ble_eq_true rfl) Try.underlying73 rfl (by kernel_rfl) rfl Taken.no) ?_
   refine SL.val (O.move rfl rfl Taken.no) ?_
   refine SL.val (O.move rfl rfl Taken.no) ?_
   refine SL.effS (O.st_ref (m := 3) rfl rfl rfl (js := [_, _, _]) rfl rfl (by kernel_rfl) (by simp) (Nat.le_of_ble_eq_true rfl) rfl (is' := [_, _, _]) rfl Taken.no) (S' := (103, _) :: _) rfl ?_
   refine SL.val (O.assign rfl rfl Taken.no) ?_
   refine SL.val (O.assign rfl rfl Taken.no) ?_
   refine SL.val (O.assign rfl rfl Taken.no) ?_
   refine SL.nil ?_
   refine E.to ?_
   refine W.ret ?_
   refine E.inr ?_
   refine E.thr ?_
   refine E.fin (rs := [_, _, _, _]) (rn []) (.inl rfl) rfl (.cons (ResOne.cellN (m := 3) (PtI.ref rfl rfl) (js := [_, _, _]) rfl (Nat.le_of_ble_eq_true rfl) Try.underlying73 rfl (by kernel_rfl)) (.cons (ResOne.tmp rfl) (.cons (ResOne.tmp rfl) (.cons (ResOne.tmp rfl) .nil)))) ?_ ?_ rfl (fixL_spec rfl)
   ·skip
    rw [(do_1 (st := st) (o := o) (by omega)).1, (do_1 (st := st) (o := o) (by omega)).2.1, (do_1 (st := st) (o := o) (by omega)).2.2.1, (do_1 (st := st) (o := o) (by omega)).2.2.2]; rfl
   · exact SubS.nil
  ·skip
   refine W.skip ?_
   refine E.inn ?_
   refine E.to ?_
   refine W.seq ?_
   refine W.region ?_
   refine SL.val (O.ldN (m := 3) (PtI.ref rfl rfl) (js := [_, _, _]) rfl (Nat.le_of_ble_eq_true rfl) Try.underlying73 rfl (by kernel_rfl) rfl Taken.no) ?_
   refine SL.val (O.fld_ref (o' := 1) rfl Try.underlying82 rfl (m := 0) (by kernel_rfl) rfl rfl Taken.no) ?_
   refine SL.val (O.ld1 (PtI.ref rfl rfl) rfl Try.underlying3 rfl rfl Taken.no) ?_
   refine SL.val (O.move rfl rfl Taken.no) ?_
   refine SL.memS (O.call (rn []) [] rfl rfl rfl (close_h (st := st) o.num (now := nowD st o)) (.cons (ArgOk.aggU (.cons (ArgOk.same rfl) (.cons (ArgOk.same rfl) (.cons (ArgOk.same rfl) .nil)))) (.cons (ArgOk.same rfl) (.cons (ArgOk.same rfl) .nil))) SubS.nil rfl rfl rfl rfl rfl (.inl rfl) hcallOk47 (r' := .tup [.agg [.u _, .u _, .u _], .u _]) rfl rfl Taken.no) rfl rfl (S' := _) rfl ?_
   refine SL.val (O.move rfl rfl Taken.no) ?_
   refine SL.val (O.extract rfl rfl rfl Taken.no) ?_
   refine SL.val (O.extract rfl rfl rfl Taken.no) ?_
   refine SL.memS (O.alloc (z := .agg #[.int .i64 0, .int .i64 0, .slice none 0 0]) (is := [.u (.sc (.int .i64 0)), .u (.sc (.int .i64 0)), .u (.sc (.slice none 0 0))]) 106 (by kernel_rfl) rfl rfl rfl Taken.no) rfl rfl (S' := (106, _) :: _) rfl ?_
   refine SL.effS (O.st_ref (m := 3) rfl rfl rfl (js := [_, _, _]) rfl rfl (by kernel_rfl) (by simp) (Nat.le_of_ble_eq_true rfl) rfl (is' := [_, _, _]) rfl Taken.no) (S' := (106, _) :: _) rfl ?_
   refine SL.val (O.assign rfl rfl Taken.no) ?_
   refine SL.nil ?_
   refine E.to ?_
   refine W.pick (.cons (t := 4) rfl (.cons (t := 5) rfl (.cons (t := 6) rfl (.cons (t := 7) rfl (.cons (t := 15) rfl (.cons (t := 16) rfl .nil)))))) (.cons (t := 101) rfl (.cons (t := 102) rfl (.cons (t := 103) rfl (.cons (t := 106) rfl .nil)))) ?_
   refine W.seq ?_
   refine W.region ?_
   refine SL.val (O.ldN (m := 3) (PtI.ref rfl rfl) (js := [_, _, _]) rfl (Nat.le_of_ble_eq_true rfl) Try.underlying73 rfl (by kernel_rfl) rfl Taken.no) ?_
   refine SL.val (O.move rfl rfl Taken.no) ?_
   refine SL.effS (O.st_ref (m := 3) rfl rfl rfl (js := [_, _, _]) rfl rfl (by kernel_rfl) (by simp) (Nat.le_of_ble_eq_true rfl) rfl (is' := [_, _, _]) rfl Taken.no) (S' := (103, _) :: _) rfl ?_
   refine SL.val (O.assign rfl rfl Taken.no) ?_
   refine SL.val (O.assign rfl rfl Taken.no) ?_
   refine SL.val (O.assign rfl rfl Taken.no) ?_
   refine SL.nil ?_
   refine E.to ?_
   refine W.ret ?_
   refine E.nilsl 6 2 rfl ?_
   refine E.fin (rs := [_, _, _, _]) (rn []) (.inl rfl) rfl (.cons (ResOne.cellN (m := 3) (PtI.ref rfl rfl) (js := [_, _, _]) rfl (Nat.le_of_ble_eq_true rfl) Try.underlying73 rfl (by kernel_rfl)) (.cons (ResOne.tmp rfl) (.cons (ResOne.tmp rfl) (.cons (ResOne.tmp rfl) .nil)))) ?_ ?_ rfl (fixL_spec rfl)
   ·skip
    rw [(do_2 (st := st) (o := o) (by omega) (by omega)).1, (do_2 (st := st) (o := o) (by omega) (by omega)).2.1, (do_2 (st := st) (o := o) (by omega) (by omega)).2.2.1, (do_2 (st := st) (o := o) (by omega) (by omega)).2.2.2]; rfl
   · exact SubS.nil

set_option maxRecDepth 8000 in
/-- bookplate/bookplateref51.Do. -/
theorem refDo_h {st : Store} {o : Opr} (ht : tm st) :
    Con Try.prog 38 [vA [uI st.next, uI st.time, .sl 4 (st.opn.map eO)], vA (eOp o)] [] (.tup [.agg [vI (doS st o).next, vI (doS st o).time, vL 4 ((doS st o).opn.map eO)], vI (doE st o)]) [] := by
 have ht1 := ht.1
 have ht2 := ht.2
 refine Con.enterL (n := 57) Try.func38 rfl rfl rfl (fun τ w ok vs hin => ?_)
 have hl0_2 := hin.lenA (i := 0) (j := 2) rfl rfl
 try rw [List.length_map] at hl0_2
 clear hin
 refine W.seq ?_
 refine W.region ?_
 refine SL.memS (O.box (is := [_, _, _]) 101 rfl rfl (by simp) rfl rfl Taken.no) rfl rfl (S' := (101, _) :: _) rfl ?_
 refine SL.memS (O.box (is := [_, _, _, _, _, _]) 102 rfl rfl (by simp) rfl rfl Taken.no) rfl rfl (S' := (102, _) :: _) rfl ?_
 refine SL.memS (O.alloc (z := .agg #[.int .i64 0, .int .i64 0, .slice none 0 0]) (is := [.u (.sc (.int .i64 0)), .u (.sc (.int .i64 0)), .u (.sc (.slice none 0 0))]) 103 (by kernel_rfl) rfl rfl rfl Taken.no) rfl rfl (S' := (103, _) :: _) rfl ?_
 refine SL.val (O.assign rfl rfl Taken.no) ?_
 refine SL.nil ?_
 refine E.to ?_
 refine W.seq ?_
 refine W.region ?_
 refine SL.val (O.fld_ref (o' := 1) rfl Try.underlying77 rfl (m := 0) (by kernel_rfl) rfl rfl Taken.no) ?_
 refine SL.val (O.ld1 (PtI.ref rfl rfl) rfl Try.underlying3 rfl rfl Taken.no) ?_
 refine SL.val (O.fld_ref (o' := 3) rfl Try.underlying82 rfl (m := 0) (by kernel_rfl) rfl rfl Taken.no) ?_
 refine SL.val (O.ld1 (PtI.ref rfl rfl) rfl Try.underlying3 rfl rfl Taken.no) ?_
 refine SL.val (O.det (fun _ => G.R.mv (G.R.max2 rfl rfl) (congrArg (Value.int .i64) (show _ = max o.by_ (-1) by split <;> omega))) rfl Taken.no) ?_
 refine SL.val (O.det (fun _ => G.R.mv (G.R.min2 rfl rfl) (congrArg (Value.int .i64) (show _ = min (max o.by_ (-1)) 1000000 by split <;> omega))) rfl Taken.no) ?_
 refine SL.val (O.det (fun _ => by first | exact G.R.add64 rfl rfl (by omega) | exact G.R.add rfl rfl) rfl Taken.no) ?_
 refine SL.val (O.assign rfl rfl Taken.no) ?_
 refine SL.nil ?_
 refine E.to ?_
 refine W.seq ?_
 refine W.seq ?_
 refine W.region ?_
 refine SL.val (O.fld_ref (o' := 0) rfl Try.underlying82 rfl (m := 0) (by kernel_rfl) rfl rfl Taken.no) ?_
 refine SL.val (O.ld1 (PtI.ref rfl rfl) rfl Try.underlying3 rfl rfl Taken.no) ?_
 refine SL.nil ?_
 refine E.to ?_
 refine W.block ?_
 refine W.seq ?_
 refine W.region ?_
 refine SL.val (O.det (fun _ => G.R.eql rfl rfl) rfl Taken.no) ?_
 refine SL.val (O.assign rfl rfl Taken.no) ?_
 refine SL.nil ?_
 refine E.to ?_
 first | refine W.cond_d rfl (fun hc1 => ?_) (fun hc1 => ?_) | refine W.cond_nd rfl (fun hc1 => ?_) (fun hc1 => ?_) | refine W.cond rfl (fun hc1 => ?_) (fun hc1 => ?_)
 ·skip
  refine W.seq ?_
  refine W.region ?_
  refine SL.val (O.ldN (m := 3) (PtI.ref rfl rfl) (js := [_, _, _]) rfl (Nat.le_of_ble_eq_true rfl) Try.underlying77 rfl (by kernel_rfl) rfl Taken.no) ?_
  refine SL.val (O.fld_ref (o' := 4) rfl Try.underlying82 rfl (m := 1) (by kernel_rfl) rfl rfl Taken.no) ?_
  refine SL.val (O.ldN (m := 2) (PtI.ref rfl rfl) (js := [_, _]) rfl (Nat.le_of_ble_eq_true rfl) Try.underlying31 rfl (by kernel_rfl) rfl Taken.no) ?_
  refine SL.val (O.move rfl rfl Taken.no) ?_
  refine SL.memS (O.call (rn []) [] rfl rfl rfl (refOpen_h (st := st) (s := o.s) (now := nowD st o)) (.cons (ArgOk.aggU (.cons (ArgOk.same rfl) (.cons (ArgOk.same rfl) (.cons (ArgOk.same rfl) .nil)))) (.cons (ArgOk.aggU (.cons (ArgOk.same rfl) (.cons (ArgOk.same rfl) .nil))) (.cons (ArgOk.same rfl) .nil))) SubS.nil rfl rfl rfl rfl rfl (.inl rfl) hcallOk45 (r' := .tup [.agg [.u _, .u _, .u _], .u _, .u _]) rfl rfl Taken.no) rfl rfl (S' := _) rfl ?_
  refine SL.val (O.move rfl rfl Taken.no) ?_
  refine SL.val (O.extract rfl rfl rfl Taken.no) ?_
  refine SL.val (O.extract rfl rfl rfl Taken.no) ?_
  refine SL.val (O.extract rfl rfl rfl Taken.no) ?_
  refine SL.memS (O.alloc (z := .agg #[.int .i64 0, .int .i64 0, .slice none 0 0]) (is := [.u (.sc (.int .i64 0)), .u (.sc (.int .i64 0)), .u (.sc (.slice none 0 0))]) 104 (by kernel_rfl) rfl rfl rfl Taken.no) rfl rfl (S' := (104, _) :: _) rfl ?_
  refine SL.effS (O.st_ref (m := 3) rfl rfl rfl (js := [_, _, _]) rfl rfl (by kernel_rfl) (by simp) (Nat.le_of_ble_eq_true rfl) rfl (is' := [_, _, _]) rfl Taken.no) (S' := (104, _) :: _) rfl ?_
  refine SL.val (O.assign rfl rfl Taken.no) ?_
  refine SL.val (O.assign rfl rfl Taken.no) ?_
  refine SL.nil ?_
  refine E.to ?_
  refine W.pick (.cons (t := 2) rfl (.cons (t := 3) rfl (.cons (t := 4) rfl (.cons (t := 5) rfl (.cons (t := 6) rfl (.cons (t := 7) rfl (.cons (t := 9) rfl .nil))))))) (.cons (t := 101) rfl (.cons (t := 102) rfl (.cons (t := 103) rfl (.cons (t := 104) rfl .nil)))) ?_
  refine W.seq ?_
  refine W.region ?_
  refine SL.val (O.ldN (m := 3) (PtI.ref rfl rfl) (js := [_, _, _]) rfl (Nat.le_of_ble_eq_true rfl) Try.underlying77 rfl (by kernel_rfl) rfl Taken.no) ?_
  refine SL.val (O.move rfl rfl Taken.no) ?_
  refine SL.effS (O.st_ref (m := 3) rfl rfl rfl (js := [_, _, _]) rfl rfl (by kernel_rfl) (by simp) (Nat.le_of_ble_eq_true rfl) rfl (is' := [_, _, _]) rfl Taken.no) (S' := (103, _) :: _) rfl ?_
  refine SL.val (O.assign rfl rfl Taken.no) ?_
  refine SL.nil ?_
  refine E.to ?_
  refine W.ret ?_
  refine E.inr ?_
  refine E.thr ?_
  refine E.fin (rs := [_, _]) (rn []) (.inl rfl) rfl (.cons (ResOne.cellN (m := 3) (PtI.ref rfl rfl) (js := [_, _, _]) rfl (Nat.le_of_ble_eq_true rfl) Try.underlying77 rfl (by kernel_rfl)) (.cons (ResOne.tmp rfl) .nil)) ?_ ?_ rfl (fixL_spec rfl)
  ·skip
   rw [(do_0 (st := st) (o := o) (by omega)).1, (do_0 (st := st) (o := o) (by omega)).2.2.2]; rfl
  · exact SubS.nil
 ·skip
  refine W.seq ?_
  refine W.region ?_
  refine SL.val (O.det (fun _ => G.R.eql rfl rfl) rfl Taken.no) ?_
  refine SL.val (O.assign rfl rfl Taken.no) ?_
  refine SL.nil ?_
  refine E.to ?_
  first | refine W.cond_d rfl (fun hc2 => ?_) (fun hc2 => ?_) | refine W.cond_nd rfl (fun hc2 => ?_) (fun hc2 => ?_) | refine W.cond rfl (fun hc2 => ?_) (fun hc2 => ?_)
  ·skip
   refine W.seq ?_
   refine W.region ?_
   refine SL.val (O.ldN (m := 3) (PtI.ref rfl rfl) (js := [_, _, _]) rfl (Nat.le_of_ble_eq_true rfl) Try.underlying77 rfl (by kernel_rfl) rfl Taken.no) ?_
   refine SL.val (O.fld_ref (o' := 1) rfl Try.underlying82 rfl (m := 0) (by kernel_rfl) rfl rfl Taken.no) ?_
   refine SL.val (O.ld1 (PtI.ref rfl rfl) rfl Try.underlying3 rfl rfl Taken.no) ?_
   refine SL.val (O.fld_ref (o' := 2) rfl Try.underlying82 rfl (m := 0) (by kernel_rfl) rfl rfl Taken.no) ?_
   refine SL.val (O.ld1 (PtI.ref rfl rfl) rfl Try.underlying3 rfl rfl Taken.no) ?_
   refine SL.val (O.move rfl rfl Taken.no) ?_
   refine SL.memS (O.call (rn []) [] rfl rfl rfl (refGet_h (st := st) o.num o.pg (now := nowD st o)) (.cons (ArgOk.aggU (.cons (ArgOk.same rfl) (.cons (ArgOk.same rfl) (.cons (ArgOk.same rfl) .nil)))) (.cons (ArgOk.same rfl) (.cons (ArgOk.same rfl) (.cons (ArgOk.same rfl) .nil)))) SubS.nil rfl rfl rfl rfl rfl (.inl rfl) hcallOk41 (r' := .tup [.agg [.u _, .u _, .u _], .u _, .u _]) rfl rfl Taken.no) rfl rfl (S' := _) rfl ?_
   refine SL.val (O.move rfl rfl Taken.no) ?_
   refine SL.val (O.extract rfl rfl rfl Taken.no) ?_
   refine SL.val (O.extract rfl rfl rfl Taken.no) ?_
   refine SL.val (O.extract rfl rfl rfl Taken.no) ?_
   refine SL.memS (O.alloc (z := .agg #[.int .i64 0, .int .i64 0, .slice none 0 0]) (is := [.u (.sc (.int .i64 0)), .u (.sc (.int .i64 0)), .u (.sc (.slice none 0 0))]) 105 (by kernel_rfl) rfl rfl rfl Taken.no) rfl rfl (S' := (105, _) :: _) rfl ?_
   refine SL.effS (O.st_ref (m := 3) rfl rfl rfl (js := [_, _, _]) rfl rfl (by kernel_rfl) (by simp) (Nat.le_of_ble_eq_true rfl) rfl (is' := [_, _, _]) rfl Taken.no) (S' := (105, _) :: _) rfl ?_
   refine SL.val (O.assign rfl rfl Taken.no) ?_
   refine SL.val (O.assign rfl rfl Taken.no) ?_
   refine SL.nil ?_
   refine E.to ?_
   refine W.pick (.cons (t := 2) rfl (.cons (t := 3) rfl (.cons (t := 4) rfl (.cons (t := 5) rfl (.cons (t := 6) rfl (.cons (t := 10) rfl (.cons (t := 12) rfl .nil))))))) (.cons (t := 101) rfl (.cons (t := 102) rfl (.cons (t := 103) rfl (.cons (t := 105) rfl .nil)))) ?_
   refine W.seq ?_
   refine W.region ?_
   refine SL.val (O.ldN (m := 3) (PtI.ref rfl rfl) (js := [_, _, _]) rfl (Nat.le_of_ble_eq_true rfl) Try.underlying77 rfl (by kernel_rfl) rfl Taken.no) ?_
   refine SL.val (O.move rfl rfl Taken.no) ?_
   refine SL.effS (O.st_ref (m := 3) rfl rfl rfl (js := [_, _, _]) rfl rfl (by kernel_rfl) (by simp) (Nat.le_of_ble_eq_true rfl) rfl (is' := [_, _, _]) rfl Taken.no) (S' := (103, _) :: _) rfl ?_
   refine SL.val (O.assign rfl rfl Taken.no) ?_
   refine SL.nil ?_
   refine E.to ?_
   refine W.ret ?_
   refine E.inr ?_
   refine E.thr ?_
   refine E.fin (rs := [_, _]) (rn []) (.inl rfl) rfl (.cons (ResOne.cellN (m := 3) (PtI.ref rfl rfl) (js := [_, _, _]) rfl (Nat.le_of_ble_eq_true rfl) Try.underlying77 rfl (by kernel_rfl)) (.cons (ResOne.tmp rfl) .nil)) ?_ ?_ rfl (fixL_spec rfl)
   ·skip
    rw [(do_1 (st := st) (o := o) (by omega)).1, (do_1 (st := st) (o := o) (by omega)).2.2.2]; rfl
   · exact SubS.nil
  ·skip
   refine W.skip ?_
   refine E.inn ?_
   refine E.to ?_
   refine W.seq ?_
   refine W.region ?_
   refine SL.val (O.ldN (m := 3) (PtI.ref rfl rfl) (js := [_, _, _]) rfl (Nat.le_of_ble_eq_true rfl) Try.underlying77 rfl (by kernel_rfl) rfl Taken.no) ?_
   refine SL.val (O.fld_ref (o' := 1) rfl Try.underlying82 rfl (m := 0) (by kernel_rfl) rfl rfl Taken.no) ?_
   refine SL.val (O.ld1 (PtI.ref rfl rfl) rfl Try.underlying3 rfl rfl Taken.no) ?_
   refine SL.val (O.move rfl rfl Taken.no) ?_
   refine SL.memS (O.call (rn []) [] rfl rfl rfl (refClose_h (st := st) o.num (now := nowD st o)) (.cons (ArgOk.aggU (.cons (ArgOk.same rfl) (.cons (ArgOk.same rfl) (.cons (ArgOk.same rfl) .nil)))) (.cons (ArgOk.same rfl) (.cons (ArgOk.same rfl) .nil))) SubS.nil rfl rfl rfl rfl rfl (.inl rfl) hcallOk48 (r' := .tup [.agg [.u _, .u _, .u _], .u _]) rfl rfl Taken.no) rfl rfl (S' := _) rfl ?_
   refine SL.val (O.extract rfl rfl rfl Taken.no) ?_
   refine SL.val (O.extract rfl rfl rfl Taken.no) ?_
   refine SL.effS (O.st_ref (m := 3) rfl rfl rfl (js := [_, _, _]) rfl rfl (by kernel_rfl) (by simp) (Nat.le_of_ble_eq_true rfl) rfl (is' := [_, _, _]) rfl Taken.no) (S' := (103, _) :: _) rfl ?_
   refine SL.val (O.assign rfl rfl Taken.no) ?_
   refine SL.nil ?_
   refine E.to ?_
   refine W.pick (.cons (t := 4) rfl (.cons (t := 5) rfl .nil)) (.cons (t := 101) rfl (.cons (t := 102) rfl (.cons (t := 103) rfl .nil))) ?_
   refine W.ret ?_
   refine E.fin (rs := [_, _]) (rn []) (.inl rfl) rfl (.cons (ResOne.cellN (m := 3) (PtI.ref rfl rfl) (js := [_, _, _]) rfl (Nat.le_of_ble_eq_true rfl) Try.underlying77 rfl (by kernel_rfl)) (.cons (ResOne.tmp rfl) .nil)) ?_ ?_ rfl (fixL_spec rfl)
   ·skip
    rw [(do_2 (st := st) (o := o) (by omega) (by omega)).1, (do_2 (st := st) (o := o) (by omega) (by omega)).2.2.2]; rfl
   · exact SubS.nil

set_option maxRecDepth 8000 in
/-- bookplate/bookplateref51.Few. -/
theorem few_h {l : List Opr} :
    Con Try.prog 34 [vL 6 (l.map eOp)] [] (vB (decide (fewO l))) [] := by
 obtain ⟨i82, hi82, hz82, hs82, hb82⟩ := hinf82
 refine Con.enterL (n := 21) Try.func34 rfl rfl rfl (fun τ w ok vs hin => ?_)
 have hl0 := hin.len (i := 0) rfl
 try rw [List.length_map] at hl0
 clear hin
 refine W.seq ?_
 refine W.region ?_
 refine SL.val (O.assign rfl rfl Taken.no) ?_
 refine SL.nil ?_
 refine E.to ?_
 refine W.seq ?_
 refine W.seq ?_
 refine W.region ?_
 refine SL.val (O.assign rfl rfl Taken.no) ?_
 refine SL.nil ?_
 refine E.to ?_
 refine W.block ?_
 refine W.loopx1 (fun (k : Nat) => [(3, vI (k : Int))]) (fun (k : Nat) => []) (fun (k : Nat) => k ≤ l.length ∧ ∀ j, j < k → l[j]!.s.items.length ≤ 12) (fun (k : Nat) => l.length - k) (0) (rn []) (.cons (t := 0) rfl .nil) .nil rfl ?_ ?_ rfl rfl ?_ ?_
 · exact (SubF.cons rfl SubF.nil)
 · exact SubS.nil
 ·skip
  exact ⟨by omega, fun j h => by omega⟩
 intro k hinv
 obtain ⟨hk, hp⟩ := hinv
 refine W.seq ?_
 refine W.seq ?_
 refine W.region ?_
 refine SL.val (O.move rfl rfl Taken.no) ?_
 refine SL.val (O.move rfl rfl Taken.no) ?_
 refine SL.val (O.lenE (SlOf.fz rfl (by decide)) (by first | exact List.length_map _ | rfl) Try.underlying69 rfl Taken.no) ?_
 refine SL.val (O.det (fun _ => G.R.lss rfl rfl) rfl Taken.no) ?_
 refine SL.nil ?_
 refine E.to ?_
 first | refine W.cond_d rfl (fun hc1 => ?_) (fun hc1 => ?_) | refine W.cond_nd rfl (fun hc1 => ?_) (fun hc1 => ?_) | refine W.cond rfl (fun hc1 => ?_) (fun hc1 => ?_)
 ·skip
  refine W.skip ?_
  refine E.to ?_
  refine W.seq ?_
  refine W.block ?_
  refine W.seq ?_
  refine W.region ?_
  refine SL.val (O.move rfl rfl Taken.no) ?_
  refine SL.val (O.move rfl rfl Taken.no) ?_
  refine SL.val (O.idx_fz rfl rfl (rfl) (row_get (by omega)) Try.underlying69 hi82 hs82 rfl Taken.no) ?_
  refine SL.val (O.fld_fz rfl Try.underlying82 rfl (m := 1) (by kernel_rfl) rfl rfl Taken.no) ?_
  refine SL.val (O.fld_fz rfl Try.underlying31 rfl (m := 0) (by kernel_rfl) rfl rfl Taken.no) ?_
  refine SL.val (O.ld1 (PtI.ofU (PtU.fz rfl)) rfl Try.underlying22 rfl rfl Taken.no) ?_
  refine SL.val (O.lenE (SlOf.fz rfl (by decide)) (by first | exact List.length_map _ | rfl) Try.underlying22 rfl Taken.no) ?_
  refine SL.val (O.det (fun _ => G.R.gtr rfl rfl) rfl Taken.no) ?_
  refine SL.nil ?_
  refine E.to ?_
  first | refine W.cond_d rfl (fun hc2 => ?_) (fun hc2 => ?_) | refine W.cond_nd rfl (fun hc2 => ?_) (fun hc2 => ?_) | refine W.cond rfl (fun hc2 => ?_) (fun hc2 => ?_)
  ·skip
   refine W.seq ?_
   refine W.region ?_
   refine SL.val (O.assign rfl rfl Taken.no) ?_
   refine SL.nil ?_
   refine E.to ?_
   refine W.ret ?_
   refine E.inr ?_
   refine E.thr ?_
   refine E.thr ?_
   refine E.inr ?_
   refine E.thr ?_
   refine E.fin (rs := [_]) (rn []) (.inl rfl) rfl (.cons (ResOne.tmp rfl) .nil) ?_ ?_ rfl (fixL_spec rfl)
   ·skip
    exact iv_bool (dec_f fun h => by have := h.2 k (by omega); omega)
   · exact SubS.nil
  ·skip
   refine W.skip ?_
   refine E.inn ?_
   refine E.to ?_
   refine W.region ?_
   refine SL.val (O.move rfl rfl Taken.no) ?_
   refine SL.val (O.det (fun _ => by first | exact G.R.add64 rfl rfl (by omega) | exact G.R.add rfl rfl) rfl Taken.no) ?_
   refine SL.val (O.assign rfl rfl Taken.no) ?_
   refine SL.nil ?_
   refine E.again ((k + 1)) (rn []) ?_ ?_ rfl (fixL_spec rfl) ?_ ?_
   · exact (SubF.cons rfl (SubF.cons rfl SubF.nil))
   · exact SubS.nil
   ·try dsimp only
    exact ⟨by omega, fun j hj => by rcases Nat.lt_succ_iff_lt_or_eq.1 hj with h | h; exact hp j h; subst h; omega⟩
   · (try dsimp only); omega
 ·skip
  refine W.exit ?_
  refine E.th ?_
  refine E.th ?_
  refine E.hit ?_
  refine E.to ?_
  refine W.seq ?_
  refine W.region ?_
  refine SL.val (O.move rfl rfl Taken.no) ?_
  refine SL.val (O.lenE (SlOf.fz rfl (by decide)) (by first | exact List.length_map _ | rfl) Try.underlying69 rfl Taken.no) ?_
  refine SL.val (O.det (fun _ => G.R.leq rfl rfl) rfl Taken.no) ?_
  refine SL.val (O.assign rfl rfl Taken.no) ?_
  refine SL.nil ?_
  refine E.to ?_
  refine W.ret ?_
  refine E.fin (rs := [_]) (rn []) (.inl rfl) rfl (.cons (ResOne.tmp rfl) .nil) ?_ ?_ rfl (fixL_spec rfl)
  ·skip
   exact iv_bool (dec_iff ⟨fun h => by have := h.1; omega, fun h => ⟨by omega, fun j hj => hp j (by omega)⟩⟩)
  · exact SubS.nil

set_option maxRecDepth 8000 in
/-- bookplate/bookplatelaw51.awake. -/
theorem awake_h  :
    Con Try.prog 11 [] [] (vB true) [] := by
 obtain ⟨i63, hi63, hz63, hs63, hb63⟩ := hinf63
 obtain ⟨i108, hi108, hz108, hs108, hb108⟩ := hinf108
 obtain ⟨i109, hi109, hz109, hs109, hb109⟩ := hinf109
 refine Con.enterL (n := 93) Try.func11 rfl rfl rfl (fun τ w ok vs hin => ?_)
 clear hin
 refine W.seq ?_
 refine W.region ?_
 refine SL.val (O.assign rfl rfl Taken.no) ?_
 refine SL.nil ?_
 refine E.to ?_
 refine W.seq ?_
 refine W.region ?_
 refine SL.val (O.build (res := [_, _]) (z := .agg #[.int .i64 0, .int .i64 0]) (places := [(0, 1), (1, 1)]) rfl rfl Try.underlying63 (by kernel_rfl) (fun _ => by kernel_rfl) rfl rfl Taken.no) ?_
 refine SL.val (O.build (res := [_, _]) (z := .agg #[.int .i64 0, .int .i64 0]) (places := [(0, 1), (1, 1)]) rfl rfl Try.underlying63 (by kernel_rfl) (fun _ => by kernel_rfl) rfl rfl Taken.no) ?_
 refine SL.val (O.build (res := [_, _]) (z := .agg #[.int .i64 0, .int .i64 0]) (places := [(0, 1), (1, 1)]) rfl rfl Try.underlying63 (by kernel_rfl) (fun _ => by kernel_rfl) rfl rfl Taken.no) ?_
 refine SL.val (O.build (res := [_, _]) (z := .agg #[.int .i64 0, .int .i64 0]) (places := [(0, 1), (1, 1)]) rfl rfl Try.underlying63 (by kernel_rfl) (fun _ => by kernel_rfl) rfl rfl Taken.no) ?_
 refine SL.val (O.build (res := [_, _]) (z := .agg #[.int .i64 0, .int .i64 0]) (places := [(0, 1), (1, 1)]) rfl rfl Try.underlying63 (by kernel_rfl) (fun _ => by kernel_rfl) rfl rfl Taken.no) ?_
 refine SL.memS (O.buildSlice 101 (rows := exL.map eT) rfl rfl Try.underlying22 hi63 hz63 hs63 (by decide) rfl (by decide) rfl rfl rfl Taken.no) rfl rfl (S' := (101, .data 63 2 (exL.map eT)) :: _) rfl ?_
 refine SL.freeze 101 rfl (F' := [(17, _)]) (⟨⟨_, rfl, rfl⟩, trivial⟩) ?_
 refine SL.memS (O.call (rn []) [] rfl rfl rfl (start_h (l := exL) (size := 2) (by decide)) (.cons (ArgOk.same rfl) (.cons (ArgOk.same rfl) .nil)) SubS.nil rfl rfl rfl rfl rfl (.inl rfl) hcallOk13 (r' := .tup [.agg [.u _, .u _], .u _]) rfl rfl Taken.no) rfl rfl (S' := _) rfl ?_
 refine SL.as (i' := .tup [.agg [vI 2, vL 2 (exL.map eT)], vI 0]) 18 rfl (by rw [ex_start.1, ex_start.2]; rfl) ?_
 refine SL.val (O.move rfl rfl Taken.no) ?_
 refine SL.val (O.extract rfl rfl rfl Taken.no) ?_
 refine SL.val (O.extract rfl rfl rfl Taken.no) ?_
 refine SL.memS (O.alloc (z := .agg #[.int .i64 0, .slice none 0 0]) (is := [.u (.sc (.int .i64 0)), .u (.sc (.slice none 0 0))]) 102 (by kernel_rfl) rfl rfl rfl Taken.no) rfl rfl (S' := (102, _) :: _) rfl ?_
 refine SL.effS (O.st_ref (m := 2) rfl rfl rfl (js := [_, _]) rfl rfl (by kernel_rfl) (by simp) (Nat.le_of_ble_eq_true rfl) rfl (is' := [_, _]) rfl Taken.no) (S' := (102, _) :: _) rfl ?_
 refine SL.val (O.assign rfl rfl Taken.no) ?_
 refine SL.nil ?_
 refine E.to ?_
 refine W.seq ?_
 refine W.region ?_
 refine SL.val (O.ldN (m := 2) (PtI.ref rfl rfl) (js := [_, _]) rfl (Nat.le_of_ble_eq_true rfl) Try.underlying27 rfl (by kernel_rfl) rfl Taken.no) ?_
 refine SL.memS (O.call (rn []) [] rfl rfl rfl (find_h (s := exS) 7) (.cons (ArgOk.aggU (.cons (ArgOk.same rfl) (.cons (ArgOk.same rfl) .nil))) (.cons (ArgOk.same rfl) .nil)) SubS.nil rfl rfl rfl rfl rfl (.inl rfl) hcallOk18 (r' := .tup [.u _, .u _, .u _]) rfl rfl Taken.no) rfl rfl (S' := _) rfl ?_
 refine SL.as (i' := .tup [vI 3, vI 0, vI 0]) 23 rfl (by rw [ex_find.1, ex_find.2.1, ex_find.2.2]) ?_
 refine SL.val (O.move rfl rfl Taken.no) ?_
 refine SL.val (O.extract rfl rfl rfl Taken.no) ?_
 refine SL.val (O.extract rfl rfl rfl Taken.no) ?_
 refine SL.val (O.extract rfl rfl rfl Taken.no) ?_
 refine SL.val (O.assign rfl rfl Taken.no) ?_
 refine SL.val (O.assign rfl rfl Taken.no) ?_
 refine SL.val (O.assign rfl rfl Taken.no) ?_
 refine SL.nil ?_
 refine E.to ?_
 refine W.pick (.cons (t := 0) rfl (.cons (t := 1) rfl (.cons (t := 2) rfl (.cons (t := 3) rfl (.cons (t := 4) rfl (.cons (t := 5) rfl .nil)))))) (.cons (t := 102) rfl .nil) ?_
 refine W.seq ?_
 refine W.region ?_
 refine SL.val (O.ldN (m := 2) (PtI.ref rfl rfl) (js := [_, _]) rfl (Nat.le_of_ble_eq_true rfl) Try.underlying27 rfl (by kernel_rfl) rfl Taken.no) ?_
 refine SL.val (O.build (res := [_, _]) (z := .agg #[.int .i64 0, .int .i64 0]) (places := [(0, 1), (1, 1)]) rfl rfl Try.underlying108 (by kernel_rfl) (fun _ => by kernel_rfl) rfl rfl Taken.no) ?_
 refine SL.memS (O.buildSlice 103 (rows := ([⟨7, 3⟩] : List Lead).map eLd) rfl rfl Try.underlying52 hi108 hz108 hs108 (by decide) rfl (by decide) rfl rfl rfl Taken.no) rfl rfl (S' := (103, .data 108 2 (([⟨7, 3⟩] : List Lead).map eLd)) :: _) rfl ?_
 refine SL.freeze 103 rfl (F' := [(30, _)]) (⟨⟨_, rfl, rfl⟩, trivial⟩) ?_
 refine SL.memS (O.call (rn []) [] rfl rfl rfl (show_h (s := exS) (l := [⟨7, 3⟩]) 3 (by decide)) (.cons (ArgOk.aggU (.cons (ArgOk.same rfl) (.cons (ArgOk.same rfl) .nil))) (.cons (ArgOk.same rfl) (.cons (ArgOk.same rfl) .nil))) SubS.nil rfl rfl rfl rfl rfl (.inl rfl) hcallOk26 (r' := .tup [.u _, .u _]) rfl rfl Taken.no) rfl rfl (S' := _) rfl ?_
 refine SL.as (i' := .tup [vL 4 (([⟨7, 0, 3, true⟩] : List Entry).map eEn), vI 0]) 31 rfl (by rw [ex_show.1, ex_show.2]) ?_
 refine SL.val (O.move rfl rfl Taken.no) ?_
 refine SL.val (O.extract rfl rfl rfl Taken.no) ?_
 refine SL.val (O.extract rfl rfl rfl Taken.no) ?_
 refine SL.val (O.assign rfl rfl Taken.no) ?_
 refine SL.val (O.assign rfl rfl Taken.no) ?_
 refine SL.nil ?_
 refine E.to ?_
 refine W.seq ?_
 refine W.draw [⟨[], [], []⟩, ⟨[102], [], []⟩, ⟨[], [], []⟩, ⟨[], [], []⟩, ⟨[], [], []⟩, ⟨[], [], []⟩, ⟨[], [], []⟩, ⟨[104], [104], [104]⟩, ⟨[104], [104], []⟩, ⟨[], [], []⟩, ⟨[], [], []⟩] rfl (by kernel_rfl) (by kernel_rfl) rfl rfl ?_
 refine WH.memS (O.call (rn []) [] rfl rfl rfl (new_h) .nil SubS.nil rfl rfl rfl rfl rfl (.inl rfl) hcallOk35 (r' := .agg [.u _, .u _, .u _]) rfl rfl Taken.no) rfl rfl rfl rfl rfl (S' := _) rfl ?_
 refine WH.val (O.ldN (m := 2) (PtI.ref rfl rfl) (js := [_, _]) rfl (Nat.le_of_ble_eq_true rfl) Try.underlying27 rfl (by kernel_rfl) rfl Taken.no) rfl rfl ?_
 refine WH.memS (OpOk.re (i' := .tup [.agg [vI 2, vI 5, vL 4 (([⟨1, 5, exS⟩] : List Opn).map eO)], vI 1, vI 0]) (O.call (rn []) [] rfl rfl rfl (open_h (st := newSt) (s := exS) (now := 5)) (.cons (ArgOk.aggU (.cons (ArgOk.same rfl) (.cons (ArgOk.same rfl) (.cons (ArgOk.same rfl) .nil)))) (.cons (ArgOk.aggU (.cons (ArgOk.same rfl) (.cons (ArgOk.same rfl) .nil))) (.cons (ArgOk.same rfl) .nil))) SubS.nil rfl rfl rfl rfl rfl (.inl rfl) hcallOk43 (r' := .tup [.agg [.u _, .u _, .u _], .u _, .u _]) rfl rfl Taken.no) (by rw [ex_opn.1, ex_opn.2.1, ex_opn.2.2])) rfl rfl rfl rfl rfl (S' := _) rfl ?_
 refine WH.val (O.move rfl rfl Taken.no) rfl rfl ?_
 refine WH.val (O.extract rfl rfl rfl Taken.no) rfl rfl ?_
 refine WH.val (O.extract rfl rfl rfl Taken.no) rfl rfl ?_
 refine WH.val (O.extract rfl rfl rfl Taken.no) rfl rfl ?_
 refine WH.memS (O.alloc (z := .agg #[.int .i64 0, .int .i64 0, .slice none 0 0]) (is := [.u (.sc (.int .i64 0)), .u (.sc (.int .i64 0)), .u (.sc (.slice none 0 0))]) 104 (by kernel_rfl) rfl rfl rfl Taken.no) rfl rfl rfl rfl rfl (S' := (104, _) :: _) rfl ?_
 refine WH.effS (O.st_ref (m := 3) rfl rfl rfl (js := [_, _, _]) rfl rfl (by kernel_rfl) (by simp) (Nat.le_of_ble_eq_true rfl) rfl (is' := [_, _, _]) rfl Taken.no) rfl rfl rfl (S' := (104, _) :: _) rfl ?_
 refine WH.val (O.assign rfl rfl Taken.no) rfl rfl ?_
 refine WH.val (O.assign rfl rfl Taken.no) rfl rfl ?_
 refine WH.nil ?_
 refine E.to ?_
 refine W.pick (.cons (t := 0) rfl (.cons (t := 1) rfl (.cons (t := 2) rfl (.cons (t := 3) rfl (.cons (t := 4) rfl (.cons (t := 5) rfl (.cons (t := 6) rfl (.cons (t := 7) rfl (.cons (t := 8) rfl (.cons (t := 9) rfl (.cons (t := 10) rfl .nil))))))))))) (.cons (t := 102) rfl (.cons (t := 104) rfl .nil)) ?_
 refine W.seq ?_
 refine W.region ?_
 refine SL.val (O.move rfl rfl Taken.no) ?_
 refine SL.val (O.det (fun _ => G.R.mv (G.R.eql rfl rfl) (congrArg Value.bool (decide_eq_true (by decide)))) rfl Taken.no) ?_
 refine SL.val (O.move rfl rfl Taken.no) ?_
 have hg1 : true = true := by decide
 refine SL.val (O.move rfl rfl (Taken.yes rfl rfl hg1)) ?_
 refine SL.val (O.det (fun _ => G.R.mv (G.R.eql rfl rfl) (congrArg Value.bool (decide_eq_true (by decide)))) rfl (Taken.yes rfl rfl hg1)) ?_
 refine SL.val (O.pick_t rfl rfl rfl rfl Taken.no) ?_
 refine SL.val (O.move rfl rfl Taken.no) ?_
 have hg2 : true = true := by decide
 refine SL.val (O.move rfl rfl (Taken.yes rfl rfl hg2)) ?_
 refine SL.val (O.det (fun _ => G.R.mv (G.R.eql rfl rfl) (congrArg Value.bool (decide_eq_true (by decide)))) rfl (Taken.yes rfl rfl hg2)) ?_
 refine SL.val (O.pick_t rfl rfl rfl rfl Taken.no) ?_
 refine SL.val (O.move rfl rfl Taken.no) ?_
 have hg3 : true = true := by decide
 refine SL.val (O.move rfl rfl (Taken.yes rfl rfl hg3)) ?_
 refine SL.val (O.det (fun _ => G.R.mv (G.R.eql rfl rfl) (congrArg Value.bool (decide_eq_true (by decide)))) rfl (Taken.yes rfl rfl hg3)) ?_
 refine SL.val (O.pick_t rfl rfl rfl rfl Taken.no) ?_
 refine SL.val (O.move rfl rfl Taken.no) ?_
 have hg4 : true = true := by decide
 refine SL.val (O.ldN (m := 2) (PtI.ref rfl rfl) (js := [_, _]) rfl (Nat.le_of_ble_eq_true rfl) Try.underlying27 rfl (by kernel_rfl) rfl (Taken.yes rfl rfl hg4)) ?_
 refine SL.val (O.callp rfl rfl rfl (pagesN_h (s := exS)) (.cons (ArgOk.aggU (.cons (ArgOk.same rfl) (.cons (ArgOk.same rfl) .nil))) .nil) hcallOk23 rfl (Taken.yes rfl rfl hg4)) ?_
 refine SL.as (i' := vI 3) 57 rfl (by rw [ex_pages]) ?_
 refine SL.val (O.det (fun _ => G.R.mv (G.R.eql rfl rfl) (congrArg Value.bool (decide_eq_true (by decide)))) rfl (Taken.yes rfl rfl hg4)) ?_
 refine SL.val (O.pick_t rfl rfl rfl rfl Taken.no) ?_
 refine SL.val (O.move rfl rfl Taken.no) ?_
 have hg5 : true = true := by decide
 refine SL.val (O.move rfl rfl (Taken.yes rfl rfl hg5)) ?_
 refine SL.val (O.det (fun _ => G.R.mv (G.R.eql rfl rfl) (congrArg Value.bool (decide_eq_true (by decide)))) rfl (Taken.yes rfl rfl hg5)) ?_
 refine SL.val (O.pick_t rfl rfl rfl rfl Taken.no) ?_
 refine SL.val (O.move rfl rfl Taken.no) ?_
 have hg6 : true = true := by decide
 refine SL.val (O.move rfl rfl (Taken.yes rfl rfl hg6)) ?_
 refine SL.val (O.det (fun _ => G.R.mv (G.R.eql rfl rfl) (congrArg Value.bool (decide_eq_true (by decide)))) rfl (Taken.yes rfl rfl hg6)) ?_
 refine SL.val (O.pick_t rfl rfl rfl rfl Taken.no) ?_
 refine SL.val (O.move rfl rfl Taken.no) ?_
 have hg7 : true = true := by decide
 refine SL.val (O.move rfl rfl (Taken.yes rfl rfl hg7)) ?_
 refine SL.val (O.lenE (SlOf.fz rfl (by decide)) (by first | exact List.length_map _ | rfl) Try.underlying49 rfl (Taken.yes rfl rfl hg7)) ?_
 refine SL.val (O.det (fun _ => G.R.mv (G.R.eql rfl rfl) (congrArg Value.bool (decide_eq_true (by decide)))) rfl (Taken.yes rfl rfl hg7)) ?_
 refine SL.val (O.pick_t rfl rfl rfl rfl Taken.no) ?_
 refine SL.val (O.move rfl rfl Taken.no) ?_
 have hg8 : true = true := by decide
 refine SL.val (O.move rfl rfl (Taken.yes rfl rfl hg8)) ?_
 refine SL.val (O.idx_fz (i := 0) rfl rfl (rfl) (row_get (by decide)) Try.underlying49 hi109 hs109 rfl (Taken.yes rfl rfl hg8)) ?_
 refine SL.val (O.ldU (m := 4) (PtU.fz rfl) rfl Try.underlying109 rfl (by kernel_rfl) rfl (Taken.yes rfl rfl hg8)) ?_
 refine SL.val (O.build (res := [_, _, _, _]) (z := .agg #[.int .i64 0, .int .i64 0, .int .i64 0, .bool false]) (places := [(0, 1), (1, 1), (2, 1), (3, 1)]) rfl rfl Try.underlying109 (by kernel_rfl) (fun _ => by kernel_rfl) rfl rfl (Taken.yes rfl rfl hg8)) ?_
 refine SL.val (O.eqAgg (ls := (enV ⟨7, 0, 3, true⟩)) (ms := (enV ⟨7, 0, 3, true⟩)) (r := true) (.inl rfl) (.inr rfl) (by kernel_rfl) (by kernel_rfl) (by kernel_rfl) (by kernel_rfl) (by rw [eqEn]; rfl) rfl (Taken.yes rfl rfl hg8)) ?_
 refine SL.val (O.pick_t rfl rfl rfl rfl Taken.no) ?_
 refine SL.val (O.move rfl rfl Taken.no) ?_
 have hg9 : true = true := by decide
 refine SL.val (O.move rfl rfl (Taken.yes rfl rfl hg9)) ?_
 refine SL.val (O.det (fun _ => G.R.mv (G.R.eql rfl rfl) (congrArg Value.bool (decide_eq_true (by decide)))) rfl (Taken.yes rfl rfl hg9)) ?_
 refine SL.val (O.pick_t rfl rfl rfl rfl Taken.no) ?_
 refine SL.val (O.move rfl rfl Taken.no) ?_
 have hg10 : true = true := by decide
 refine SL.val (O.fld_ref (o' := 2) rfl Try.underlying73 rfl (m := 0) (by kernel_rfl) rfl rfl (Taken.yes rfl rfl hg10)) ?_
 refine SL.val (O.ld1 (PtI.ref rfl rfl) rfl Try.underlying71 rfl rfl (Taken.yes rfl rfl hg10)) ?_
 refine SL.val (O.lenE (SlOf.fz rfl (by decide)) (by first | exact List.length_map _ | rfl) Try.underlying71 rfl (Taken.yes rfl rfl hg10)) ?_
 refine SL.val (O.det (fun _ => G.R.mv (G.R.eql rfl rfl) (congrArg Value.bool (decide_eq_true (by decide)))) rfl (Taken.yes rfl rfl hg10)) ?_
 refine SL.val (O.pick_t rfl rfl rfl rfl Taken.no) ?_
 refine SL.val (O.move rfl rfl Taken.no) ?_
 have hg11 : true = true := by decide
 refine SL.val (O.callp rfl rfl rfl (validLeads_h (l := [])) (.cons ArgOk.nil .nil) hcallOk31 rfl (Taken.yes rfl rfl hg11)) ?_
 refine SL.as (i' := vB true) 91 rfl (by exact iv_bool (dec_t ex_leads)) ?_
 refine SL.val (O.pick_t rfl rfl rfl rfl Taken.no) ?_
 refine SL.val (O.assign rfl rfl Taken.no) ?_
 refine SL.nil ?_
 refine E.to ?_
 refine W.pick (.cons (t := 0) rfl .nil) (.cons (t := 102) rfl (.cons (t := 104) rfl .nil)) ?_
 refine W.ret ?_
 refine E.fin (rs := [_]) (rn []) (.inl rfl) rfl (.cons (ResOne.tmp rfl) .nil) ?_ ?_ rfl (fixL_spec rfl)
 ·skip
  rfl
 · exact SubS.nil

end Go.Proofs.Ytoebjajbmkdcfaa
