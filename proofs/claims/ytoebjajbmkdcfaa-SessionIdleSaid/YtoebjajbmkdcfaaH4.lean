/-
  The walks.
-/
import Derived.Test.YtoebjajbmkdcfaaH3
import Derived.Test.YtoebjajbmkdcfaaP51
import Derived.Test.YtoebjajbmkdcfaaHFreeze
namespace Go.Proofs.Ytoebjajbmkdcfaa
open Go Go.RowKit Go.H Go.D51

theorem hcallOk68 : G.callOk Try.prog 68 = true := by kernel_rfl
theorem hcallOk69 : G.callOk Try.prog 69 = true := by kernel_rfl

set_option maxRecDepth 8000 in
/-- bookplate/session.proceed$1. -/
theorem proceed1_h {i : Int} {x : Opn} (hi : -9000000000000000000 ≤ i ∧ i ≤ 9000000000000000000) :
    Con Try.prog 67 [vA (eO x), .u (.ptr [uI i])] [] (vB (decide (x.used < i - 30))) [] := by
 refine Con.enterL (n := 9) Try.func67 rfl rfl rfl (fun τ w ok vs hin => ?_)
 clear hin
 refine W.seq ?_
 refine W.region ?_
 refine SL.memS (O.box (is := [_, _, _, _]) 101 rfl rfl (by simp) rfl rfl Taken.no) rfl rfl (S' := (101, _) :: _) rfl ?_
 refine SL.val (O.assign rfl rfl Taken.no) ?_
 refine SL.nil ?_
 refine E.to ?_
 refine W.seq ?_
 refine W.region ?_
 refine SL.val (O.fld_ref (o' := 1) rfl Try.underlying119 rfl (m := 0) (by kernel_rfl) rfl rfl Taken.no) ?_
 refine SL.val (O.ld1 (PtI.ref rfl rfl) rfl Try.underlying3 rfl rfl Taken.no) ?_
 refine SL.val (O.ld1 (PtI.ofU (PtU.fz rfl)) rfl Try.underlying3 rfl rfl Taken.no) ?_
 refine SL.val (O.det (fun _ => by first | exact G.R.sub64 rfl rfl (by omega) | exact G.R.sub rfl rfl) rfl Taken.no) ?_
 refine SL.val (O.det (fun _ => G.R.lss rfl rfl) rfl Taken.no) ?_
 refine SL.val (O.assign rfl rfl Taken.no) ?_
 refine SL.nil ?_
 refine E.to ?_
 refine W.ret ?_
 refine E.fin (rs := [_]) (rn []) (.inl rfl) rfl (.cons (ResOne.tmp rfl) .nil) ?_ ?_ rfl (fixL_spec rfl)
 ·skip
  rfl
 · exact SubS.nil

set_option maxRecDepth 8000 in
/-- bookplate/session.find$1. -/
theorem find1s_h {i : Int} {x : Opn} :
    Con Try.prog 69 [vA (eO x), .u (.ptr [uI i])] [] (vB (decide (x.num = i))) [] := by
 refine Con.enterL (n := 8) Try.func69 rfl rfl rfl (fun τ w ok vs hin => ?_)
 clear hin
 refine W.seq ?_
 refine W.region ?_
 refine SL.memS (O.box (is := [_, _, _, _]) 101 rfl rfl (by simp) rfl rfl Taken.no) rfl rfl (S' := (101, _) :: _) rfl ?_
 refine SL.val (O.assign rfl rfl Taken.no) ?_
 refine SL.nil ?_
 refine E.to ?_
 refine W.seq ?_
 refine W.region ?_
 refine SL.val (O.fld_ref (o' := 0) rfl Try.underlying119 rfl (m := 0) (by kernel_rfl) rfl rfl Taken.no) ?_
 refine SL.val (O.ld1 (PtI.ref rfl rfl) rfl Try.underlying3 rfl rfl Taken.no) ?_
 refine SL.val (O.ld1 (PtI.ofU (PtU.fz rfl)) rfl Try.underlying3 rfl rfl Taken.no) ?_
 refine SL.val (O.det (fun _ => G.R.eql rfl rfl) rfl Taken.no) ?_
 refine SL.val (O.assign rfl rfl Taken.no) ?_
 refine SL.nil ?_
 refine E.to ?_
 refine W.ret ?_
 refine E.fin (rs := [_]) (rn []) (.inl rfl) rfl (.cons (ResOne.tmp rfl) .nil) ?_ ?_ rfl (fixL_spec rfl)
 ·skip
  rfl
 · exact SubS.nil

set_option maxRecDepth 8000 in
/-- bookplate/session.find. -/
theorem finds_h {st : Store} {i : Int} :
    Con Try.prog 58 [vA [uI st.next, uI st.time, .sl 4 (st.opn.map eO)], vI i] [] (vI (idxF (fun o => decide (o.num = i)) st.opn)) [] := by
 refine Con.enterL (n := 9) Try.func58 rfl rfl rfl (fun τ w ok vs hin => ?_)
 have hl0_2 := hin.lenA (i := 0) (j := 2) rfl rfl
 try rw [List.length_map] at hl0_2
 clear hin
 refine W.seq ?_
 refine W.region ?_
 refine SL.memS (O.box (is := [_, _, _]) 101 rfl rfl (by simp) rfl rfl Taken.no) rfl rfl (S' := (101, _) :: _) rfl ?_
 refine SL.memS (O.box (is := [_]) 102 rfl rfl (by simp) rfl rfl Taken.no) rfl rfl (S' := (102, _) :: _) rfl ?_
 refine SL.val (O.assign rfl rfl Taken.no) ?_
 refine SL.nil ?_
 refine E.to ?_
 refine W.seq ?_
 refine W.region ?_
 refine SL.val (O.fld_ref (o' := 2) rfl Try.underlying73 rfl (m := 0) (by kernel_rfl) rfl rfl Taken.no) ?_
 refine SL.val (O.ld1 (PtI.ref rfl rfl) rfl Try.underlying71 rfl rfl Taken.no) ?_
 refine SL.val (O.makeFunc rfl rfl rfl Taken.no) ?_
 refine SL.memS (O.call (rn []) [102] rfl rfl rfl (indexFuncO (q := st.opn) (f := 69) (caps := [.ptr [uI i]]) hcallOk69 (fun x => find1s_h)) (.cons (ArgOk.same rfl) (.cons (ArgOk.cloU .nil (.cons (ArgOk.ref rfl rfl rfl) .nil)) .nil)) SubS.nil rfl rfl rfl rfl rfl (.inr ⟨rfl, fun x hx => by simp at hx⟩) hcallOk68 (r' := .u _) rfl rfl Taken.no) rfl rfl (S' := _) rfl ?_
 refine SL.val (O.assign rfl rfl Taken.no) ?_
 refine SL.nil ?_
 refine E.to ?_
 refine W.ret ?_
 refine E.fin (rs := [_]) (rn []) (.inl rfl) rfl (.cons (ResOne.tmp rfl) .nil) ?_ ?_ rfl (fixL_spec rfl)
 ·skip
  rfl
 · exact SubS.nil

set_option maxRecDepth 8000 in
/-- slices.Delete[[]bookplate/session.Opened,bookplate/session.Opened]. -/
theorem deleteO {q : List Opn} (i j : Nat) (hij : i < j) (hj : j ≤ q.length) (_ : q.length ≤ 1000000) :
    Con Try.prog 59 [.own 0, vI (i : Int), vI (j : Int)] [(0, .data 119 4 (q.map eO))] (.own 1) [(1, .data 119 4 ((q.take i ++ q.drop j).map eO))] := by
 have hdl : (q.take i ++ q.drop j).length = i + (q.length - j) := by simp; omega
 have hdm : ((q.take i ++ q.drop j).map eO).length = i + (q.length - j) := by rw [List.length_map, hdl]
 obtain ⟨i119, hi119, hz119, hs119, hb119⟩ := hinf119
 refine Con.enterL (n := 33) Try.func59 rfl rfl rfl (fun τ w ok vs hin => ?_)
 clear hin
 refine W.seq ?_
 refine W.region ?_
 refine SL.val (O.assign rfl rfl Taken.no) ?_
 refine SL.nil ?_
 refine E.to ?_
 refine W.seq ?_
 refine W.region ?_
 refine SL.val (O.move rfl rfl Taken.no) ?_
 refine SL.val (O.move rfl rfl Taken.no) ?_
 refine SL.val (O.move rfl rfl Taken.no) ?_
 refine SL.val (O.move rfl rfl Taken.no) ?_
 refine SL.val (O.lenE (SlOf.own rfl rfl) (by first | exact List.length_map _ | rfl) Try.underlying71 rfl Taken.no) ?_
 refine SL.val (O.sub3_own (i := i) (j := j) (q := q.length) rfl rfl rfl (by first | rfl | omega) rfl (by first | rfl | omega) rfl (by first | rfl | omega) (by omega) (by omega) (by first | omega | (rw [List.length_map]; omega)) Try.underlying71 hi119 rfl Taken.no) ?_
 refine SL.nil ?_
 refine E.to ?_
 refine W.seq ?_
 refine W.seq ?_
 refine W.region ?_
 refine SL.val (O.move rfl rfl Taken.no) ?_
 refine SL.val (O.move rfl rfl Taken.no) ?_
 refine SL.val (O.det (fun _ => G.R.mv (G.R.eql rfl rfl) (congrArg Value.bool (decide_eq_false (by omega)))) rfl Taken.no) ?_
 refine SL.nil ?_
 refine E.to ?_
 refine W.cond_f rfl ?_
 refine W.skip ?_
 refine E.to ?_
 refine W.seq ?_
 refine W.region ?_
 refine SL.val (O.move rfl rfl Taken.no) ?_
 refine SL.val (O.lenE (SlOf.own rfl rfl) (by first | exact List.length_map _ | rfl) Try.underlying71 rfl Taken.no) ?_
 refine SL.val (O.assign rfl rfl Taken.no) ?_
 refine SL.nil ?_
 refine E.to ?_
 refine W.seq ?_
 refine W.draw [⟨[0], [], []⟩, ⟨[], [], []⟩, ⟨[0], [], []⟩, ⟨[0], [], []⟩, ⟨[], [], []⟩, ⟨[0], [], []⟩, ⟨[0], [0], []⟩, ⟨[0], [], []⟩] rfl (by kernel_rfl) (by kernel_rfl) rfl rfl ?_
 refine WH.val (O.move rfl rfl Taken.no) rfl rfl ?_
 refine WH.val (O.move rfl rfl Taken.no) rfl rfl ?_
 refine WH.val (O.sub_own (j := i) rfl rfl Bnd.no (Bnd.at rfl (by first | rfl | omega)) (by omega) (by rw [List.length_map]; omega) Try.underlying71 hi119 hs119 rfl Taken.no) rfl rfl ?_
 refine WH.val (O.move rfl rfl Taken.no) rfl rfl ?_
 refine WH.val (O.move rfl rfl Taken.no) rfl rfl ?_
 refine WH.val (O.sub_own (i := j) rfl rfl (Bnd.at rfl (by first | rfl | omega)) Bnd.no (by rw [List.length_map]; omega) (by exact Nat.le_refl _) Try.underlying71 hi119 hs119 rfl Taken.no) rfl rfl ?_
 refine WH.memS (O.appIn (m := i + (q.length - j)) rfl rfl (SlOf.osl rfl rfl) Try.underlying71 hi119 hs119 (by simp; omega) (by simp) (rows' := ((q.take i ++ q.drop j) ++ q.drop (i + (q.length - j))).map eO) (by simp [List.take_of_length_le]) rfl Taken.no) rfl rfl rfl rfl rfl (S' := (0, _) :: _) rfl ?_
 refine WH.val (O.assign rfl rfl Taken.no) rfl rfl ?_
 refine WH.nil ?_
 refine E.to ?_
 refine W.seq ?_
 refine W.region ?_
 refine SL.val (O.move rfl rfl Taken.no) ?_
 refine SL.val (O.move rfl rfl Taken.no) ?_
 refine SL.val (O.lenE (n := i + (q.length - j)) (SlOf.osl rfl rfl) (by rw [List.drop_zero, List.length_take, List.length_map, List.length_append, hdl]; omega) Try.underlying71 rfl Taken.no) ?_
 refine SL.val (O.move rfl rfl Taken.no) ?_
 refine SL.val (O.sub_osl (i := (i + (q.length - j))) (j := q.length) rfl rfl (Bnd.at rfl (by first | rfl | omega)) (Bnd.at rfl (by first | rfl | omega)) (by omega) (by rw [List.length_map, List.length_append, hdl, List.length_drop]; omega) Try.underlying71 hi119 hs119 rfl Taken.no) ?_
 refine SL.effS (O.clear (PartOf.osl rfl (by omega) (by rw [List.length_map, List.length_append, hdl, List.length_drop]; omega)) rfl Try.underlying71 hi119 hz119 rfl rfl rfl (rows' := (q.take i ++ q.drop j).map eO ++ List.replicate (j - i) [uI 0, uI 0, uI 0, .sc (.slice none 0 0)]) (by exact delete_clear (f := eO) hij hj) Taken.no) (S' := (0, _) :: _) rfl ?_
 refine SL.nil ?_
 refine E.to ?_
 refine W.pick (.cons (t := 0) rfl (.cons (t := 6) rfl .nil)) (.cons (t := 0) rfl .nil) ?_
 refine W.seq ?_
 refine W.region ?_
 refine SL.val (O.move rfl rfl Taken.no) ?_
 refine SL.trunc 32 102 rfl rfl (rows' := (q.take i ++ q.drop j).map eO) (by rw [List.take_left' hdm]) rfl rfl ?_
 refine SL.val (O.assign rfl rfl Taken.no) ?_
 refine SL.nil ?_
 refine E.to ?_
 refine W.ret ?_
 refine E.fin (rs := [_]) (rn [(1, 102)]) (.inl rfl) rfl (.cons (ResOne.tmp rfl) .nil) ?_ ?_ rfl (fixL_spec rfl)
 ·skip
  rfl
 · exact (SubS.cons rfl SubS.nil)

set_option maxRecDepth 8000 in
/-- slices.DeleteFunc[[]bookplate/session.Opened,bookplate/session.Opened]. -/
theorem deleteFuncO {f : Nat} {caps : List UV} {pr : Opn → Bool} {q : List Opn} (hok : G.callOk Try.prog f = true) (hpr : ∀ x, Con Try.prog f ([vA (eO x)] ++ caps.map .u) [] (vB (pr x)) []) (hb : q.length ≤ 1000000) :
    Con Try.prog 65 [.own 0, .u (.clo (.func f) [] caps)] [(0, .data 119 4 (q.map eO))] (.own 1) [(1, .data 119 4 ((q.filter (fun x => !pr x)).map eO))] := by
 have hir := idxF_range pr q
 have hkl := kpt_len q pr q.length
 have hdl := dfR_len q pr q.length
 obtain ⟨i119, hi119, hz119, hs119, hb119⟩ := hinf119
 refine Con.enterL (n := 42) Try.func65 rfl rfl rfl (fun τ w ok vs hin => ?_)
 clear hin
 refine W.seq ?_
 refine W.region ?_
 refine SL.val (O.assign rfl rfl Taken.no) ?_
 refine SL.nil ?_
 refine E.to ?_
 refine W.seq ?_
 refine W.region ?_
 refine SL.val (O.move rfl rfl Taken.no) ?_
 refine SL.val (O.move rfl rfl Taken.no) ?_
 refine SL.memS (O.call (rn []) [0] rfl rfl rfl (indexFuncO (q := q) hok hpr) (.cons (ArgOk.own rfl rfl) (.cons (ArgOk.same rfl) .nil)) SubS.nil rfl rfl rfl rfl rfl (.inr ⟨rfl, fun x hx => by simp at hx⟩) hcallOk68 (r' := .u _) rfl rfl Taken.no) rfl rfl (S' := _) rfl ?_
 refine SL.val (O.assign rfl rfl Taken.no) ?_
 refine SL.nil ?_
 refine E.to ?_
 refine W.seq ?_
 refine W.seq ?_
 refine W.region ?_
 refine SL.val (O.move rfl rfl Taken.no) ?_
 refine SL.val (O.det (fun _ => G.R.eql rfl rfl) rfl Taken.no) ?_
 refine SL.nil ?_
 refine E.to ?_
 first | refine W.cond_d rfl (fun hc1 => ?_) (fun hc1 => ?_) | refine W.cond_nd rfl (fun hc1 => ?_) (fun hc1 => ?_) | refine W.cond rfl (fun hc1 => ?_) (fun hc1 => ?_)
 ·skip
  refine W.seq ?_
  refine W.region ?_
  refine SL.val (O.move rfl rfl Taken.no) ?_
  refine SL.val (O.assign rfl rfl Taken.no) ?_
  refine SL.nil ?_
  refine E.to ?_
  refine W.ret ?_
  refine E.thr ?_
  refine E.fin (rs := [_]) (rn [(1, 0)]) (.inl rfl) rfl (.cons (ResOne.tmp rfl) .nil) ?_ ?_ rfl (fixL_spec rfl)
  ·skip
   rfl
  · exact (SubS.val rfl (by rw [filter_none (by omega)]; rfl) SubS.nil)
 ·skip
  have hi0 : 0 ≤ idxF pr q := by omega
  obtain ⟨hf1, hf2⟩ := dfR_first hi0
  refine W.skip ?_
  refine E.to ?_
  refine W.seq ?_
  refine W.seq ?_
  refine W.region ?_
  refine SL.val (O.move rfl rfl Taken.no) ?_
  refine SL.val (O.det (fun _ => by first | exact G.R.add64 rfl rfl (by omega) | exact G.R.add rfl rfl) rfl Taken.no) ?_
  refine SL.val (O.assign rfl rfl Taken.no) ?_
  refine SL.nil ?_
  refine E.to ?_
  refine W.block ?_
  refine W.loopx1 (fun (j : Nat) => [(5, vI ((kpt q pr j).length : Nat)), (6, vI (j : Int)), (0, .own 101)]) (fun (j : Nat) => [(101, .data 119 4 ((dfR q pr j).map eO))]) (fun (j : Nat) => j ≤ q.length) (fun (j : Nat) => q.length - j) ((idxF pr q).toNat + 1) (rn [(101, 0)]) (.cons (t := 1) rfl (.cons (t := 4) rfl .nil)) .nil rfl ?_ ?_ rfl rfl ?_ ?_
  · exact (SubF.val rfl (by exact iv_int (by rw [hf2]; omega)) (SubF.val rfl (by exact iv_int (by omega)) (SubF.cons rfl SubF.nil)))
  · exact (SubS.val rfl (by exact sb_data (by rw [hf1])) SubS.nil)
  ·skip
   omega
  intro j hinv
  have hj := hinv
  have hdj := dfR_len q pr j
  have hkj := kpt_le q pr j
  have hgj := fun h : j < q.length => dfR_get (p := pr) h
  refine W.seq ?_
  refine W.seq ?_
  refine W.region ?_
  refine SL.val (O.move rfl rfl Taken.no) ?_
  refine SL.val (O.move rfl rfl Taken.no) ?_
  refine SL.val (O.lenE (SlOf.own rfl rfl) (by first | exact List.length_map _ | rfl) Try.underlying71 rfl Taken.no) ?_
  refine SL.val (O.det (fun _ => G.R.lss rfl rfl) rfl Taken.no) ?_
  refine SL.nil ?_
  refine E.to ?_
  first | refine W.cond_d rfl (fun hc2 => ?_) (fun hc2 => ?_) | refine W.cond_nd rfl (fun hc2 => ?_) (fun hc2 => ?_) | refine W.cond rfl (fun hc2 => ?_) (fun hc2 => ?_)
  ·skip
   refine W.skip ?_
   refine E.to ?_
   refine W.seq ?_
   refine W.block ?_
   refine W.seq ?_
   refine W.region ?_
   refine SL.val (O.move rfl rfl Taken.no) ?_
   refine SL.val (O.move rfl rfl Taken.no) ?_
   refine SL.val (O.idx_own rfl rfl rfl (rfl) (by rw [List.length_map, hdj]; omega) Try.underlying71 hi119 hs119 rfl Taken.no) ?_
   refine SL.val (O.ldU (m := 4) (PtU.el rfl rfl (row_get (by rw [hdj]; omega))) rfl Try.underlying119 rfl (by kernel_rfl) rfl Taken.no) ?_
   refine SL.memS (O.alloc (z := .agg #[.int .i64 0, .int .i64 0, .int .i64 0, .slice none 0 0]) (is := [.u (.sc (.int .i64 0)), .u (.sc (.int .i64 0)), .u (.sc (.int .i64 0)), .u (.sc (.slice none 0 0))]) 102 (by kernel_rfl) rfl rfl rfl Taken.no) rfl rfl (S' := (102, _) :: _) rfl ?_
   refine SL.effS (O.st_ref (m := 4) rfl rfl rfl (js := [_, _, _, _]) rfl rfl (by kernel_rfl) (by simp) (Nat.le_of_ble_eq_true rfl) rfl (is' := [_, _, _, _]) rfl Taken.no) (S' := (102, _) :: _) rfl ?_
   refine SL.nil ?_
   refine E.to ?_
   refine W.seq ?_
   refine W.region ?_
   refine SL.val (O.move rfl rfl Taken.no) ?_
   rw [hgj (by omega)]
   refine SL.val (O.ldN (m := 4) (PtI.ref rfl rfl) (js := [_, _, _, _]) rfl (Nat.le_of_ble_eq_true rfl) Try.underlying119 rfl (by kernel_rfl) rfl Taken.no) ?_
   refine SL.val (O.callp rfl rfl rfl (hpr q[j]!) (.cons (ArgOk.aggU (.cons (ArgOk.same rfl) (.cons (ArgOk.same rfl) (.cons (ArgOk.same rfl) (.cons (ArgOk.same rfl) .nil))))) (ArgsOk.caps caps)) hok rfl Taken.no) ?_
   refine SL.val (O.det (fun _ => G.R.not rfl) rfl Taken.no) ?_
   refine SL.nil ?_
   refine E.to ?_
   first | refine W.cond_d rfl (fun hpc => ?_) (fun hpc => ?_) | refine W.cond_nd rfl (fun hpc => ?_) (fun hpc => ?_) | refine W.cond rfl (fun hpc => ?_) (fun hpc => ?_)
   ·skip
    have hcn : pr q[j]! = false := by revert hpc; cases pr q[j]! <;> simp
    refine W.seq ?_
    refine W.region ?_
    refine SL.val (O.move rfl rfl Taken.no) ?_
    refine SL.val (O.move rfl rfl Taken.no) ?_
    refine SL.val (O.ldN (m := 4) (PtI.ref rfl rfl) (js := [_, _, _, _]) rfl (Nat.le_of_ble_eq_true rfl) Try.underlying119 rfl (by kernel_rfl) rfl Taken.no) ?_
    refine SL.val (O.idx_own (i := (kpt q pr j).length) rfl rfl rfl (rfl) (by rw [List.length_map, hdj]; omega) Try.underlying71 hi119 hs119 rfl Taken.no) ?_
    refine SL.effS (O.st_els (m := 4) rfl rfl rfl (us := [_, _, _, _]) rfl rfl (by kernel_rfl) (by simp) (row_get (by rw [hdj]; omega)) (by exact Nat.le_of_ble_eq_true rfl) rfl rfl (rows' := ((dfR q pr j).set (kpt q pr j).length q[j]!).map eO) (by exact set_map rfl) Taken.no) (S' := (101, _) :: _) rfl ?_
    refine SL.nil ?_
    refine E.to ?_
    refine W.region ?_
    refine SL.val (O.move rfl rfl Taken.no) ?_
    refine SL.val (O.det (fun _ => by first | exact G.R.add64 rfl rfl (by omega) | exact G.R.add rfl rfl) rfl Taken.no) ?_
    refine SL.val (O.assign rfl rfl Taken.no) ?_
    refine SL.nil ?_
    refine E.inn ?_
    refine E.to ?_
    refine W.pick (.cons (t := 0) rfl (.cons (t := 1) rfl (.cons (t := 4) rfl (.cons (t := 5) rfl (.cons (t := 6) rfl .nil))))) (.cons (t := 101) rfl (.cons (t := 102) rfl .nil)) ?_
    refine W.region ?_
    refine SL.val (O.move rfl rfl Taken.no) ?_
    refine SL.val (O.det (fun _ => by first | exact G.R.add64 rfl rfl (by omega) | exact G.R.add rfl rfl) rfl Taken.no) ?_
    refine SL.val (O.assign rfl rfl Taken.no) ?_
    refine SL.nil ?_
    refine E.again ((j + 1)) (rn []) ?_ ?_ rfl (fixL_spec rfl) ?_ ?_
    · exact (SubF.val rfl (by (try dsimp only); first | exact iv_int (by rw [kpt_yes (by omega) hcy]) | exact iv_int (by rw [kpt_no (by omega) hcn, List.length_append]; rfl)) (SubF.cons rfl (SubF.cons rfl (SubF.cons rfl (SubF.cons rfl SubF.nil)))))
    · exact (SubS.val rfl (by (try dsimp only); first | exact sb_data (by rw [dfR_yes (by omega) hcy]) | exact sb_data (by rw [dfR_no (by omega) hcn])) SubS.nil)
    ·try dsimp only
     omega
    · (try dsimp only); omega
   ·skip
    have hcy : pr q[j]! = true := by revert hpc; cases pr q[j]! <;> simp
    refine W.skip ?_
    refine E.inn ?_
    refine E.to ?_
    refine W.region ?_
    refine SL.val (O.move rfl rfl Taken.no) ?_
    refine SL.val (O.det (fun _ => by first | exact G.R.add64 rfl rfl (by omega) | exact G.R.add rfl rfl) rfl Taken.no) ?_
    refine SL.val (O.assign rfl rfl Taken.no) ?_
    refine SL.nil ?_
    refine E.again ((j + 1)) (rn []) ?_ ?_ rfl (fixL_spec rfl) ?_ ?_
    · exact (SubF.val rfl (by (try dsimp only); first | exact iv_int (by rw [kpt_yes (by omega) hcy]) | exact iv_int (by rw [kpt_no (by omega) hcn, List.length_append]; rfl)) (SubF.cons rfl (SubF.cons rfl (SubF.cons rfl (SubF.cons rfl SubF.nil)))))
    · exact (SubS.val rfl (by (try dsimp only); first | exact sb_data (by rw [dfR_yes (by omega) hcy]) | exact sb_data (by rw [dfR_no (by omega) hcn])) SubS.nil)
    ·try dsimp only
     omega
    · (try dsimp only); omega
  ·skip
   refine W.exit ?_
   refine E.th ?_
   refine E.th ?_
   refine E.hit ?_
   refine E.to ?_
   refine W.seq ?_
   refine W.region ?_
   obtain rfl : j = q.length := by omega
   refine SL.val (O.move rfl rfl Taken.no) ?_
   refine SL.val (O.move rfl rfl Taken.no) ?_
   refine SL.val (O.sub_own (i := (kpt q pr q.length).length) rfl rfl (Bnd.at rfl (by first | rfl | omega)) Bnd.no (by rw [List.length_map, hdl]; omega) (by exact Nat.le_refl _) Try.underlying71 hi119 hs119 rfl Taken.no) ?_
   refine SL.effS (O.clear (PartOf.osl rfl (by rw [List.length_map, hdl]; omega) (by exact Nat.le_refl _)) rfl Try.underlying71 hi119 hz119 rfl rfl rfl (rows' := (kpt q pr q.length).map eO ++ List.replicate (q.length - (kpt q pr q.length).length) [uI 0, uI 0, uI 0, .sc (.slice none 0 0)]) (by exact df_clear (f := eO) (by rw [List.length_map, hdl])) Taken.no) (S' := (101, _) :: _) rfl ?_
   refine SL.nil ?_
   refine E.to ?_
   refine W.seq ?_
   refine W.region ?_
   refine SL.val (O.move rfl rfl Taken.no) ?_
   refine SL.val (O.move rfl rfl Taken.no) ?_
   refine SL.val (O.sub_own (j := (kpt q pr q.length).length) rfl rfl Bnd.no (Bnd.at rfl (by first | rfl | omega)) (by omega) (by rw [List.length_append, List.length_map]; omega) Try.underlying71 hi119 hs119 rfl Taken.no) ?_
   refine SL.trunc 41 103 rfl rfl (rows' := (kpt q pr q.length).map eO) (by rw [List.take_left' (List.length_map _)]) rfl rfl ?_
   refine SL.val (O.assign rfl rfl Taken.no) ?_
   refine SL.nil ?_
   refine E.to ?_
   refine W.ret ?_
   refine E.fin (rs := [_]) (rn [(1, 103)]) (.inl rfl) rfl (.cons (ResOne.tmp rfl) .nil) ?_ ?_ rfl (fixL_spec rfl)
   ·skip
    rfl
   · exact (SubS.val rfl (by rw [kpt_all]; rfl) SubS.nil)

end Go.Proofs.Ytoebjajbmkdcfaa
