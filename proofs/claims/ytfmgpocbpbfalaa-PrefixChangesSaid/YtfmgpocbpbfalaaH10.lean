/-
  The walks.
-/
import Derived.Test.YtfmgpocbpbfalaaH9
namespace Go.Proofs.Ytfmgpocbpbfalaa
open Go Go.RowKit Go.H Go.D41

theorem hcallOk10 : G.callOk Try.prog 10 = true := by kernel_rfl
theorem hcallOk11 : G.callOk Try.prog 11 = true := by kernel_rfl
theorem hcallOk21 : G.callOk Try.prog 21 = true := by kernel_rfl
theorem hcallOk22 : G.callOk Try.prog 22 = true := by kernel_rfl
theorem hcallOk23 : G.callOk Try.prog 23 = true := by kernel_rfl
theorem hcallOk25 : G.callOk Try.prog 25 = true := by kernel_rfl
theorem hcallOk27 : G.callOk Try.prog 27 = true := by kernel_rfl
theorem hcallOk30 : G.callOk Try.prog 30 = true := by kernel_rfl
theorem hcallOk35 : G.callOk Try.prog 35 = true := by kernel_rfl
theorem hcallOk36 : G.callOk Try.prog 36 = true := by kernel_rfl
theorem hcallOk37 : G.callOk Try.prog 37 = true := by kernel_rfl

set_option maxRecDepth 8000 in
set_option maxHeartbeats 1600000 in
/-- bookplate/bookplatelaw41.PrefixOf. -/
theorem prefixOf_h {l : List Str} :
    Con Try.prog 3 [vL 1 (l.map eStr)] [] (vB true) [] := by
 refine Con.enterL (n := 39) Try.func3 rfl rfl rfl (fun τ w ok vs hin => ?_)
 have hl0 := hin.len (i := 0) rfl
 try rw [List.length_map] at hl0
 clear hin
 refine W.seq ?_
 refine W.region ?_
 refine SL.val (O.assign rfl rfl Taken.no) ?_
 refine SL.nil ?_
 refine E.to ?_
 refine W.seq ?_
 refine W.seq ?_
 refine W.region ?_
 refine SL.val (O.callp rfl rfl rfl (awake_h) .nil hcallOk10 rfl Taken.no) ?_
 refine SL.as (i' := vB true) 7 rfl (by rfl) ?_
 refine SL.val (O.det (fun _ => G.R.mv (G.R.not rfl) rfl) rfl Taken.no) ?_
 refine SL.nil ?_
 refine E.to ?_
 refine W.cond_f rfl ?_
 refine W.skip ?_
 refine E.to ?_
 refine W.seq ?_
 refine W.seq ?_
 refine W.region ?_
 refine SL.val (O.move rfl rfl Taken.no) ?_
 refine SL.val (O.callp rfl rfl rfl (few_h (l := l)) (.cons (ArgOk.same rfl) .nil) hcallOk11 rfl Taken.no) ?_
 refine SL.val (O.det (fun _ => G.R.not rfl) rfl Taken.no) ?_
 refine SL.nil ?_
 refine E.to ?_
 first | refine W.cond_d rfl (fun hc1 => ?_) (fun hc1 => ?_) | refine W.cond_nd rfl (fun hc1 => ?_) (fun hc1 => ?_) | refine W.cond rfl (fun hc1 => ?_) (fun hc1 => ?_)
 ·skip
  refine W.seq ?_
  refine W.region ?_
  refine SL.val (O.assign rfl rfl Taken.no) ?_
  refine SL.nil ?_
  refine E.to ?_
  refine W.ret ?_
  refine E.thr ?_
  refine E.fin (rs := [_]) (rn []) (.inl rfl) rfl (.cons (ResOne.tmp rfl) .nil) ?_ ?_ rfl (fixL_spec rfl)
  ·skip
   first | rfl | simp_all
  · exact SubS.nil
 ·skip
  have hf : fewS l := by simp_all
  have hf40 := hf.1
  have hbd := ofT_bd (l := l) (by omega)
  refine W.skip ?_
  refine E.to ?_
  refine W.seq ?_
  refine W.region ?_
  refine SL.val (O.move rfl rfl Taken.no) ?_
  refine SL.memS (O.call (rn []) [] rfl rfl rfl (of_h (l := l) (by omega)) (.cons (ArgOk.same rfl) .nil) SubS.nil rfl rfl rfl rfl rfl (.inl rfl) hcallOk12 (r' := .tup [.agg [.u _, .u _, .u _], .u _]) rfl rfl Taken.no) rfl rfl (S' := _) rfl ?_
  refine SL.val (O.move rfl rfl Taken.no) ?_
  refine SL.val (O.extract rfl rfl rfl Taken.no) ?_
  refine SL.val (O.extract rfl rfl rfl Taken.no) ?_
  refine SL.memS (O.alloc (z := .agg #[.string (Go.G.bs []), .bool false, .slice none 0 0]) (is := [.u (.sc (.string (Go.G.bs []))), .u (.sc (.bool false)), .u (.sc (.slice none 0 0))]) 101 (by kernel_rfl) rfl rfl rfl Taken.no) rfl rfl (S' := (101, _) :: _) rfl ?_
  refine SL.effS (O.st_ref (m := 3) rfl rfl rfl (js := [_, _, _]) rfl rfl (by kernel_rfl) (by simp) (Nat.le_of_ble_eq_true rfl) rfl (is' := [_, _, _]) rfl Taken.no) (S' := (101, _) :: _) rfl ?_
  refine SL.val (O.assign rfl rfl Taken.no) ?_
  refine SL.nil ?_
  refine E.to ?_
  refine W.seq ?_
  refine W.region ?_
  refine SL.val (O.move rfl rfl Taken.no) ?_
  refine SL.memS (O.call (rn []) [] rfl rfl rfl (refOf_h (l := l) (by omega)) (.cons (ArgOk.same rfl) .nil) SubS.nil rfl rfl rfl rfl rfl (.inl rfl) hcallOk13 (r' := .tup [.agg [.u _, .u _, .u _], .u _]) rfl rfl Taken.no) rfl rfl (S' := _) rfl ?_
  refine SL.val (O.move rfl rfl Taken.no) ?_
  refine SL.val (O.extract rfl rfl rfl Taken.no) ?_
  refine SL.val (O.extract rfl rfl rfl Taken.no) ?_
  refine SL.memS (O.alloc (z := .agg #[.string (Go.G.bs []), .bool false, .slice none 0 0]) (is := [.u (.sc (.string (Go.G.bs []))), .u (.sc (.bool false)), .u (.sc (.slice none 0 0))]) 102 (by kernel_rfl) rfl rfl rfl Taken.no) rfl rfl (S' := (102, _) :: _) rfl ?_
  refine SL.effS (O.st_ref (m := 3) rfl rfl rfl (js := [_, _, _]) rfl rfl (by kernel_rfl) (by simp) (Nat.le_of_ble_eq_true rfl) rfl (is' := [_, _, _]) rfl Taken.no) (S' := (102, _) :: _) rfl ?_
  refine SL.val (O.assign rfl rfl Taken.no) ?_
  refine SL.nil ?_
  refine E.to ?_
  refine W.seq ?_
  refine W.draw [⟨[101], [], []⟩, ⟨[], [], []⟩, ⟨[102], [], []⟩, ⟨[], [], []⟩, ⟨[], [], []⟩, ⟨[], [], []⟩, ⟨[], [], []⟩, ⟨[], [], []⟩, ⟨[], [], []⟩, ⟨[], [], []⟩, ⟨[], [], []⟩, ⟨[], [], []⟩, ⟨[], [], []⟩, ⟨[101], [], []⟩, ⟨[], [], []⟩, ⟨[], [], []⟩, ⟨[], [], []⟩, ⟨[], [], []⟩] rfl (by kernel_rfl) (by kernel_rfl) rfl rfl ?_
  refine WH.val (O.ldN (m := 3) (PtI.ref rfl rfl) (js := [_, _, _]) rfl (Nat.le_of_ble_eq_true rfl) Try.underlying27 rfl (by kernel_rfl) rfl Taken.no) rfl rfl ?_
  refine WH.memS (O.call (rn []) [] rfl rfl rfl (theirs_h (ofT l) (bd_sm (by decide) _ hbd)) (.cons (ArgOk.aggU (.cons (ArgOk.same rfl) (.cons (ArgOk.same rfl) (.cons (ArgOk.same rfl) .nil)))) .nil) SubS.nil rfl rfl rfl rfl rfl (.inl rfl) hcallOk15 (r' := .agg [.u _, .u _, .u _]) rfl rfl Taken.no) rfl rfl rfl rfl rfl (S' := _) rfl ?_
  refine WH.val (O.ldN (m := 3) (PtI.ref rfl rfl) (js := [_, _, _]) rfl (Nat.le_of_ble_eq_true rfl) Try.underlying33 rfl (by kernel_rfl) rfl Taken.no) rfl rfl ?_
  refine WH.val (OpOk.re (i' := vB true) (O.callp rfl rfl rfl (refEqual_h (ofT l) (ofT l)) (.cons (ArgOk.aggU (.cons (ArgOk.same rfl) (.cons (ArgOk.same rfl) (.cons (ArgOk.same rfl) .nil)))) (.cons (ArgOk.aggU (.cons (ArgOk.same rfl) (.cons (ArgOk.same rfl) (.cons (ArgOk.same rfl) .nil)))) .nil)) hcallOk14 rfl Taken.no) (by exact iv_bool (dec_t rfl))) rfl rfl ?_
  refine WH.val (O.move rfl rfl Taken.no) rfl rfl ?_
  have hg2 : true = true := by decide
  refine WH.val (O.move rfl rfl (Taken.yes rfl rfl hg2)) rfl rfl ?_
  refine WH.val (O.move rfl rfl (Taken.yes rfl rfl hg2)) rfl rfl ?_
  refine WH.val (O.det (fun _ => G.R.mv (G.R.eql rfl rfl) (congrArg Value.bool (decide_eq_true (by rfl)))) rfl (Taken.yes rfl rfl hg2)) rfl rfl ?_
  refine WH.val (O.pick_t rfl rfl rfl rfl Taken.no) rfl rfl ?_
  refine WH.val (O.move rfl rfl Taken.no) rfl rfl ?_
  have hg3 : true = true := by decide
  refine WH.val (O.move rfl rfl (Taken.yes rfl rfl hg3)) rfl rfl ?_
  refine WH.val (O.det (fun _ => G.R.neq rfl rfl) rfl (Taken.yes rfl rfl hg3)) rfl rfl ?_
  refine WH.val (O.move rfl rfl (Taken.yes rfl rfl hg3)) rfl rfl ?_
  refine WH.case (j := 12) (g := 34) (want := false) rfl rfl (fun hg4 => ?_) (fun hg4 => ?_)
  ·skip
   first | have hg4p := G.gA3 hg4 | have hg4p := G.gA4 hg4 | have hg4p := hg4
   refine WH.val (O.ldN (m := 3) (PtI.ref rfl rfl) (js := [_, _, _]) rfl (Nat.le_of_ble_eq_true rfl) Try.underlying27 rfl (by kernel_rfl) rfl (Taken.yes rfl rfl hg4)) rfl rfl ?_
   refine WH.val (OpOk.re (i' := vB true) (O.callp rfl rfl rfl (valid_h (t := ofT l)) (.cons (ArgOk.aggU (.cons (ArgOk.same rfl) (.cons (ArgOk.same rfl) (.cons (ArgOk.same rfl) .nil)))) .nil) hcallOk16 rfl (Taken.yes rfl rfl hg4)) (by exact iv_bool (dec_t (ofT_valid (by omega))))) rfl rfl ?_
   refine WH.val (O.pick_f rfl hg4 rfl rfl (Taken.yes rfl rfl hg3)) rfl rfl ?_
   refine WH.val (O.pick_t rfl rfl rfl rfl Taken.no) rfl rfl ?_
   refine WH.val (O.assign rfl rfl Taken.no) rfl rfl ?_
   refine WH.nil ?_
   refine E.to ?_
   refine W.pick (.cons (t := 2) rfl .nil) (.cons (t := 101) rfl (.cons (t := 102) rfl .nil)) ?_
   refine W.ret ?_
   refine E.fin (rs := [_]) (rn []) (.inl rfl) rfl (.cons (ResOne.tmp rfl) .nil) ?_ ?_ rfl (fixL_spec rfl)
   ·skip
    first | rfl | simp_all
   · exact SubS.nil
  ·skip
   first | have hg4p := G.gA7 hg4 | have hg4p := G.gA8 hg4 | have hg4p := hg4
   refine WH.skip (OpOk.not rfl rfl rfl hg4) ?_
   refine WH.skip (OpOk.not rfl rfl rfl hg4) ?_
   refine WH.val (O.pick_t rfl (G.ne_f hg4) rfl rfl (Taken.yes rfl rfl hg3)) rfl rfl ?_
   refine WH.val (O.pick_t rfl rfl rfl rfl Taken.no) rfl rfl ?_
   refine WH.val (O.assign rfl rfl Taken.no) rfl rfl ?_
   refine WH.nil ?_
   refine E.to ?_
   refine W.pick (.cons (t := 2) rfl .nil) (.cons (t := 101) rfl (.cons (t := 102) rfl .nil)) ?_
   refine W.ret ?_
   refine E.fin (rs := [_]) (rn []) (.inl rfl) rfl (.cons (ResOne.tmp rfl) .nil) ?_ ?_ rfl (fixL_spec rfl)
   ·skip
    first | rfl | simp_all
   · exact SubS.nil

set_option maxRecDepth 8000 in
set_option maxHeartbeats 1600000 in
/-- bookplate/bookplatelaw41.PrefixFind. -/
theorem prefixFind_h {l : List Str} {s : Str} (i : Int) :
    Con Try.prog 5 [vL 1 (l.map eStr), vT s, vI i] [] (vB true) [] := by
 refine Con.enterL (n := 116) Try.func5 rfl rfl rfl (fun τ w ok vs hin => ?_)
 have hl0 := hin.len (i := 0) rfl
 try rw [List.length_map] at hl0
 clear hin
 refine W.seq ?_
 refine W.region ?_
 refine SL.val (O.assign rfl rfl Taken.no) ?_
 refine SL.nil ?_
 refine E.to ?_
 refine W.seq ?_
 refine W.seq ?_
 refine W.region ?_
 refine SL.val (O.callp rfl rfl rfl (awake_h) .nil hcallOk10 rfl Taken.no) ?_
 refine SL.as (i' := vB true) 18 rfl (by rfl) ?_
 refine SL.val (O.det (fun _ => G.R.mv (G.R.not rfl) rfl) rfl Taken.no) ?_
 refine SL.nil ?_
 refine E.to ?_
 refine W.cond_f rfl ?_
 refine W.skip ?_
 refine E.to ?_
 refine W.seq ?_
 refine W.seq ?_
 refine W.region ?_
 refine SL.val (O.move rfl rfl Taken.no) ?_
 refine SL.val (O.callp rfl rfl rfl (few_h (l := l)) (.cons (ArgOk.same rfl) .nil) hcallOk11 rfl Taken.no) ?_
 refine SL.val (O.det (fun _ => G.R.not rfl) rfl Taken.no) ?_
 refine SL.nil ?_
 refine E.to ?_
 first | refine W.cond_d rfl (fun hc1 => ?_) (fun hc1 => ?_) | refine W.cond_nd rfl (fun hc1 => ?_) (fun hc1 => ?_) | refine W.cond rfl (fun hc1 => ?_) (fun hc1 => ?_)
 ·skip
  refine W.seq ?_
  refine W.region ?_
  refine SL.val (O.assign rfl rfl Taken.no) ?_
  refine SL.nil ?_
  refine E.to ?_
  refine W.ret ?_
  refine E.thr ?_
  refine E.fin (rs := [_]) (rn []) (.inl rfl) rfl (.cons (ResOne.tmp rfl) .nil) ?_ ?_ rfl (fixL_spec rfl)
  ·skip
   rfl
  · exact SubS.nil
 ·skip
  have hf : fewS l := by simp_all
  have hf40 := hf.1
  refine W.skip ?_
  refine E.to ?_
  refine W.seq ?_
  refine W.region ?_
  refine SL.val (O.move rfl rfl Taken.no) ?_
  refine SL.memS (O.call (rn []) [] rfl rfl rfl (refOf_h (l := l) (by omega)) (.cons (ArgOk.same rfl) .nil) SubS.nil rfl rfl rfl rfl rfl (.inl rfl) hcallOk13 (r' := .tup [.agg [.u _, .u _, .u _], .u _]) rfl rfl Taken.no) rfl rfl (S' := _) rfl ?_
  refine SL.val (O.move rfl rfl Taken.no) ?_
  refine SL.val (O.extract rfl rfl rfl Taken.no) ?_
  refine SL.val (O.extract rfl rfl rfl Taken.no) ?_
  refine SL.memS (O.alloc (z := .agg #[.string (Go.G.bs []), .bool false, .slice none 0 0]) (is := [.u (.sc (.string (Go.G.bs []))), .u (.sc (.bool false)), .u (.sc (.slice none 0 0))]) 101 (by kernel_rfl) rfl rfl rfl Taken.no) rfl rfl (S' := (101, _) :: _) rfl ?_
  refine SL.effS (O.st_ref (m := 3) rfl rfl rfl (js := [_, _, _]) rfl rfl (by kernel_rfl) (by simp) (Nat.le_of_ble_eq_true rfl) rfl (is' := [_, _, _]) rfl Taken.no) (S' := (101, _) :: _) rfl ?_
  refine SL.val (O.assign rfl rfl Taken.no) ?_
  refine SL.nil ?_
  refine E.to ?_
  refine W.seq ?_
  refine W.seq ?_
  refine W.region ?_
  refine SL.val (O.move rfl rfl Taken.no) ?_
  refine SL.val (O.det (fun _ => G.R.lenL rfl Try.underlying9) rfl Taken.no) ?_
  refine SL.val (O.det (fun _ => G.R.gtr rfl rfl) rfl Taken.no) ?_
  refine SL.val (O.move rfl rfl Taken.no) ?_
  refine SL.case (j := 3) (g := 31) (want := false) rfl rfl (fun hg2 => ?_) (fun hg2 => ?_)
  ·skip
   first | have hg2p := G.gA3 hg2 | have hg2p := G.gA4 hg2 | have hg2p := hg2
   refine SL.val (O.move rfl rfl (Taken.yes rfl rfl hg2)) ?_
   refine SL.val (O.det (fun _ => G.R.neq rfl rfl) rfl (Taken.yes rfl rfl hg2)) ?_
   refine SL.val (O.pick_f rfl hg2 rfl rfl Taken.no) ?_
   refine SL.nil ?_
   refine E.to ?_
   first | refine W.cond_d rfl (fun hc3 => ?_) (fun hc3 => ?_) | refine W.cond_nd rfl (fun hc3 => ?_) (fun hc3 => ?_) | refine W.cond rfl (fun hc3 => ?_) (fun hc3 => ?_)
   ·skip
    refine W.seq ?_
    refine W.region ?_
    refine SL.val (O.assign rfl rfl Taken.no) ?_
    refine SL.nil ?_
    refine E.to ?_
    refine W.pick (.cons (t := 1) rfl (.cons (t := 2) rfl (.cons (t := 6) rfl (.cons (t := 7) rfl .nil)))) (.cons (t := 101) rfl .nil) ?_
    refine W.ret ?_
    refine E.thr ?_
    refine E.fin (rs := [_]) (rn []) (.inl rfl) rfl (.cons (ResOne.tmp rfl) .nil) ?_ ?_ rfl (fixL_spec rfl)
    ·skip
     rfl
    · exact SubS.nil
   ·skip
    have hE : ofE l = 0 := by omega
    have ho := of_facts (l := l) (by omega) hE
    have hb : bd 1000 (ofT l) := bd_mono ho.1 (by decide)
    have hA := ho.2.2.2.2.2.1
    have hin := hb.2.2
    have hsl : s.length ≤ 120 := by omega
    refine W.skip ?_
    refine E.to ?_
    refine W.seq ?_
    refine W.region ?_
    refine SL.val (O.ldN (m := 3) (PtI.ref rfl rfl) (js := [_, _, _]) rfl (Nat.le_of_ble_eq_true rfl) Try.underlying33 rfl (by kernel_rfl) rfl Taken.no) ?_
    refine SL.memS (O.call (rn []) [] rfl rfl rfl (own_h (ofT l) (bd_sm (by decide) _ hb)) (.cons (ArgOk.aggU (.cons (ArgOk.same rfl) (.cons (ArgOk.same rfl) (.cons (ArgOk.same rfl) .nil)))) .nil) SubS.nil rfl rfl rfl rfl rfl (.inl rfl) hcallOk20 (r' := .agg [.u _, .u _, .u _]) rfl rfl Taken.no) rfl rfl (S' := _) rfl ?_
    refine SL.memS (O.alloc (z := .agg #[.string (Go.G.bs []), .bool false, .slice none 0 0]) (is := [.u (.sc (.string (Go.G.bs []))), .u (.sc (.bool false)), .u (.sc (.slice none 0 0))]) 102 (by kernel_rfl) rfl rfl rfl Taken.no) rfl rfl (S' := (102, _) :: _) rfl ?_
    refine SL.effS (O.st_ref (m := 3) rfl rfl rfl (js := [_, _, _]) rfl rfl (by kernel_rfl) (by simp) (Nat.le_of_ble_eq_true rfl) rfl (is' := [_, _, _]) rfl Taken.no) (S' := (102, _) :: _) rfl ?_
    refine SL.nil ?_
    refine E.to ?_
    refine W.pick (.cons (t := 1) rfl (.cons (t := 2) rfl (.cons (t := 6) rfl (.cons (t := 7) rfl (.cons (t := 9) rfl .nil))))) (.cons (t := 101) rfl (.cons (t := 102) rfl .nil)) ?_
    refine W.seq ?_
    refine W.region ?_
    refine SL.val (O.ldN (m := 3) (PtI.ref rfl rfl) (js := [_, _, _]) rfl (Nat.le_of_ble_eq_true rfl) Try.underlying27 rfl (by kernel_rfl) rfl Taken.no) ?_
    refine SL.val (O.move rfl rfl Taken.no) ?_
    refine SL.memS (O.call (rn []) [] rfl rfl rfl (Nth_h (t := ofT l) hb i) (.cons (ArgOk.aggU (.cons (ArgOk.same rfl) (.cons (ArgOk.same rfl) (.cons (ArgOk.same rfl) .nil)))) (.cons (ArgOk.same rfl) .nil)) SubS.nil rfl rfl rfl rfl rfl (.inl rfl) hcallOk21 (r' := .tup [.u _, .u _]) rfl rfl Taken.no) rfl rfl (S' := _) rfl ?_
    refine SL.val (O.move rfl rfl Taken.no) ?_
    refine SL.val (O.extract rfl rfl rfl Taken.no) ?_
    refine SL.val (O.extract rfl rfl rfl Taken.no) ?_
    refine SL.val (O.assign rfl rfl Taken.no) ?_
    refine SL.val (O.assign rfl rfl Taken.no) ?_
    refine SL.nil ?_
    refine E.to ?_
    refine W.seq ?_
    refine W.region ?_
    refine SL.val (O.ldN (m := 3) (PtI.ref rfl rfl) (js := [_, _, _]) rfl (Nat.le_of_ble_eq_true rfl) Try.underlying33 rfl (by kernel_rfl) rfl Taken.no) ?_
    refine SL.val (O.move rfl rfl Taken.no) ?_
    refine SL.memS (O.call (rn []) [] rfl rfl rfl (refNth_h (t := ofT l) i hb ho.2.1) (.cons (ArgOk.aggU (.cons (ArgOk.same rfl) (.cons (ArgOk.same rfl) (.cons (ArgOk.same rfl) .nil)))) (.cons (ArgOk.same rfl) .nil)) SubS.nil rfl rfl rfl rfl rfl (.inl rfl) hcallOk22 (r' := .tup [.u _, .u _]) rfl rfl Taken.no) rfl rfl (S' := _) rfl ?_
    refine SL.val (O.move rfl rfl Taken.no) ?_
    refine SL.val (O.extract rfl rfl rfl Taken.no) ?_
    refine SL.val (O.extract rfl rfl rfl Taken.no) ?_
    refine SL.val (O.assign rfl rfl Taken.no) ?_
    refine SL.val (O.assign rfl rfl Taken.no) ?_
    refine SL.nil ?_
    refine E.to ?_
    refine W.seq ?_
    refine W.region ?_
    refine SL.val (O.ldN (m := 3) (PtI.ref rfl rfl) (js := [_, _, _]) rfl (Nat.le_of_ble_eq_true rfl) Try.underlying27 rfl (by kernel_rfl) rfl Taken.no) ?_
    refine SL.val (O.move rfl rfl Taken.no) ?_
    refine SL.memS (O.call (rn []) [] rfl rfl rfl (longest_h (t := ofT l) (s := s) hb ho.2.2.1 (by omega)) (.cons (ArgOk.aggU (.cons (ArgOk.same rfl) (.cons (ArgOk.same rfl) (.cons (ArgOk.same rfl) .nil)))) (.cons (ArgOk.same rfl) .nil)) SubS.nil rfl rfl rfl rfl rfl (.inl rfl) hcallOk17 (r' := .tup [.u _, .u _]) rfl rfl Taken.no) rfl rfl (S' := _) rfl ?_
    refine SL.val (O.move rfl rfl Taken.no) ?_
    refine SL.val (O.extract rfl rfl rfl Taken.no) ?_
    refine SL.val (O.extract rfl rfl rfl Taken.no) ?_
    refine SL.val (O.assign rfl rfl Taken.no) ?_
    refine SL.val (O.assign rfl rfl Taken.no) ?_
    refine SL.nil ?_
    refine E.to ?_
    refine W.pick (.cons (t := 1) rfl (.cons (t := 6) rfl (.cons (t := 7) rfl (.cons (t := 9) rfl (.cons (t := 10) rfl (.cons (t := 11) rfl (.cons (t := 12) rfl (.cons (t := 13) rfl (.cons (t := 14) rfl (.cons (t := 15) rfl .nil)))))))))) (.cons (t := 101) rfl (.cons (t := 102) rfl .nil)) ?_
    refine W.seq ?_
    refine W.region ?_
    refine SL.val (O.ldN (m := 3) (PtI.ref rfl rfl) (js := [_, _, _]) rfl (Nat.le_of_ble_eq_true rfl) Try.underlying33 rfl (by kernel_rfl) rfl Taken.no) ?_
    refine SL.val (O.move rfl rfl Taken.no) ?_
    refine SL.memS (O.call (rn []) [] rfl rfl rfl (refLongest_h (t := ofT l) (s := s) hb ho.2.1) (.cons (ArgOk.aggU (.cons (ArgOk.same rfl) (.cons (ArgOk.same rfl) (.cons (ArgOk.same rfl) .nil)))) (.cons (ArgOk.same rfl) .nil)) SubS.nil rfl rfl rfl rfl rfl (.inl rfl) hcallOk23 (r' := .tup [.u _, .u _]) rfl rfl Taken.no) rfl rfl (S' := _) rfl ?_
    refine SL.val (O.move rfl rfl Taken.no) ?_
    refine SL.val (O.extract rfl rfl rfl Taken.no) ?_
    refine SL.val (O.extract rfl rfl rfl Taken.no) ?_
    refine SL.val (O.assign rfl rfl Taken.no) ?_
    refine SL.val (O.assign rfl rfl Taken.no) ?_
    refine SL.nil ?_
    refine E.to ?_
    refine W.seq ?_
    refine W.draw [⟨[], [], []⟩, ⟨[], [], []⟩, ⟨[], [], []⟩, ⟨[], [], []⟩, ⟨[], [], []⟩, ⟨[], [], []⟩, ⟨[], [], []⟩, ⟨[], [], []⟩, ⟨[], [], []⟩, ⟨[], [], []⟩, ⟨[], [], []⟩, ⟨[], [], []⟩, ⟨[], [], []⟩, ⟨[], [], []⟩, ⟨[], [], []⟩, ⟨[], [], []⟩, ⟨[], [], []⟩, ⟨[], [], []⟩, ⟨[], [], []⟩, ⟨[102], [], []⟩, ⟨[], [], []⟩, ⟨[], [], []⟩, ⟨[101], [], []⟩, ⟨[], [], []⟩, ⟨[], [], []⟩, ⟨[], [], []⟩, ⟨[], [], []⟩, ⟨[], [], []⟩, ⟨[102], [], []⟩, ⟨[], [], []⟩, ⟨[], [], []⟩, ⟨[101], [], []⟩, ⟨[], [], []⟩, ⟨[], [], []⟩, ⟨[], [], []⟩, ⟨[], [], []⟩, ⟨[], [], []⟩, ⟨[102], [], []⟩, ⟨[], [], []⟩, ⟨[], [], []⟩, ⟨[101], [], []⟩, ⟨[], [], []⟩, ⟨[], [], []⟩, ⟨[], [], []⟩, ⟨[], [], []⟩, ⟨[], [], []⟩, ⟨[], [], []⟩, ⟨[102], [], []⟩, ⟨[], [], []⟩, ⟨[], [], []⟩, ⟨[101], [], []⟩, ⟨[], [], []⟩, ⟨[], [], []⟩, ⟨[], [], []⟩, ⟨[], [], []⟩, ⟨[], [], []⟩] rfl (by kernel_rfl) (by kernel_rfl) rfl rfl ?_
    refine WH.val (O.move rfl rfl Taken.no) rfl rfl ?_
    refine WH.val (O.move rfl rfl Taken.no) rfl rfl ?_
    refine WH.val (O.det (fun _ => G.R.mv (G.R.streqL  rfl rfl) (congrArg Value.bool (decide_eq_true (by rfl)))) rfl Taken.no) rfl rfl ?_
    refine WH.val (O.move rfl rfl Taken.no) rfl rfl ?_
    have hg4 : true = true := by decide
    refine WH.val (O.move rfl rfl (Taken.yes rfl rfl hg4)) rfl rfl ?_
    refine WH.val (O.move rfl rfl (Taken.yes rfl rfl hg4)) rfl rfl ?_
    refine WH.val (O.det (fun _ => G.R.mv (G.R.booleql rfl rfl Try.underlying4) (congrArg Value.bool (show _ = true by simp))) rfl (Taken.yes rfl rfl hg4)) rfl rfl ?_
    refine WH.val (O.pick_t rfl rfl rfl rfl Taken.no) rfl rfl ?_
    refine WH.val (O.move rfl rfl Taken.no) rfl rfl ?_
    have hg5 : true = true := by decide
    refine WH.val (O.move rfl rfl (Taken.yes rfl rfl hg5)) rfl rfl ?_
    refine WH.val (O.move rfl rfl (Taken.yes rfl rfl hg5)) rfl rfl ?_
    refine WH.val (O.det (fun _ => G.R.mv (G.R.streqL  rfl rfl) (congrArg Value.bool (decide_eq_true (by rfl)))) rfl (Taken.yes rfl rfl hg5)) rfl rfl ?_
    refine WH.val (O.pick_t rfl rfl rfl rfl Taken.no) rfl rfl ?_
    refine WH.val (O.move rfl rfl Taken.no) rfl rfl ?_
    have hg6 : true = true := by decide
    refine WH.val (O.move rfl rfl (Taken.yes rfl rfl hg6)) rfl rfl ?_
    refine WH.val (O.move rfl rfl (Taken.yes rfl rfl hg6)) rfl rfl ?_
    refine WH.val (O.det (fun _ => G.R.mv (G.R.booleql rfl rfl Try.underlying4) (congrArg Value.bool (show _ = true by simp))) rfl (Taken.yes rfl rfl hg6)) rfl rfl ?_
    refine WH.val (O.pick_t rfl rfl rfl rfl Taken.no) rfl rfl ?_
    refine WH.val (O.move rfl rfl Taken.no) rfl rfl ?_
    have hg7 : true = true := by decide
    refine WH.val (O.ldN (m := 3) (PtI.ref rfl rfl) (js := [_, _, _]) rfl (Nat.le_of_ble_eq_true rfl) Try.underlying27 rfl (by kernel_rfl) rfl (Taken.yes rfl rfl hg7)) rfl rfl ?_
    refine WH.val (O.move rfl rfl (Taken.yes rfl rfl hg7)) rfl rfl ?_
    refine WH.val (O.callp rfl rfl rfl (has_h (t := ofT l) (s := s) hb (by omega)) (.cons (ArgOk.aggU (.cons (ArgOk.same rfl) (.cons (ArgOk.same rfl) (.cons (ArgOk.same rfl) .nil)))) (.cons (ArgOk.same rfl) .nil)) hcallOk18 rfl (Taken.yes rfl rfl hg7)) rfl rfl ?_
    refine WH.val (O.ldN (m := 3) (PtI.ref rfl rfl) (js := [_, _, _]) rfl (Nat.le_of_ble_eq_true rfl) Try.underlying33 rfl (by kernel_rfl) rfl (Taken.yes rfl rfl hg7)) rfl rfl ?_
    refine WH.val (O.move rfl rfl (Taken.yes rfl rfl hg7)) rfl rfl ?_
    refine WH.val (O.callp rfl rfl rfl (refHas_h (t := ofT l) (s := s) hb ho.2.1) (.cons (ArgOk.aggU (.cons (ArgOk.same rfl) (.cons (ArgOk.same rfl) (.cons (ArgOk.same rfl) .nil)))) (.cons (ArgOk.same rfl) .nil)) hcallOk24 rfl (Taken.yes rfl rfl hg7)) rfl rfl ?_
    refine WH.val (O.det (fun _ => G.R.mv (G.R.booleql rfl rfl Try.underlying4) (congrArg Value.bool (show _ = true by simp))) rfl (Taken.yes rfl rfl hg7)) rfl rfl ?_
    refine WH.val (O.pick_t rfl rfl rfl rfl Taken.no) rfl rfl ?_
    refine WH.val (O.move rfl rfl Taken.no) rfl rfl ?_
    have hg8 : true = true := by decide
    refine WH.val (O.ldN (m := 3) (PtI.ref rfl rfl) (js := [_, _, _]) rfl (Nat.le_of_ble_eq_true rfl) Try.underlying27 rfl (by kernel_rfl) rfl (Taken.yes rfl rfl hg8)) rfl rfl ?_
    refine WH.val (O.move rfl rfl (Taken.yes rfl rfl hg8)) rfl rfl ?_
    refine WH.val (O.callp rfl rfl rfl (With_h (t := ofT l) (p := s) hb (by omega)) (.cons (ArgOk.aggU (.cons (ArgOk.same rfl) (.cons (ArgOk.same rfl) (.cons (ArgOk.same rfl) .nil)))) (.cons (ArgOk.same rfl) .nil)) hcallOk26 rfl (Taken.yes rfl rfl hg8)) rfl rfl ?_
    refine WH.val (O.ldN (m := 3) (PtI.ref rfl rfl) (js := [_, _, _]) rfl (Nat.le_of_ble_eq_true rfl) Try.underlying33 rfl (by kernel_rfl) rfl (Taken.yes rfl rfl hg8)) rfl rfl ?_
    refine WH.val (O.move rfl rfl (Taken.yes rfl rfl hg8)) rfl rfl ?_
    refine WH.val (O.callp rfl rfl rfl (refWith_h (t := ofT l) (p := s) hb ho.2.1) (.cons (ArgOk.aggU (.cons (ArgOk.same rfl) (.cons (ArgOk.same rfl) (.cons (ArgOk.same rfl) .nil)))) (.cons (ArgOk.same rfl) .nil)) hcallOk27 rfl (Taken.yes rfl rfl hg8)) rfl rfl ?_
    refine WH.val (OpOk.re (i' := vB true) (O.callp rfl rfl rfl (sameTexts_h (a := wthL s (ofT l).inn) (b := wthL s (ofT l).inn)) (.cons (ArgOk.same rfl) (.cons (ArgOk.same rfl) .nil)) hcallOk25 rfl (Taken.yes rfl rfl hg8)) (by exact iv_bool (dec_t rfl))) rfl rfl ?_
    refine WH.val (O.pick_t rfl rfl rfl rfl Taken.no) rfl rfl ?_
    refine WH.val (O.move rfl rfl Taken.no) rfl rfl ?_
    have hg9 : true = true := by decide
    refine WH.val (O.ldN (m := 3) (PtI.ref rfl rfl) (js := [_, _, _]) rfl (Nat.le_of_ble_eq_true rfl) Try.underlying27 rfl (by kernel_rfl) rfl (Taken.yes rfl rfl hg9)) rfl rfl ?_
    refine WH.val (O.move rfl rfl (Taken.yes rfl rfl hg9)) rfl rfl ?_
    refine WH.val (O.callp rfl rfl rfl (Count_h (t := ofT l) (p := s) hb (by omega)) (.cons (ArgOk.aggU (.cons (ArgOk.same rfl) (.cons (ArgOk.same rfl) (.cons (ArgOk.same rfl) .nil)))) (.cons (ArgOk.same rfl) .nil)) hcallOk28 rfl (Taken.yes rfl rfl hg9)) rfl rfl ?_
    refine WH.val (O.ldN (m := 3) (PtI.ref rfl rfl) (js := [_, _, _]) rfl (Nat.le_of_ble_eq_true rfl) Try.underlying33 rfl (by kernel_rfl) rfl (Taken.yes rfl rfl hg9)) rfl rfl ?_
    refine WH.val (O.move rfl rfl (Taken.yes rfl rfl hg9)) rfl rfl ?_
    refine WH.val (O.callp rfl rfl rfl (refWith_h (t := ofT l) (p := s) hb ho.2.1) (.cons (ArgOk.aggU (.cons (ArgOk.same rfl) (.cons (ArgOk.same rfl) (.cons (ArgOk.same rfl) .nil)))) (.cons (ArgOk.same rfl) .nil)) hcallOk27 rfl (Taken.yes rfl rfl hg9)) rfl rfl ?_
    refine WH.val (O.lenE (n := (wthL s (ofT l).inn).length) (SlOf.fz rfl (by decide)) (by rw [List.length_map]) Try.underlying22 rfl (Taken.yes rfl rfl hg9)) rfl rfl ?_
    refine WH.val (O.det (fun _ => G.R.mv (G.R.eql rfl rfl) (congrArg Value.bool (decide_eq_true (by rfl)))) rfl (Taken.yes rfl rfl hg9)) rfl rfl ?_
    refine WH.val (O.pick_t rfl rfl rfl rfl Taken.no) rfl rfl ?_
    refine WH.val (O.move rfl rfl Taken.no) rfl rfl ?_
    have hg10 : true = true := by decide
    refine WH.val (O.ldN (m := 3) (PtI.ref rfl rfl) (js := [_, _, _]) rfl (Nat.le_of_ble_eq_true rfl) Try.underlying27 rfl (by kernel_rfl) rfl (Taken.yes rfl rfl hg10)) rfl rfl ?_
    refine WH.val (O.move rfl rfl (Taken.yes rfl rfl hg10)) rfl rfl ?_
    refine WH.val (O.callp rfl rfl rfl (Rank_h (t := ofT l) (s := s) hb) (.cons (ArgOk.aggU (.cons (ArgOk.same rfl) (.cons (ArgOk.same rfl) (.cons (ArgOk.same rfl) .nil)))) (.cons (ArgOk.same rfl) .nil)) hcallOk29 rfl (Taken.yes rfl rfl hg10)) rfl rfl ?_
    refine WH.val (O.ldN (m := 3) (PtI.ref rfl rfl) (js := [_, _, _]) rfl (Nat.le_of_ble_eq_true rfl) Try.underlying33 rfl (by kernel_rfl) rfl (Taken.yes rfl rfl hg10)) rfl rfl ?_
    refine WH.val (O.move rfl rfl (Taken.yes rfl rfl hg10)) rfl rfl ?_
    refine WH.val (O.callp rfl rfl rfl (refRank_h (t := ofT l) (s := s) hb ho.2.1) (.cons (ArgOk.aggU (.cons (ArgOk.same rfl) (.cons (ArgOk.same rfl) (.cons (ArgOk.same rfl) .nil)))) (.cons (ArgOk.same rfl) .nil)) hcallOk30 rfl (Taken.yes rfl rfl hg10)) rfl rfl ?_
    refine WH.val (O.det (fun _ => G.R.mv (G.R.eql rfl rfl) (congrArg Value.bool (decide_eq_true (by rfl)))) rfl (Taken.yes rfl rfl hg10)) rfl rfl ?_
    refine WH.val (O.pick_t rfl rfl rfl rfl Taken.no) rfl rfl ?_
    refine WH.val (O.assign rfl rfl Taken.no) rfl rfl ?_
    refine WH.nil ?_
    refine E.to ?_
    refine W.pick (.cons (t := 6) rfl .nil) (.cons (t := 101) rfl (.cons (t := 102) rfl .nil)) ?_
    refine W.ret ?_
    refine E.fin (rs := [_]) (rn []) (.inl rfl) rfl (.cons (ResOne.tmp rfl) .nil) ?_ ?_ rfl (fixL_spec rfl)
    ·skip
     rfl
    · exact SubS.nil
  ·skip
   first | have hg2p := G.gA7 hg2 | have hg2p := G.gA8 hg2 | have hg2p := hg2
   refine SL.skip (OpOk.not rfl rfl rfl hg2) ?_
   refine SL.skip (OpOk.not rfl rfl rfl hg2) ?_
   refine SL.val (O.pick_t rfl (G.ne_f hg2) rfl rfl Taken.no) ?_
   refine SL.nil ?_
   refine E.to ?_
   refine W.cond_t rfl ?_
   refine W.seq ?_
   refine W.region ?_
   refine SL.val (O.assign rfl rfl Taken.no) ?_
   refine SL.nil ?_
   refine E.to ?_
   refine W.pick (.cons (t := 1) rfl (.cons (t := 2) rfl (.cons (t := 6) rfl (.cons (t := 7) rfl .nil)))) (.cons (t := 101) rfl .nil) ?_
   refine W.ret ?_
   refine E.thr ?_
   refine E.fin (rs := [_]) (rn []) (.inl rfl) rfl (.cons (ResOne.tmp rfl) .nil) ?_ ?_ rfl (fixL_spec rfl)
   ·skip
    rfl
   · exact SubS.nil

set_option maxRecDepth 8000 in
set_option maxHeartbeats 1600000 in
/-- bookplate/bookplatelaw41.PrefixChanges. -/
theorem prefixChanges_h {l : List Str} {s : Str} :
    Con Try.prog 8 [vL 1 (l.map eStr), vT s] [] (vB true) [] := by
 refine Con.enterL (n := 78) Try.func8 rfl rfl rfl (fun τ w ok vs hin => ?_)
 have hl0 := hin.len (i := 0) rfl
 try rw [List.length_map] at hl0
 clear hin
 refine W.seq ?_
 refine W.region ?_
 refine SL.val (O.assign rfl rfl Taken.no) ?_
 refine SL.nil ?_
 refine E.to ?_
 refine W.seq ?_
 refine W.seq ?_
 refine W.region ?_
 refine SL.val (O.callp rfl rfl rfl (awake_h) .nil hcallOk10 rfl Taken.no) ?_
 refine SL.as (i' := vB true) 15 rfl (by rfl) ?_
 refine SL.val (O.det (fun _ => G.R.mv (G.R.not rfl) rfl) rfl Taken.no) ?_
 refine SL.nil ?_
 refine E.to ?_
 refine W.cond_f rfl ?_
 refine W.skip ?_
 refine E.to ?_
 refine W.seq ?_
 refine W.seq ?_
 refine W.region ?_
 refine SL.val (O.move rfl rfl Taken.no) ?_
 refine SL.val (O.callp rfl rfl rfl (few_h (l := l)) (.cons (ArgOk.same rfl) .nil) hcallOk11 rfl Taken.no) ?_
 refine SL.val (O.det (fun _ => G.R.not rfl) rfl Taken.no) ?_
 refine SL.nil ?_
 refine E.to ?_
 first | refine W.cond_d rfl (fun hc1 => ?_) (fun hc1 => ?_) | refine W.cond_nd rfl (fun hc1 => ?_) (fun hc1 => ?_) | refine W.cond rfl (fun hc1 => ?_) (fun hc1 => ?_)
 ·skip
  refine W.seq ?_
  refine W.region ?_
  refine SL.val (O.assign rfl rfl Taken.no) ?_
  refine SL.nil ?_
  refine E.to ?_
  refine W.ret ?_
  refine E.thr ?_
  refine E.fin (rs := [_]) (rn []) (.inl rfl) rfl (.cons (ResOne.tmp rfl) .nil) ?_ ?_ rfl (fixL_spec rfl)
  ·skip
   rfl
  · exact SubS.nil
 ·skip
  have hf : fewS l := by simp_all
  have hf40 := hf.1
  refine W.skip ?_
  refine E.to ?_
  refine W.seq ?_
  refine W.region ?_
  refine SL.val (O.move rfl rfl Taken.no) ?_
  refine SL.memS (O.call (rn []) [] rfl rfl rfl (refOf_h (l := l) (by omega)) (.cons (ArgOk.same rfl) .nil) SubS.nil rfl rfl rfl rfl rfl (.inl rfl) hcallOk13 (r' := .tup [.agg [.u _, .u _, .u _], .u _]) rfl rfl Taken.no) rfl rfl (S' := _) rfl ?_
  refine SL.val (O.move rfl rfl Taken.no) ?_
  refine SL.val (O.extract rfl rfl rfl Taken.no) ?_
  refine SL.val (O.extract rfl rfl rfl Taken.no) ?_
  refine SL.memS (O.alloc (z := .agg #[.string (Go.G.bs []), .bool false, .slice none 0 0]) (is := [.u (.sc (.string (Go.G.bs []))), .u (.sc (.bool false)), .u (.sc (.slice none 0 0))]) 101 (by kernel_rfl) rfl rfl rfl Taken.no) rfl rfl (S' := (101, _) :: _) rfl ?_
  refine SL.effS (O.st_ref (m := 3) rfl rfl rfl (js := [_, _, _]) rfl rfl (by kernel_rfl) (by simp) (Nat.le_of_ble_eq_true rfl) rfl (is' := [_, _, _]) rfl Taken.no) (S' := (101, _) :: _) rfl ?_
  refine SL.val (O.assign rfl rfl Taken.no) ?_
  refine SL.nil ?_
  refine E.to ?_
  refine W.seq ?_
  refine W.seq ?_
  refine W.region ?_
  refine SL.val (O.move rfl rfl Taken.no) ?_
  refine SL.val (O.det (fun _ => G.R.lenL rfl Try.underlying9) rfl Taken.no) ?_
  refine SL.val (O.det (fun _ => G.R.gtr rfl rfl) rfl Taken.no) ?_
  refine SL.val (O.move rfl rfl Taken.no) ?_
  refine SL.case (j := 3) (g := 28) (want := false) rfl rfl (fun hg2 => ?_) (fun hg2 => ?_)
  ·skip
   first | have hg2p := G.gA3 hg2 | have hg2p := G.gA4 hg2 | have hg2p := hg2
   refine SL.val (O.move rfl rfl (Taken.yes rfl rfl hg2)) ?_
   refine SL.val (O.det (fun _ => G.R.neq rfl rfl) rfl (Taken.yes rfl rfl hg2)) ?_
   refine SL.val (O.pick_f rfl hg2 rfl rfl Taken.no) ?_
   refine SL.nil ?_
   refine E.to ?_
   first | refine W.cond_d rfl (fun hc3 => ?_) (fun hc3 => ?_) | refine W.cond_nd rfl (fun hc3 => ?_) (fun hc3 => ?_) | refine W.cond rfl (fun hc3 => ?_) (fun hc3 => ?_)
   ·skip
    refine W.seq ?_
    refine W.region ?_
    refine SL.val (O.assign rfl rfl Taken.no) ?_
    refine SL.nil ?_
    refine E.to ?_
    refine W.ret ?_
    refine E.thr ?_
    refine E.fin (rs := [_]) (rn []) (.inl rfl) rfl (.cons (ResOne.tmp rfl) .nil) ?_ ?_ rfl (fixL_spec rfl)
    ·skip
     rfl
    · exact SubS.nil
   ·skip
    have hE : ofE l = 0 := by omega
    have ho := of_facts (l := l) (by omega) hE
    have hb : bd 1000 (ofT l) := bd_mono ho.1 (by decide)
    have hA := ho.2.2.2.2.2.1
    have hin := hb.2.2
    have hsl : s.length ≤ 120 := by omega
    have hgd := gd_of (l := l) (by omega) hE
    have hbi := insP_bd (s := s) ho.1 (by omega)
    have hbr := remP_bd ho.1 s
    refine W.skip ?_
    refine E.to ?_
    refine W.seq ?_
    refine W.region ?_
    refine SL.val (O.ldN (m := 3) (PtI.ref rfl rfl) (js := [_, _, _]) rfl (Nat.le_of_ble_eq_true rfl) Try.underlying33 rfl (by kernel_rfl) rfl Taken.no) ?_
    refine SL.memS (O.call (rn []) [] rfl rfl rfl (own_h (ofT l) (bd_sm (by decide) _ hb)) (.cons (ArgOk.aggU (.cons (ArgOk.same rfl) (.cons (ArgOk.same rfl) (.cons (ArgOk.same rfl) .nil)))) .nil) SubS.nil rfl rfl rfl rfl rfl (.inl rfl) hcallOk20 (r' := .agg [.u _, .u _, .u _]) rfl rfl Taken.no) rfl rfl (S' := _) rfl ?_
    refine SL.val (O.move rfl rfl Taken.no) ?_
    refine SL.memS (O.call (rn []) [] rfl rfl rfl (Insert_h (t := ofT l) (s := s) hb (by omega)) (.cons (ArgOk.aggU (.cons (ArgOk.same rfl) (.cons (ArgOk.same rfl) (.cons (ArgOk.same rfl) .nil)))) (.cons (ArgOk.same rfl) .nil)) SubS.nil rfl rfl rfl rfl rfl (.inl rfl) hcallOk34 (r' := .tup [.agg [.u _, .u _, .u _], .u _]) rfl rfl Taken.no) rfl rfl (S' := _) rfl ?_
    refine SL.val (O.move rfl rfl Taken.no) ?_
    refine SL.val (O.extract rfl rfl rfl Taken.no) ?_
    refine SL.val (O.extract rfl rfl rfl Taken.no) ?_
    refine SL.memS (O.alloc (z := .agg #[.string (Go.G.bs []), .bool false, .slice none 0 0]) (is := [.u (.sc (.string (Go.G.bs []))), .u (.sc (.bool false)), .u (.sc (.slice none 0 0))]) 102 (by kernel_rfl) rfl rfl rfl Taken.no) rfl rfl (S' := (102, _) :: _) rfl ?_
    refine SL.effS (O.st_ref (m := 3) rfl rfl rfl (js := [_, _, _]) rfl rfl (by kernel_rfl) (by simp) (Nat.le_of_ble_eq_true rfl) rfl (is' := [_, _, _]) rfl Taken.no) (S' := (102, _) :: _) rfl ?_
    refine SL.val (O.assign rfl rfl Taken.no) ?_
    refine SL.nil ?_
    refine E.to ?_
    refine W.pick (.cons (t := 1) rfl (.cons (t := 4) rfl (.cons (t := 5) rfl (.cons (t := 7) rfl (.cons (t := 8) rfl .nil))))) (.cons (t := 101) rfl (.cons (t := 102) rfl .nil)) ?_
    refine W.seq ?_
    refine W.region ?_
    refine SL.val (O.ldN (m := 3) (PtI.ref rfl rfl) (js := [_, _, _]) rfl (Nat.le_of_ble_eq_true rfl) Try.underlying33 rfl (by kernel_rfl) rfl Taken.no) ?_
    refine SL.val (O.move rfl rfl Taken.no) ?_
    refine SL.memS (O.call (rn []) [] rfl rfl rfl (refInsert_h (t := ofT l) (s := s) hgd) (.cons (ArgOk.aggU (.cons (ArgOk.same rfl) (.cons (ArgOk.same rfl) (.cons (ArgOk.same rfl) .nil)))) (.cons (ArgOk.same rfl) .nil)) SubS.nil rfl rfl rfl rfl rfl (.inl rfl) hcallOk35 (r' := .tup [.agg [.u _, .u _, .u _], .u _]) rfl rfl Taken.no) rfl rfl (S' := _) rfl ?_
    refine SL.val (O.move rfl rfl Taken.no) ?_
    refine SL.val (O.extract rfl rfl rfl Taken.no) ?_
    refine SL.val (O.extract rfl rfl rfl Taken.no) ?_
    refine SL.memS (O.alloc (z := .agg #[.string (Go.G.bs []), .bool false, .slice none 0 0]) (is := [.u (.sc (.string (Go.G.bs []))), .u (.sc (.bool false)), .u (.sc (.slice none 0 0))]) 103 (by kernel_rfl) rfl rfl rfl Taken.no) rfl rfl (S' := (103, _) :: _) rfl ?_
    refine SL.effS (O.st_ref (m := 3) rfl rfl rfl (js := [_, _, _]) rfl rfl (by kernel_rfl) (by simp) (Nat.le_of_ble_eq_true rfl) rfl (is' := [_, _, _]) rfl Taken.no) (S' := (103, _) :: _) rfl ?_
    refine SL.val (O.assign rfl rfl Taken.no) ?_
    refine SL.nil ?_
    refine E.to ?_
    refine W.seq ?_
    refine W.region ?_
    refine SL.val (O.ldN (m := 3) (PtI.ref rfl rfl) (js := [_, _, _]) rfl (Nat.le_of_ble_eq_true rfl) Try.underlying33 rfl (by kernel_rfl) rfl Taken.no) ?_
    refine SL.memS (O.call (rn []) [] rfl rfl rfl (own_h (ofT l) (bd_sm (by decide) _ hb)) (.cons (ArgOk.aggU (.cons (ArgOk.same rfl) (.cons (ArgOk.same rfl) (.cons (ArgOk.same rfl) .nil)))) .nil) SubS.nil rfl rfl rfl rfl rfl (.inl rfl) hcallOk20 (r' := .agg [.u _, .u _, .u _]) rfl rfl Taken.no) rfl rfl (S' := _) rfl ?_
    refine SL.val (O.move rfl rfl Taken.no) ?_
    refine SL.memS (O.call (rn []) [] rfl rfl rfl (Remove_h (t := ofT l) (s := s) hb (by omega)) (.cons (ArgOk.aggU (.cons (ArgOk.same rfl) (.cons (ArgOk.same rfl) (.cons (ArgOk.same rfl) .nil)))) (.cons (ArgOk.same rfl) .nil)) SubS.nil rfl rfl rfl rfl rfl (.inl rfl) hcallOk36 (r' := .tup [.agg [.u _, .u _, .u _], .u _]) rfl rfl Taken.no) rfl rfl (S' := _) rfl ?_
    refine SL.val (O.move rfl rfl Taken.no) ?_
    refine SL.val (O.extract rfl rfl rfl Taken.no) ?_
    refine SL.val (O.extract rfl rfl rfl Taken.no) ?_
    refine SL.memS (O.alloc (z := .agg #[.string (Go.G.bs []), .bool false, .slice none 0 0]) (is := [.u (.sc (.string (Go.G.bs []))), .u (.sc (.bool false)), .u (.sc (.slice none 0 0))]) 104 (by kernel_rfl) rfl rfl rfl Taken.no) rfl rfl (S' := (104, _) :: _) rfl ?_
    refine SL.effS (O.st_ref (m := 3) rfl rfl rfl (js := [_, _, _]) rfl rfl (by kernel_rfl) (by simp) (Nat.le_of_ble_eq_true rfl) rfl (is' := [_, _, _]) rfl Taken.no) (S' := (104, _) :: _) rfl ?_
    refine SL.val (O.assign rfl rfl Taken.no) ?_
    refine SL.nil ?_
    refine E.to ?_
    refine W.seq ?_
    refine W.region ?_
    refine SL.val (O.ldN (m := 3) (PtI.ref rfl rfl) (js := [_, _, _]) rfl (Nat.le_of_ble_eq_true rfl) Try.underlying33 rfl (by kernel_rfl) rfl Taken.no) ?_
    refine SL.val (O.move rfl rfl Taken.no) ?_
    refine SL.memS (O.call (rn []) [] rfl rfl rfl (refRemove_h (t := ofT l) (s := s) hgd) (.cons (ArgOk.aggU (.cons (ArgOk.same rfl) (.cons (ArgOk.same rfl) (.cons (ArgOk.same rfl) .nil)))) (.cons (ArgOk.same rfl) .nil)) SubS.nil rfl rfl rfl rfl rfl (.inl rfl) hcallOk37 (r' := .tup [.agg [.u _, .u _, .u _], .u _]) rfl rfl Taken.no) rfl rfl (S' := _) rfl ?_
    refine SL.val (O.move rfl rfl Taken.no) ?_
    refine SL.val (O.extract rfl rfl rfl Taken.no) ?_
    refine SL.val (O.extract rfl rfl rfl Taken.no) ?_
    refine SL.memS (O.alloc (z := .agg #[.string (Go.G.bs []), .bool false, .slice none 0 0]) (is := [.u (.sc (.string (Go.G.bs []))), .u (.sc (.bool false)), .u (.sc (.slice none 0 0))]) 105 (by kernel_rfl) rfl rfl rfl Taken.no) rfl rfl (S' := (105, _) :: _) rfl ?_
    refine SL.effS (O.st_ref (m := 3) rfl rfl rfl (js := [_, _, _]) rfl rfl (by kernel_rfl) (by simp) (Nat.le_of_ble_eq_true rfl) rfl (is' := [_, _, _]) rfl Taken.no) (S' := (105, _) :: _) rfl ?_
    refine SL.val (O.assign rfl rfl Taken.no) ?_
    refine SL.nil ?_
    refine E.to ?_
    refine W.pick (.cons (t := 4) rfl (.cons (t := 7) rfl (.cons (t := 8) rfl (.cons (t := 9) rfl (.cons (t := 10) rfl (.cons (t := 11) rfl (.cons (t := 12) rfl (.cons (t := 13) rfl (.cons (t := 14) rfl .nil))))))))) (.cons (t := 101) rfl (.cons (t := 102) rfl (.cons (t := 103) rfl (.cons (t := 104) rfl (.cons (t := 105) rfl .nil))))) ?_
    refine W.seq ?_
    refine W.draw [⟨[102], [], []⟩, ⟨[], [], []⟩, ⟨[103], [], []⟩, ⟨[], [], []⟩, ⟨[], [], []⟩, ⟨[], [], []⟩, ⟨[], [], []⟩, ⟨[], [], []⟩, ⟨[], [], []⟩, ⟨[], [], []⟩, ⟨[104], [], []⟩, ⟨[], [], []⟩, ⟨[105], [], []⟩, ⟨[], [], []⟩, ⟨[], [], []⟩, ⟨[], [], []⟩, ⟨[], [], []⟩, ⟨[], [], []⟩, ⟨[], [], []⟩, ⟨[], [], []⟩, ⟨[], [], []⟩] rfl (by kernel_rfl) (by kernel_rfl) rfl rfl ?_
    refine WH.val (O.ldN (m := 3) (PtI.ref rfl rfl) (js := [_, _, _]) rfl (Nat.le_of_ble_eq_true rfl) Try.underlying27 rfl (by kernel_rfl) rfl Taken.no) rfl rfl ?_
    refine WH.memS (O.call (rn []) [] rfl rfl rfl (theirs_h (insP (ofT l) s) (bd_sm (by decide) _ hbi)) (.cons (ArgOk.aggU (.cons (ArgOk.same rfl) (.cons (ArgOk.same rfl) (.cons (ArgOk.same rfl) .nil)))) .nil) SubS.nil rfl rfl rfl rfl rfl (.inl rfl) hcallOk15 (r' := .agg [.u _, .u _, .u _]) rfl rfl Taken.no) rfl rfl rfl rfl rfl (S' := _) rfl ?_
    refine WH.val (O.ldN (m := 3) (PtI.ref rfl rfl) (js := [_, _, _]) rfl (Nat.le_of_ble_eq_true rfl) Try.underlying33 rfl (by kernel_rfl) rfl Taken.no) rfl rfl ?_
    refine WH.val (OpOk.re (i' := vB true) (O.callp rfl rfl rfl (refEqual_h (insP (ofT l) s) (insP (ofT l) s)) (.cons (ArgOk.aggU (.cons (ArgOk.same rfl) (.cons (ArgOk.same rfl) (.cons (ArgOk.same rfl) .nil)))) (.cons (ArgOk.aggU (.cons (ArgOk.same rfl) (.cons (ArgOk.same rfl) (.cons (ArgOk.same rfl) .nil)))) .nil)) hcallOk14 rfl Taken.no) (by exact iv_bool (dec_t rfl))) rfl rfl ?_
    refine WH.val (O.move rfl rfl Taken.no) rfl rfl ?_
    have hg4 : true = true := by decide
    refine WH.val (O.move rfl rfl (Taken.yes rfl rfl hg4)) rfl rfl ?_
    refine WH.val (O.move rfl rfl (Taken.yes rfl rfl hg4)) rfl rfl ?_
    refine WH.val (O.det (fun _ => G.R.mv (G.R.booleql rfl rfl Try.underlying4) (congrArg Value.bool (show _ = true by simp))) rfl (Taken.yes rfl rfl hg4)) rfl rfl ?_
    refine WH.val (O.pick_t rfl rfl rfl rfl Taken.no) rfl rfl ?_
    refine WH.val (O.move rfl rfl Taken.no) rfl rfl ?_
    have hg5 : true = true := by decide
    refine WH.val (O.ldN (m := 3) (PtI.ref rfl rfl) (js := [_, _, _]) rfl (Nat.le_of_ble_eq_true rfl) Try.underlying27 rfl (by kernel_rfl) rfl (Taken.yes rfl rfl hg5)) rfl rfl ?_
    refine WH.memS (O.call (rn []) [] rfl rfl rfl (theirs_h (remP (ofT l) s) (bd_sm (by decide) _ hbr)) (.cons (ArgOk.aggU (.cons (ArgOk.same rfl) (.cons (ArgOk.same rfl) (.cons (ArgOk.same rfl) .nil)))) .nil) SubS.nil rfl rfl rfl rfl rfl (.inl rfl) hcallOk15 (r' := .agg [.u _, .u _, .u _]) rfl rfl (Taken.yes rfl rfl hg5)) rfl rfl rfl rfl rfl (S' := _) rfl ?_
    refine WH.val (O.ldN (m := 3) (PtI.ref rfl rfl) (js := [_, _, _]) rfl (Nat.le_of_ble_eq_true rfl) Try.underlying33 rfl (by kernel_rfl) rfl (Taken.yes rfl rfl hg5)) rfl rfl ?_
    refine WH.val (OpOk.re (i' := vB true) (O.callp rfl rfl rfl (refEqual_h (remP (ofT l) s) (remP (ofT l) s)) (.cons (ArgOk.aggU (.cons (ArgOk.same rfl) (.cons (ArgOk.same rfl) (.cons (ArgOk.same rfl) .nil)))) (.cons (ArgOk.aggU (.cons (ArgOk.same rfl) (.cons (ArgOk.same rfl) (.cons (ArgOk.same rfl) .nil)))) .nil)) hcallOk14 rfl (Taken.yes rfl rfl hg5)) (by exact iv_bool (dec_t rfl))) rfl rfl ?_
    refine WH.val (O.pick_t rfl rfl rfl rfl Taken.no) rfl rfl ?_
    refine WH.val (O.move rfl rfl Taken.no) rfl rfl ?_
    have hg6 : true = true := by decide
    refine WH.val (O.move rfl rfl (Taken.yes rfl rfl hg6)) rfl rfl ?_
    refine WH.val (O.move rfl rfl (Taken.yes rfl rfl hg6)) rfl rfl ?_
    refine WH.val (O.det (fun _ => G.R.mv (G.R.booleql rfl rfl Try.underlying4) (congrArg Value.bool (show _ = true by simp))) rfl (Taken.yes rfl rfl hg6)) rfl rfl ?_
    refine WH.val (O.pick_t rfl rfl rfl rfl Taken.no) rfl rfl ?_
    refine WH.val (O.assign rfl rfl Taken.no) rfl rfl ?_
    refine WH.nil ?_
    refine E.to ?_
    refine W.pick (.cons (t := 4) rfl .nil) (.cons (t := 101) rfl (.cons (t := 102) rfl (.cons (t := 103) rfl (.cons (t := 104) rfl (.cons (t := 105) rfl .nil))))) ?_
    refine W.ret ?_
    refine E.fin (rs := [_]) (rn []) (.inl rfl) rfl (.cons (ResOne.tmp rfl) .nil) ?_ ?_ rfl (fixL_spec rfl)
    ·skip
     rfl
    · exact SubS.nil
  ·skip
   first | have hg2p := G.gA7 hg2 | have hg2p := G.gA8 hg2 | have hg2p := hg2
   refine SL.skip (OpOk.not rfl rfl rfl hg2) ?_
   refine SL.skip (OpOk.not rfl rfl rfl hg2) ?_
   refine SL.val (O.pick_t rfl (G.ne_f hg2) rfl rfl Taken.no) ?_
   refine SL.nil ?_
   refine E.to ?_
   refine W.cond_t rfl ?_
   refine W.seq ?_
   refine W.region ?_
   refine SL.val (O.assign rfl rfl Taken.no) ?_
   refine SL.nil ?_
   refine E.to ?_
   refine W.ret ?_
   refine E.thr ?_
   refine E.fin (rs := [_]) (rn []) (.inl rfl) rfl (.cons (ResOne.tmp rfl) .nil) ?_ ?_ rfl (fixL_spec rfl)
   ·skip
    rfl
   · exact SubS.nil

set_option maxRecDepth 8000 in
set_option maxHeartbeats 1600000 in
/-- bookplate/bookplatelaw41.PrefixSets. -/
theorem prefixSets_h {l o : List Str} {s : Str} :
    Con Try.prog 9 [vL 1 (l.map eStr), vL 1 (o.map eStr), vT s] [] (vB true) [] := by
 obtain ⟨i9, hi9, hz9, hs9, hb9⟩ := hinf9
 refine Con.enterL (n := 165) Try.func9 rfl rfl rfl (fun τ w ok vs hin => ?_)
 have hl0 := hin.len (i := 0) rfl
 try rw [List.length_map] at hl0
 have hl1 := hin.len (i := 1) rfl
 try rw [List.length_map] at hl1
 clear hin
 refine W.seq ?_
 refine W.region ?_
 refine SL.val (O.assign rfl rfl Taken.no) ?_
 refine SL.nil ?_
 refine E.to ?_
 refine W.seq ?_
 refine W.seq ?_
 refine W.region ?_
 refine SL.val (O.callp rfl rfl rfl (awake_h) .nil hcallOk10 rfl Taken.no) ?_
 refine SL.as (i' := vB true) 20 rfl (by rfl) ?_
 refine SL.val (O.det (fun _ => G.R.mv (G.R.not rfl) rfl) rfl Taken.no) ?_
 refine SL.nil ?_
 refine E.to ?_
 refine W.cond_f rfl ?_
 refine W.skip ?_
 refine E.to ?_
 refine W.seq ?_
 refine W.seq ?_
 refine W.region ?_
 refine SL.val (O.move rfl rfl Taken.no) ?_
 refine SL.val (O.callp rfl rfl rfl (few_h (l := l)) (.cons (ArgOk.same rfl) .nil) hcallOk11 rfl Taken.no) ?_
 refine SL.val (O.det (fun _ => G.R.not rfl) rfl Taken.no) ?_
 refine SL.nil ?_
 refine E.to ?_
 first | refine W.cond_d rfl (fun hc1 => ?_) (fun hc1 => ?_) | refine W.cond_nd rfl (fun hc1 => ?_) (fun hc1 => ?_) | refine W.cond rfl (fun hc1 => ?_) (fun hc1 => ?_)
 ·skip
  refine W.seq ?_
  refine W.region ?_
  refine SL.val (O.assign rfl rfl Taken.no) ?_
  refine SL.nil ?_
  refine E.to ?_
  refine W.ret ?_
  refine E.thr ?_
  refine E.fin (rs := [_]) (rn []) (.inl rfl) rfl (.cons (ResOne.tmp rfl) .nil) ?_ ?_ rfl (fixL_spec rfl)
  ·skip
   rfl
  · exact SubS.nil
 ·skip
  have hf : fewS l := by simp_all
  have hf40 := hf.1
  refine W.skip ?_
  refine E.to ?_
  refine W.seq ?_
  refine W.region ?_
  refine SL.val (O.move rfl rfl Taken.no) ?_
  refine SL.memS (O.call (rn []) [] rfl rfl rfl (of_h (l := l) (by omega)) (.cons (ArgOk.same rfl) .nil) SubS.nil rfl rfl rfl rfl rfl (.inl rfl) hcallOk12 (r' := .tup [.agg [.u _, .u _, .u _], .u _]) rfl rfl Taken.no) rfl rfl (S' := _) rfl ?_
  refine SL.val (O.move rfl rfl Taken.no) ?_
  refine SL.val (O.extract rfl rfl rfl Taken.no) ?_
  refine SL.val (O.extract rfl rfl rfl Taken.no) ?_
  refine SL.memS (O.alloc (z := .agg #[.string (Go.G.bs []), .bool false, .slice none 0 0]) (is := [.u (.sc (.string (Go.G.bs []))), .u (.sc (.bool false)), .u (.sc (.slice none 0 0))]) 101 (by kernel_rfl) rfl rfl rfl Taken.no) rfl rfl (S' := (101, _) :: _) rfl ?_
  refine SL.effS (O.st_ref (m := 3) rfl rfl rfl (js := [_, _, _]) rfl rfl (by kernel_rfl) (by simp) (Nat.le_of_ble_eq_true rfl) rfl (is' := [_, _, _]) rfl Taken.no) (S' := (101, _) :: _) rfl ?_
  refine SL.val (O.assign rfl rfl Taken.no) ?_
  refine SL.nil ?_
  refine E.to ?_
  refine W.seq ?_
  refine W.seq ?_
  refine W.region ?_
  refine SL.val (O.move rfl rfl Taken.no) ?_
  refine SL.val (O.callp rfl rfl rfl (few_h (l := o)) (.cons (ArgOk.same rfl) .nil) hcallOk11 rfl Taken.no) ?_
  refine SL.val (O.det (fun _ => G.R.not rfl) rfl Taken.no) ?_
  refine SL.val (O.move rfl rfl Taken.no) ?_
  refine SL.case (j := 3) (g := 33) (want := false) rfl rfl (fun hg2 => ?_) (fun hg2 => ?_)
  ·skip
   first | have hg2p := G.gA3 hg2 | have hg2p := G.gA4 hg2 | have hg2p := hg2
   refine SL.val (O.move rfl rfl (Taken.yes rfl rfl hg2)) ?_
   refine SL.val (O.det (fun _ => G.R.lenL rfl Try.underlying9) rfl (Taken.yes rfl rfl hg2)) ?_
   refine SL.val (O.det (fun _ => G.R.gtr rfl rfl) rfl (Taken.yes rfl rfl hg2)) ?_
   refine SL.val (O.pick_f rfl hg2 rfl rfl Taken.no) ?_
   refine SL.val (O.move rfl rfl Taken.no) ?_
   refine SL.case (j := 8) (g := 38) (want := false) rfl rfl (fun hg3 => ?_) (fun hg3 => ?_)
   ·skip
    first | have hg3p := G.gA3 hg3 | have hg3p := G.gA4 hg3 | have hg3p := hg3
    refine SL.val (O.move rfl rfl (Taken.yes rfl rfl hg3)) ?_
    refine SL.val (O.det (fun _ => G.R.neq rfl rfl) rfl (Taken.yes rfl rfl hg3)) ?_
    refine SL.val (O.pick_f rfl hg3 rfl rfl Taken.no) ?_
    refine SL.nil ?_
    refine E.to ?_
    refine W.pick (.cons (t := 0) rfl (.cons (t := 1) rfl (.cons (t := 2) rfl (.cons (t := 6) rfl (.cons (t := 7) rfl (.cons (t := 41) rfl .nil)))))) (.cons (t := 101) rfl .nil) ?_
    first | refine W.cond_d rfl (fun hc4 => ?_) (fun hc4 => ?_) | refine W.cond_nd rfl (fun hc4 => ?_) (fun hc4 => ?_) | refine W.cond rfl (fun hc4 => ?_) (fun hc4 => ?_)
    ·skip
     refine W.seq ?_
     refine W.region ?_
     refine SL.val (O.assign rfl rfl Taken.no) ?_
     refine SL.nil ?_
     refine E.to ?_
     refine W.ret ?_
     refine E.thr ?_
     refine E.fin (rs := [_]) (rn []) (.inl rfl) rfl (.cons (ResOne.tmp rfl) .nil) ?_ ?_ rfl (fixL_spec rfl)
     ·skip
      rfl
     · exact SubS.nil
    ·skip
     have hE : ofE l = 0 := by omega
     have ho := of_facts (l := l) (by omega) hE
     have hb : bd 1000 (ofT l) := bd_mono ho.1 (by decide)
     have hA := ho.2.2.2.2.2.1
     have hin := hb.2.2
     have hsl : s.length ≤ 120 := by omega
     have hgd := gd_of (l := l) (by omega) hE
     have hfo : fewS o := by simp_all
     have hfo40 := hfo.1
     have hwl := ho.2.2.2.2.1
     have hofe := ho.2.2.2.2.2.2
     refine W.skip ?_
     refine E.to ?_
     refine W.seq ?_
     refine W.region ?_
     refine SL.memS (O.call (rn []) [] rfl rfl rfl (of_h (l := []) (by decide)) (.cons ArgOk.nil .nil) SubS.nil rfl rfl rfl rfl rfl (.inl rfl) hcallOk12 (r' := .tup [.agg [.u _, .u _, .u _], .u _]) rfl rfl Taken.no) rfl rfl (S' := _) rfl ?_
     refine SL.as (i' := .tup [.agg [vT (mkT [] []).lab, vB (mkT [] []).wd, vL 3 ((mkT [] []).kids.map eTr)], vI 0]) 43 rfl (by rw [of_nil.1, of_nil.2]) ?_
     refine SL.val (O.move rfl rfl Taken.no) ?_
     refine SL.val (O.extract rfl rfl rfl Taken.no) ?_
     refine SL.val (O.extract rfl rfl rfl Taken.no) ?_
     refine SL.memS (O.alloc (z := .agg #[.string (Go.G.bs []), .bool false, .slice none 0 0]) (is := [.u (.sc (.string (Go.G.bs []))), .u (.sc (.bool false)), .u (.sc (.slice none 0 0))]) 102 (by kernel_rfl) rfl rfl rfl Taken.no) rfl rfl (S' := (102, _) :: _) rfl ?_
     refine SL.effS (O.st_ref (m := 3) rfl rfl rfl (js := [_, _, _]) rfl rfl (by kernel_rfl) (by simp) (Nat.le_of_ble_eq_true rfl) rfl (is' := [_, _, _]) rfl Taken.no) (S' := (102, _) :: _) rfl ?_
     refine SL.val (O.assign rfl rfl Taken.no) ?_
     refine SL.nil ?_
     refine E.to ?_
     refine W.seq ?_
     refine W.seq ?_
     refine W.region ?_
     refine SL.val (O.assign rfl rfl Taken.no) ?_
     refine SL.nil ?_
     refine E.to ?_
     refine W.block ?_
     refine W.loopx2 (fun (k : Nat) (J : List Str) => [(11, vI (k : Int))]) (fun (k : Nat) (J : List Str) => [(102, .cells 27 [.u (uT (mkT [] J).lab), .u (uB (mkT [] J).wd), .u (.sl 3 ((mkT [] J).kids.map eTr))])]) (fun (k : Nat) (J : List Str) => k ≤ o.length ∧ set1 o k J) (fun (k : Nat) (J : List Str) => o.length - k) (0) ([]) (rn []) (.cons (t := 0) rfl (.cons (t := 1) rfl (.cons (t := 2) rfl (.cons (t := 6) rfl (.cons (t := 7) rfl (.cons (t := 9) rfl .nil)))))) (.cons (t := 101) rfl .nil) rfl ?_ ?_ rfl rfl ?_ ?_
     · exact (SubF.cons rfl SubF.nil)
     · exact (SubS.cons rfl SubS.nil)
     ·skip
      exact ⟨by omega, set1_0 o⟩
     intro k J hinv
     obtain ⟨hk, hi⟩ := hinv
     have hil := hi.2.1
     refine W.seq ?_
     refine W.seq ?_
     refine W.region ?_
     refine SL.val (O.move rfl rfl Taken.no) ?_
     refine SL.val (O.move rfl rfl Taken.no) ?_
     refine SL.val (O.lenE (SlOf.fz rfl (by decide)) (by first | exact List.length_map _ | rfl) Try.underlying22 rfl Taken.no) ?_
     refine SL.val (O.det (fun _ => G.R.lss rfl rfl) rfl Taken.no) ?_
     refine SL.nil ?_
     refine E.to ?_
     first | refine W.cond_d rfl (fun hc5 => ?_) (fun hc5 => ?_) | refine W.cond_nd rfl (fun hc5 => ?_) (fun hc5 => ?_) | refine W.cond rfl (fun hc5 => ?_) (fun hc5 => ?_)
     ·skip
      refine W.skip ?_
      refine E.to ?_
      refine W.seq ?_
      refine W.block ?_
      refine W.draw [⟨[102], [], []⟩, ⟨[], [], []⟩, ⟨[], [], []⟩, ⟨[], [], []⟩, ⟨[], [], []⟩, ⟨[], [], []⟩, ⟨[], [], []⟩, ⟨[], [], []⟩, ⟨[], [], []⟩, ⟨[102], [102], []⟩] rfl (by kernel_rfl) (by kernel_rfl) rfl rfl ?_
      refine WH.val (O.ldN (m := 3) (PtI.ref rfl rfl) (js := [_, _, _]) rfl (Nat.le_of_ble_eq_true rfl) Try.underlying27 rfl (by kernel_rfl) rfl Taken.no) rfl rfl ?_
      refine WH.val (O.move rfl rfl Taken.no) rfl rfl ?_
      refine WH.val (O.move rfl rfl Taken.no) rfl rfl ?_
      refine WH.val (O.idx_fz rfl rfl (rfl) (row_get (by omega)) Try.underlying22 hi9 hs9 rfl Taken.no) rfl rfl ?_
      refine WH.val (O.ld1 (PtI.ofU (PtU.fz rfl)) rfl Try.underlying9 rfl rfl Taken.no) rfl rfl ?_
      refine WH.memS (O.call (rn []) [] rfl rfl rfl (Insert_h (t := mkT [] J) (s := o[k]!) (bd_I hi.1 (by omega)) (by have := hfo.2 k (by omega); omega)) (.cons (ArgOk.aggU (.cons (ArgOk.same rfl) (.cons (ArgOk.same rfl) (.cons (ArgOk.same rfl) .nil)))) (.cons (ArgOk.same rfl) .nil)) SubS.nil rfl rfl rfl rfl rfl (.inl rfl) hcallOk34 (r' := .tup [.agg [.u _, .u _, .u _], .u _]) rfl rfl Taken.no) rfl rfl rfl rfl rfl (S' := _) rfl ?_
      refine WH.val (O.move rfl rfl Taken.no) rfl rfl ?_
      refine WH.val (O.extract rfl rfl rfl Taken.no) rfl rfl ?_
      refine WH.val (O.extract rfl rfl rfl Taken.no) rfl rfl ?_
      refine WH.effS (O.st_ref (m := 3) rfl rfl rfl (js := [_, _, _]) rfl rfl (by kernel_rfl) (by simp) (Nat.le_of_ble_eq_true rfl) rfl (is' := [_, _, _]) rfl Taken.no) rfl rfl rfl (S' := (102, _) :: _) rfl ?_
      refine WH.nil ?_
      refine E.inn ?_
      refine E.to ?_
      refine W.region ?_
      refine SL.val (O.move rfl rfl Taken.no) ?_
      refine SL.val (O.det (fun _ => by first | exact G.R.add64 rfl rfl (by omega) | exact G.R.add rfl rfl) rfl Taken.no) ?_
      refine SL.val (O.assign rfl rfl Taken.no) ?_
      refine SL.nil ?_
      refine E.again ((k + 1), (insW o[k]! J)) (rn []) ?_ ?_ rfl (fixL_spec rfl) ?_ ?_
      · exact (SubF.cons rfl (SubF.cons rfl (SubF.cons rfl (SubF.cons rfl (SubF.cons rfl (SubF.cons rfl (SubF.cons rfl SubF.nil)))))))
      · exact (SubS.val rfl (by (try dsimp only); rw [insP_mk hi.1.1]; rfl) (SubS.cons rfl SubS.nil))
      ·try dsimp only
       exact ⟨by omega, set1_s hi (by omega)⟩
      · (try dsimp only); omega
     ·skip
      refine W.exit ?_
      refine E.th ?_
      refine E.th ?_
      refine E.hit ?_
      refine E.to ?_
      refine W.seq ?_
      refine W.seq ?_
      refine W.region ?_
      refine SL.val (O.move rfl rfl Taken.no) ?_
      refine SL.val (O.lenE (SlOf.fz rfl (by decide)) (by first | exact List.length_map _ | rfl) Try.underlying22 rfl Taken.no) ?_
      refine SL.val (O.det (fun _ => by first | exact G.R.sub64 rfl rfl (by omega) | exact G.R.sub rfl rfl) rfl Taken.no) ?_
      refine SL.val (O.assign rfl rfl Taken.no) ?_
      refine SL.nil ?_
      refine E.to ?_
      refine W.block ?_
      refine W.loopx2 (fun (m : Nat) (J : List Str) => [(12, vI ((m : Int) - 1))]) (fun (m : Nat) (J : List Str) => [(102, .cells 27 [.u (uT (mkT [] J).lab), .u (uB (mkT [] J).wd), .u (.sl 3 ((mkT [] J).kids.map eTr))])]) (fun (m : Nat) (J : List Str) => m ≤ l.length ∧ set2 l o m J) (fun (m : Nat) (J : List Str) => m) (l.length) (J) (rn []) (.cons (t := 0) rfl (.cons (t := 1) rfl (.cons (t := 2) rfl (.cons (t := 6) rfl (.cons (t := 7) rfl (.cons (t := 9) rfl .nil)))))) (.cons (t := 101) rfl .nil) rfl ?_ ?_ rfl rfl ?_ ?_
      · exact (SubF.cons rfl SubF.nil)
      · exact (SubS.cons rfl SubS.nil)
      ·skip
       exact ⟨by omega, set2_0 hi (by omega)⟩
      intro m J hinv
      obtain ⟨hm, hi2⟩ := hinv
      have hil2 := hi2.2.1
      refine W.seq ?_
      refine W.seq ?_
      refine W.region ?_
      refine SL.val (O.move rfl rfl Taken.no) ?_
      refine SL.val (O.det (fun _ => G.R.geq rfl rfl) rfl Taken.no) ?_
      refine SL.nil ?_
      refine E.to ?_
      first | refine W.cond_d rfl (fun hc6 => ?_) (fun hc6 => ?_) | refine W.cond_nd rfl (fun hc6 => ?_) (fun hc6 => ?_) | refine W.cond rfl (fun hc6 => ?_) (fun hc6 => ?_)
      ·skip
       refine W.skip ?_
       refine E.to ?_
       refine W.seq ?_
       refine W.block ?_
       refine W.draw [⟨[102], [], []⟩, ⟨[], [], []⟩, ⟨[], [], []⟩, ⟨[], [], []⟩, ⟨[], [], []⟩, ⟨[], [], []⟩, ⟨[], [], []⟩, ⟨[], [], []⟩, ⟨[], [], []⟩, ⟨[102], [102], []⟩] rfl (by kernel_rfl) (by kernel_rfl) rfl rfl ?_
       refine WH.val (O.ldN (m := 3) (PtI.ref rfl rfl) (js := [_, _, _]) rfl (Nat.le_of_ble_eq_true rfl) Try.underlying27 rfl (by kernel_rfl) rfl Taken.no) rfl rfl ?_
       refine WH.val (O.move rfl rfl Taken.no) rfl rfl ?_
       refine WH.val (O.move rfl rfl Taken.no) rfl rfl ?_
       refine WH.val (O.idx_fz (i := (m - 1)) rfl rfl (by omega) (row_get (by omega)) Try.underlying22 hi9 hs9 rfl Taken.no) rfl rfl ?_
       refine WH.val (O.ld1 (PtI.ofU (PtU.fz rfl)) rfl Try.underlying9 rfl rfl Taken.no) rfl rfl ?_
       refine WH.memS (O.call (rn []) [] rfl rfl rfl (Insert_h (t := mkT [] J) (s := l[m - 1]!) (bd_I hi2.1 (by omega)) (by have := hf.2 (m - 1) (by omega); omega)) (.cons (ArgOk.aggU (.cons (ArgOk.same rfl) (.cons (ArgOk.same rfl) (.cons (ArgOk.same rfl) .nil)))) (.cons (ArgOk.same rfl) .nil)) SubS.nil rfl rfl rfl rfl rfl (.inl rfl) hcallOk34 (r' := .tup [.agg [.u _, .u _, .u _], .u _]) rfl rfl Taken.no) rfl rfl rfl rfl rfl (S' := _) rfl ?_
       refine WH.val (O.move rfl rfl Taken.no) rfl rfl ?_
       refine WH.val (O.extract rfl rfl rfl Taken.no) rfl rfl ?_
       refine WH.val (O.extract rfl rfl rfl Taken.no) rfl rfl ?_
       refine WH.effS (O.st_ref (m := 3) rfl rfl rfl (js := [_, _, _]) rfl rfl (by kernel_rfl) (by simp) (Nat.le_of_ble_eq_true rfl) rfl (is' := [_, _, _]) rfl Taken.no) rfl rfl rfl (S' := (102, _) :: _) rfl ?_
       refine WH.nil ?_
       refine E.inn ?_
       refine E.to ?_
       refine W.region ?_
       refine SL.val (O.move rfl rfl Taken.no) ?_
       refine SL.val (O.det (fun _ => by first | exact G.R.sub64 rfl rfl (by omega) | exact G.R.sub rfl rfl) rfl Taken.no) ?_
       refine SL.val (O.assign rfl rfl Taken.no) ?_
       refine SL.nil ?_
       refine E.again ((m - 1), (insW l[m - 1]! J)) (rn []) ?_ ?_ rfl (fixL_spec rfl) ?_ ?_
       · exact (SubF.val rfl (by (try dsimp only); exact iv_int (by omega)) (SubF.cons rfl (SubF.cons rfl (SubF.cons rfl (SubF.cons rfl (SubF.cons rfl (SubF.cons rfl SubF.nil)))))))
       · exact (SubS.val rfl (by (try dsimp only); rw [insP_mk hi2.1.1]; rfl) (SubS.cons rfl SubS.nil))
       ·try dsimp only
        exact ⟨by omega, set2_p hwl hi2 (by omega) hm⟩
       · (try dsimp only); omega
      ·skip
       refine W.exit ?_
       refine E.th ?_
       refine E.th ?_
       refine E.hit ?_
       refine E.to ?_
       refine W.seq ?_
       refine W.seq ?_
       refine W.region ?_
       refine SL.val (O.assign rfl rfl Taken.no) ?_
       refine SL.nil ?_
       refine E.to ?_
       refine W.block ?_
       obtain rfl : m = 0 := by omega
       refine W.loopx2 (fun (k : Nat) (J : List Str) => [(13, vI (k : Int))]) (fun (k : Nat) (J : List Str) => [(102, .cells 27 [.u (uT (mkT [] J).lab), .u (uB (mkT [] J).wd), .u (.sl 3 ((mkT [] J).kids.map eTr))])]) (fun (k : Nat) (J : List Str) => k ≤ o.length ∧ set3 l o k J) (fun (k : Nat) (J : List Str) => o.length - k) (0) (J) (rn []) (.cons (t := 0) rfl (.cons (t := 1) rfl (.cons (t := 2) rfl (.cons (t := 6) rfl (.cons (t := 7) rfl (.cons (t := 9) rfl .nil)))))) (.cons (t := 101) rfl .nil) rfl ?_ ?_ rfl rfl ?_ ?_
       · exact (SubF.cons rfl SubF.nil)
       · exact (SubS.cons rfl SubS.nil)
       ·skip
        exact ⟨by omega, set3_0 hi2⟩
       intro k J hinv
       obtain ⟨hk3, hi3⟩ := hinv
       have hil3 := hi3.2.1
       refine W.seq ?_
       refine W.seq ?_
       refine W.region ?_
       refine SL.val (O.move rfl rfl Taken.no) ?_
       refine SL.val (O.move rfl rfl Taken.no) ?_
       refine SL.val (O.lenE (SlOf.fz rfl (by decide)) (by first | exact List.length_map _ | rfl) Try.underlying22 rfl Taken.no) ?_
       refine SL.val (O.det (fun _ => G.R.lss rfl rfl) rfl Taken.no) ?_
       refine SL.nil ?_
       refine E.to ?_
       first | refine W.cond_d rfl (fun hc7 => ?_) (fun hc7 => ?_) | refine W.cond_nd rfl (fun hc7 => ?_) (fun hc7 => ?_) | refine W.cond rfl (fun hc7 => ?_) (fun hc7 => ?_)
       ·skip
        refine W.skip ?_
        refine E.to ?_
        refine W.seq ?_
        refine W.block ?_
        refine W.seq ?_
        refine W.region ?_
        refine SL.val (O.assign rfl rfl Taken.no) ?_
        refine SL.nil ?_
        refine E.to ?_
        refine W.seq ?_
        refine W.seq ?_
        refine W.region ?_
        refine SL.val (O.assign rfl rfl Taken.no) ?_
        refine SL.nil ?_
        refine E.to ?_
        refine W.block ?_
        refine W.loopx1 (fun (j : Nat) => [(15, vI (j : Int)), (14, vB (decide (o[k]! ∈ l.take j)))]) (fun (j : Nat) => []) (fun (j : Nat) => j ≤ l.length) (fun (j : Nat) => l.length - j) (0) (rn []) (.cons (t := 0) rfl (.cons (t := 1) rfl (.cons (t := 2) rfl (.cons (t := 6) rfl (.cons (t := 7) rfl (.cons (t := 9) rfl (.cons (t := 13) rfl .nil))))))) (.cons (t := 101) rfl (.cons (t := 102) rfl .nil)) rfl ?_ ?_ rfl rfl ?_ ?_
        · exact (SubF.cons rfl (SubF.val rfl (by exact iv_bool (dec_f (by simp)).symm) SubF.nil))
        · exact SubS.nil
        ·skip
         omega
        intro j hinv
        have hj := hinv
        refine W.seq ?_
        refine W.seq ?_
        refine W.region ?_
        refine SL.val (O.move rfl rfl Taken.no) ?_
        refine SL.val (O.move rfl rfl Taken.no) ?_
        refine SL.val (O.lenE (SlOf.fz rfl (by decide)) (by first | exact List.length_map _ | rfl) Try.underlying22 rfl Taken.no) ?_
        refine SL.val (O.det (fun _ => G.R.lss rfl rfl) rfl Taken.no) ?_
        refine SL.nil ?_
        refine E.to ?_
        first | refine W.cond_d rfl (fun hc8 => ?_) (fun hc8 => ?_) | refine W.cond_nd rfl (fun hc8 => ?_) (fun hc8 => ?_) | refine W.cond rfl (fun hc8 => ?_) (fun hc8 => ?_)
        ·skip
         refine W.skip ?_
         refine E.to ?_
         refine W.seq ?_
         refine W.block ?_
         refine W.draw [⟨[], [], []⟩, ⟨[], [], []⟩, ⟨[], [], []⟩, ⟨[], [], []⟩, ⟨[], [], []⟩, ⟨[], [], []⟩, ⟨[], [], []⟩, ⟨[], [], []⟩, ⟨[], [], []⟩, ⟨[], [], []⟩, ⟨[], [], []⟩, ⟨[], [], []⟩, ⟨[], [], []⟩] rfl (by kernel_rfl) (by kernel_rfl) rfl rfl ?_
         refine WH.val (O.move rfl rfl Taken.no) rfl rfl ?_
         refine WH.val (O.move rfl rfl Taken.no) rfl rfl ?_
         refine WH.case (j := 1) (g := 90) (want := false) rfl rfl (fun hg9 => ?_) (fun hg9 => ?_)
         ·skip
          first | have hg9p := G.gA3 hg9 | have hg9p := G.gA4 hg9 | have hg9p := hg9
          refine WH.val (O.move rfl rfl (Taken.yes rfl rfl hg9)) rfl rfl ?_
          refine WH.val (O.move rfl rfl (Taken.yes rfl rfl hg9)) rfl rfl ?_
          refine WH.val (O.idx_fz rfl rfl (rfl) (row_get (by omega)) Try.underlying22 hi9 hs9 rfl (Taken.yes rfl rfl hg9)) rfl rfl ?_
          refine WH.val (O.ld1 (PtI.ofU (PtU.fz rfl)) rfl Try.underlying9 rfl rfl (Taken.yes rfl rfl hg9)) rfl rfl ?_
          refine WH.val (O.move rfl rfl (Taken.yes rfl rfl hg9)) rfl rfl ?_
          refine WH.val (O.move rfl rfl (Taken.yes rfl rfl hg9)) rfl rfl ?_
          refine WH.val (O.idx_fz rfl rfl (rfl) (row_get (by omega)) Try.underlying22 hi9 hs9 rfl (Taken.yes rfl rfl hg9)) rfl rfl ?_
          refine WH.val (O.ld1 (PtI.ofU (PtU.fz rfl)) rfl Try.underlying9 rfl rfl (Taken.yes rfl rfl hg9)) rfl rfl ?_
          refine WH.val (O.det (fun _ => G.R.streqL rfl rfl) rfl (Taken.yes rfl rfl hg9)) rfl rfl ?_
          refine WH.val (O.pick_f rfl hg9 rfl rfl Taken.no) rfl rfl ?_
          refine WH.val (O.assign rfl rfl Taken.no) rfl rfl ?_
          refine WH.nil ?_
          refine E.inn ?_
          refine E.to ?_
          refine W.pick (.cons (t := 0) rfl (.cons (t := 1) rfl (.cons (t := 2) rfl (.cons (t := 6) rfl (.cons (t := 7) rfl (.cons (t := 9) rfl (.cons (t := 13) rfl (.cons (t := 14) rfl (.cons (t := 15) rfl .nil))))))))) (.cons (t := 101) rfl (.cons (t := 102) rfl .nil)) ?_
          refine W.region ?_
          refine SL.val (O.move rfl rfl Taken.no) ?_
          refine SL.val (O.det (fun _ => by first | exact G.R.add64 rfl rfl (by omega) | exact G.R.add rfl rfl) rfl Taken.no) ?_
          refine SL.val (O.assign rfl rfl Taken.no) ?_
          refine SL.nil ?_
          refine E.again ((j + 1)) (rn []) ?_ ?_ rfl (fixL_spec rfl) ?_ ?_
          · exact (SubF.cons rfl (SubF.val rfl (by (try dsimp only); exact iv_bool (by rw [kept_s (by omega)]; simp_all)) (SubF.cons rfl (SubF.cons rfl (SubF.cons rfl (SubF.cons rfl (SubF.cons rfl (SubF.cons rfl (SubF.cons rfl SubF.nil)))))))))
          · exact (SubS.cons rfl (SubS.cons rfl SubS.nil))
          ·try dsimp only
           omega
          · (try dsimp only); omega
         ·skip
          first | have hg9p := G.gA7 hg9 | have hg9p := G.gA8 hg9 | have hg9p := hg9
          refine WH.skip (OpOk.not rfl rfl rfl hg9) ?_
          refine WH.skip (OpOk.not rfl rfl rfl hg9) ?_
          refine WH.skip (OpOk.not rfl rfl rfl hg9) ?_
          refine WH.skip (OpOk.not rfl rfl rfl hg9) ?_
          refine WH.skip (OpOk.not rfl rfl rfl hg9) ?_
          refine WH.skip (OpOk.not rfl rfl rfl hg9) ?_
          refine WH.skip (OpOk.not rfl rfl rfl hg9) ?_
          refine WH.skip (OpOk.not rfl rfl rfl hg9) ?_
          refine WH.skip (OpOk.not rfl rfl rfl hg9) ?_
          refine WH.val (O.pick_t rfl (G.ne_f hg9) rfl rfl Taken.no) rfl rfl ?_
          refine WH.val (O.assign rfl rfl Taken.no) rfl rfl ?_
          refine WH.nil ?_
          refine E.inn ?_
          refine E.to ?_
          refine W.pick (.cons (t := 0) rfl (.cons (t := 1) rfl (.cons (t := 2) rfl (.cons (t := 6) rfl (.cons (t := 7) rfl (.cons (t := 9) rfl (.cons (t := 13) rfl (.cons (t := 14) rfl (.cons (t := 15) rfl .nil))))))))) (.cons (t := 101) rfl (.cons (t := 102) rfl .nil)) ?_
          refine W.region ?_
          refine SL.val (O.move rfl rfl Taken.no) ?_
          refine SL.val (O.det (fun _ => by first | exact G.R.add64 rfl rfl (by omega) | exact G.R.add rfl rfl) rfl Taken.no) ?_
          refine SL.val (O.assign rfl rfl Taken.no) ?_
          refine SL.nil ?_
          refine E.again ((j + 1)) (rn []) ?_ ?_ rfl (fixL_spec rfl) ?_ ?_
          · exact (SubF.cons rfl (SubF.val rfl (by (try dsimp only); exact iv_bool (by rw [kept_s (by omega)]; simp_all)) (SubF.cons rfl (SubF.cons rfl (SubF.cons rfl (SubF.cons rfl (SubF.cons rfl (SubF.cons rfl (SubF.cons rfl SubF.nil)))))))))
          · exact (SubS.cons rfl (SubS.cons rfl SubS.nil))
          ·try dsimp only
           omega
          · (try dsimp only); omega
        ·skip
         refine W.exit ?_
         refine E.th ?_
         refine E.th ?_
         refine E.hit ?_
         refine E.to ?_
         refine W.seq ?_
         refine W.region ?_
         obtain rfl : j = l.length := by omega
         rw [List.take_length]
         refine SL.val (O.move rfl rfl Taken.no) ?_
         refine SL.val (O.det (fun _ => G.R.not rfl) rfl Taken.no) ?_
         refine SL.nil ?_
         refine E.to ?_
         first | refine W.cond_d rfl (fun hc10 => ?_) (fun hc10 => ?_) | refine W.cond_nd rfl (fun hc10 => ?_) (fun hc10 => ?_) | refine W.cond rfl (fun hc10 => ?_) (fun hc10 => ?_)
         ·skip
          refine W.draw [⟨[102], [], []⟩, ⟨[], [], []⟩, ⟨[], [], []⟩, ⟨[], [], []⟩, ⟨[], [], []⟩, ⟨[], [], []⟩, ⟨[], [], []⟩, ⟨[], [], []⟩, ⟨[], [], []⟩, ⟨[102], [102], []⟩] rfl (by kernel_rfl) (by kernel_rfl) rfl rfl ?_
          refine WH.val (O.ldN (m := 3) (PtI.ref rfl rfl) (js := [_, _, _]) rfl (Nat.le_of_ble_eq_true rfl) Try.underlying27 rfl (by kernel_rfl) rfl Taken.no) rfl rfl ?_
          refine WH.val (O.move rfl rfl Taken.no) rfl rfl ?_
          refine WH.val (O.move rfl rfl Taken.no) rfl rfl ?_
          refine WH.val (O.idx_fz rfl rfl (rfl) (row_get (by omega)) Try.underlying22 hi9 hs9 rfl Taken.no) rfl rfl ?_
          refine WH.val (O.ld1 (PtI.ofU (PtU.fz rfl)) rfl Try.underlying9 rfl rfl Taken.no) rfl rfl ?_
          refine WH.memS (O.call (rn []) [] rfl rfl rfl (Remove_h (t := mkT [] J) (s := o[k]!) (bd_I hi3.1 (by omega)) (by have := hfo.2 k (by omega); omega)) (.cons (ArgOk.aggU (.cons (ArgOk.same rfl) (.cons (ArgOk.same rfl) (.cons (ArgOk.same rfl) .nil)))) (.cons (ArgOk.same rfl) .nil)) SubS.nil rfl rfl rfl rfl rfl (.inl rfl) hcallOk36 (r' := .tup [.agg [.u _, .u _, .u _], .u _]) rfl rfl Taken.no) rfl rfl rfl rfl rfl (S' := _) rfl ?_
          refine WH.val (O.move rfl rfl Taken.no) rfl rfl ?_
          refine WH.val (O.extract rfl rfl rfl Taken.no) rfl rfl ?_
          refine WH.val (O.extract rfl rfl rfl Taken.no) rfl rfl ?_
          refine WH.effS (O.st_ref (m := 3) rfl rfl rfl (js := [_, _, _]) rfl rfl (by kernel_rfl) (by simp) (Nat.le_of_ble_eq_true rfl) rfl (is' := [_, _, _]) rfl Taken.no) rfl rfl rfl (S' := (102, _) :: _) rfl ?_
          refine WH.nil ?_
          refine E.inn ?_
          refine E.to ?_
          refine W.region ?_
          refine SL.val (O.move rfl rfl Taken.no) ?_
          refine SL.val (O.det (fun _ => by first | exact G.R.add64 rfl rfl (by omega) | exact G.R.add rfl rfl) rfl Taken.no) ?_
          refine SL.val (O.assign rfl rfl Taken.no) ?_
          refine SL.nil ?_
          refine E.again ((k + 1), (remW o[k]! J)) (rn []) ?_ ?_ rfl (fixL_spec rfl) ?_ ?_
          · exact (SubF.cons rfl (SubF.cons rfl (SubF.cons rfl (SubF.cons rfl (SubF.cons rfl (SubF.cons rfl (SubF.cons rfl SubF.nil)))))))
          · exact (SubS.val rfl (by (try dsimp only); rw [remP_mk hi3.1.1]; rfl) (SubS.cons rfl SubS.nil))
          ·try dsimp only
           exact ⟨by omega, set3_r hi3 (by omega) (by assumption)⟩
          · (try dsimp only); omega
         ·skip
          refine W.skip ?_
          refine E.inn ?_
          refine E.to ?_
          refine W.region ?_
          refine SL.val (O.move rfl rfl Taken.no) ?_
          refine SL.val (O.det (fun _ => by first | exact G.R.add64 rfl rfl (by omega) | exact G.R.add rfl rfl) rfl Taken.no) ?_
          refine SL.val (O.assign rfl rfl Taken.no) ?_
          refine SL.nil ?_
          refine E.again ((k + 1), (J)) (rn []) ?_ ?_ rfl (fixL_spec rfl) ?_ ?_
          · exact (SubF.cons rfl (SubF.cons rfl (SubF.cons rfl (SubF.cons rfl (SubF.cons rfl (SubF.cons rfl (SubF.cons rfl SubF.nil)))))))
          · exact (SubS.cons rfl (SubS.cons rfl SubS.nil))
          ·try dsimp only
           exact ⟨by omega, set3_k hi3 (by omega) (by first | assumption | exact Decidable.not_not.1 (by assumption))⟩
          · (try dsimp only); omega
       ·skip
        refine W.exit ?_
        refine E.th ?_
        refine E.th ?_
        refine E.hit ?_
        refine E.to ?_
        refine W.seq ?_
        refine W.seq ?_
        refine W.region ?_
        obtain rfl : k = o.length := by omega
        obtain rfl := set3_e hi3 rfl
        have hbs : bd 1000 (mkT [] (sortS l)) := bd_I hi3.1 (by omega)
        have hbi := insP_bd (s := s) ho.1 (by omega)
        have hbi2 : bd 1000 (insP (ofT l) s) := bd_mono hbi (by decide)
        refine SL.val (O.ldN (m := 3) (PtI.ref rfl rfl) (js := [_, _, _]) rfl (Nat.le_of_ble_eq_true rfl) Try.underlying27 rfl (by kernel_rfl) rfl Taken.no) ?_
        refine SL.val (O.ldN (m := 3) (PtI.ref rfl rfl) (js := [_, _, _]) rfl (Nat.le_of_ble_eq_true rfl) Try.underlying27 rfl (by kernel_rfl) rfl Taken.no) ?_
        refine SL.val (O.callp rfl rfl rfl (equal_h (ofT l) (mkT [] (sortS l))) (.cons (ArgOk.aggU (.cons (ArgOk.same rfl) (.cons (ArgOk.same rfl) (.cons (ArgOk.same rfl) .nil)))) (.cons (ArgOk.aggU (.cons (ArgOk.same rfl) (.cons (ArgOk.same rfl) (.cons (ArgOk.same rfl) .nil)))) .nil)) hcallOk33 rfl Taken.no) ?_
        refine SL.as (i' := vB true) 114 rfl (by exact iv_bool (dec_t hofe)) ?_
        refine SL.val (O.det (fun _ => G.R.mv (G.R.not rfl) rfl) rfl Taken.no) ?_
        refine SL.val (O.move rfl rfl Taken.no) ?_
        have hg11 : false = false := by decide
        refine SL.val (O.ldN (m := 3) (PtI.ref rfl rfl) (js := [_, _, _]) rfl (Nat.le_of_ble_eq_true rfl) Try.underlying27 rfl (by kernel_rfl) rfl (Taken.yes rfl rfl hg11)) ?_
        refine SL.val (O.callp rfl rfl rfl (With_h (t := mkT [] (sortS l)) (p := []) hbs (by decide)) (.cons (ArgOk.aggU (.cons (ArgOk.same rfl) (.cons (ArgOk.same rfl) (.cons (ArgOk.same rfl) .nil)))) (.cons (ArgOk.same rfl) .nil)) hcallOk26 rfl (Taken.yes rfl rfl hg11)) ?_
        refine SL.as (i' := vL 1 ((sortS l).map eStr)) 118 rfl (by rw [wthL_nil, mkT_inn [] (sortS_asc l)]) ?_
        refine SL.val (O.move rfl rfl (Taken.yes rfl rfl hg11)) ?_
        refine SL.val (O.callp rfl rfl rfl (sorted_h (l := l) (by omega)) (.cons (ArgOk.same rfl) .nil) hcallOk38 rfl (Taken.yes rfl rfl hg11)) ?_
        refine SL.val (O.callp rfl rfl rfl (sameTexts_h (a := (sortS l)) (b := (sortS l))) (.cons (ArgOk.same rfl) (.cons (ArgOk.same rfl) .nil)) hcallOk25 rfl (Taken.yes rfl rfl hg11)) ?_
        refine SL.as (i' := vB true) 121 rfl (by exact iv_bool (dec_t rfl)) ?_
        refine SL.val (O.det (fun _ => G.R.mv (G.R.not rfl) rfl) rfl (Taken.yes rfl rfl hg11)) ?_
        refine SL.val (O.pick_f rfl rfl rfl rfl Taken.no) ?_
        refine SL.nil ?_
        refine E.to ?_
        refine W.pick (.cons (t := 2) rfl (.cons (t := 6) rfl (.cons (t := 7) rfl (.cons (t := 123) rfl .nil)))) (.cons (t := 101) rfl (.cons (t := 102) rfl .nil)) ?_
        refine W.cond_f rfl ?_
        refine W.skip ?_
        refine E.to ?_
        refine W.seq ?_
        refine W.region ?_
        refine SL.val (O.ldN (m := 3) (PtI.ref rfl rfl) (js := [_, _, _]) rfl (Nat.le_of_ble_eq_true rfl) Try.underlying27 rfl (by kernel_rfl) rfl Taken.no) ?_
        refine SL.val (O.move rfl rfl Taken.no) ?_
        refine SL.memS (O.call (rn []) [] rfl rfl rfl (Insert_h (t := ofT l) (s := s) hb (by omega)) (.cons (ArgOk.aggU (.cons (ArgOk.same rfl) (.cons (ArgOk.same rfl) (.cons (ArgOk.same rfl) .nil)))) (.cons (ArgOk.same rfl) .nil)) SubS.nil rfl rfl rfl rfl rfl (.inl rfl) hcallOk34 (r' := .tup [.agg [.u _, .u _, .u _], .u _]) rfl rfl Taken.no) rfl rfl (S' := _) rfl ?_
        refine SL.val (O.move rfl rfl Taken.no) ?_
        refine SL.val (O.extract rfl rfl rfl Taken.no) ?_
        refine SL.val (O.extract rfl rfl rfl Taken.no) ?_
        refine SL.memS (O.alloc (z := .agg #[.string (Go.G.bs []), .bool false, .slice none 0 0]) (is := [.u (.sc (.string (Go.G.bs []))), .u (.sc (.bool false)), .u (.sc (.slice none 0 0))]) 103 (by kernel_rfl) rfl rfl rfl Taken.no) rfl rfl (S' := (103, _) :: _) rfl ?_
        refine SL.effS (O.st_ref (m := 3) rfl rfl rfl (js := [_, _, _]) rfl rfl (by kernel_rfl) (by simp) (Nat.le_of_ble_eq_true rfl) rfl (is' := [_, _, _]) rfl Taken.no) (S' := (103, _) :: _) rfl ?_
        refine SL.val (O.assign rfl rfl Taken.no) ?_
        refine SL.nil ?_
        refine E.to ?_
        refine W.seq ?_
        refine W.region ?_
        refine SL.val (O.ldN (m := 3) (PtI.ref rfl rfl) (js := [_, _, _]) rfl (Nat.le_of_ble_eq_true rfl) Try.underlying27 rfl (by kernel_rfl) rfl Taken.no) ?_
        refine SL.val (O.move rfl rfl Taken.no) ?_
        refine SL.memS (O.call (rn []) [] rfl rfl rfl (Remove_h (t := insP (ofT l) s) (s := s) hbi2 (by omega)) (.cons (ArgOk.aggU (.cons (ArgOk.same rfl) (.cons (ArgOk.same rfl) (.cons (ArgOk.same rfl) .nil)))) (.cons (ArgOk.same rfl) .nil)) SubS.nil rfl rfl rfl rfl rfl (.inl rfl) hcallOk36 (r' := .tup [.agg [.u _, .u _, .u _], .u _]) rfl rfl Taken.no) rfl rfl (S' := _) rfl ?_
        refine SL.val (O.move rfl rfl Taken.no) ?_
        refine SL.val (O.extract rfl rfl rfl Taken.no) ?_
        refine SL.val (O.extract rfl rfl rfl Taken.no) ?_
        refine SL.memS (O.alloc (z := .agg #[.string (Go.G.bs []), .bool false, .slice none 0 0]) (is := [.u (.sc (.string (Go.G.bs []))), .u (.sc (.bool false)), .u (.sc (.slice none 0 0))]) 104 (by kernel_rfl) rfl rfl rfl Taken.no) rfl rfl (S' := (104, _) :: _) rfl ?_
        refine SL.effS (O.st_ref (m := 3) rfl rfl rfl (js := [_, _, _]) rfl rfl (by kernel_rfl) (by simp) (Nat.le_of_ble_eq_true rfl) rfl (is' := [_, _, _]) rfl Taken.no) (S' := (104, _) :: _) rfl ?_
        refine SL.val (O.assign rfl rfl Taken.no) ?_
        refine SL.nil ?_
        refine E.to ?_
        refine W.seq ?_
        refine W.region ?_
        refine SL.val (O.move rfl rfl Taken.no) ?_
        refine SL.val (O.det (fun _ => G.R.not rfl) rfl Taken.no) ?_
        refine SL.val (O.move rfl rfl Taken.no) ?_
        refine SL.case (j := 2) (g := 138) (want := true) rfl rfl (fun hg12 => ?_) (fun hg12 => ?_)
        ·skip
         first | have hg12p := G.gA1 hg12 | have hg12p := G.gA2 hg12 | have hg12p := hg12
         have hno : ¬ insO (ofT l) s = true := by simp_all
         refine SL.val (O.ldN (m := 3) (PtI.ref rfl rfl) (js := [_, _, _]) rfl (Nat.le_of_ble_eq_true rfl) Try.underlying27 rfl (by kernel_rfl) rfl (Taken.yes rfl rfl hg12)) ?_
         refine SL.val (O.ldN (m := 3) (PtI.ref rfl rfl) (js := [_, _, _]) rfl (Nat.le_of_ble_eq_true rfl) Try.underlying27 rfl (by kernel_rfl) rfl (Taken.yes rfl rfl hg12)) ?_
         refine SL.val (O.callp rfl rfl rfl (equal_h (insP (ofT l) s) (ofT l)) (.cons (ArgOk.aggU (.cons (ArgOk.same rfl) (.cons (ArgOk.same rfl) (.cons (ArgOk.same rfl) .nil)))) (.cons (ArgOk.aggU (.cons (ArgOk.same rfl) (.cons (ArgOk.same rfl) (.cons (ArgOk.same rfl) .nil)))) .nil)) hcallOk33 rfl (Taken.yes rfl rfl hg12)) ?_
         refine SL.as (i' := vB true) 141 rfl (by exact iv_bool (dec_t (insP_same hno))) ?_
         refine SL.val (O.pick_t rfl hg12 rfl rfl Taken.no) ?_
         refine SL.val (O.move rfl rfl Taken.no) ?_
         have hg13 : true ≠ false := by decide
         refine SL.skip (OpOk.not rfl rfl rfl hg13) ?_
         refine SL.skip (OpOk.not rfl rfl rfl hg13) ?_
         refine SL.skip (OpOk.not2 rfl rfl rfl) ?_
         refine SL.skip (OpOk.not rfl rfl rfl hg13) ?_
         refine SL.skip (OpOk.not rfl rfl rfl hg13) ?_
         refine SL.skip (OpOk.not2 rfl rfl rfl) ?_
         refine SL.skip (OpOk.not2 rfl rfl rfl) ?_
         refine SL.skip (OpOk.not2 rfl rfl rfl) ?_
         refine SL.skip (OpOk.not rfl rfl rfl hg13) ?_
         refine SL.skip (OpOk.not rfl rfl rfl hg13) ?_
         refine SL.skip (OpOk.not2 rfl rfl rfl) ?_
         refine SL.skip (OpOk.not2 rfl rfl rfl) ?_
         refine SL.skip (OpOk.not2 rfl rfl rfl) ?_
         refine SL.skip (OpOk.not2 rfl rfl rfl) ?_
         refine SL.skip (OpOk.not rfl rfl rfl hg13) ?_
         refine SL.skip (OpOk.not rfl rfl rfl hg13) ?_
         refine SL.skip (OpOk.not2 rfl rfl rfl) ?_
         refine SL.skip (OpOk.not2 rfl rfl rfl) ?_
         refine SL.skip (OpOk.not2 rfl rfl rfl) ?_
         refine SL.skip (OpOk.not rfl rfl rfl hg13) ?_
         refine SL.val (O.pick_t rfl rfl rfl rfl Taken.no) ?_
         refine SL.val (O.assign rfl rfl Taken.no) ?_
         refine SL.nil ?_
         refine E.to ?_
         refine W.pick (.cons (t := 6) rfl .nil) (.cons (t := 101) rfl (.cons (t := 102) rfl (.cons (t := 103) rfl (.cons (t := 104) rfl .nil)))) ?_
         refine W.ret ?_
         refine E.fin (rs := [_]) (rn []) (.inl rfl) rfl (.cons (ResOne.tmp rfl) .nil) ?_ ?_ rfl (fixL_spec rfl)
         ·skip
          rfl
         · exact SubS.nil
        ·skip
         first | have hg12p := G.gA5 hg12 | have hg12p := G.gA6 hg12 | have hg12p := hg12
         have hyes : insO (ofT l) s = true := by simp_all
         have hir := ins_rem hgd (insO_t hyes)
         refine SL.skip (OpOk.not rfl rfl rfl hg12) ?_
         refine SL.skip (OpOk.not rfl rfl rfl hg12) ?_
         refine SL.skip (OpOk.not rfl rfl rfl hg12) ?_
         refine SL.val (O.pick_f rfl (G.ne_t hg12) rfl rfl Taken.no) ?_
         refine SL.val (O.move rfl rfl Taken.no) ?_
         have hg14 : false = false := by decide
         refine SL.val (O.move rfl rfl (Taken.yes rfl rfl hg14)) ?_
         refine SL.val (O.move rfl rfl (Taken.yes rfl rfl hg14)) ?_
         refine SL.case (j := 9) (g := 145) (want := true) rfl rfl (fun hg15 => ?_) (fun hg15 => ?_)
         ·skip
          first | have hg15p := G.gA1 hg15 | have hg15p := G.gA2 hg15 | have hg15p := hg15
          refine SL.val (O.move rfl rfl (Taken.yes rfl rfl hg15)) ?_
          refine SL.val (O.pick_t rfl hg15 rfl rfl (Taken.yes rfl rfl hg14)) ?_
          refine SL.val (O.move rfl rfl (Taken.yes rfl rfl hg14)) ?_
          refine SL.case (j := 12) (g := 148) (want := true) rfl rfl (fun hg16 => ?_) (fun hg16 => ?_)
          ·skip
           first | have hg16p := G.gA1 hg16 | have hg16p := G.gA2 hg16 | have hg16p := hg16
           refine SL.val (O.ldN (m := 3) (PtI.ref rfl rfl) (js := [_, _, _]) rfl (Nat.le_of_ble_eq_true rfl) Try.underlying27 rfl (by kernel_rfl) rfl (Taken.yes rfl rfl hg16)) ?_
           refine SL.val (O.ldN (m := 3) (PtI.ref rfl rfl) (js := [_, _, _]) rfl (Nat.le_of_ble_eq_true rfl) Try.underlying27 rfl (by kernel_rfl) rfl (Taken.yes rfl rfl hg16)) ?_
           refine SL.val (O.callp rfl rfl rfl (equal_h (remP (insP (ofT l) s) s) (ofT l)) (.cons (ArgOk.aggU (.cons (ArgOk.same rfl) (.cons (ArgOk.same rfl) (.cons (ArgOk.same rfl) .nil)))) (.cons (ArgOk.aggU (.cons (ArgOk.same rfl) (.cons (ArgOk.same rfl) (.cons (ArgOk.same rfl) .nil)))) .nil)) hcallOk33 rfl (Taken.yes rfl rfl hg16)) ?_
           refine SL.as (i' := vB true) 151 rfl (by exact iv_bool (dec_t hir.2.1)) ?_
           refine SL.val (O.pick_t rfl hg16 rfl rfl (Taken.yes rfl rfl hg14)) ?_
           refine SL.val (O.move rfl rfl (Taken.yes rfl rfl hg14)) ?_
           have hg17 : true = true := by decide
           refine SL.val (O.ldN (m := 3) (PtI.ref rfl rfl) (js := [_, _, _]) rfl (Nat.le_of_ble_eq_true rfl) Try.underlying27 rfl (by kernel_rfl) rfl (Taken.yes rfl rfl hg17)) ?_
           refine SL.val (O.move rfl rfl (Taken.yes rfl rfl hg17)) ?_
           refine SL.val (O.callp rfl rfl rfl (has_h (t := ofT l) (s := s) hb (by omega)) (.cons (ArgOk.aggU (.cons (ArgOk.same rfl) (.cons (ArgOk.same rfl) (.cons (ArgOk.same rfl) .nil)))) (.cons (ArgOk.same rfl) .nil)) hcallOk18 rfl (Taken.yes rfl rfl hg17)) ?_
           refine SL.as (i' := vB false) 156 rfl (by exact iv_bool (dec_f (insO_t hyes).2)) ?_
           refine SL.val (O.det (fun _ => G.R.mv (G.R.not rfl) rfl) rfl (Taken.yes rfl rfl hg17)) ?_
           refine SL.val (O.pick_t rfl rfl rfl rfl (Taken.yes rfl rfl hg14)) ?_
           refine SL.val (O.move rfl rfl (Taken.yes rfl rfl hg14)) ?_
           have hg18 : true = true := by decide
           refine SL.val (O.ldN (m := 3) (PtI.ref rfl rfl) (js := [_, _, _]) rfl (Nat.le_of_ble_eq_true rfl) Try.underlying27 rfl (by kernel_rfl) rfl (Taken.yes rfl rfl hg18)) ?_
           refine SL.val (O.move rfl rfl (Taken.yes rfl rfl hg18)) ?_
           refine SL.val (O.callp rfl rfl rfl (has_h (t := insP (ofT l) s) (s := s) hbi2 (by omega)) (.cons (ArgOk.aggU (.cons (ArgOk.same rfl) (.cons (ArgOk.same rfl) (.cons (ArgOk.same rfl) .nil)))) (.cons (ArgOk.same rfl) .nil)) hcallOk18 rfl (Taken.yes rfl rfl hg18)) ?_
           refine SL.as (i' := vB true) 162 rfl (by exact iv_bool (dec_t hir.2.2)) ?_
           refine SL.val (O.pick_t rfl rfl rfl rfl (Taken.yes rfl rfl hg14)) ?_
           refine SL.val (O.pick_f rfl rfl rfl rfl Taken.no) ?_
           refine SL.val (O.assign rfl rfl Taken.no) ?_
           refine SL.nil ?_
           refine E.to ?_
           refine W.pick (.cons (t := 6) rfl .nil) (.cons (t := 101) rfl (.cons (t := 102) rfl (.cons (t := 103) rfl (.cons (t := 104) rfl .nil)))) ?_
           refine W.ret ?_
           refine E.fin (rs := [_]) (rn []) (.inl rfl) rfl (.cons (ResOne.tmp rfl) .nil) ?_ ?_ rfl (fixL_spec rfl)
           ·skip
            rfl
           · exact SubS.nil
          ·skip
           exact absurd hir.1 (by first | assumption | simp_all)
         ·skip
          exact absurd hyes (by first | assumption | simp_all)
   ·skip
    first | have hg3p := G.gA7 hg3 | have hg3p := G.gA8 hg3 | have hg3p := hg3
    refine SL.skip (OpOk.not rfl rfl rfl hg3) ?_
    refine SL.skip (OpOk.not rfl rfl rfl hg3) ?_
    refine SL.val (O.pick_t rfl (G.ne_f hg3) rfl rfl Taken.no) ?_
    refine SL.nil ?_
    refine E.to ?_
    refine W.pick (.cons (t := 0) rfl (.cons (t := 1) rfl (.cons (t := 2) rfl (.cons (t := 6) rfl (.cons (t := 7) rfl (.cons (t := 41) rfl .nil)))))) (.cons (t := 101) rfl .nil) ?_
    refine W.cond_t rfl ?_
    refine W.seq ?_
    refine W.region ?_
    refine SL.val (O.assign rfl rfl Taken.no) ?_
    refine SL.nil ?_
    refine E.to ?_
    refine W.ret ?_
    refine E.thr ?_
    refine E.fin (rs := [_]) (rn []) (.inl rfl) rfl (.cons (ResOne.tmp rfl) .nil) ?_ ?_ rfl (fixL_spec rfl)
    ·skip
     rfl
    · exact SubS.nil
  ·skip
   first | have hg2p := G.gA7 hg2 | have hg2p := G.gA8 hg2 | have hg2p := hg2
   refine SL.skip (OpOk.not rfl rfl rfl hg2) ?_
   refine SL.skip (OpOk.not rfl rfl rfl hg2) ?_
   refine SL.skip (OpOk.not rfl rfl rfl hg2) ?_
   refine SL.val (O.pick_t rfl (G.ne_f hg2) rfl rfl Taken.no) ?_
   refine SL.val (O.move rfl rfl Taken.no) ?_
   have hg19 : true ≠ false := by decide
   refine SL.skip (OpOk.not rfl rfl rfl hg19) ?_
   refine SL.skip (OpOk.not rfl rfl rfl hg19) ?_
   refine SL.val (O.pick_t rfl rfl rfl rfl Taken.no) ?_
   refine SL.nil ?_
   refine E.to ?_
   refine W.pick (.cons (t := 0) rfl (.cons (t := 1) rfl (.cons (t := 2) rfl (.cons (t := 6) rfl (.cons (t := 7) rfl (.cons (t := 41) rfl .nil)))))) (.cons (t := 101) rfl .nil) ?_
   refine W.cond_t rfl ?_
   refine W.seq ?_
   refine W.region ?_
   refine SL.val (O.assign rfl rfl Taken.no) ?_
   refine SL.nil ?_
   refine E.to ?_
   refine W.ret ?_
   refine E.thr ?_
   refine E.fin (rs := [_]) (rn []) (.inl rfl) rfl (.cons (ResOne.tmp rfl) .nil) ?_ ?_ rfl (fixL_spec rfl)
   ·skip
    rfl
   · exact SubS.nil

end Go.Proofs.Ytfmgpocbpbfalaa
