/-
  The walks.
-/
import Derived.Test.YtfmgpocbpbfalaaH3
namespace Go.Proofs.Ytfmgpocbpbfalaa
open Go Go.RowKit Go.H Go.D41

theorem hinf33 : ∃ i, Try.prog.info? 33 = some i ∧ i.zero = some (.agg #[.string (Go.G.bs []), .bool false, .slice none 0 0]) ∧ i.size = 3 ∧ i.bytes = 48 := G.info_of (by kernel_rfl)
theorem hcallOk15 : G.callOk Try.prog 15 = true := by kernel_rfl
theorem hcallOk18 : G.callOk Try.prog 18 = true := by kernel_rfl
theorem hcallOk20 : G.callOk Try.prog 20 = true := by kernel_rfl
theorem hcallOk34 : G.callOk Try.prog 34 = true := by kernel_rfl
theorem hcallOk40 : G.callOk Try.prog 40 = true := by kernel_rfl
theorem hcallOk41 : G.callOk Try.prog 41 = true := by kernel_rfl
theorem hcallOk45 : G.callOk Try.prog 45 = true := by kernel_rfl

set_option maxRecDepth 8000 in
/-- bookplate/prefix.Insert. -/
theorem Insert_h {t : Tr} {s : Str} (hb : bd 1000 t) (hs : s.length ≤ 1000000) :
    Con Try.prog 34 [vA [uT t.lab, uB t.wd, .sl 3 (t.kids.map eTr)], vT s] [] (.tup [.agg [vT (insP t s).lab, vB (insP t s).wd, vL 3 ((insP t s).kids.map eTr)], vB (insO t s)]) [] := by
 refine Con.enterL (n := 18) Try.func34 rfl rfl rfl (fun τ w ok vs hin => ?_)
 have hl0_2 := hin.lenA (i := 0) (j := 2) rfl rfl
 try rw [List.length_map] at hl0_2
 clear hin
 refine W.seq ?_
 refine W.region ?_
 refine SL.memS (O.box (is := [_, _, _]) 101 rfl rfl (by simp) rfl rfl Taken.no) rfl rfl (S' := (101, _) :: _) rfl ?_
 refine SL.memS (O.alloc (z := .agg #[.string (Go.G.bs []), .bool false, .slice none 0 0]) (is := [.u (.sc (.string (Go.G.bs []))), .u (.sc (.bool false)), .u (.sc (.slice none 0 0))]) 102 (by kernel_rfl) rfl rfl rfl Taken.no) rfl rfl (S' := (102, _) :: _) rfl ?_
 refine SL.val (O.assign rfl rfl Taken.no) ?_
 refine SL.nil ?_
 refine E.to ?_
 refine W.seq ?_
 refine W.seq ?_
 refine W.region ?_
 refine SL.val (O.move rfl rfl Taken.no) ?_
 refine SL.val (O.callp rfl rfl rfl (word_h (w := s)) (.cons (ArgOk.same rfl) .nil) hcallOk42 rfl Taken.no) ?_
 refine SL.val (O.det (fun _ => G.R.not rfl) rfl Taken.no) ?_
 refine SL.val (O.move rfl rfl Taken.no) ?_
 refine SL.case (j := 3) (g := 9) (want := false) rfl rfl (fun hg1 => ?_) (fun hg1 => ?_)
 ·skip
  first | have hg1p := G.gA3 hg1 | have hg1p := G.gA4 hg1 | have hg1p := hg1
  refine SL.val (O.ldN (m := 3) (PtI.ref rfl rfl) (js := [_, _, _]) rfl (Nat.le_of_ble_eq_true rfl) Try.underlying27 rfl (by kernel_rfl) rfl (Taken.yes rfl rfl hg1)) ?_
  refine SL.val (O.move rfl rfl (Taken.yes rfl rfl hg1)) ?_
  refine SL.val (O.callp rfl rfl rfl (has_h (t := t) (s := s) hb (by omega)) (.cons (ArgOk.aggU (.cons (ArgOk.same rfl) (.cons (ArgOk.same rfl) (.cons (ArgOk.same rfl) .nil)))) (.cons (ArgOk.same rfl) .nil)) hcallOk18 rfl (Taken.yes rfl rfl hg1)) ?_
  refine SL.val (O.pick_f rfl hg1 rfl rfl Taken.no) ?_
  refine SL.nil ?_
  refine E.to ?_
  first | refine W.cond_d rfl (fun hc2 => ?_) (fun hc2 => ?_) | refine W.cond_nd rfl (fun hc2 => ?_) (fun hc2 => ?_) | refine W.cond rfl (fun hc2 => ?_) (fun hc2 => ?_)
  ·skip
   refine W.seq ?_
   refine W.region ?_
   refine SL.val (O.ldN (m := 3) (PtI.ref rfl rfl) (js := [_, _, _]) rfl (Nat.le_of_ble_eq_true rfl) Try.underlying27 rfl (by kernel_rfl) rfl Taken.no) ?_
   refine SL.effS (O.st_ref (m := 3) rfl rfl rfl (js := [_, _, _]) rfl rfl (by kernel_rfl) (by simp) (Nat.le_of_ble_eq_true rfl) rfl (is' := [_, _, _]) rfl Taken.no) (S' := (102, _) :: _) rfl ?_
   refine SL.val (O.assign rfl rfl Taken.no) ?_
   refine SL.nil ?_
   refine E.to ?_
   refine W.ret ?_
   refine E.thr ?_
   refine E.fin (rs := [_, _]) (rn []) (.inl rfl) rfl (.cons (ResOne.cellN (m := 3) (PtI.ref rfl rfl) (js := [_, _, _]) rfl (Nat.le_of_ble_eq_true rfl) Try.underlying27 rfl (by kernel_rfl)) (.cons (ResOne.tmp rfl) .nil)) ?_ ?_ rfl (fixL_spec rfl)
   ·skip
    have hn : ¬ (wrd s ∧ s ∉ t.inn) := by simp_all
    rw [(insP_no hn).1, (insP_no hn).2]; rfl
   · exact SubS.nil
  ·skip
   have hw : wrd s ∧ s ∉ t.inn := by simp_all
   refine W.skip ?_
   refine E.to ?_
   refine W.seq ?_
   refine W.region ?_
   refine SL.val (O.ldN (m := 3) (PtI.ref rfl rfl) (js := [_, _, _]) rfl (Nat.le_of_ble_eq_true rfl) Try.underlying27 rfl (by kernel_rfl) rfl Taken.no) ?_
   refine SL.val (O.move rfl rfl Taken.no) ?_
   refine SL.memS (O.call (rn []) [] rfl rfl rfl (insert_h (t := t) (s := s) hb (by have := hw.1.2; omega)) (.cons (ArgOk.aggU (.cons (ArgOk.same rfl) (.cons (ArgOk.same rfl) (.cons (ArgOk.same rfl) .nil)))) (.cons (ArgOk.same rfl) .nil)) SubS.nil rfl rfl rfl rfl rfl (.inl rfl) hcallOk56 (r' := .agg [.u _, .u _, .u _]) rfl rfl Taken.no) rfl rfl (S' := _) rfl ?_
   refine SL.effS (O.st_ref (m := 3) rfl rfl rfl (js := [_, _, _]) rfl rfl (by kernel_rfl) (by simp) (Nat.le_of_ble_eq_true rfl) rfl (is' := [_, _, _]) rfl Taken.no) (S' := (102, _) :: _) rfl ?_
   refine SL.val (O.assign rfl rfl Taken.no) ?_
   refine SL.nil ?_
   refine E.to ?_
   refine W.ret ?_
   refine E.fin (rs := [_, _]) (rn []) (.inl rfl) rfl (.cons (ResOne.cellN (m := 3) (PtI.ref rfl rfl) (js := [_, _, _]) rfl (Nat.le_of_ble_eq_true rfl) Try.underlying27 rfl (by kernel_rfl)) (.cons (ResOne.tmp rfl) .nil)) ?_ ?_ rfl (fixL_spec rfl)
   ·skip
    rw [(insP_yes hw).1, (insP_yes hw).2]; rfl
   · exact SubS.nil
 ·skip
  first | have hg1p := G.gA7 hg1 | have hg1p := G.gA8 hg1 | have hg1p := hg1
  refine SL.skip (OpOk.not rfl rfl rfl hg1) ?_
  refine SL.skip (OpOk.not rfl rfl rfl hg1) ?_
  refine SL.skip (OpOk.not rfl rfl rfl hg1) ?_
  refine SL.val (O.pick_t rfl (G.ne_f hg1) rfl rfl Taken.no) ?_
  refine SL.nil ?_
  refine E.to ?_
  refine W.cond_t rfl ?_
  refine W.seq ?_
  refine W.region ?_
  refine SL.val (O.ldN (m := 3) (PtI.ref rfl rfl) (js := [_, _, _]) rfl (Nat.le_of_ble_eq_true rfl) Try.underlying27 rfl (by kernel_rfl) rfl Taken.no) ?_
  refine SL.effS (O.st_ref (m := 3) rfl rfl rfl (js := [_, _, _]) rfl rfl (by kernel_rfl) (by simp) (Nat.le_of_ble_eq_true rfl) rfl (is' := [_, _, _]) rfl Taken.no) (S' := (102, _) :: _) rfl ?_
  refine SL.val (O.assign rfl rfl Taken.no) ?_
  refine SL.nil ?_
  refine E.to ?_
  refine W.ret ?_
  refine E.thr ?_
  refine E.fin (rs := [_, _]) (rn []) (.inl rfl) rfl (.cons (ResOne.cellN (m := 3) (PtI.ref rfl rfl) (js := [_, _, _]) rfl (Nat.le_of_ble_eq_true rfl) Try.underlying27 rfl (by kernel_rfl)) (.cons (ResOne.tmp rfl) .nil)) ?_ ?_ rfl (fixL_spec rfl)
  ·skip
   have hn : ¬ (wrd s ∧ s ∉ t.inn) := by simp_all
   rw [(insP_no hn).1, (insP_no hn).2]; rfl
  · exact SubS.nil

set_option maxRecDepth 8000 in
/-- bookplate/prefix.Of. -/
theorem of_h {l : List Str} (hl : l.length ≤ 900) :
    Con Try.prog 12 [vL 1 (l.map eStr)] [] (.tup [.agg [vT (ofT l).lab, vB (ofT l).wd, vL 3 ((ofT l).kids.map eTr)], vI (ofE l)]) [] := by
 obtain ⟨i9, hi9, hz9, hs9, hb9⟩ := hinf9
 refine Con.enterL (n := 24) Try.func12 rfl rfl rfl (fun τ w ok vs hin => ?_)
 have hl0 := hin.len (i := 0) rfl
 try rw [List.length_map] at hl0
 clear hin
 refine W.seq ?_
 refine W.region ?_
 refine SL.memS (O.alloc (z := .agg #[.string (Go.G.bs []), .bool false, .slice none 0 0]) (is := [.u (.sc (.string (Go.G.bs []))), .u (.sc (.bool false)), .u (.sc (.slice none 0 0))]) 101 (by kernel_rfl) rfl rfl rfl Taken.no) rfl rfl (S' := (101, _) :: _) rfl ?_
 refine SL.val (O.assign rfl rfl Taken.no) ?_
 refine SL.nil ?_
 refine E.to ?_
 refine W.seq ?_
 refine W.seq ?_
 refine W.region ?_
 refine SL.val (O.move rfl rfl Taken.no) ?_
 refine SL.val (O.callp rfl rfl rfl (containsFuncS (q := l) (f := 41) (caps := []) (pr := fun x => !decide (wrd x)) hcallOk41 (fun x => of1_h)) (.cons (ArgOk.same rfl) (.cons ArgOk.fnc .nil)) hcallOk40 rfl Taken.no) ?_
 refine SL.nil ?_
 refine E.to ?_
 first | refine W.cond_d rfl (fun hc1 => ?_) (fun hc1 => ?_) | refine W.cond_nd rfl (fun hc1 => ?_) (fun hc1 => ?_) | refine W.cond rfl (fun hc1 => ?_) (fun hc1 => ?_)
 ·skip
  refine W.seq ?_
  refine W.region ?_
  refine SL.val (O.build (res := [_, _, _]) (z := .agg #[.string (Go.G.bs []), .bool false, .slice none 0 0]) (places := [(0, 1), (1, 1), (2, 1)]) rfl rfl Try.underlying27 (by kernel_rfl) (fun _ => by kernel_rfl) rfl rfl Taken.no) ?_
  refine SL.effS (O.st_ref (m := 3) rfl rfl rfl (js := [_, _, _]) rfl rfl (by kernel_rfl) (by simp) (Nat.le_of_ble_eq_true rfl) rfl (is' := [_, _, _]) rfl Taken.no) (S' := (101, _) :: _) rfl ?_
  refine SL.val (O.assign rfl rfl Taken.no) ?_
  refine SL.nil ?_
  refine E.to ?_
  refine W.ret ?_
  refine E.thr ?_
  refine E.nilslC 101 2 3 (is' := [_, _, _]) rfl rfl rfl ?_
  refine E.fin (rs := [_, _]) (rn []) (.inl rfl) rfl (.cons (ResOne.cellN (m := 3) (PtI.ref rfl rfl) (js := [_, _, _]) rfl (Nat.le_of_ble_eq_true rfl) Try.underlying27 rfl (by kernel_rfl)) (.cons (ResOne.tmp rfl) .nil)) ?_ ?_ rfl (fixL_spec rfl)
  ·skip
   have hn := not_wrds.1 (by assumption)
   rw [(of_1 hn).1, (of_1 hn).2]; rfl
  · exact SubS.nil
 ·skip
  have hw : wrds l := Classical.byContradiction fun n => absurd (not_wrds.2 n) (by assumption)
  refine W.skip ?_
  refine E.to ?_
  refine W.seq ?_
  refine W.region ?_
  refine SL.memS (O.alloc (z := .agg #[.string (Go.G.bs []), .bool false, .slice none 0 0]) (is := [.u (.sc (.string (Go.G.bs []))), .u (.sc (.bool false)), .u (.sc (.slice none 0 0))]) 102 (by kernel_rfl) rfl rfl rfl Taken.no) rfl rfl (S' := (102, _) :: _) rfl ?_
  refine SL.nil ?_
  refine E.to ?_
  refine W.seq ?_
  refine W.seq ?_
  refine W.region ?_
  refine SL.val (O.move rfl rfl Taken.no) ?_
  refine SL.val (O.lenE (SlOf.fz rfl (by decide)) (by first | exact List.length_map _ | rfl) Try.underlying22 rfl Taken.no) ?_
  refine SL.val (O.move rfl rfl Taken.no) ?_
  refine SL.nil ?_
  refine E.to ?_
  refine W.block ?_
  refine W.nilslC 102 2 3 (is' := [_, _, _]) rfl rfl rfl ?_
  refine W.loopx1 (fun (k : Nat) => [(12, vI (k : Int))]) (fun (k : Nat) => [(102, .cells 27 [.u (uT (mkT [] (sortS (l.take k))).lab), .u (uB (mkT [] (sortS (l.take k))).wd), .u (.sl 3 ((mkT [] (sortS (l.take k))).kids.map eTr))])]) (fun (k : Nat) => k ≤ l.length) (fun (k : Nat) => l.length - k) (0) (rn []) (.cons (t := 2) rfl (.cons (t := 3) rfl (.cons (t := 4) rfl (.cons (t := 10) rfl (.cons (t := 11) rfl .nil))))) (.cons (t := 101) rfl .nil) rfl ?_ ?_ rfl rfl ?_ ?_
  · exact (SubF.cons rfl SubF.nil)
  · exact (SubS.cons rfl SubS.nil)
  ·skip
   omega
  intro k hinv
  have hk := hinv
  have hbk := of_bdk hw k hl
  refine W.seq ?_
  refine W.region ?_
  refine SL.val (O.det (fun _ => G.R.lss rfl rfl) rfl Taken.no) ?_
  refine SL.nil ?_
  refine E.to ?_
  refine W.seq ?_
  first | refine W.cond_d rfl (fun hc2 => ?_) (fun hc2 => ?_) | refine W.cond_nd rfl (fun hc2 => ?_) (fun hc2 => ?_) | refine W.cond rfl (fun hc2 => ?_) (fun hc2 => ?_)
  ·skip
   refine W.skip ?_
   refine E.to ?_
   refine W.seq ?_
   refine W.block ?_
   refine W.seq ?_
   refine W.region ?_
   refine SL.val (O.idx_fz rfl rfl (rfl) (row_get (by omega)) Try.underlying22 hi9 hs9 rfl Taken.no) ?_
   refine SL.val (O.ld1 (PtI.ofU (PtU.fz rfl)) rfl Try.underlying9 rfl rfl Taken.no) ?_
   refine SL.val (O.assign rfl rfl Taken.no) ?_
   refine SL.nil ?_
   refine E.to ?_
   refine W.region ?_
   refine SL.val (O.ldN (m := 3) (PtI.ref rfl rfl) (js := [_, _, _]) rfl (Nat.le_of_ble_eq_true rfl) Try.underlying27 rfl (by kernel_rfl) rfl Taken.no) ?_
   refine SL.val (O.move rfl rfl Taken.no) ?_
   refine SL.memS (O.call (rn []) [] rfl rfl rfl (Insert_h (t := (mkT [] (sortS (l.take k)))) (s := l[k]!) (bd_mono hbk (by decide)) (by have := (hw l[k]! (by rw [getElem!_pos l k (by omega)]; exact List.getElem_mem _)).2; omega)) (.cons (ArgOk.aggU (.cons (ArgOk.same rfl) (.cons (ArgOk.same rfl) (.cons (ArgOk.same rfl) .nil)))) (.cons (ArgOk.same rfl) .nil)) SubS.nil rfl rfl rfl rfl rfl (.inl rfl) hcallOk34 (r' := .tup [.agg [.u _, .u _, .u _], .u _]) rfl rfl Taken.no) rfl rfl (S' := _) rfl ?_
   refine SL.val (O.move rfl rfl Taken.no) ?_
   refine SL.val (O.extract rfl rfl rfl Taken.no) ?_
   refine SL.val (O.extract rfl rfl rfl Taken.no) ?_
   refine SL.effS (O.st_ref (m := 3) rfl rfl rfl (js := [_, _, _]) rfl rfl (by kernel_rfl) (by simp) (Nat.le_of_ble_eq_true rfl) rfl (is' := [_, _, _]) rfl Taken.no) (S' := (102, _) :: _) rfl ?_
   refine SL.nil ?_
   refine E.inn ?_
   refine E.to ?_
   refine W.region ?_
   refine SL.val (O.det (fun _ => by first | exact G.R.add64 rfl rfl (by omega) | exact G.R.add rfl rfl) rfl Taken.no) ?_
   refine SL.val (O.move rfl rfl Taken.no) ?_
   refine SL.nil ?_
   refine E.again ((k + 1)) (rn []) ?_ ?_ rfl (fixL_spec rfl) ?_ ?_
   · exact (SubF.cons rfl (SubF.cons rfl (SubF.cons rfl (SubF.cons rfl (SubF.cons rfl (SubF.cons rfl SubF.nil))))))
   · exact (SubS.val rfl (by (try dsimp only); rw [of_step hw (by omega)]; rfl) (SubS.cons rfl SubS.nil))
   ·try dsimp only
    omega
   · (try dsimp only); omega
  ·skip
   refine W.exit ?_
   refine E.th ?_
   refine E.th ?_
   refine E.hit ?_
   refine E.to ?_
   refine W.seq ?_
   refine W.region ?_
   refine SL.val (O.ldN (m := 3) (PtI.ref rfl rfl) (js := [_, _, _]) rfl (Nat.le_of_ble_eq_true rfl) Try.underlying27 rfl (by kernel_rfl) rfl Taken.no) ?_
   refine SL.effS (O.st_ref (m := 3) rfl rfl rfl (js := [_, _, _]) rfl rfl (by kernel_rfl) (by simp) (Nat.le_of_ble_eq_true rfl) rfl (is' := [_, _, _]) rfl Taken.no) (S' := (101, _) :: _) rfl ?_
   refine SL.val (O.assign rfl rfl Taken.no) ?_
   refine SL.nil ?_
   refine E.to ?_
   refine W.ret ?_
   refine E.fin (rs := [_, _]) (rn []) (.inl rfl) rfl (.cons (ResOne.cellN (m := 3) (PtI.ref rfl rfl) (js := [_, _, _]) rfl (Nat.le_of_ble_eq_true rfl) Try.underlying27 rfl (by kernel_rfl)) (.cons (ResOne.tmp rfl) .nil)) ?_ ?_ rfl (fixL_spec rfl)
   ·skip
    obtain rfl : k = l.length := by omega
    rw [List.take_length]
    rw [(of_0 hw).1, (of_0 hw).2]; rfl
   · exact SubS.nil

set_option maxRecDepth 8000 in
/-- bookplate/bookplatelaw41.theirs. -/
theorem theirs_h_step {t : Tr} (hs : t.sm) (ih : ∀ x ∈ t.kids, Con Try.prog 15 [vA [uT x.lab, uB x.wd, .sl 3 (x.kids.map eTr)]] [] (.agg [vT x.lab, vB x.wd, vL 3 (x.kids.map eTr)]) []) :
    Con Try.prog 15 [vA [uT t.lab, uB t.wd, .sl 3 (t.kids.map eTr)]] [] (.agg [vT t.lab, vB t.wd, vL 3 (t.kids.map eTr)]) [] := by
 have hs1 := ((Tr.sm_iff t).1 hs).1
 obtain ⟨i27, hi27, hz27, hs27, hb27⟩ := hinf27
 obtain ⟨i33, hi33, hz33, hs33, hb33⟩ := hinf33
 refine Con.enterL (n := 29) Try.func15 rfl rfl rfl (fun τ w ok vs hin => ?_)
 have hl0_2 := hin.lenA (i := 0) (j := 2) rfl rfl
 try rw [List.length_map] at hl0_2
 clear hin
 refine W.seq ?_
 refine W.region ?_
 refine SL.memS (O.box (is := [_, _, _]) 101 rfl rfl (by simp) rfl rfl Taken.no) rfl rfl (S' := (101, _) :: _) rfl ?_
 refine SL.memS (O.alloc (z := .agg #[.string (Go.G.bs []), .bool false, .slice none 0 0]) (is := [.u (.sc (.string (Go.G.bs []))), .u (.sc (.bool false)), .u (.sc (.slice none 0 0))]) 102 (by kernel_rfl) rfl rfl rfl Taken.no) rfl rfl (S' := (102, _) :: _) rfl ?_
 refine SL.nil ?_
 refine E.to ?_
 refine W.seq ?_
 refine W.region ?_
 refine SL.val (O.fld_ref (o' := 0) rfl Try.underlying27 rfl (m := 0) (by kernel_rfl) rfl rfl Taken.no) ?_
 refine SL.val (O.ld1 (PtI.ref rfl rfl) rfl Try.underlying9 rfl rfl Taken.no) ?_
 refine SL.val (O.fld_ref (o' := 1) rfl Try.underlying27 rfl (m := 0) (by kernel_rfl) rfl rfl Taken.no) ?_
 refine SL.val (O.ld1 (PtI.ref rfl rfl) rfl Try.underlying4 rfl rfl Taken.no) ?_
 refine SL.val (O.build (res := [_, _, _]) (z := .agg #[.string (Go.G.bs []), .bool false, .slice none 0 0]) (places := [(0, 1), (1, 1), (2, 1)]) rfl rfl Try.underlying33 (by kernel_rfl) (fun _ => by kernel_rfl) rfl rfl Taken.no) ?_
 refine SL.memS (O.alloc (z := .agg #[.string (Go.G.bs []), .bool false, .slice none 0 0]) (is := [.u (.sc (.string (Go.G.bs []))), .u (.sc (.bool false)), .u (.sc (.slice none 0 0))]) 103 (by kernel_rfl) rfl rfl rfl Taken.no) rfl rfl (S' := (103, _) :: _) rfl ?_
 refine SL.effS (O.st_ref (m := 3) rfl rfl rfl (js := [_, _, _]) rfl rfl (by kernel_rfl) (by simp) (Nat.le_of_ble_eq_true rfl) rfl (is' := [_, _, _]) rfl Taken.no) (S' := (103, _) :: _) rfl ?_
 refine SL.nil ?_
 refine E.to ?_
 refine W.seq ?_
 refine W.seq ?_
 refine W.region ?_
 refine SL.val (O.assign rfl rfl Taken.no) ?_
 refine SL.nil ?_
 refine E.to ?_
 refine W.block ?_
 refine W.adoptC 103 2 105 33 3 (is' := [_, _, _]) (by decide) rfl rfl rfl rfl rfl ?_
 refine W.loopx1 (fun (k : Nat) => [(4, vI (k : Int))]) (fun (k : Nat) => [(104, .data 33 3 ((t.kids.take k).map eTr)), (103, .cells 33 [.u (uT t.lab), .u (uB t.wd), .own 104])]) (fun (k : Nat) => k ≤ t.kids.length) (fun (k : Nat) => t.kids.length - k) (0) (rn [(104, 105)]) (.cons (t := 1) rfl (.cons (t := 2) rfl (.cons (t := 3) rfl .nil))) (.cons (t := 101) rfl (.cons (t := 102) rfl .nil)) rfl ?_ ?_ rfl rfl ?_ ?_
 · exact (SubF.cons rfl SubF.nil)
 · exact (SubS.cons rfl (SubS.cons rfl SubS.nil))
 ·skip
  omega
 intro k hinv
 have hk := hinv
 have htl : (t.kids.take k).length = k := by rw [List.length_take]; omega
 refine W.seq ?_
 refine W.seq ?_
 refine W.region ?_
 refine SL.val (O.move rfl rfl Taken.no) ?_
 refine SL.val (O.fld_ref (o' := 2) rfl Try.underlying27 rfl (m := 0) (by kernel_rfl) rfl rfl Taken.no) ?_
 refine SL.val (O.ld1 (PtI.ref rfl rfl) rfl Try.underlying25 rfl rfl Taken.no) ?_
 refine SL.val (O.lenE (SlOf.fz rfl (by decide)) (by first | exact List.length_map _ | rfl) Try.underlying25 rfl Taken.no) ?_
 refine SL.val (O.det (fun _ => G.R.lss rfl rfl) rfl Taken.no) ?_
 refine SL.nil ?_
 refine E.to ?_
 first | refine W.cond_d rfl (fun hc1 => ?_) (fun hc1 => ?_) | refine W.cond_nd rfl (fun hc1 => ?_) (fun hc1 => ?_) | refine W.cond rfl (fun hc1 => ?_) (fun hc1 => ?_)
 ·skip
  refine W.skip ?_
  refine E.to ?_
  refine W.seq ?_
  refine W.block ?_
  refine W.draw [⟨[103], [], []⟩, ⟨[103, 104], [], []⟩, ⟨[101], [], []⟩, ⟨[101], [], []⟩, ⟨[], [], []⟩, ⟨[], [], []⟩, ⟨[], [], []⟩, ⟨[], [], []⟩, ⟨[106], [106], [106]⟩, ⟨[104, 106, 107], [104, 107], [107]⟩, ⟨[103], [], []⟩, ⟨[103, 107], [103], []⟩] rfl (by kernel_rfl) (by kernel_rfl) rfl rfl ?_
  refine WH.val (O.fld_ref (o' := 2) rfl Try.underlying33 rfl (m := 0) (by kernel_rfl) rfl rfl Taken.no) rfl rfl ?_
  refine WH.val (O.ld1 (PtI.ref rfl rfl) rfl Try.underlying31 rfl rfl Taken.no) rfl rfl ?_
  refine WH.val (O.fld_ref (o' := 2) rfl Try.underlying27 rfl (m := 0) (by kernel_rfl) rfl rfl Taken.no) rfl rfl ?_
  refine WH.val (O.ld1 (PtI.ref rfl rfl) rfl Try.underlying25 rfl rfl Taken.no) rfl rfl ?_
  refine WH.val (O.move rfl rfl Taken.no) rfl rfl ?_
  refine WH.val (O.idx_fz rfl rfl (rfl) (row_tr (by omega)) Try.underlying25 hi27 hs27 rfl Taken.no) rfl rfl ?_
  refine WH.val (O.ldU (m := 3) (PtU.fz rfl) rfl Try.underlying27 rfl (by kernel_rfl) rfl Taken.no) rfl rfl ?_
  refine WH.memS (O.call (rn []) [] rfl rfl rfl (ih t.kids[k]! (at_mem (by omega))) (.cons (ArgOk.same rfl) .nil) SubS.nil rfl rfl rfl rfl rfl (.inl rfl) hcallOk15 (r' := .agg [.u _, .u _, .u _]) rfl rfl Taken.no) rfl rfl rfl rfl rfl (S' := _) rfl ?_
  refine WH.memS (O.buildSlice 106 rfl rfl Try.underlying31 hi33 hz33 hs33 (by decide) rfl (by decide) rfl rfl rfl Taken.no) rfl rfl rfl rfl rfl (S' := (106, _) :: _) rfl ?_
  refine WH.memS (O.app (k' := 107) rfl rfl (SlOf.own rfl rfl) Try.underlying31 hi33 hz33 hs33 rfl rfl (by exact map_snoc (x := t.kids[k]!) (eTr_eq _).symm) (by rw [hb33]; first | omega | (simp only [List.length_map]; omega) | (simp <;> omega)) (by first | omega | (simp only [List.length_map]; omega) | (simp <;> omega)) rfl Taken.no) rfl rfl rfl rfl rfl (S' := (107, _) :: (104, .dead) :: _) rfl ?_
  refine WH.val (O.fld_ref (o' := 2) rfl Try.underlying33 rfl (m := 0) (by kernel_rfl) rfl rfl Taken.no) rfl rfl ?_
  refine WH.effS (O.st_ref (m := 1) rfl rfl rfl (js := [_]) rfl rfl (by kernel_rfl) (by simp) (Nat.le_of_ble_eq_true rfl) rfl (is' := [_, _, _]) rfl Taken.no) rfl rfl rfl (S' := (103, _) :: _) rfl ?_
  refine WH.nil ?_
  refine E.inn ?_
  refine E.to ?_
  refine W.region ?_
  refine SL.val (O.move rfl rfl Taken.no) ?_
  refine SL.val (O.det (fun _ => by first | exact G.R.add64 rfl rfl (by omega) | exact G.R.add rfl rfl) rfl Taken.no) ?_
  refine SL.val (O.assign rfl rfl Taken.no) ?_
  refine SL.nil ?_
  refine E.again ((k + 1)) (rn [(104, 107)]) ?_ ?_ rfl (fixL_spec rfl) ?_ ?_
  · exact (SubF.cons rfl (SubF.cons rfl (SubF.cons rfl (SubF.cons rfl SubF.nil))))
  · exact (SubS.val rfl (by (try dsimp only); exact sb_data (by rw [snocT (by omega)])) (SubS.cons rfl (SubS.cons rfl (SubS.cons rfl SubS.nil))))
  ·try dsimp only
   omega
  · (try dsimp only); omega
 ·skip
  refine W.exit ?_
  refine E.th ?_
  refine E.th ?_
  refine E.hit ?_
  refine E.to ?_
  refine W.seq ?_
  refine W.region ?_
  refine SL.val (O.ldN (m := 3) (PtI.ref rfl rfl) (js := [_, _, _]) rfl (Nat.le_of_ble_eq_true rfl) Try.underlying33 rfl (by kernel_rfl) rfl Taken.no) ?_
  refine SL.effS (O.st_ref (m := 3) rfl rfl rfl (js := [_, _, _]) rfl rfl (by kernel_rfl) (by simp) (Nat.le_of_ble_eq_true rfl) rfl (is' := [_, _, _]) rfl Taken.no) (S' := (102, _) :: _) rfl ?_
  refine SL.nil ?_
  refine E.to ?_
  refine W.ret ?_
  refine E.freezeC 102 2 104 (is' := [_, _, _]) rfl rfl rfl rfl ?_
  refine E.fin (rs := [_]) (rn []) (.inl rfl) rfl (.cons (ResOne.cellN (m := 3) (PtI.ref rfl rfl) (js := [_, _, _]) rfl (Nat.le_of_ble_eq_true rfl) Try.underlying33 rfl (by kernel_rfl)) .nil) ?_ ?_ rfl (fixL_spec rfl)
  ·skip
   obtain rfl : k = t.kids.length := by omega
   rw [List.take_length]; rfl
  · exact SubS.nil

theorem theirs_h (t : Tr) : t.sm → Con Try.prog 15 [vA [uT t.lab, uB t.wd, .sl 3 (t.kids.map eTr)]] [] (.agg [vT t.lab, vB t.wd, vL 3 (t.kids.map eTr)]) [] := Tr.ind (p := fun t => t.sm → Con Try.prog 15 [vA [uT t.lab, uB t.wd, .sl 3 (t.kids.map eTr)]] [] (.agg [vT t.lab, vB t.wd, vL 3 (t.kids.map eTr)]) []) (fun t ih hs => theirs_h_step hs fun x hx => ih x hx (((Tr.sm_iff t).1 hs).2 x hx)) t

set_option maxRecDepth 8000 in
/-- bookplate/bookplatelaw41.own. -/
theorem own_h_step {t : Tr} (hs : t.sm) (ih : ∀ x ∈ t.kids, Con Try.prog 20 [vA [uT x.lab, uB x.wd, .sl 3 (x.kids.map eTr)]] [] (.agg [vT x.lab, vB x.wd, vL 3 (x.kids.map eTr)]) []) :
    Con Try.prog 20 [vA [uT t.lab, uB t.wd, .sl 3 (t.kids.map eTr)]] [] (.agg [vT t.lab, vB t.wd, vL 3 (t.kids.map eTr)]) [] := by
 have hs1 := ((Tr.sm_iff t).1 hs).1
 obtain ⟨i27, hi27, hz27, hs27, hb27⟩ := hinf27
 obtain ⟨i33, hi33, hz33, hs33, hb33⟩ := hinf33
 refine Con.enterL (n := 29) Try.func20 rfl rfl rfl (fun τ w ok vs hin => ?_)
 have hl0_2 := hin.lenA (i := 0) (j := 2) rfl rfl
 try rw [List.length_map] at hl0_2
 clear hin
 refine W.seq ?_
 refine W.region ?_
 refine SL.memS (O.box (is := [_, _, _]) 101 rfl rfl (by simp) rfl rfl Taken.no) rfl rfl (S' := (101, _) :: _) rfl ?_
 refine SL.memS (O.alloc (z := .agg #[.string (Go.G.bs []), .bool false, .slice none 0 0]) (is := [.u (.sc (.string (Go.G.bs []))), .u (.sc (.bool false)), .u (.sc (.slice none 0 0))]) 102 (by kernel_rfl) rfl rfl rfl Taken.no) rfl rfl (S' := (102, _) :: _) rfl ?_
 refine SL.nil ?_
 refine E.to ?_
 refine W.seq ?_
 refine W.region ?_
 refine SL.val (O.fld_ref (o' := 0) rfl Try.underlying33 rfl (m := 0) (by kernel_rfl) rfl rfl Taken.no) ?_
 refine SL.val (O.ld1 (PtI.ref rfl rfl) rfl Try.underlying9 rfl rfl Taken.no) ?_
 refine SL.val (O.fld_ref (o' := 1) rfl Try.underlying33 rfl (m := 0) (by kernel_rfl) rfl rfl Taken.no) ?_
 refine SL.val (O.ld1 (PtI.ref rfl rfl) rfl Try.underlying4 rfl rfl Taken.no) ?_
 refine SL.val (O.build (res := [_, _, _]) (z := .agg #[.string (Go.G.bs []), .bool false, .slice none 0 0]) (places := [(0, 1), (1, 1), (2, 1)]) rfl rfl Try.underlying27 (by kernel_rfl) (fun _ => by kernel_rfl) rfl rfl Taken.no) ?_
 refine SL.memS (O.alloc (z := .agg #[.string (Go.G.bs []), .bool false, .slice none 0 0]) (is := [.u (.sc (.string (Go.G.bs []))), .u (.sc (.bool false)), .u (.sc (.slice none 0 0))]) 103 (by kernel_rfl) rfl rfl rfl Taken.no) rfl rfl (S' := (103, _) :: _) rfl ?_
 refine SL.effS (O.st_ref (m := 3) rfl rfl rfl (js := [_, _, _]) rfl rfl (by kernel_rfl) (by simp) (Nat.le_of_ble_eq_true rfl) rfl (is' := [_, _, _]) rfl Taken.no) (S' := (103, _) :: _) rfl ?_
 refine SL.nil ?_
 refine E.to ?_
 refine W.seq ?_
 refine W.seq ?_
 refine W.region ?_
 refine SL.val (O.assign rfl rfl Taken.no) ?_
 refine SL.nil ?_
 refine E.to ?_
 refine W.block ?_
 refine W.adoptC 103 2 105 27 3 (is' := [_, _, _]) (by decide) rfl rfl rfl rfl rfl ?_
 refine W.loopx1 (fun (k : Nat) => [(4, vI (k : Int))]) (fun (k : Nat) => [(104, .data 27 3 ((t.kids.take k).map eTr)), (103, .cells 27 [.u (uT t.lab), .u (uB t.wd), .own 104])]) (fun (k : Nat) => k ≤ t.kids.length) (fun (k : Nat) => t.kids.length - k) (0) (rn [(104, 105)]) (.cons (t := 1) rfl (.cons (t := 2) rfl (.cons (t := 3) rfl .nil))) (.cons (t := 101) rfl (.cons (t := 102) rfl .nil)) rfl ?_ ?_ rfl rfl ?_ ?_
 · exact (SubF.cons rfl SubF.nil)
 · exact (SubS.cons rfl (SubS.cons rfl SubS.nil))
 ·skip
  omega
 intro k hinv
 have hk := hinv
 have htl : (t.kids.take k).length = k := by rw [List.length_take]; omega
 refine W.seq ?_
 refine W.seq ?_
 refine W.region ?_
 refine SL.val (O.move rfl rfl Taken.no) ?_
 refine SL.val (O.fld_ref (o' := 2) rfl Try.underlying33 rfl (m := 0) (by kernel_rfl) rfl rfl Taken.no) ?_
 refine SL.val (O.ld1 (PtI.ref rfl rfl) rfl Try.underlying31 rfl rfl Taken.no) ?_
 refine SL.val (O.lenE (SlOf.fz rfl (by decide)) (by first | exact List.length_map _ | rfl) Try.underlying31 rfl Taken.no) ?_
 refine SL.val (O.det (fun _ => G.R.lss rfl rfl) rfl Taken.no) ?_
 refine SL.nil ?_
 refine E.to ?_
 first | refine W.cond_d rfl (fun hc1 => ?_) (fun hc1 => ?_) | refine W.cond_nd rfl (fun hc1 => ?_) (fun hc1 => ?_) | refine W.cond rfl (fun hc1 => ?_) (fun hc1 => ?_)
 ·skip
  refine W.skip ?_
  refine E.to ?_
  refine W.seq ?_
  refine W.block ?_
  refine W.draw [⟨[103], [], []⟩, ⟨[103, 104], [], []⟩, ⟨[101], [], []⟩, ⟨[101], [], []⟩, ⟨[], [], []⟩, ⟨[], [], []⟩, ⟨[], [], []⟩, ⟨[], [], []⟩, ⟨[106], [106], [106]⟩, ⟨[104, 106, 107], [104, 107], [107]⟩, ⟨[103], [], []⟩, ⟨[103, 107], [103], []⟩] rfl (by kernel_rfl) (by kernel_rfl) rfl rfl ?_
  refine WH.val (O.fld_ref (o' := 2) rfl Try.underlying27 rfl (m := 0) (by kernel_rfl) rfl rfl Taken.no) rfl rfl ?_
  refine WH.val (O.ld1 (PtI.ref rfl rfl) rfl Try.underlying25 rfl rfl Taken.no) rfl rfl ?_
  refine WH.val (O.fld_ref (o' := 2) rfl Try.underlying33 rfl (m := 0) (by kernel_rfl) rfl rfl Taken.no) rfl rfl ?_
  refine WH.val (O.ld1 (PtI.ref rfl rfl) rfl Try.underlying31 rfl rfl Taken.no) rfl rfl ?_
  refine WH.val (O.move rfl rfl Taken.no) rfl rfl ?_
  refine WH.val (O.idx_fz rfl rfl (rfl) (row_tr (by omega)) Try.underlying31 hi33 hs33 rfl Taken.no) rfl rfl ?_
  refine WH.val (O.ldU (m := 3) (PtU.fz rfl) rfl Try.underlying33 rfl (by kernel_rfl) rfl Taken.no) rfl rfl ?_
  refine WH.memS (O.call (rn []) [] rfl rfl rfl (ih t.kids[k]! (at_mem (by omega))) (.cons (ArgOk.same rfl) .nil) SubS.nil rfl rfl rfl rfl rfl (.inl rfl) hcallOk20 (r' := .agg [.u _, .u _, .u _]) rfl rfl Taken.no) rfl rfl rfl rfl rfl (S' := _) rfl ?_
  refine WH.memS (O.buildSlice 106 rfl rfl Try.underlying25 hi27 hz27 hs27 (by decide) rfl (by decide) rfl rfl rfl Taken.no) rfl rfl rfl rfl rfl (S' := (106, _) :: _) rfl ?_
  refine WH.memS (O.app (k' := 107) rfl rfl (SlOf.own rfl rfl) Try.underlying25 hi27 hz27 hs27 rfl rfl (by exact map_snoc (x := t.kids[k]!) (eTr_eq _).symm) (by rw [hb27]; first | omega | (simp only [List.length_map]; omega) | (simp <;> omega)) (by first | omega | (simp only [List.length_map]; omega) | (simp <;> omega)) rfl Taken.no) rfl rfl rfl rfl rfl (S' := (107, _) :: (104, .dead) :: _) rfl ?_
  refine WH.val (O.fld_ref (o' := 2) rfl Try.underlying27 rfl (m := 0) (by kernel_rfl) rfl rfl Taken.no) rfl rfl ?_
  refine WH.effS (O.st_ref (m := 1) rfl rfl rfl (js := [_]) rfl rfl (by kernel_rfl) (by simp) (Nat.le_of_ble_eq_true rfl) rfl (is' := [_, _, _]) rfl Taken.no) rfl rfl rfl (S' := (103, _) :: _) rfl ?_
  refine WH.nil ?_
  refine E.inn ?_
  refine E.to ?_
  refine W.region ?_
  refine SL.val (O.move rfl rfl Taken.no) ?_
  refine SL.val (O.det (fun _ => by first | exact G.R.add64 rfl rfl (by omega) | exact G.R.add rfl rfl) rfl Taken.no) ?_
  refine SL.val (O.assign rfl rfl Taken.no) ?_
  refine SL.nil ?_
  refine E.again ((k + 1)) (rn [(104, 107)]) ?_ ?_ rfl (fixL_spec rfl) ?_ ?_
  · exact (SubF.cons rfl (SubF.cons rfl (SubF.cons rfl (SubF.cons rfl SubF.nil))))
  · exact (SubS.val rfl (by (try dsimp only); exact sb_data (by rw [snocT (by omega)])) (SubS.cons rfl (SubS.cons rfl (SubS.cons rfl SubS.nil))))
  ·try dsimp only
   omega
  · (try dsimp only); omega
 ·skip
  refine W.exit ?_
  refine E.th ?_
  refine E.th ?_
  refine E.hit ?_
  refine E.to ?_
  refine W.seq ?_
  refine W.region ?_
  refine SL.val (O.ldN (m := 3) (PtI.ref rfl rfl) (js := [_, _, _]) rfl (Nat.le_of_ble_eq_true rfl) Try.underlying27 rfl (by kernel_rfl) rfl Taken.no) ?_
  refine SL.effS (O.st_ref (m := 3) rfl rfl rfl (js := [_, _, _]) rfl rfl (by kernel_rfl) (by simp) (Nat.le_of_ble_eq_true rfl) rfl (is' := [_, _, _]) rfl Taken.no) (S' := (102, _) :: _) rfl ?_
  refine SL.nil ?_
  refine E.to ?_
  refine W.ret ?_
  refine E.freezeC 102 2 104 (is' := [_, _, _]) rfl rfl rfl rfl ?_
  refine E.fin (rs := [_]) (rn []) (.inl rfl) rfl (.cons (ResOne.cellN (m := 3) (PtI.ref rfl rfl) (js := [_, _, _]) rfl (Nat.le_of_ble_eq_true rfl) Try.underlying27 rfl (by kernel_rfl)) .nil) ?_ ?_ rfl (fixL_spec rfl)
  ·skip
   obtain rfl : k = t.kids.length := by omega
   rw [List.take_length]; rfl
  · exact SubS.nil

theorem own_h (t : Tr) : t.sm → Con Try.prog 20 [vA [uT t.lab, uB t.wd, .sl 3 (t.kids.map eTr)]] [] (.agg [vT t.lab, vB t.wd, vL 3 (t.kids.map eTr)]) [] := Tr.ind (p := fun t => t.sm → Con Try.prog 20 [vA [uT t.lab, uB t.wd, .sl 3 (t.kids.map eTr)]] [] (.agg [vT t.lab, vB t.wd, vL 3 (t.kids.map eTr)]) []) (fun t ih hs => own_h_step hs fun x hx => ih x hx (((Tr.sm_iff t).1 hs).2 x hx)) t

set_option maxRecDepth 8000 in
/-- bookplate/prefix.Valid$1. -/
theorem valid1_step {t : Tr} {n : Int} (ih : ∀ x ∈ t.kids, ∀ m : Int, Con Try.prog 45 [vA [uT x.lab, uB x.wd, .sl 3 (x.kids.map eTr)], vI m, .ref 0 0] [(0, .cells 69 [.clo (.func 45) [] [.ref 0 0]])] (vB (decide (x.okT m))) [(0, .cells 69 [.clo (.func 45) [] [.ref 0 0]])]) :
    Con Try.prog 45 [vA [uT t.lab, uB t.wd, .sl 3 (t.kids.map eTr)], vI n, .ref 0 0] [(0, .cells 69 [.clo (.func 45) [] [.ref 0 0]])] (vB (decide (t.okT n))) [(0, .cells 69 [.clo (.func 45) [] [.ref 0 0]])] := by
 obtain ⟨i27, hi27, hz27, hs27, hb27⟩ := hinf27
 refine Con.enterL (n := 66) Try.func45 rfl rfl rfl (fun τ w ok vs hin => ?_)
 have hl0_2 := hin.lenA (i := 0) (j := 2) rfl rfl
 try rw [List.length_map] at hl0_2
 clear hin
 refine W.seq ?_
 refine W.region ?_
 refine SL.memS (O.box (is := [_, _, _]) 101 rfl rfl (by simp) rfl rfl Taken.no) rfl rfl (S' := (101, _) :: _) rfl ?_
 refine SL.val (O.assign rfl rfl Taken.no) ?_
 refine SL.nil ?_
 refine E.to ?_
 refine W.seq ?_
 refine W.seq ?_
 refine W.region ?_
 refine SL.val (O.fld_ref (o' := 2) rfl Try.underlying27 rfl (m := 0) (by kernel_rfl) rfl rfl Taken.no) ?_
 refine SL.val (O.ld1 (PtI.ref rfl rfl) rfl Try.underlying25 rfl rfl Taken.no) ?_
 refine SL.val (O.lenE (SlOf.fz rfl (by decide)) (by first | exact List.length_map _ | rfl) Try.underlying25 rfl Taken.no) ?_
 refine SL.val (O.move rfl rfl Taken.no) ?_
 refine SL.nil ?_
 refine E.to ?_
 refine W.block ?_
 refine W.loopx1 (fun (k : Nat) => [(11, vI (k : Int))]) (fun (k : Nat) => []) (fun (k : Nat) => k ≤ t.kids.length ∧ ∀ j, j < k → okAt t.kids n j) (fun (k : Nat) => t.kids.length - k) (0) (rn []) (.cons (t := 1) rfl (.cons (t := 2) rfl (.cons (t := 3) rfl (.cons (t := 9) rfl (.cons (t := 10) rfl .nil))))) (.cons (t := 0) rfl (.cons (t := 101) rfl .nil)) rfl ?_ ?_ rfl rfl ?_ ?_
 · exact (SubF.cons rfl SubF.nil)
 · exact SubS.nil
 ·skip
  exact ⟨by omega, fun j h => by omega⟩
 intro k hinv
 obtain ⟨hk, hp⟩ := hinv
 refine W.seq ?_
 refine W.region ?_
 refine SL.val (O.det (fun _ => G.R.lss rfl rfl) rfl Taken.no) ?_
 refine SL.nil ?_
 refine E.to ?_
 refine W.seq ?_
 first | refine W.cond_d rfl (fun hc1 => ?_) (fun hc1 => ?_) | refine W.cond_nd rfl (fun hc1 => ?_) (fun hc1 => ?_) | refine W.cond rfl (fun hc1 => ?_) (fun hc1 => ?_)
 ·skip
  refine W.skip ?_
  refine E.to ?_
  refine W.seq ?_
  refine W.block ?_
  refine W.seq ?_
  refine W.region ?_
  refine SL.val (O.move rfl rfl Taken.no) ?_
  refine SL.val (O.idx_fz rfl rfl (rfl) (row_tr (by omega)) Try.underlying25 hi27 hs27 rfl Taken.no) ?_
  refine SL.val (O.ldU (m := 3) (PtU.fz rfl) rfl Try.underlying27 rfl (by kernel_rfl) rfl Taken.no) ?_
  refine SL.memS (O.alloc (z := .agg #[.string (Go.G.bs []), .bool false, .slice none 0 0]) (is := [.u (.sc (.string (Go.G.bs []))), .u (.sc (.bool false)), .u (.sc (.slice none 0 0))]) 102 (by kernel_rfl) rfl rfl rfl Taken.no) rfl rfl (S' := (102, _) :: _) rfl ?_
  refine SL.val (O.assign rfl rfl Taken.no) ?_
  refine SL.effS (O.st_ref (m := 3) rfl rfl rfl (js := [_, _, _]) rfl rfl (by kernel_rfl) (by simp) (Nat.le_of_ble_eq_true rfl) rfl (is' := [_, _, _]) rfl Taken.no) (S' := (102, _) :: _) rfl ?_
  refine SL.nil ?_
  refine E.to ?_
  refine W.seq ?_
  refine W.draw [⟨[102], [], []⟩, ⟨[102], [], []⟩, ⟨[], [], []⟩, ⟨[], [], []⟩, ⟨[], [], []⟩, ⟨[102], [], []⟩, ⟨[102], [], []⟩, ⟨[], [], []⟩, ⟨[], [], []⟩, ⟨[], [], []⟩, ⟨[], [], []⟩, ⟨[], [], []⟩, ⟨[102], [], []⟩, ⟨[102], [], []⟩, ⟨[], [], []⟩, ⟨[], [], []⟩, ⟨[102], [], []⟩, ⟨[102], [], []⟩, ⟨[], [], []⟩, ⟨[], [], []⟩, ⟨[], [], []⟩, ⟨[], [], []⟩, ⟨[], [], []⟩, ⟨[], [], []⟩, ⟨[], [], []⟩, ⟨[], [], []⟩, ⟨[101], [], []⟩, ⟨[101], [], []⟩, ⟨[], [], []⟩, ⟨[], [], []⟩, ⟨[], [], []⟩, ⟨[], [], []⟩, ⟨[], [], []⟩, ⟨[102], [], []⟩, ⟨[], [], []⟩, ⟨[], [], []⟩, ⟨[], [], []⟩, ⟨[], [], []⟩, ⟨[], [], []⟩, ⟨[0], [], []⟩, ⟨[102], [], []⟩, ⟨[], [], []⟩, ⟨[102], [], []⟩, ⟨[102], [], []⟩, ⟨[], [], []⟩, ⟨[], [], []⟩, ⟨[0], [0], []⟩, ⟨[], [], []⟩, ⟨[], [], []⟩] rfl (by kernel_rfl) (by kernel_rfl) rfl rfl ?_
  refine WH.val (O.fld_ref (o' := 0) rfl Try.underlying27 rfl (m := 0) (by kernel_rfl) rfl rfl Taken.no) rfl rfl ?_
  refine WH.val (O.ld1 (PtI.ref rfl rfl) rfl Try.underlying9 rfl rfl Taken.no) rfl rfl ?_
  refine WH.val (O.det (fun _ => G.R.streqL (b := []) rfl rfl) rfl Taken.no) rfl rfl ?_
  refine WH.val (O.move rfl rfl Taken.no) rfl rfl ?_
  refine WH.case (j := 3) (g := 19) (want := false) rfl rfl (fun hg2 => ?_) (fun hg2 => ?_)
  ·skip
   first | have hg2p := G.gA3 hg2 | have hg2p := G.gA4 hg2 | have hg2p := hg2
   refine WH.val (O.move rfl rfl (Taken.yes rfl rfl hg2)) rfl rfl ?_
   refine WH.val (O.fld_ref (o' := 0) rfl Try.underlying27 rfl (m := 0) (by kernel_rfl) rfl rfl (Taken.yes rfl rfl hg2)) rfl rfl ?_
   refine WH.val (O.ld1 (PtI.ref rfl rfl) rfl Try.underlying9 rfl rfl (Taken.yes rfl rfl hg2)) rfl rfl ?_
   refine WH.val (O.det (fun _ => G.R.lenL rfl Try.underlying9) rfl (Taken.yes rfl rfl hg2)) rfl rfl ?_
   refine WH.val (O.det (fun _ => by first | exact G.R.add64 rfl rfl (by omega) | exact G.R.add rfl rfl) rfl (Taken.yes rfl rfl hg2)) rfl rfl ?_
   refine WH.val (O.det (fun _ => G.R.gtr rfl rfl) rfl (Taken.yes rfl rfl hg2)) rfl rfl ?_
   refine WH.val (O.pick_f rfl hg2 rfl rfl Taken.no) rfl rfl ?_
   refine WH.val (O.move rfl rfl Taken.no) rfl rfl ?_
   refine WH.case (j := 11) (g := 27) (want := false) rfl rfl (fun hg3 => ?_) (fun hg3 => ?_)
   ·skip
    first | have hg3p := G.gA3 hg3 | have hg3p := G.gA4 hg3 | have hg3p := hg3
    refine WH.val (O.fld_ref (o' := 1) rfl Try.underlying27 rfl (m := 0) (by kernel_rfl) rfl rfl (Taken.yes rfl rfl hg3)) rfl rfl ?_
    refine WH.val (O.ld1 (PtI.ref rfl rfl) rfl Try.underlying4 rfl rfl (Taken.yes rfl rfl hg3)) rfl rfl ?_
    refine WH.val (O.det (fun _ => G.R.not rfl) rfl (Taken.yes rfl rfl hg3)) rfl rfl ?_
    refine WH.val (O.move rfl rfl (Taken.yes rfl rfl hg3)) rfl rfl ?_
    refine WH.case (j := 15) (g := 31) (want := true) rfl rfl (fun hg4 => ?_) (fun hg4 => ?_)
    ·skip
     first | have hg4p := G.gA1 hg4 | have hg4p := G.gA2 hg4 | have hg4p := hg4
     refine WH.val (O.fld_ref (o' := 2) rfl Try.underlying27 rfl (m := 0) (by kernel_rfl) rfl rfl (Taken.yes rfl rfl hg4)) rfl rfl ?_
     refine WH.val (O.ld1 (PtI.ref rfl rfl) rfl Try.underlying25 rfl rfl (Taken.yes rfl rfl hg4)) rfl rfl ?_
     refine WH.val (O.lenE (SlOf.fz rfl (by decide)) (by first | exact List.length_map _ | rfl) Try.underlying25 rfl (Taken.yes rfl rfl hg4)) rfl rfl ?_
     refine WH.val (O.det (fun _ => G.R.lss rfl rfl) rfl (Taken.yes rfl rfl hg4)) rfl rfl ?_
     refine WH.val (O.pick_t rfl hg4 rfl rfl (Taken.yes rfl rfl hg3)) rfl rfl ?_
     refine WH.val (O.pick_f rfl hg3 rfl rfl Taken.no) rfl rfl ?_
     refine WH.val (O.move rfl rfl Taken.no) rfl rfl ?_
     refine WH.case (j := 22) (g := 38) (want := false) rfl rfl (fun hg5 => ?_) (fun hg5 => ?_)
     ·skip
      first | have hg5p := G.gA3 hg5 | have hg5p := G.gA4 hg5 | have hg5p := hg5
      refine WH.val (O.move rfl rfl (Taken.yes rfl rfl hg5)) rfl rfl ?_
      refine WH.val (O.det (fun _ => G.R.gtr rfl rfl) rfl (Taken.yes rfl rfl hg5)) rfl rfl ?_
      refine WH.val (O.move rfl rfl (Taken.yes rfl rfl hg5)) rfl rfl ?_
      refine WH.case (j := 25) (g := 41) (want := true) rfl rfl (fun hg6 => ?_) (fun hg6 => ?_)
      ·skip
       first | have hg6p := G.gA1 hg6 | have hg6p := G.gA2 hg6 | have hg6p := hg6
       refine WH.val (O.fld_ref (o' := 2) rfl Try.underlying27 rfl (m := 0) (by kernel_rfl) rfl rfl (Taken.yes rfl rfl hg6)) rfl rfl ?_
       refine WH.val (O.ld1 (PtI.ref rfl rfl) rfl Try.underlying25 rfl rfl (Taken.yes rfl rfl hg6)) rfl rfl ?_
       refine WH.val (O.move rfl rfl (Taken.yes rfl rfl hg6)) rfl rfl ?_
       refine WH.val (O.det (fun _ => by first | exact G.R.sub64 rfl rfl (by omega) | exact G.R.sub rfl rfl) rfl (Taken.yes rfl rfl hg6)) rfl rfl ?_
       refine WH.val (O.idx_fz (i := (k - 1)) rfl rfl (by omega) (row_tr (by omega)) Try.underlying25 hi27 hs27 rfl (Taken.yes rfl rfl hg6)) rfl rfl ?_
       refine WH.val (O.ldU (m := 3) (PtU.fz rfl) rfl Try.underlying27 rfl (by kernel_rfl) rfl (Taken.yes rfl rfl hg6)) rfl rfl ?_
       refine WH.val (O.callp rfl rfl rfl (first_h (t := t.kids[k - 1]!)) (.cons (ArgOk.same rfl) .nil) hcallOk46 rfl (Taken.yes rfl rfl hg6)) rfl rfl ?_
       refine WH.val (O.ldN (m := 3) (PtI.ref rfl rfl) (js := [_, _, _]) rfl (Nat.le_of_ble_eq_true rfl) Try.underlying27 rfl (by kernel_rfl) rfl (Taken.yes rfl rfl hg6)) rfl rfl ?_
       refine WH.val (O.callp rfl rfl rfl (first_h (t := t.kids[k]!)) (.cons (ArgOk.aggU (.cons (ArgOk.same rfl) (.cons (ArgOk.same rfl) (.cons (ArgOk.same rfl) .nil)))) .nil) hcallOk46 rfl (Taken.yes rfl rfl hg6)) rfl rfl ?_
       refine WH.val (O.det (fun _ => G.R.geq rfl rfl) rfl (Taken.yes rfl rfl hg6)) rfl rfl ?_
       refine WH.val (O.pick_t rfl hg6 rfl rfl (Taken.yes rfl rfl hg5)) rfl rfl ?_
       refine WH.val (O.pick_f rfl hg5 rfl rfl Taken.no) rfl rfl ?_
       refine WH.val (O.move rfl rfl Taken.no) rfl rfl ?_
       refine WH.case (j := 38) (g := 54) (want := false) rfl rfl (fun hg7 => ?_) (fun hg7 => ?_)
       ·skip
        first | have hg7p := G.gA3 hg7 | have hg7p := G.gA4 hg7 | have hg7p := hg7
        refine WH.val (O.ld1 (PtI.ref rfl rfl) rfl Try.underlying69 rfl rfl (Taken.yes rfl rfl hg7)) rfl rfl ?_
        refine WH.val (O.ldN (m := 3) (PtI.ref rfl rfl) (js := [_, _, _]) rfl (Nat.le_of_ble_eq_true rfl) Try.underlying27 rfl (by kernel_rfl) rfl (Taken.yes rfl rfl hg7)) rfl rfl ?_
        refine WH.val (O.move rfl rfl (Taken.yes rfl rfl hg7)) rfl rfl ?_
        refine WH.val (O.fld_ref (o' := 0) rfl Try.underlying27 rfl (m := 0) (by kernel_rfl) rfl rfl (Taken.yes rfl rfl hg7)) rfl rfl ?_
        refine WH.val (O.ld1 (PtI.ref rfl rfl) rfl Try.underlying9 rfl rfl (Taken.yes rfl rfl hg7)) rfl rfl ?_
        refine WH.val (O.det (fun _ => G.R.lenL rfl Try.underlying9) rfl (Taken.yes rfl rfl hg7)) rfl rfl ?_
        refine WH.val (O.det (fun _ => by first | exact G.R.add64 rfl rfl (by omega) | exact G.R.add rfl rfl) rfl (Taken.yes rfl rfl hg7)) rfl rfl ?_
        refine WH.memS (O.call (rn [(0, 0)]) [] rfl rfl rfl (ih t.kids[k]! (at_mem (by omega)) (plus n t.kids[k]!.lab)) (.cons (ArgOk.aggU (.cons (ArgOk.same rfl) (.cons (ArgOk.same rfl) (.cons (ArgOk.same rfl) .nil)))) (.cons (ArgOk.same rfl) (.cons (ArgOk.same rfl) .nil))) (SubS.cons rfl SubS.nil) rfl rfl rfl rfl rfl (.inl rfl) hcallOk45 (r' := .u _) rfl rfl (Taken.yes rfl rfl hg7)) rfl rfl rfl rfl rfl (S' := (0, .cells _ [_]) :: _) rfl ?_
        refine WH.val (O.det (fun _ => G.R.not rfl) rfl (Taken.yes rfl rfl hg7)) rfl rfl ?_
        refine WH.val (O.pick_f rfl hg7 rfl rfl Taken.no) rfl rfl ?_
        refine WH.nil ?_
        refine E.to ?_
        refine W.pick (.cons (t := 1) rfl (.cons (t := 2) rfl (.cons (t := 3) rfl (.cons (t := 9) rfl (.cons (t := 10) rfl (.cons (t := 11) rfl (.cons (t := 64) rfl .nil))))))) (.cons (t := 0) rfl (.cons (t := 101) rfl (.cons (t := 102) rfl .nil))) ?_
        first | refine W.cond_d rfl (fun hc8 => ?_) (fun hc8 => ?_) | refine W.cond_nd rfl (fun hc8 => ?_) (fun hc8 => ?_) | refine W.cond rfl (fun hc8 => ?_) (fun hc8 => ?_)
        ·skip
         refine W.seq ?_
         refine W.region ?_
         refine SL.val (O.assign rfl rfl Taken.no) ?_
         refine SL.nil ?_
         refine E.to ?_
         refine W.ret ?_
         refine E.inr ?_
         refine E.thr ?_
         refine E.thr ?_
         refine E.inr ?_
         refine E.thr ?_
         refine E.fin (rs := [_]) (rn []) (.inl rfl) rfl (.cons (ResOne.tmp rfl) .nil) ?_ ?_ rfl (fixL_spec rfl)
         ·skip
          exact iv_bool (dec_f fun q => by have h := (Tr.okT_iff t n).1 q k (by omega); unfold okAt at h; obtain ⟨h1, h2, h3, h4, h5⟩ := h; unfold plus at h2; first | exact h1 (by assumption) | omega | (have := h4 (nb_t (by assumption)); omega) | (have := h3 (by omega); omega) | exact absurd h5 (by simp_all))
         · exact (SubS.cons rfl SubS.nil)
        ·skip
         refine W.skip ?_
         refine E.inn ?_
         refine E.to ?_
         refine W.region ?_
         refine SL.val (O.det (fun _ => by first | exact G.R.add64 rfl rfl (by omega) | exact G.R.add rfl rfl) rfl Taken.no) ?_
         refine SL.val (O.move rfl rfl Taken.no) ?_
         refine SL.nil ?_
         refine E.again ((k + 1)) (rn []) ?_ ?_ rfl (fixL_spec rfl) ?_ ?_
         · exact (SubF.cons rfl (SubF.cons rfl (SubF.cons rfl (SubF.cons rfl (SubF.cons rfl (SubF.cons rfl SubF.nil))))))
         · exact (SubS.cons rfl (SubS.cons rfl SubS.nil))
         ·try dsimp only
          have hok : okAt t.kids n k := ⟨by first | assumption | simp_all, by unfold plus; omega, fun h0 => by first | omega | simp_all, fun hw => by first | omega | exact absurd ((nb_f (by assumption)).symm.trans hw) (by decide) | exact absurd ((nb_m (by assumption)).symm.trans hw) (by decide), by first | assumption | simp_all⟩
          exact ⟨by omega, okAt_step hp hok⟩
         · (try dsimp only); omega
       ·skip
        first | have hg7p := G.gA7 hg7 | have hg7p := G.gA8 hg7 | have hg7p := hg7
        refine WH.skip (OpOk.not rfl rfl rfl hg7) ?_
        refine WH.skip (OpOk.not rfl rfl rfl hg7) ?_
        refine WH.skip (OpOk.not rfl rfl rfl hg7) ?_
        refine WH.skip (OpOk.not rfl rfl rfl hg7) ?_
        refine WH.skip (OpOk.not rfl rfl rfl hg7) ?_
        refine WH.skip (OpOk.not rfl rfl rfl hg7) ?_
        refine WH.skip (OpOk.not rfl rfl rfl hg7) ?_
        refine WH.skip (OpOk.not rfl rfl rfl hg7) ?_
        refine WH.skip (OpOk.not rfl rfl rfl hg7) ?_
        refine WH.val (O.pick_t rfl (G.ne_f hg7) rfl rfl Taken.no) rfl rfl ?_
        refine WH.nil ?_
        refine E.to ?_
        refine W.pick (.cons (t := 1) rfl (.cons (t := 2) rfl (.cons (t := 3) rfl (.cons (t := 9) rfl (.cons (t := 10) rfl (.cons (t := 11) rfl (.cons (t := 64) rfl .nil))))))) (.cons (t := 0) rfl (.cons (t := 101) rfl (.cons (t := 102) rfl .nil))) ?_
        refine W.cond_t rfl ?_
        refine W.seq ?_
        refine W.region ?_
        refine SL.val (O.assign rfl rfl Taken.no) ?_
        refine SL.nil ?_
        refine E.to ?_
        refine W.ret ?_
        refine E.inr ?_
        refine E.thr ?_
        refine E.thr ?_
        refine E.inr ?_
        refine E.thr ?_
        refine E.fin (rs := [_]) (rn []) (.inl rfl) rfl (.cons (ResOne.tmp rfl) .nil) ?_ ?_ rfl (fixL_spec rfl)
        ·skip
         exact iv_bool (dec_f fun q => by have h := (Tr.okT_iff t n).1 q k (by omega); unfold okAt at h; obtain ⟨h1, h2, h3, h4, h5⟩ := h; unfold plus at h2; first | exact h1 (by assumption) | omega | (have := h4 (nb_t (by assumption)); omega) | (have := h3 (by omega); omega) | exact absurd h5 (by simp_all))
        · exact (SubS.cons rfl SubS.nil)
      ·skip
       first | have hg6p := G.gA5 hg6 | have hg6p := G.gA6 hg6 | have hg6p := hg6
       refine WH.skip (OpOk.not rfl rfl rfl hg6) ?_
       refine WH.skip (OpOk.not rfl rfl rfl hg6) ?_
       refine WH.skip (OpOk.not rfl rfl rfl hg6) ?_
       refine WH.skip (OpOk.not rfl rfl rfl hg6) ?_
       refine WH.skip (OpOk.not rfl rfl rfl hg6) ?_
       refine WH.skip (OpOk.not rfl rfl rfl hg6) ?_
       refine WH.skip (OpOk.not rfl rfl rfl hg6) ?_
       refine WH.skip (OpOk.not rfl rfl rfl hg6) ?_
       refine WH.skip (OpOk.not rfl rfl rfl hg6) ?_
       refine WH.skip (OpOk.not rfl rfl rfl hg6) ?_
       refine WH.val (O.pick_f rfl (G.ne_t hg6) rfl rfl (Taken.yes rfl rfl hg5)) rfl rfl ?_
       refine WH.val (O.pick_f rfl hg5 rfl rfl Taken.no) rfl rfl ?_
       refine WH.val (O.move rfl rfl Taken.no) rfl rfl ?_
       have hg9 : false = false := by decide
       refine WH.val (O.ld1 (PtI.ref rfl rfl) rfl Try.underlying69 rfl rfl (Taken.yes rfl rfl hg9)) rfl rfl ?_
       refine WH.val (O.ldN (m := 3) (PtI.ref rfl rfl) (js := [_, _, _]) rfl (Nat.le_of_ble_eq_true rfl) Try.underlying27 rfl (by kernel_rfl) rfl (Taken.yes rfl rfl hg9)) rfl rfl ?_
       refine WH.val (O.move rfl rfl (Taken.yes rfl rfl hg9)) rfl rfl ?_
       refine WH.val (O.fld_ref (o' := 0) rfl Try.underlying27 rfl (m := 0) (by kernel_rfl) rfl rfl (Taken.yes rfl rfl hg9)) rfl rfl ?_
       refine WH.val (O.ld1 (PtI.ref rfl rfl) rfl Try.underlying9 rfl rfl (Taken.yes rfl rfl hg9)) rfl rfl ?_
       refine WH.val (O.det (fun _ => G.R.lenL rfl Try.underlying9) rfl (Taken.yes rfl rfl hg9)) rfl rfl ?_
       refine WH.val (O.det (fun _ => by first | exact G.R.add64 rfl rfl (by omega) | exact G.R.add rfl rfl) rfl (Taken.yes rfl rfl hg9)) rfl rfl ?_
       refine WH.memS (O.call (rn [(0, 0)]) [] rfl rfl rfl (ih t.kids[k]! (at_mem (by omega)) (plus n t.kids[k]!.lab)) (.cons (ArgOk.aggU (.cons (ArgOk.same rfl) (.cons (ArgOk.same rfl) (.cons (ArgOk.same rfl) .nil)))) (.cons (ArgOk.same rfl) (.cons (ArgOk.same rfl) .nil))) (SubS.cons rfl SubS.nil) rfl rfl rfl rfl rfl (.inl rfl) hcallOk45 (r' := .u _) rfl rfl (Taken.yes rfl rfl hg9)) rfl rfl rfl rfl rfl (S' := (0, .cells _ [_]) :: _) rfl ?_
       refine WH.val (O.det (fun _ => G.R.not rfl) rfl (Taken.yes rfl rfl hg9)) rfl rfl ?_
       refine WH.val (O.pick_f rfl rfl rfl rfl Taken.no) rfl rfl ?_
       refine WH.nil ?_
       refine E.to ?_
       refine W.pick (.cons (t := 1) rfl (.cons (t := 2) rfl (.cons (t := 3) rfl (.cons (t := 9) rfl (.cons (t := 10) rfl (.cons (t := 11) rfl (.cons (t := 64) rfl .nil))))))) (.cons (t := 0) rfl (.cons (t := 101) rfl (.cons (t := 102) rfl .nil))) ?_
       first | refine W.cond_d rfl (fun hc10 => ?_) (fun hc10 => ?_) | refine W.cond_nd rfl (fun hc10 => ?_) (fun hc10 => ?_) | refine W.cond rfl (fun hc10 => ?_) (fun hc10 => ?_)
       ·skip
        refine W.seq ?_
        refine W.region ?_
        refine SL.val (O.assign rfl rfl Taken.no) ?_
        refine SL.nil ?_
        refine E.to ?_
        refine W.ret ?_
        refine E.inr ?_
        refine E.thr ?_
        refine E.thr ?_
        refine E.inr ?_
        refine E.thr ?_
        refine E.fin (rs := [_]) (rn []) (.inl rfl) rfl (.cons (ResOne.tmp rfl) .nil) ?_ ?_ rfl (fixL_spec rfl)
        ·skip
         exact iv_bool (dec_f fun q => by have h := (Tr.okT_iff t n).1 q k (by omega); unfold okAt at h; obtain ⟨h1, h2, h3, h4, h5⟩ := h; unfold plus at h2; first | exact h1 (by assumption) | omega | (have := h4 (nb_t (by assumption)); omega) | (have := h3 (by omega); omega) | exact absurd h5 (by simp_all))
        · exact (SubS.cons rfl SubS.nil)
       ·skip
        refine W.skip ?_
        refine E.inn ?_
        refine E.to ?_
        refine W.region ?_
        refine SL.val (O.det (fun _ => by first | exact G.R.add64 rfl rfl (by omega) | exact G.R.add rfl rfl) rfl Taken.no) ?_
        refine SL.val (O.move rfl rfl Taken.no) ?_
        refine SL.nil ?_
        refine E.again ((k + 1)) (rn []) ?_ ?_ rfl (fixL_spec rfl) ?_ ?_
        · exact (SubF.cons rfl (SubF.cons rfl (SubF.cons rfl (SubF.cons rfl (SubF.cons rfl (SubF.cons rfl SubF.nil))))))
        · exact (SubS.cons rfl (SubS.cons rfl SubS.nil))
        ·try dsimp only
         have hok : okAt t.kids n k := ⟨by first | assumption | simp_all, by unfold plus; omega, fun h0 => by first | omega | simp_all, fun hw => by first | omega | exact absurd ((nb_f (by assumption)).symm.trans hw) (by decide) | exact absurd ((nb_m (by assumption)).symm.trans hw) (by decide), by first | assumption | simp_all⟩
         exact ⟨by omega, okAt_step hp hok⟩
        · (try dsimp only); omega
     ·skip
      first | have hg5p := G.gA7 hg5 | have hg5p := G.gA8 hg5 | have hg5p := hg5
      refine WH.skip (OpOk.not rfl rfl rfl hg5) ?_
      refine WH.skip (OpOk.not rfl rfl rfl hg5) ?_
      refine WH.skip (OpOk.not rfl rfl rfl hg5) ?_
      refine WH.skip (OpOk.not2 rfl rfl rfl) ?_
      refine WH.skip (OpOk.not2 rfl rfl rfl) ?_
      refine WH.skip (OpOk.not2 rfl rfl rfl) ?_
      refine WH.skip (OpOk.not2 rfl rfl rfl) ?_
      refine WH.skip (OpOk.not2 rfl rfl rfl) ?_
      refine WH.skip (OpOk.not2 rfl rfl rfl) ?_
      refine WH.skip (OpOk.not2 rfl rfl rfl) ?_
      refine WH.skip (OpOk.not2 rfl rfl rfl) ?_
      refine WH.skip (OpOk.not2 rfl rfl rfl) ?_
      refine WH.skip (OpOk.not2 rfl rfl rfl) ?_
      refine WH.skip (OpOk.not rfl rfl rfl hg5) ?_
      refine WH.val (O.pick_t rfl (G.ne_f hg5) rfl rfl Taken.no) rfl rfl ?_
      refine WH.val (O.move rfl rfl Taken.no) rfl rfl ?_
      have hg11 : true ≠ false := by decide
      refine WH.skip (OpOk.not rfl rfl rfl hg11) ?_
      refine WH.skip (OpOk.not rfl rfl rfl hg11) ?_
      refine WH.skip (OpOk.not rfl rfl rfl hg11) ?_
      refine WH.skip (OpOk.not rfl rfl rfl hg11) ?_
      refine WH.skip (OpOk.not rfl rfl rfl hg11) ?_
      refine WH.skip (OpOk.not rfl rfl rfl hg11) ?_
      refine WH.skip (OpOk.not rfl rfl rfl hg11) ?_
      refine WH.skip (OpOk.not rfl rfl rfl hg11) ?_
      refine WH.skip (OpOk.not rfl rfl rfl hg11) ?_
      refine WH.val (O.pick_t rfl rfl rfl rfl Taken.no) rfl rfl ?_
      refine WH.nil ?_
      refine E.to ?_
      refine W.pick (.cons (t := 1) rfl (.cons (t := 2) rfl (.cons (t := 3) rfl (.cons (t := 9) rfl (.cons (t := 10) rfl (.cons (t := 11) rfl (.cons (t := 64) rfl .nil))))))) (.cons (t := 0) rfl (.cons (t := 101) rfl (.cons (t := 102) rfl .nil))) ?_
      refine W.cond_t rfl ?_
      refine W.seq ?_
      refine W.region ?_
      refine SL.val (O.assign rfl rfl Taken.no) ?_
      refine SL.nil ?_
      refine E.to ?_
      refine W.ret ?_
      refine E.inr ?_
      refine E.thr ?_
      refine E.thr ?_
      refine E.inr ?_
      refine E.thr ?_
      refine E.fin (rs := [_]) (rn []) (.inl rfl) rfl (.cons (ResOne.tmp rfl) .nil) ?_ ?_ rfl (fixL_spec rfl)
      ·skip
       exact iv_bool (dec_f fun q => by have h := (Tr.okT_iff t n).1 q k (by omega); unfold okAt at h; obtain ⟨h1, h2, h3, h4, h5⟩ := h; unfold plus at h2; first | exact h1 (by assumption) | omega | (have := h4 (nb_t (by assumption)); omega) | (have := h3 (by omega); omega) | exact absurd h5 (by simp_all))
      · exact (SubS.cons rfl SubS.nil)
    ·skip
     first | have hg4p := G.gA5 hg4 | have hg4p := G.gA6 hg4 | have hg4p := hg4
     refine WH.skip (OpOk.not rfl rfl rfl hg4) ?_
     refine WH.skip (OpOk.not rfl rfl rfl hg4) ?_
     refine WH.skip (OpOk.not rfl rfl rfl hg4) ?_
     refine WH.skip (OpOk.not rfl rfl rfl hg4) ?_
     refine WH.val (O.pick_f rfl (G.ne_t hg4) rfl rfl (Taken.yes rfl rfl hg3)) rfl rfl ?_
     refine WH.val (O.pick_f rfl hg3 rfl rfl Taken.no) rfl rfl ?_
     refine WH.val (O.move rfl rfl Taken.no) rfl rfl ?_
     have hg12 : false = false := by decide
     refine WH.val (O.move rfl rfl (Taken.yes rfl rfl hg12)) rfl rfl ?_
     refine WH.val (O.det (fun _ => G.R.gtr rfl rfl) rfl (Taken.yes rfl rfl hg12)) rfl rfl ?_
     refine WH.val (O.move rfl rfl (Taken.yes rfl rfl hg12)) rfl rfl ?_
     refine WH.case (j := 25) (g := 41) (want := true) rfl rfl (fun hg13 => ?_) (fun hg13 => ?_)
     ·skip
      first | have hg13p := G.gA1 hg13 | have hg13p := G.gA2 hg13 | have hg13p := hg13
      refine WH.val (O.fld_ref (o' := 2) rfl Try.underlying27 rfl (m := 0) (by kernel_rfl) rfl rfl (Taken.yes rfl rfl hg13)) rfl rfl ?_
      refine WH.val (O.ld1 (PtI.ref rfl rfl) rfl Try.underlying25 rfl rfl (Taken.yes rfl rfl hg13)) rfl rfl ?_
      refine WH.val (O.move rfl rfl (Taken.yes rfl rfl hg13)) rfl rfl ?_
      refine WH.val (O.det (fun _ => by first | exact G.R.sub64 rfl rfl (by omega) | exact G.R.sub rfl rfl) rfl (Taken.yes rfl rfl hg13)) rfl rfl ?_
      refine WH.val (O.idx_fz (i := (k - 1)) rfl rfl (by omega) (row_tr (by omega)) Try.underlying25 hi27 hs27 rfl (Taken.yes rfl rfl hg13)) rfl rfl ?_
      refine WH.val (O.ldU (m := 3) (PtU.fz rfl) rfl Try.underlying27 rfl (by kernel_rfl) rfl (Taken.yes rfl rfl hg13)) rfl rfl ?_
      refine WH.val (O.callp rfl rfl rfl (first_h (t := t.kids[k - 1]!)) (.cons (ArgOk.same rfl) .nil) hcallOk46 rfl (Taken.yes rfl rfl hg13)) rfl rfl ?_
      refine WH.val (O.ldN (m := 3) (PtI.ref rfl rfl) (js := [_, _, _]) rfl (Nat.le_of_ble_eq_true rfl) Try.underlying27 rfl (by kernel_rfl) rfl (Taken.yes rfl rfl hg13)) rfl rfl ?_
      refine WH.val (O.callp rfl rfl rfl (first_h (t := t.kids[k]!)) (.cons (ArgOk.aggU (.cons (ArgOk.same rfl) (.cons (ArgOk.same rfl) (.cons (ArgOk.same rfl) .nil)))) .nil) hcallOk46 rfl (Taken.yes rfl rfl hg13)) rfl rfl ?_
      refine WH.val (O.det (fun _ => G.R.geq rfl rfl) rfl (Taken.yes rfl rfl hg13)) rfl rfl ?_
      refine WH.val (O.pick_t rfl hg13 rfl rfl (Taken.yes rfl rfl hg12)) rfl rfl ?_
      refine WH.val (O.pick_f rfl rfl rfl rfl Taken.no) rfl rfl ?_
      refine WH.val (O.move rfl rfl Taken.no) rfl rfl ?_
      refine WH.case (j := 38) (g := 54) (want := false) rfl rfl (fun hg14 => ?_) (fun hg14 => ?_)
      ·skip
       first | have hg14p := G.gA3 hg14 | have hg14p := G.gA4 hg14 | have hg14p := hg14
       refine WH.val (O.ld1 (PtI.ref rfl rfl) rfl Try.underlying69 rfl rfl (Taken.yes rfl rfl hg14)) rfl rfl ?_
       refine WH.val (O.ldN (m := 3) (PtI.ref rfl rfl) (js := [_, _, _]) rfl (Nat.le_of_ble_eq_true rfl) Try.underlying27 rfl (by kernel_rfl) rfl (Taken.yes rfl rfl hg14)) rfl rfl ?_
       refine WH.val (O.move rfl rfl (Taken.yes rfl rfl hg14)) rfl rfl ?_
       refine WH.val (O.fld_ref (o' := 0) rfl Try.underlying27 rfl (m := 0) (by kernel_rfl) rfl rfl (Taken.yes rfl rfl hg14)) rfl rfl ?_
       refine WH.val (O.ld1 (PtI.ref rfl rfl) rfl Try.underlying9 rfl rfl (Taken.yes rfl rfl hg14)) rfl rfl ?_
       refine WH.val (O.det (fun _ => G.R.lenL rfl Try.underlying9) rfl (Taken.yes rfl rfl hg14)) rfl rfl ?_
       refine WH.val (O.det (fun _ => by first | exact G.R.add64 rfl rfl (by omega) | exact G.R.add rfl rfl) rfl (Taken.yes rfl rfl hg14)) rfl rfl ?_
       refine WH.memS (O.call (rn [(0, 0)]) [] rfl rfl rfl (ih t.kids[k]! (at_mem (by omega)) (plus n t.kids[k]!.lab)) (.cons (ArgOk.aggU (.cons (ArgOk.same rfl) (.cons (ArgOk.same rfl) (.cons (ArgOk.same rfl) .nil)))) (.cons (ArgOk.same rfl) (.cons (ArgOk.same rfl) .nil))) (SubS.cons rfl SubS.nil) rfl rfl rfl rfl rfl (.inl rfl) hcallOk45 (r' := .u _) rfl rfl (Taken.yes rfl rfl hg14)) rfl rfl rfl rfl rfl (S' := (0, .cells _ [_]) :: _) rfl ?_
       refine WH.val (O.det (fun _ => G.R.not rfl) rfl (Taken.yes rfl rfl hg14)) rfl rfl ?_
       refine WH.val (O.pick_f rfl hg14 rfl rfl Taken.no) rfl rfl ?_
       refine WH.nil ?_
       refine E.to ?_
       refine W.pick (.cons (t := 1) rfl (.cons (t := 2) rfl (.cons (t := 3) rfl (.cons (t := 9) rfl (.cons (t := 10) rfl (.cons (t := 11) rfl (.cons (t := 64) rfl .nil))))))) (.cons (t := 0) rfl (.cons (t := 101) rfl (.cons (t := 102) rfl .nil))) ?_
       first | refine W.cond_d rfl (fun hc15 => ?_) (fun hc15 => ?_) | refine W.cond_nd rfl (fun hc15 => ?_) (fun hc15 => ?_) | refine W.cond rfl (fun hc15 => ?_) (fun hc15 => ?_)
       ·skip
        refine W.seq ?_
        refine W.region ?_
        refine SL.val (O.assign rfl rfl Taken.no) ?_
        refine SL.nil ?_
        refine E.to ?_
        refine W.ret ?_
        refine E.inr ?_
        refine E.thr ?_
        refine E.thr ?_
        refine E.inr ?_
        refine E.thr ?_
        refine E.fin (rs := [_]) (rn []) (.inl rfl) rfl (.cons (ResOne.tmp rfl) .nil) ?_ ?_ rfl (fixL_spec rfl)
        ·skip
         exact iv_bool (dec_f fun q => by have h := (Tr.okT_iff t n).1 q k (by omega); unfold okAt at h; obtain ⟨h1, h2, h3, h4, h5⟩ := h; unfold plus at h2; first | exact h1 (by assumption) | omega | (have := h4 (nb_t (by assumption)); omega) | (have := h3 (by omega); omega) | exact absurd h5 (by simp_all))
        · exact (SubS.cons rfl SubS.nil)
       ·skip
        refine W.skip ?_
        refine E.inn ?_
        refine E.to ?_
        refine W.region ?_
        refine SL.val (O.det (fun _ => by first | exact G.R.add64 rfl rfl (by omega) | exact G.R.add rfl rfl) rfl Taken.no) ?_
        refine SL.val (O.move rfl rfl Taken.no) ?_
        refine SL.nil ?_
        refine E.again ((k + 1)) (rn []) ?_ ?_ rfl (fixL_spec rfl) ?_ ?_
        · exact (SubF.cons rfl (SubF.cons rfl (SubF.cons rfl (SubF.cons rfl (SubF.cons rfl (SubF.cons rfl SubF.nil))))))
        · exact (SubS.cons rfl (SubS.cons rfl SubS.nil))
        ·try dsimp only
         have hok : okAt t.kids n k := ⟨by first | assumption | simp_all, by unfold plus; omega, fun h0 => by first | omega | simp_all, fun hw => by first | omega | exact absurd ((nb_f (by assumption)).symm.trans hw) (by decide) | exact absurd ((nb_m (by assumption)).symm.trans hw) (by decide), by first | assumption | simp_all⟩
         exact ⟨by omega, okAt_step hp hok⟩
        · (try dsimp only); omega
      ·skip
       first | have hg14p := G.gA7 hg14 | have hg14p := G.gA8 hg14 | have hg14p := hg14
       refine WH.skip (OpOk.not rfl rfl rfl hg14) ?_
       refine WH.skip (OpOk.not rfl rfl rfl hg14) ?_
       refine WH.skip (OpOk.not rfl rfl rfl hg14) ?_
       refine WH.skip (OpOk.not rfl rfl rfl hg14) ?_
       refine WH.skip (OpOk.not rfl rfl rfl hg14) ?_
       refine WH.skip (OpOk.not rfl rfl rfl hg14) ?_
       refine WH.skip (OpOk.not rfl rfl rfl hg14) ?_
       refine WH.skip (OpOk.not rfl rfl rfl hg14) ?_
       refine WH.skip (OpOk.not rfl rfl rfl hg14) ?_
       refine WH.val (O.pick_t rfl (G.ne_f hg14) rfl rfl Taken.no) rfl rfl ?_
       refine WH.nil ?_
       refine E.to ?_
       refine W.pick (.cons (t := 1) rfl (.cons (t := 2) rfl (.cons (t := 3) rfl (.cons (t := 9) rfl (.cons (t := 10) rfl (.cons (t := 11) rfl (.cons (t := 64) rfl .nil))))))) (.cons (t := 0) rfl (.cons (t := 101) rfl (.cons (t := 102) rfl .nil))) ?_
       refine W.cond_t rfl ?_
       refine W.seq ?_
       refine W.region ?_
       refine SL.val (O.assign rfl rfl Taken.no) ?_
       refine SL.nil ?_
       refine E.to ?_
       refine W.ret ?_
       refine E.inr ?_
       refine E.thr ?_
       refine E.thr ?_
       refine E.inr ?_
       refine E.thr ?_
       refine E.fin (rs := [_]) (rn []) (.inl rfl) rfl (.cons (ResOne.tmp rfl) .nil) ?_ ?_ rfl (fixL_spec rfl)
       ·skip
        exact iv_bool (dec_f fun q => by have h := (Tr.okT_iff t n).1 q k (by omega); unfold okAt at h; obtain ⟨h1, h2, h3, h4, h5⟩ := h; unfold plus at h2; first | exact h1 (by assumption) | omega | (have := h4 (nb_t (by assumption)); omega) | (have := h3 (by omega); omega) | exact absurd h5 (by simp_all))
       · exact (SubS.cons rfl SubS.nil)
     ·skip
      first | have hg13p := G.gA5 hg13 | have hg13p := G.gA6 hg13 | have hg13p := hg13
      refine WH.skip (OpOk.not rfl rfl rfl hg13) ?_
      refine WH.skip (OpOk.not rfl rfl rfl hg13) ?_
      refine WH.skip (OpOk.not rfl rfl rfl hg13) ?_
      refine WH.skip (OpOk.not rfl rfl rfl hg13) ?_
      refine WH.skip (OpOk.not rfl rfl rfl hg13) ?_
      refine WH.skip (OpOk.not rfl rfl rfl hg13) ?_
      refine WH.skip (OpOk.not rfl rfl rfl hg13) ?_
      refine WH.skip (OpOk.not rfl rfl rfl hg13) ?_
      refine WH.skip (OpOk.not rfl rfl rfl hg13) ?_
      refine WH.skip (OpOk.not rfl rfl rfl hg13) ?_
      refine WH.val (O.pick_f rfl (G.ne_t hg13) rfl rfl (Taken.yes rfl rfl hg12)) rfl rfl ?_
      refine WH.val (O.pick_f rfl rfl rfl rfl Taken.no) rfl rfl ?_
      refine WH.val (O.move rfl rfl Taken.no) rfl rfl ?_
      have hg16 : false = false := by decide
      refine WH.val (O.ld1 (PtI.ref rfl rfl) rfl Try.underlying69 rfl rfl (Taken.yes rfl rfl hg16)) rfl rfl ?_
      refine WH.val (O.ldN (m := 3) (PtI.ref rfl rfl) (js := [_, _, _]) rfl (Nat.le_of_ble_eq_true rfl) Try.underlying27 rfl (by kernel_rfl) rfl (Taken.yes rfl rfl hg16)) rfl rfl ?_
      refine WH.val (O.move rfl rfl (Taken.yes rfl rfl hg16)) rfl rfl ?_
      refine WH.val (O.fld_ref (o' := 0) rfl Try.underlying27 rfl (m := 0) (by kernel_rfl) rfl rfl (Taken.yes rfl rfl hg16)) rfl rfl ?_
      refine WH.val (O.ld1 (PtI.ref rfl rfl) rfl Try.underlying9 rfl rfl (Taken.yes rfl rfl hg16)) rfl rfl ?_
      refine WH.val (O.det (fun _ => G.R.lenL rfl Try.underlying9) rfl (Taken.yes rfl rfl hg16)) rfl rfl ?_
      refine WH.val (O.det (fun _ => by first | exact G.R.add64 rfl rfl (by omega) | exact G.R.add rfl rfl) rfl (Taken.yes rfl rfl hg16)) rfl rfl ?_
      refine WH.memS (O.call (rn [(0, 0)]) [] rfl rfl rfl (ih t.kids[k]! (at_mem (by omega)) (plus n t.kids[k]!.lab)) (.cons (ArgOk.aggU (.cons (ArgOk.same rfl) (.cons (ArgOk.same rfl) (.cons (ArgOk.same rfl) .nil)))) (.cons (ArgOk.same rfl) (.cons (ArgOk.same rfl) .nil))) (SubS.cons rfl SubS.nil) rfl rfl rfl rfl rfl (.inl rfl) hcallOk45 (r' := .u _) rfl rfl (Taken.yes rfl rfl hg16)) rfl rfl rfl rfl rfl (S' := (0, .cells _ [_]) :: _) rfl ?_
      refine WH.val (O.det (fun _ => G.R.not rfl) rfl (Taken.yes rfl rfl hg16)) rfl rfl ?_
      refine WH.val (O.pick_f rfl rfl rfl rfl Taken.no) rfl rfl ?_
      refine WH.nil ?_
      refine E.to ?_
      refine W.pick (.cons (t := 1) rfl (.cons (t := 2) rfl (.cons (t := 3) rfl (.cons (t := 9) rfl (.cons (t := 10) rfl (.cons (t := 11) rfl (.cons (t := 64) rfl .nil))))))) (.cons (t := 0) rfl (.cons (t := 101) rfl (.cons (t := 102) rfl .nil))) ?_
      first | refine W.cond_d rfl (fun hc17 => ?_) (fun hc17 => ?_) | refine W.cond_nd rfl (fun hc17 => ?_) (fun hc17 => ?_) | refine W.cond rfl (fun hc17 => ?_) (fun hc17 => ?_)
      ·skip
       refine W.seq ?_
       refine W.region ?_
       refine SL.val (O.assign rfl rfl Taken.no) ?_
       refine SL.nil ?_
       refine E.to ?_
       refine W.ret ?_
       refine E.inr ?_
       refine E.thr ?_
       refine E.thr ?_
       refine E.inr ?_
       refine E.thr ?_
       refine E.fin (rs := [_]) (rn []) (.inl rfl) rfl (.cons (ResOne.tmp rfl) .nil) ?_ ?_ rfl (fixL_spec rfl)
       ·skip
        exact iv_bool (dec_f fun q => by have h := (Tr.okT_iff t n).1 q k (by omega); unfold okAt at h; obtain ⟨h1, h2, h3, h4, h5⟩ := h; unfold plus at h2; first | exact h1 (by assumption) | omega | (have := h4 (nb_t (by assumption)); omega) | (have := h3 (by omega); omega) | exact absurd h5 (by simp_all))
       · exact (SubS.cons rfl SubS.nil)
      ·skip
       refine W.skip ?_
       refine E.inn ?_
       refine E.to ?_
       refine W.region ?_
       refine SL.val (O.det (fun _ => by first | exact G.R.add64 rfl rfl (by omega) | exact G.R.add rfl rfl) rfl Taken.no) ?_
       refine SL.val (O.move rfl rfl Taken.no) ?_
       refine SL.nil ?_
       refine E.again ((k + 1)) (rn []) ?_ ?_ rfl (fixL_spec rfl) ?_ ?_
       · exact (SubF.cons rfl (SubF.cons rfl (SubF.cons rfl (SubF.cons rfl (SubF.cons rfl (SubF.cons rfl SubF.nil))))))
       · exact (SubS.cons rfl (SubS.cons rfl SubS.nil))
       ·try dsimp only
        have hok : okAt t.kids n k := ⟨by first | assumption | simp_all, by unfold plus; omega, fun h0 => by first | omega | simp_all, fun hw => by first | omega | exact absurd ((nb_f (by assumption)).symm.trans hw) (by decide) | exact absurd ((nb_m (by assumption)).symm.trans hw) (by decide), by first | assumption | simp_all⟩
        exact ⟨by omega, okAt_step hp hok⟩
       · (try dsimp only); omega
   ·skip
    first | have hg3p := G.gA7 hg3 | have hg3p := G.gA8 hg3 | have hg3p := hg3
    refine WH.skip (OpOk.not rfl rfl rfl hg3) ?_
    refine WH.skip (OpOk.not rfl rfl rfl hg3) ?_
    refine WH.skip (OpOk.not rfl rfl rfl hg3) ?_
    refine WH.skip (OpOk.not rfl rfl rfl hg3) ?_
    refine WH.skip (OpOk.not2 rfl rfl rfl) ?_
    refine WH.skip (OpOk.not2 rfl rfl rfl) ?_
    refine WH.skip (OpOk.not2 rfl rfl rfl) ?_
    refine WH.skip (OpOk.not2 rfl rfl rfl) ?_
    refine WH.skip (OpOk.not rfl rfl rfl hg3) ?_
    refine WH.val (O.pick_t rfl (G.ne_f hg3) rfl rfl Taken.no) rfl rfl ?_
    refine WH.val (O.move rfl rfl Taken.no) rfl rfl ?_
    have hg18 : true ≠ false := by decide
    refine WH.skip (OpOk.not rfl rfl rfl hg18) ?_
    refine WH.skip (OpOk.not rfl rfl rfl hg18) ?_
    refine WH.skip (OpOk.not rfl rfl rfl hg18) ?_
    refine WH.skip (OpOk.not2 rfl rfl rfl) ?_
    refine WH.skip (OpOk.not2 rfl rfl rfl) ?_
    refine WH.skip (OpOk.not2 rfl rfl rfl) ?_
    refine WH.skip (OpOk.not2 rfl rfl rfl) ?_
    refine WH.skip (OpOk.not2 rfl rfl rfl) ?_
    refine WH.skip (OpOk.not2 rfl rfl rfl) ?_
    refine WH.skip (OpOk.not2 rfl rfl rfl) ?_
    refine WH.skip (OpOk.not2 rfl rfl rfl) ?_
    refine WH.skip (OpOk.not2 rfl rfl rfl) ?_
    refine WH.skip (OpOk.not2 rfl rfl rfl) ?_
    refine WH.skip (OpOk.not rfl rfl rfl hg18) ?_
    refine WH.val (O.pick_t rfl rfl rfl rfl Taken.no) rfl rfl ?_
    refine WH.val (O.move rfl rfl Taken.no) rfl rfl ?_
    have hg19 : true ≠ false := by decide
    refine WH.skip (OpOk.not rfl rfl rfl hg19) ?_
    refine WH.skip (OpOk.not rfl rfl rfl hg19) ?_
    refine WH.skip (OpOk.not rfl rfl rfl hg19) ?_
    refine WH.skip (OpOk.not rfl rfl rfl hg19) ?_
    refine WH.skip (OpOk.not rfl rfl rfl hg19) ?_
    refine WH.skip (OpOk.not rfl rfl rfl hg19) ?_
    refine WH.skip (OpOk.not rfl rfl rfl hg19) ?_
    refine WH.skip (OpOk.not rfl rfl rfl hg19) ?_
    refine WH.skip (OpOk.not rfl rfl rfl hg19) ?_
    refine WH.val (O.pick_t rfl rfl rfl rfl Taken.no) rfl rfl ?_
    refine WH.nil ?_
    refine E.to ?_
    refine W.pick (.cons (t := 1) rfl (.cons (t := 2) rfl (.cons (t := 3) rfl (.cons (t := 9) rfl (.cons (t := 10) rfl (.cons (t := 11) rfl (.cons (t := 64) rfl .nil))))))) (.cons (t := 0) rfl (.cons (t := 101) rfl (.cons (t := 102) rfl .nil))) ?_
    refine W.cond_t rfl ?_
    refine W.seq ?_
    refine W.region ?_
    refine SL.val (O.assign rfl rfl Taken.no) ?_
    refine SL.nil ?_
    refine E.to ?_
    refine W.ret ?_
    refine E.inr ?_
    refine E.thr ?_
    refine E.thr ?_
    refine E.inr ?_
    refine E.thr ?_
    refine E.fin (rs := [_]) (rn []) (.inl rfl) rfl (.cons (ResOne.tmp rfl) .nil) ?_ ?_ rfl (fixL_spec rfl)
    ·skip
     exact iv_bool (dec_f fun q => by have h := (Tr.okT_iff t n).1 q k (by omega); unfold okAt at h; obtain ⟨h1, h2, h3, h4, h5⟩ := h; unfold plus at h2; first | exact h1 (by assumption) | omega | (have := h4 (nb_t (by assumption)); omega) | (have := h3 (by omega); omega) | exact absurd h5 (by simp_all))
    · exact (SubS.cons rfl SubS.nil)
  ·skip
   first | have hg2p := G.gA7 hg2 | have hg2p := G.gA8 hg2 | have hg2p := hg2
   refine WH.skip (OpOk.not rfl rfl rfl hg2) ?_
   refine WH.skip (OpOk.not rfl rfl rfl hg2) ?_
   refine WH.skip (OpOk.not rfl rfl rfl hg2) ?_
   refine WH.skip (OpOk.not rfl rfl rfl hg2) ?_
   refine WH.skip (OpOk.not rfl rfl rfl hg2) ?_
   refine WH.skip (OpOk.not rfl rfl rfl hg2) ?_
   refine WH.val (O.pick_t rfl (G.ne_f hg2) rfl rfl Taken.no) rfl rfl ?_
   refine WH.val (O.move rfl rfl Taken.no) rfl rfl ?_
   have hg20 : true ≠ false := by decide
   refine WH.skip (OpOk.not rfl rfl rfl hg20) ?_
   refine WH.skip (OpOk.not rfl rfl rfl hg20) ?_
   refine WH.skip (OpOk.not rfl rfl rfl hg20) ?_
   refine WH.skip (OpOk.not rfl rfl rfl hg20) ?_
   refine WH.skip (OpOk.not2 rfl rfl rfl) ?_
   refine WH.skip (OpOk.not2 rfl rfl rfl) ?_
   refine WH.skip (OpOk.not2 rfl rfl rfl) ?_
   refine WH.skip (OpOk.not2 rfl rfl rfl) ?_
   refine WH.skip (OpOk.not rfl rfl rfl hg20) ?_
   refine WH.val (O.pick_t rfl rfl rfl rfl Taken.no) rfl rfl ?_
   refine WH.val (O.move rfl rfl Taken.no) rfl rfl ?_
   have hg21 : true ≠ false := by decide
   refine WH.skip (OpOk.not rfl rfl rfl hg21) ?_
   refine WH.skip (OpOk.not rfl rfl rfl hg21) ?_
   refine WH.skip (OpOk.not rfl rfl rfl hg21) ?_
   refine WH.skip (OpOk.not2 rfl rfl rfl) ?_
   refine WH.skip (OpOk.not2 rfl rfl rfl) ?_
   refine WH.skip (OpOk.not2 rfl rfl rfl) ?_
   refine WH.skip (OpOk.not2 rfl rfl rfl) ?_
   refine WH.skip (OpOk.not2 rfl rfl rfl) ?_
   refine WH.skip (OpOk.not2 rfl rfl rfl) ?_
   refine WH.skip (OpOk.not2 rfl rfl rfl) ?_
   refine WH.skip (OpOk.not2 rfl rfl rfl) ?_
   refine WH.skip (OpOk.not2 rfl rfl rfl) ?_
   refine WH.skip (OpOk.not2 rfl rfl rfl) ?_
   refine WH.skip (OpOk.not rfl rfl rfl hg21) ?_
   refine WH.val (O.pick_t rfl rfl rfl rfl Taken.no) rfl rfl ?_
   refine WH.val (O.move rfl rfl Taken.no) rfl rfl ?_
   have hg22 : true ≠ false := by decide
   refine WH.skip (OpOk.not rfl rfl rfl hg22) ?_
   refine WH.skip (OpOk.not rfl rfl rfl hg22) ?_
   refine WH.skip (OpOk.not rfl rfl rfl hg22) ?_
   refine WH.skip (OpOk.not rfl rfl rfl hg22) ?_
   refine WH.skip (OpOk.not rfl rfl rfl hg22) ?_
   refine WH.skip (OpOk.not rfl rfl rfl hg22) ?_
   refine WH.skip (OpOk.not rfl rfl rfl hg22) ?_
   refine WH.skip (OpOk.not rfl rfl rfl hg22) ?_
   refine WH.skip (OpOk.not rfl rfl rfl hg22) ?_
   refine WH.val (O.pick_t rfl rfl rfl rfl Taken.no) rfl rfl ?_
   refine WH.nil ?_
   refine E.to ?_
   refine W.pick (.cons (t := 1) rfl (.cons (t := 2) rfl (.cons (t := 3) rfl (.cons (t := 9) rfl (.cons (t := 10) rfl (.cons (t := 11) rfl (.cons (t := 64) rfl .nil))))))) (.cons (t := 0) rfl (.cons (t := 101) rfl (.cons (t := 102) rfl .nil))) ?_
   refine W.cond_t rfl ?_
   refine W.seq ?_
   refine W.region ?_
   refine SL.val (O.assign rfl rfl Taken.no) ?_
   refine SL.nil ?_
   refine E.to ?_
   refine W.ret ?_
   refine E.inr ?_
   refine E.thr ?_
   refine E.thr ?_
   refine E.inr ?_
   refine E.thr ?_
   refine E.fin (rs := [_]) (rn []) (.inl rfl) rfl (.cons (ResOne.tmp rfl) .nil) ?_ ?_ rfl (fixL_spec rfl)
   ·skip
    exact iv_bool (dec_f fun q => by have h := (Tr.okT_iff t n).1 q k (by omega); unfold okAt at h; obtain ⟨h1, h2, h3, h4, h5⟩ := h; unfold plus at h2; first | exact h1 (by assumption) | omega | (have := h4 (nb_t (by assumption)); omega) | (have := h3 (by omega); omega) | exact absurd h5 (by simp_all))
   · exact (SubS.cons rfl SubS.nil)
 ·skip
  refine W.exit ?_
  refine E.th ?_
  refine E.th ?_
  refine E.hit ?_
  refine E.to ?_
  refine W.seq ?_
  refine W.region ?_
  refine SL.val (O.assign rfl rfl Taken.no) ?_
  refine SL.nil ?_
  refine E.to ?_
  refine W.ret ?_
  refine E.fin (rs := [_]) (rn []) (.inl rfl) rfl (.cons (ResOne.tmp rfl) .nil) ?_ ?_ rfl (fixL_spec rfl)
  ·skip
   exact iv_bool (dec_t ((Tr.okT_iff t n).2 fun j hj => hp j (by omega)))
  · exact (SubS.cons rfl SubS.nil)

theorem valid1_h (t : Tr) : ∀ n : Int, Con Try.prog 45 [vA [uT t.lab, uB t.wd, .sl 3 (t.kids.map eTr)], vI n, .ref 0 0] [(0, .cells 69 [.clo (.func 45) [] [.ref 0 0]])] (vB (decide (t.okT n))) [(0, .cells 69 [.clo (.func 45) [] [.ref 0 0]])] := Tr.ind (p := fun t => ∀ n : Int, Con Try.prog 45 [vA [uT t.lab, uB t.wd, .sl 3 (t.kids.map eTr)], vI n, .ref 0 0] [(0, .cells 69 [.clo (.func 45) [] [.ref 0 0]])] (vB (decide (t.okT n))) [(0, .cells 69 [.clo (.func 45) [] [.ref 0 0]])]) (fun _ ih _ => valid1_step ih) t

set_option maxRecDepth 8000 in
/-- bookplate/prefix.Valid. -/
theorem valid_h {t : Tr} :
    Con Try.prog 16 [vA [uT t.lab, uB t.wd, .sl 3 (t.kids.map eTr)]] [] (vB (decide (validT t))) [] := by
 refine Con.enterL (n := 18) Try.func16 rfl rfl rfl (fun τ w ok vs hin => ?_)
 have hl0_2 := hin.lenA (i := 0) (j := 2) rfl rfl
 try rw [List.length_map] at hl0_2
 clear hin
 refine W.seq ?_
 refine W.region ?_
 refine SL.memS (O.box (is := [_, _, _]) 101 rfl rfl (by simp) rfl rfl Taken.no) rfl rfl (S' := (101, _) :: _) rfl ?_
 refine SL.val (O.assign rfl rfl Taken.no) ?_
 refine SL.nil ?_
 refine E.to ?_
 refine W.seq ?_
 refine W.region ?_
 refine SL.memS (O.alloc (z := .nilFunc) (is := [.u (.sc (.nilFunc))]) 102 (by kernel_rfl) rfl rfl rfl Taken.no) rfl rfl (S' := (102, _) :: _) rfl ?_
 refine SL.nil ?_
 refine E.to ?_
 refine W.seq ?_
 refine W.region ?_
 refine SL.val (O.makeFunc rfl rfl rfl Taken.no) ?_
 refine SL.effS (O.st_ref (m := 1) rfl rfl rfl (js := [_]) rfl rfl (by kernel_rfl) (by simp) (Nat.le_of_ble_eq_true rfl) rfl (is' := [_]) rfl Taken.no) (S' := (102, _) :: _) rfl ?_
 refine SL.nil ?_
 refine E.to ?_
 refine W.seq ?_
 refine W.region ?_
 refine SL.val (O.fld_ref (o' := 0) rfl Try.underlying27 rfl (m := 0) (by kernel_rfl) rfl rfl Taken.no) ?_
 refine SL.val (O.ld1 (PtI.ref rfl rfl) rfl Try.underlying9 rfl rfl Taken.no) ?_
 refine SL.val (O.det (fun _ => G.R.streqL (b := []) rfl rfl) rfl Taken.no) ?_
 refine SL.val (O.move rfl rfl Taken.no) ?_
 refine SL.case (j := 3) (g := 8) (want := true) rfl rfl (fun hg1 => ?_) (fun hg1 => ?_)
 ·skip
  first | have hg1p := G.gA1 hg1 | have hg1p := G.gA2 hg1 | have hg1p := hg1
  refine SL.val (O.fld_ref (o' := 1) rfl Try.underlying27 rfl (m := 0) (by kernel_rfl) rfl rfl (Taken.yes rfl rfl hg1)) ?_
  refine SL.val (O.ld1 (PtI.ref rfl rfl) rfl Try.underlying4 rfl rfl (Taken.yes rfl rfl hg1)) ?_
  refine SL.val (O.det (fun _ => G.R.not rfl) rfl (Taken.yes rfl rfl hg1)) ?_
  refine SL.val (O.pick_t rfl hg1 rfl rfl Taken.no) ?_
  refine SL.val (O.move rfl rfl Taken.no) ?_
  refine SL.case (j := 8) (g := 13) (want := true) rfl rfl (fun hg2 => ?_) (fun hg2 => ?_)
  ·skip
   first | have hg2p := G.gA1 hg2 | have hg2p := G.gA2 hg2 | have hg2p := hg2
   refine SL.val (O.ld1 (PtI.ref rfl rfl) rfl Try.underlying69 rfl rfl (Taken.yes rfl rfl hg2)) ?_
   refine SL.val (O.ldN (m := 3) (PtI.ref rfl rfl) (js := [_, _, _]) rfl (Nat.le_of_ble_eq_true rfl) Try.underlying27 rfl (by kernel_rfl) rfl (Taken.yes rfl rfl hg2)) ?_
   refine SL.memS (O.call (rn [(0, 102)]) [] rfl rfl rfl (valid1_h t 0) (.cons (ArgOk.aggU (.cons (ArgOk.same rfl) (.cons (ArgOk.same rfl) (.cons (ArgOk.same rfl) .nil)))) (.cons (ArgOk.same rfl) (.cons (ArgOk.same rfl) .nil))) (SubS.cons rfl SubS.nil) rfl rfl rfl rfl rfl (.inl rfl) hcallOk45 (r' := .u _) rfl rfl (Taken.yes rfl rfl hg2)) rfl rfl (S' := (102, .cells _ [_]) :: _) rfl ?_
   refine SL.val (O.pick_t rfl hg2 rfl rfl Taken.no) ?_
   refine SL.val (O.assign rfl rfl Taken.no) ?_
   refine SL.nil ?_
   refine E.to ?_
   refine W.ret ?_
   refine E.fin (rs := [_]) (rn []) (.inl rfl) rfl (.cons (ResOne.tmp rfl) .nil) ?_ ?_ rfl (fixL_spec rfl)
   ·skip
    exact iv_bool (by unfold validT; simp_all)
   · exact SubS.nil
  ·skip
   first | have hg2p := G.gA5 hg2 | have hg2p := G.gA6 hg2 | have hg2p := hg2
   refine SL.skip (OpOk.not rfl rfl rfl hg2) ?_
   refine SL.skip (OpOk.not rfl rfl rfl hg2) ?_
   refine SL.skip (OpOk.not rfl rfl rfl hg2) ?_
   refine SL.val (O.pick_f rfl (G.ne_t hg2) rfl rfl Taken.no) ?_
   refine SL.val (O.assign rfl rfl Taken.no) ?_
   refine SL.nil ?_
   refine E.to ?_
   refine W.ret ?_
   refine E.fin (rs := [_]) (rn []) (.inl rfl) rfl (.cons (ResOne.tmp rfl) .nil) ?_ ?_ rfl (fixL_spec rfl)
   ·skip
    exact iv_bool (by unfold validT; simp_all)
   · exact SubS.nil
 ·skip
  first | have hg1p := G.gA5 hg1 | have hg1p := G.gA6 hg1 | have hg1p := hg1
  refine SL.skip (OpOk.not rfl rfl rfl hg1) ?_
  refine SL.skip (OpOk.not rfl rfl rfl hg1) ?_
  refine SL.skip (OpOk.not rfl rfl rfl hg1) ?_
  refine SL.val (O.pick_f rfl (G.ne_t hg1) rfl rfl Taken.no) ?_
  refine SL.val (O.move rfl rfl Taken.no) ?_
  have hg3 : false ≠ true := by decide
  refine SL.skip (OpOk.not rfl rfl rfl hg3) ?_
  refine SL.skip (OpOk.not rfl rfl rfl hg3) ?_
  refine SL.skip (OpOk.not rfl rfl rfl hg3) ?_
  refine SL.val (O.pick_f rfl rfl rfl rfl Taken.no) ?_
  refine SL.val (O.assign rfl rfl Taken.no) ?_
  refine SL.nil ?_
  refine E.to ?_
  refine W.ret ?_
  refine E.fin (rs := [_]) (rn []) (.inl rfl) rfl (.cons (ResOne.tmp rfl) .nil) ?_ ?_ rfl (fixL_spec rfl)
  ·skip
   exact iv_bool (by unfold validT; simp_all)
  · exact SubS.nil

end Go.Proofs.Ytfmgpocbpbfalaa
