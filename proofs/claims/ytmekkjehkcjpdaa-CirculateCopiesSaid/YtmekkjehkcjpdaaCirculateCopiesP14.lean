/-
  What the proof rests on: part 14 of 14.
-/
import Derived.Test.YtmekkjehkcjpdaaCirculateCopiesP13
section
namespace Go.Proofs.Ytmekkjehkcjpdaa
open Go Go.RowKit Go.H Go.D57 Go.D58

theorem hinf34 : ∃ i, Try.prog.info? 34 = some i ∧ i.zero = some (.agg #[.int .i64 0, .int .i64 0, .int .i64 0, .int .i64 0, .int .i64 0, .int .i64 0, .int .i64 0, .string ByteArray.empty]) ∧ i.size = 8 ∧ i.bytes = 72 := G.info_of (by kernel_rfl)
theorem hinf58 : ∃ i, Try.prog.info? 58 = some i ∧ i.zero = some (.nilFunc) ∧ i.size = 1 ∧ i.bytes = 8 := G.info_of (by kernel_rfl)
theorem hcallOk9 : G.callOk Try.prog 9 = true := by kernel_rfl
theorem hcallOk16 : G.callOk Try.prog 16 = true := by kernel_rfl
theorem hcallOk18 : G.callOk Try.prog 18 = true := by kernel_rfl
theorem hcallOk19 : G.callOk Try.prog 19 = true := by kernel_rfl
theorem hcallOk20 : G.callOk Try.prog 20 = true := by kernel_rfl
theorem hcallOk21 : G.callOk Try.prog 21 = true := by kernel_rfl
theorem hcallOk22 : G.callOk Try.prog 22 = true := by kernel_rfl
theorem hcallOk23 : G.callOk Try.prog 23 = true := by kernel_rfl
theorem hcallOk24 : G.callOk Try.prog 24 = true := by kernel_rfl
theorem hcallOk25 : G.callOk Try.prog 25 = true := by kernel_rfl
theorem hcallOk26 : G.callOk Try.prog 26 = true := by kernel_rfl
theorem hcallOk27 : G.callOk Try.prog 27 = true := by kernel_rfl

def spV (x : Sp) : List Value := [.int .i64 x.kind, .int .i64 x.copy, .int .i64 x.work, .int .i64 x.pat, .int .i64 x.hold, .int .i64 x.cls, .int .i64 x.days, .string (G.bs x.lib)]
theorem bs_list (l : List UInt8) : (G.bs l).toList = l := by rw [ByteArray.toList_eq]
theorem eqSp (a b : Sp) : eqvL (spV a) (spV b) = decide (a = b) := by
  cases a; cases b
  rw [Bool.eq_iff_iff]
  simp only [spV, eqvL, eqv, bs_list]
  simp

set_option maxRecDepth 8000 in
theorem do_h {s : St} {x : Sp} :
    Con Try.prog 9 [vA [uI s.now, .sl 8 (s.cps.map eCp), .sl 2 (s.lns.map eLn)], vA (eSp x)] [] (.tup [.agg [vI (doS s x).now, vL 8 ((doS s x).cps.map eCp), vL 2 ((doS s x).lns.map eLn)], vI (doE s x)]) [] := by
 obtain ⟨i58, hi58, hz58, hs58, hb58⟩ := hinf58
 refine Con.enterL (n := 39) Try.func9 rfl rfl rfl (fun τ w ok vs hin => ?_)
 have hl0_1 := hin.lenA (i := 0) (j := 1) rfl rfl
 try rw [List.length_map] at hl0_1
 have hl0_2 := hin.lenA (i := 0) (j := 2) rfl rfl
 try rw [List.length_map] at hl0_2
 clear hin
 refine W.rg ?_
 refine SL.memS (O.box (is := [_, _, _]) 101 rfl rfl (by simp) rfl rfl Taken.no) rfl rfl (S' := (101, _) :: _) rfl ?_
 refine SL.memS (O.box (is := [_, _, _, _, _, _, _, _]) 102 rfl rfl (by simp) rfl rfl Taken.no) rfl rfl (S' := (102, _) :: _) rfl ?_
 refine SL.memS (O.alloc (z := .agg #[.int .i64 0, .slice none 0 0, .slice none 0 0]) (is := [.u (.sc (.int .i64 0)), .u (.sc (.slice none 0 0)), .u (.sc (.slice none 0 0))]) 103 (by kernel_rfl) rfl rfl rfl Taken.no) rfl rfl (S' := (103, _) :: _) rfl ?_
 refine SL.an rfl rfl (E.fo (W.seq (W.seq ?_)))
 refine W.draw [⟨[101], [], [], []⟩, ⟨[], [], [], []⟩, ⟨[], [], [], []⟩, ⟨[], [], [], []⟩, ⟨[], [], [], [102]⟩, ⟨[102], [], [], []⟩, ⟨[], [], [], []⟩, ⟨[], [], [], []⟩, ⟨[], [], [], []⟩, ⟨[], [], [], []⟩, ⟨[102], [], [], []⟩, ⟨[], [], [], []⟩, ⟨[102], [], [], []⟩, ⟨[], [], [], []⟩, ⟨[], [], [], []⟩] rfl (by kernel_rfl) (by kernel_rfl) rfl rfl ?_
 refine WH.val (O.ldN (m := 3) (PtI.ref rfl rfl) (js := [_, _, _]) rfl (Nat.le_of_ble_eq_true rfl) Try.underlying28 rfl (by kernel_rfl) rfl Taken.no) rfl rfl ?_
 refine WH.val (O.callp rfl rfl rfl (stvalid_h (s := s)) (.cons (ArgOk.aggU (.cons (ArgOk.same rfl) (.cons (ArgOk.same rfl) (.cons (ArgOk.same rfl) .nil)))) .nil) hcallOk16 rfl Taken.no) rfl rfl ?_
 refine WH.val (O.det (fun _ => G.R.not rfl) rfl Taken.no) rfl rfl ?_
 refine WH.mv rfl rfl rfl ?_
 refine WH.case (j := 3) (g := 12) (want := false) rfl rfl (fun hg1 => ?_) (fun hg1 => ?_)
 ·skip
  first | have hg1p := G.gA3 hg1 | have hg1p := G.gA4 hg1 | have hg1p := hg1
  refine WH.val (O.fld_ref (o' := 0) rfl Try.underlying34 rfl (m := 0) (by kernel_rfl) rfl rfl (Taken.yes rfl rfl hg1)) rfl rfl ?_
  refine WH.val (O.ld1 (PtI.ref rfl rfl) rfl Try.underlying3 rfl rfl (Taken.yes rfl rfl hg1)) rfl rfl ?_
  refine WH.val (O.callp rfl rfl rfl (in_h) (.cons (ArgOk.same rfl) (.cons (ArgOk.same rfl) (.cons (ArgOk.same rfl) .nil))) hcallOk17 rfl (Taken.yes rfl rfl hg1)) rfl rfl ?_
  refine WH.val (O.det (fun _ => G.R.not rfl) rfl (Taken.yes rfl rfl hg1)) rfl rfl ?_
  refine WH.val (O.pick_f rfl hg1 rfl rfl Taken.no) rfl rfl ?_
  refine WH.mv rfl rfl rfl ?_
  refine WH.case (j := 9) (g := 18) (want := false) rfl rfl (fun hg2 => ?_) (fun hg2 => ?_)
  ·skip
   first | have hg2p := G.gA3 hg2 | have hg2p := G.gA4 hg2 | have hg2p := hg2
   refine WH.val (O.ldN (m := 8) (PtI.ref rfl rfl) (js := [_, _, _, _, _, _, _, _]) rfl (Nat.le_of_ble_eq_true rfl) Try.underlying34 rfl (by kernel_rfl) rfl (Taken.yes rfl rfl hg2)) rfl rfl ?_
   refine WH.memS (O.call (rn []) [] rfl rfl rfl (fields_h (x := x)) (.cons (ArgOk.aggU (.cons (ArgOk.same rfl) (.cons (ArgOk.same rfl) (.cons (ArgOk.same rfl) (.cons (ArgOk.same rfl) (.cons (ArgOk.same rfl) (.cons (ArgOk.same rfl) (.cons (ArgOk.same rfl) (.cons (ArgOk.same rfl) .nil))))))))) .nil) SubS.nil rfl rfl rfl rfl rfl (.inl rfl) hcallOk18 (r' := .agg [.u _, .u _, .u _, .u _, .u _, .u _, .u _, .u _]) rfl rfl (Taken.yes rfl rfl hg2)) rfl rfl rfl rfl rfl (S' := _) rfl ?_
   refine WH.val (O.ldN (m := 8) (PtI.ref rfl rfl) (js := [_, _, _, _, _, _, _, _]) rfl (Nat.le_of_ble_eq_true rfl) Try.underlying34 rfl (by kernel_rfl) rfl (Taken.yes rfl rfl hg2)) rfl rfl ?_
   refine WH.val (O.neAgg (ls := (spV (fldS x))) (ms := (spV x)) (r := (!decide (fldS x = x))) (.inr rfl) (.inr rfl) (by kernel_rfl) (by kernel_rfl) (by kernel_rfl) (by kernel_rfl) (by rw [eqSp]) rfl (Taken.yes rfl rfl hg2)) rfl rfl ?_
   refine WH.val (O.pick_f rfl hg2 rfl rfl Taken.no) rfl rfl ?_
   refine WH.nil (E.to ?_)
   first | refine W.cond_d rfl (fun hc3 => ?_) (fun hc3 => ?_) | refine W.cond_nd rfl (fun hc3 => ?_) (fun hc3 => ?_) | refine W.cond rfl (fun hc3 => ?_) (fun hc3 => ?_)
   ·skip
    have hdo : ¬ doOk s x := fun z => by have := z.2.2; simp_all
    refine W.rg ?_
    refine SL.val (O.build (res := [_, _, _]) (z := .agg #[.int .i64 0, .slice none 0 0, .slice none 0 0]) (places := [(0, 1), (1, 1), (2, 1)]) rfl rfl Try.underlying28 (by kernel_rfl) (fun _ => by kernel_rfl) rfl rfl Taken.no) ?_
    refine SL.effS (O.st_ref (m := 3) rfl rfl rfl (js := [_, _, _]) rfl rfl (by kernel_rfl) (by simp) (Nat.le_of_ble_eq_true rfl) rfl (is' := [_, _, _]) rfl Taken.no) (S' := (103, _) :: _) rfl ?_
    refine SL.an rfl rfl (E.fo (W.ret (E.thr ?_)))
    refine E.nilslC 103 1 8 (is' := [_, _, _]) rfl rfl rfl ?_
    refine E.nilslC 103 2 2 (is' := [_, _, _]) rfl rfl rfl ?_
    refine E.fin (rs := [_, _]) (rn []) (.inl rfl) rfl (.cons (ResOne.cellN (m := 3) (PtI.ref rfl rfl) (js := [_, _, _]) rfl (Nat.le_of_ble_eq_true rfl) Try.underlying28 rfl (by kernel_rfl)) (.cons (ResOne.tmp rfl) .nil)) ?_ ?_ rfl (fixL_spec rfl)
    ·skip
     rw [(do_arg hdo).1, (do_arg hdo).2]; rfl
    · exact SubS.nil
   have hdo : doOk s x := ⟨by first | assumption | simp_all, by first | assumption | simp_all, by first | assumption | simp_all⟩
   have hv := hdo.1
   have hok := valid_ok hv
   have hk18 : 1 ≤ x.kind ∧ x.kind ≤ 8 := hdo.2.1
   refine W.skip (E.to (W.rg ?_))
   refine SL.val (O.buildA (m := 1) (res := [_, _, _, _, _, _, _, _, _]) (z := .agg #[.nilFunc, .nilFunc, .nilFunc, .nilFunc, .nilFunc, .nilFunc, .nilFunc, .nilFunc, .nilFunc]) rfl rfl Try.underlying61 (by kernel_rfl) hi58 hs58 rfl rfl Taken.no) ?_
   refine SL.memS (O.alloc (z := .agg #[.nilFunc, .nilFunc, .nilFunc, .nilFunc, .nilFunc, .nilFunc, .nilFunc, .nilFunc, .nilFunc]) (is := [.u (.sc (.nilFunc)), .u (.sc (.nilFunc)), .u (.sc (.nilFunc)), .u (.sc (.nilFunc)), .u (.sc (.nilFunc)), .u (.sc (.nilFunc)), .u (.sc (.nilFunc)), .u (.sc (.nilFunc)), .u (.sc (.nilFunc))]) 104 (by kernel_rfl) rfl rfl rfl Taken.no) rfl rfl (S' := (104, _) :: _) rfl ?_
   refine SL.effS (O.st_ref (m := 9) rfl rfl rfl (js := [_, _, _, _, _, _, _, _, _]) rfl rfl (by kernel_rfl) (by simp) (Nat.le_of_ble_eq_true rfl) rfl (is' := [_, _, _, _, _, _, _, _, _]) rfl Taken.no) (S' := (104, _) :: _) rfl ?_
   refine E.fo (W.rg ?_)
   refine SL.val (O.ldN (m := 3) (PtI.ref rfl rfl) (js := [_, _, _]) rfl (Nat.le_of_ble_eq_true rfl) Try.underlying28 rfl (by kernel_rfl) rfl Taken.no) ?_
   refine SL.memS (O.call (rn [(0, 105), (1, 106)]) [] rfl rfl rfl (cloned_h (s := s) (by have := hv.2.1; omega) (by have := hok.2.1; omega) (fun l hl => by have := hok.2.2 l hl; omega)) (.cons (ArgOk.aggU (.cons (ArgOk.same rfl) (.cons (ArgOk.same rfl) (.cons (ArgOk.same rfl) .nil)))) .nil) SubS.nil rfl rfl rfl rfl rfl (.inl rfl) hcallOk27 (r' := .agg [.u _, .own 105, .own 106]) rfl rfl Taken.no) rfl rfl (S' := (105, .data _ _ _) :: (106, .data _ _ _) :: _) rfl ?_
   refine SL.memS (O.alloc (z := .agg #[.int .i64 0, .slice none 0 0, .slice none 0 0]) (is := [.u (.sc (.int .i64 0)), .u (.sc (.slice none 0 0)), .u (.sc (.slice none 0 0))]) 107 (by kernel_rfl) rfl rfl rfl Taken.no) rfl rfl (S' := (107, _) :: _) rfl ?_
   refine SL.effS (O.st_ref (m := 3) rfl rfl rfl (js := [_, _, _]) rfl rfl (by kernel_rfl) (by simp) (Nat.le_of_ble_eq_true rfl) rfl (is' := [_, _, _]) rfl Taken.no) (S' := (107, _) :: _) rfl ?_
   refine E.fo ?_
   refine W.pick (K:=[(3,_),(4,_),(5,_),(6,_),(7,_)]) (Z:=[(101,_),(102,_),(103,_),(104,_),(105,_),(106,_),(107,_)]) ⟨rfl,rfl,rfl,rfl,rfl,trivial⟩ ⟨rfl,rfl,rfl,rfl,rfl,rfl,rfl,trivial⟩ ?_
   refine W.seq (W.seq ?_)
   rcases (show x.kind = 1 ∨ x.kind = 2 ∨ x.kind = 3 ∨ x.kind = 4 ∨ x.kind = 5 ∨ x.kind = 6 ∨ x.kind = 7 ∨ x.kind = 8 by omega) with hk | hk | hk | hk | hk | hk | hk | hk
   ·skip
    have hse : stE s x = addE s x := (stS_1 hk).2
    have hss : stS s x = addS s x := (stS_1 hk).1
    refine W.draw [⟨[], [], [], [102]⟩, ⟨[102], [], [], []⟩, ⟨[], [], [], [104]⟩, ⟨[104], [], [], []⟩, ⟨[102], [], [], []⟩, ⟨[105, 106, 107, 108, 109], [105, 106, 107, 108, 109], [108, 109], []⟩, ⟨[], [], [], []⟩] rfl (by kernel_rfl) (by kernel_rfl) rfl rfl ?_
    refine WH.val (O.fld_ref (o' := 0) rfl Try.underlying34 rfl (m := 0) (by kernel_rfl) rfl rfl Taken.no) rfl rfl ?_
    refine WH.val (O.ld1 (PtI.ref rfl rfl) rfl Try.underlying3 rfl rfl Taken.no) rfl rfl ?_
    refine WH.val (O.idx_ref (i := 1) (m := 1) rfl rfl (by omega) (by decide) Try.underlying61 (by kernel_rfl) rfl rfl Taken.no) rfl rfl ?_
    refine WH.val (O.ld1 (PtI.ref rfl rfl) rfl Try.underlying58 rfl rfl Taken.no) rfl rfl ?_
    refine WH.val (O.ldN (m := 8) (PtI.ref rfl rfl) (js := [_, _, _, _, _, _, _, _]) rfl (Nat.le_of_ble_eq_true rfl) Try.underlying34 rfl (by kernel_rfl) rfl Taken.no) rfl rfl ?_
    refine WH.memS (O.call (rn [(0, 107), (1, 105), (2, 106), (3, 109), (4, 108)]) [] rfl rfl rfl (add_m hdo.1) (.cons (ArgOk.same rfl) (.cons (ArgOk.aggU (.cons (ArgOk.same rfl) (.cons (ArgOk.same rfl) (.cons (ArgOk.same rfl) (.cons (ArgOk.same rfl) (.cons (ArgOk.same rfl) (.cons (ArgOk.same rfl) (.cons (ArgOk.same rfl) (.cons (ArgOk.same rfl) .nil))))))))) .nil)) (SubS.cons rfl (SubS.cons rfl (SubS.cons rfl SubS.nil))) rfl rfl rfl rfl rfl (.inl rfl) hcallOk19 (r' := .u _) rfl rfl Taken.no) rfl rfl rfl rfl rfl (S' := (107, .cells _ [.u _, .own 108, .own 109]) :: (108, .data _ _ _) :: (109, .data _ _ _) :: (105, .dead) :: (106, .dead) :: _) rfl ?_
    refine WH.val (O.assign rfl rfl Taken.no) rfl rfl ?_
    refine WH.nil (E.to (W.rg (SL.mv rfl rfl ?_)))
    refine SL.val (O.det (fun _ => G.R.neq rfl rfl) rfl Taken.no) ?_
    refine E.fo ?_
    first | refine W.cond_d rfl (fun hc4 => ?_) (fun hc4 => ?_) | refine W.cond_nd rfl (fun hc4 => ?_) (fun hc4 => ?_) | refine W.cond rfl (fun hc4 => ?_) (fun hc4 => ?_)
    ·skip
     have hne : ¬ stE s x = 0 := by rw [hse]; first | assumption | omega
     refine W.rg ?_
     refine SL.val (O.build (res := [_, _, _]) (z := .agg #[.int .i64 0, .slice none 0 0, .slice none 0 0]) (places := [(0, 1), (1, 1), (2, 1)]) rfl rfl Try.underlying28 (by kernel_rfl) (fun _ => by kernel_rfl) rfl rfl Taken.no) ?_
     refine SL.mv rfl rfl ?_
     refine SL.effS (O.st_ref (m := 3) rfl rfl rfl (js := [_, _, _]) rfl rfl (by kernel_rfl) (by simp) (Nat.le_of_ble_eq_true rfl) rfl (is' := [_, _, _]) rfl Taken.no) (S' := (103, _) :: _) rfl ?_
     refine SL.an rfl rfl (E.fo (W.ret (E.thr ?_)))
     refine E.nilslC 103 1 8 (is' := [_, _, _]) rfl rfl rfl ?_
     refine E.nilslC 103 2 2 (is' := [_, _, _]) rfl rfl rfl ?_
     refine E.fin (rs := [_, _]) (rn []) (.inl rfl) rfl (.cons (ResOne.cellN (m := 3) (PtI.ref rfl rfl) (js := [_, _, _]) rfl (Nat.le_of_ble_eq_true rfl) Try.underlying28 rfl (by kernel_rfl)) (.cons (ResOne.tmp rfl) .nil)) ?_ ?_ rfl (fixL_spec rfl)
     ·skip
      first | (rw [(do_bad hdo hne).1, (do_bad hdo hne).2, hse]; rfl) | (rw [(do_good hdo hz).1, (do_good hdo hz).2, hss]; rfl)
     · exact SubS.nil
    have hz : stE s x = 0 := by rw [hse]; first | assumption | omega
    refine W.skip (E.to (W.rg ?_))
    refine SL.val (O.ldN (m := 3) (PtI.ref rfl rfl) (js := [_, _, _]) rfl (Nat.le_of_ble_eq_true rfl) Try.underlying28 rfl (by kernel_rfl) rfl Taken.no) ?_
    refine SL.effS (O.st_ref (m := 3) rfl rfl rfl (js := [_, _, _]) rfl rfl (by kernel_rfl) (by simp) (Nat.le_of_ble_eq_true rfl) rfl (is' := [_, _, _]) rfl Taken.no) (S' := (103, _) :: _) rfl ?_
    refine SL.an rfl rfl (E.fo (W.ret ?_))
    refine E.freezeC 103 1 108 (is' := [_, _, _]) rfl rfl rfl rfl ?_
    refine E.freezeC 103 2 109 (is' := [_, _, _]) rfl rfl rfl rfl ?_
    refine E.fin (rs := [_, _]) (rn []) (.inl rfl) rfl (.cons (ResOne.cellN (m := 3) (PtI.ref rfl rfl) (js := [_, _, _]) rfl (Nat.le_of_ble_eq_true rfl) Try.underlying28 rfl (by kernel_rfl)) (.cons (ResOne.tmp rfl) .nil)) ?_ ?_ rfl (fixL_spec rfl)
    ·skip
     first | (rw [(do_bad hdo hne).1, (do_bad hdo hne).2, hse]; rfl) | (rw [(do_good hdo hz).1, (do_good hdo hz).2, hss]; rfl)
    · exact SubS.nil
   ·skip
    have hse : stE s x = remE s x := (stS_2 hk).2
    have hss : stS s x = remS s x := (stS_2 hk).1
    refine W.draw [⟨[], [], [], [102]⟩, ⟨[102], [], [], []⟩, ⟨[], [], [], [104]⟩, ⟨[104], [], [], []⟩, ⟨[102], [], [], []⟩, ⟨[105, 106, 107, 110, 111], [105, 106, 107, 110, 111], [110, 111], []⟩, ⟨[], [], [], []⟩] rfl (by kernel_rfl) (by kernel_rfl) rfl rfl ?_
    refine WH.val (O.fld_ref (o' := 0) rfl Try.underlying34 rfl (m := 0) (by kernel_rfl) rfl rfl Taken.no) rfl rfl ?_
    refine WH.val (O.ld1 (PtI.ref rfl rfl) rfl Try.underlying3 rfl rfl Taken.no) rfl rfl ?_
    refine WH.val (O.idx_ref (i := 2) (m := 1) rfl rfl (by omega) (by decide) Try.underlying61 (by kernel_rfl) rfl rfl Taken.no) rfl rfl ?_
    refine WH.val (O.ld1 (PtI.ref rfl rfl) rfl Try.underlying58 rfl rfl Taken.no) rfl rfl ?_
    refine WH.val (O.ldN (m := 8) (PtI.ref rfl rfl) (js := [_, _, _, _, _, _, _, _]) rfl (Nat.le_of_ble_eq_true rfl) Try.underlying34 rfl (by kernel_rfl) rfl Taken.no) rfl rfl ?_
    refine WH.memS (O.call (rn [(0, 107), (1, 105), (2, 106), (3, 111), (4, 110)]) [] rfl rfl rfl (remove_m hdo.1) (.cons (ArgOk.same rfl) (.cons (ArgOk.aggU (.cons (ArgOk.same rfl) (.cons (ArgOk.same rfl) (.cons (ArgOk.same rfl) (.cons (ArgOk.same rfl) (.cons (ArgOk.same rfl) (.cons (ArgOk.same rfl) (.cons (ArgOk.same rfl) (.cons (ArgOk.same rfl) .nil))))))))) .nil)) (SubS.cons rfl (SubS.cons rfl (SubS.cons rfl SubS.nil))) rfl rfl rfl rfl rfl (.inl rfl) hcallOk20 (r' := .u _) rfl rfl Taken.no) rfl rfl rfl rfl rfl (S' := (107, .cells _ [.u _, .own 110, .own 111]) :: (110, .data _ _ _) :: (111, .data _ _ _) :: (105, .dead) :: (106, .dead) :: _) rfl ?_
    refine WH.val (O.assign rfl rfl Taken.no) rfl rfl ?_
    refine WH.nil (E.to (W.rg (SL.mv rfl rfl ?_)))
    refine SL.val (O.det (fun _ => G.R.neq rfl rfl) rfl Taken.no) ?_
    refine E.fo ?_
    first | refine W.cond_d rfl (fun hc5 => ?_) (fun hc5 => ?_) | refine W.cond_nd rfl (fun hc5 => ?_) (fun hc5 => ?_) | refine W.cond rfl (fun hc5 => ?_) (fun hc5 => ?_)
    ·skip
     have hne : ¬ stE s x = 0 := by rw [hse]; first | assumption | omega
     refine W.rg ?_
     refine SL.val (O.build (res := [_, _, _]) (z := .agg #[.int .i64 0, .slice none 0 0, .slice none 0 0]) (places := [(0, 1), (1, 1), (2, 1)]) rfl rfl Try.underlying28 (by kernel_rfl) (fun _ => by kernel_rfl) rfl rfl Taken.no) ?_
     refine SL.mv rfl rfl ?_
     refine SL.effS (O.st_ref (m := 3) rfl rfl rfl (js := [_, _, _]) rfl rfl (by kernel_rfl) (by simp) (Nat.le_of_ble_eq_true rfl) rfl (is' := [_, _, _]) rfl Taken.no) (S' := (103, _) :: _) rfl ?_
     refine SL.an rfl rfl (E.fo (W.ret (E.thr ?_)))
     refine E.nilslC 103 1 8 (is' := [_, _, _]) rfl rfl rfl ?_
     refine E.nilslC 103 2 2 (is' := [_, _, _]) rfl rfl rfl ?_
     refine E.fin (rs := [_, _]) (rn []) (.inl rfl) rfl (.cons (ResOne.cellN (m := 3) (PtI.ref rfl rfl) (js := [_, _, _]) rfl (Nat.le_of_ble_eq_true rfl) Try.underlying28 rfl (by kernel_rfl)) (.cons (ResOne.tmp rfl) .nil)) ?_ ?_ rfl (fixL_spec rfl)
     ·skip
      first | (rw [(do_bad hdo hne).1, (do_bad hdo hne).2, hse]; rfl) | (rw [(do_good hdo hz).1, (do_good hdo hz).2, hss]; rfl)
     · exact SubS.nil
    have hz : stE s x = 0 := by rw [hse]; first | assumption | omega
    refine W.skip (E.to (W.rg ?_))
    refine SL.val (O.ldN (m := 3) (PtI.ref rfl rfl) (js := [_, _, _]) rfl (Nat.le_of_ble_eq_true rfl) Try.underlying28 rfl (by kernel_rfl) rfl Taken.no) ?_
    refine SL.effS (O.st_ref (m := 3) rfl rfl rfl (js := [_, _, _]) rfl rfl (by kernel_rfl) (by simp) (Nat.le_of_ble_eq_true rfl) rfl (is' := [_, _, _]) rfl Taken.no) (S' := (103, _) :: _) rfl ?_
    refine SL.an rfl rfl (E.fo (W.ret ?_))
    refine E.freezeC 103 1 110 (is' := [_, _, _]) rfl rfl rfl rfl ?_
    refine E.freezeC 103 2 111 (is' := [_, _, _]) rfl rfl rfl rfl ?_
    refine E.fin (rs := [_, _]) (rn []) (.inl rfl) rfl (.cons (ResOne.cellN (m := 3) (PtI.ref rfl rfl) (js := [_, _, _]) rfl (Nat.le_of_ble_eq_true rfl) Try.underlying28 rfl (by kernel_rfl)) (.cons (ResOne.tmp rfl) .nil)) ?_ ?_ rfl (fixL_spec rfl)
    ·skip
     first | (rw [(do_bad hdo hne).1, (do_bad hdo hne).2, hse]; rfl) | (rw [(do_good hdo hz).1, (do_good hdo hz).2, hss]; rfl)
    · exact SubS.nil
   ·skip
    have hse : stE s x = lenE s x := (stS_3 hk).2
    have hss : stS s x = lenS s x := (stS_3 hk).1
    refine W.draw [⟨[], [], [], [102]⟩, ⟨[102], [], [], []⟩, ⟨[], [], [], [104]⟩, ⟨[104], [], [], []⟩, ⟨[102], [], [], []⟩, ⟨[105, 106, 107, 112, 113], [105, 106, 107, 112, 113], [112, 113], []⟩, ⟨[], [], [], []⟩] rfl (by kernel_rfl) (by kernel_rfl) rfl rfl ?_
    refine WH.val (O.fld_ref (o' := 0) rfl Try.underlying34 rfl (m := 0) (by kernel_rfl) rfl rfl Taken.no) rfl rfl ?_
    refine WH.val (O.ld1 (PtI.ref rfl rfl) rfl Try.underlying3 rfl rfl Taken.no) rfl rfl ?_
    refine WH.val (O.idx_ref (i := 3) (m := 1) rfl rfl (by omega) (by decide) Try.underlying61 (by kernel_rfl) rfl rfl Taken.no) rfl rfl ?_
    refine WH.val (O.ld1 (PtI.ref rfl rfl) rfl Try.underlying58 rfl rfl Taken.no) rfl rfl ?_
    refine WH.val (O.ldN (m := 8) (PtI.ref rfl rfl) (js := [_, _, _, _, _, _, _, _]) rfl (Nat.le_of_ble_eq_true rfl) Try.underlying34 rfl (by kernel_rfl) rfl Taken.no) rfl rfl ?_
    refine WH.memS (O.call (rn [(0, 107), (1, 105), (2, 106), (3, 113), (4, 112)]) [] rfl rfl rfl (lend_m hdo.1) (.cons (ArgOk.same rfl) (.cons (ArgOk.aggU (.cons (ArgOk.same rfl) (.cons (ArgOk.same rfl) (.cons (ArgOk.same rfl) (.cons (ArgOk.same rfl) (.cons (ArgOk.same rfl) (.cons (ArgOk.same rfl) (.cons (ArgOk.same rfl) (.cons (ArgOk.same rfl) .nil))))))))) .nil)) (SubS.cons rfl (SubS.cons rfl (SubS.cons rfl SubS.nil))) rfl rfl rfl rfl rfl (.inl rfl) hcallOk21 (r' := .u _) rfl rfl Taken.no) rfl rfl rfl rfl rfl (S' := (107, .cells _ [.u _, .own 112, .own 113]) :: (112, .data _ _ _) :: (113, .data _ _ _) :: (105, .dead) :: (106, .dead) :: _) rfl ?_
    refine WH.val (O.assign rfl rfl Taken.no) rfl rfl ?_
    refine WH.nil (E.to (W.rg (SL.mv rfl rfl ?_)))
    refine SL.val (O.det (fun _ => G.R.neq rfl rfl) rfl Taken.no) ?_
    refine E.fo ?_
    first | refine W.cond_d rfl (fun hc6 => ?_) (fun hc6 => ?_) | refine W.cond_nd rfl (fun hc6 => ?_) (fun hc6 => ?_) | refine W.cond rfl (fun hc6 => ?_) (fun hc6 => ?_)
    ·skip
     have hne : ¬ stE s x = 0 := by rw [hse]; first | assumption | omega
     refine W.rg ?_
     refine SL.val (O.build (res := [_, _, _]) (z := .agg #[.int .i64 0, .slice none 0 0, .slice none 0 0]) (places := [(0, 1), (1, 1), (2, 1)]) rfl rfl Try.underlying28 (by kernel_rfl) (fun _ => by kernel_rfl) rfl rfl Taken.no) ?_
     refine SL.mv rfl rfl ?_
     refine SL.effS (O.st_ref (m := 3) rfl rfl rfl (js := [_, _, _]) rfl rfl (by kernel_rfl) (by simp) (Nat.le_of_ble_eq_true rfl) rfl (is' := [_, _, _]) rfl Taken.no) (S' := (103, _) :: _) rfl ?_
     refine SL.an rfl rfl (E.fo (W.ret (E.thr ?_)))
     refine E.nilslC 103 1 8 (is' := [_, _, _]) rfl rfl rfl ?_
     refine E.nilslC 103 2 2 (is' := [_, _, _]) rfl rfl rfl ?_
     refine E.fin (rs := [_, _]) (rn []) (.inl rfl) rfl (.cons (ResOne.cellN (m := 3) (PtI.ref rfl rfl) (js := [_, _, _]) rfl (Nat.le_of_ble_eq_true rfl) Try.underlying28 rfl (by kernel_rfl)) (.cons (ResOne.tmp rfl) .nil)) ?_ ?_ rfl (fixL_spec rfl)
     ·skip
      first | (rw [(do_bad hdo hne).1, (do_bad hdo hne).2, hse]; rfl) | (rw [(do_good hdo hz).1, (do_good hdo hz).2, hss]; rfl)
     · exact SubS.nil
    have hz : stE s x = 0 := by rw [hse]; first | assumption | omega
    refine W.skip (E.to (W.rg ?_))
    refine SL.val (O.ldN (m := 3) (PtI.ref rfl rfl) (js := [_, _, _]) rfl (Nat.le_of_ble_eq_true rfl) Try.underlying28 rfl (by kernel_rfl) rfl Taken.no) ?_
    refine SL.effS (O.st_ref (m := 3) rfl rfl rfl (js := [_, _, _]) rfl rfl (by kernel_rfl) (by simp) (Nat.le_of_ble_eq_true rfl) rfl (is' := [_, _, _]) rfl Taken.no) (S' := (103, _) :: _) rfl ?_
    refine SL.an rfl rfl (E.fo (W.ret ?_))
    refine E.freezeC 103 1 112 (is' := [_, _, _]) rfl rfl rfl rfl ?_
    refine E.freezeC 103 2 113 (is' := [_, _, _]) rfl rfl rfl rfl ?_
    refine E.fin (rs := [_, _]) (rn []) (.inl rfl) rfl (.cons (ResOne.cellN (m := 3) (PtI.ref rfl rfl) (js := [_, _, _]) rfl (Nat.le_of_ble_eq_true rfl) Try.underlying28 rfl (by kernel_rfl)) (.cons (ResOne.tmp rfl) .nil)) ?_ ?_ rfl (fixL_spec rfl)
    ·skip
     first | (rw [(do_bad hdo hne).1, (do_bad hdo hne).2, hse]; rfl) | (rw [(do_good hdo hz).1, (do_good hdo hz).2, hss]; rfl)
    · exact SubS.nil
   ·skip
    have hse : stE s x = bakE s x := (stS_4 hk).2
    have hss : stS s x = bakS s x := (stS_4 hk).1
    refine W.draw [⟨[], [], [], [102]⟩, ⟨[102], [], [], []⟩, ⟨[], [], [], [104]⟩, ⟨[104], [], [], []⟩, ⟨[102], [], [], []⟩, ⟨[105, 106, 107, 114, 115], [105, 106, 107, 114, 115], [114, 115], []⟩, ⟨[], [], [], []⟩] rfl (by kernel_rfl) (by kernel_rfl) rfl rfl ?_
    refine WH.val (O.fld_ref (o' := 0) rfl Try.underlying34 rfl (m := 0) (by kernel_rfl) rfl rfl Taken.no) rfl rfl ?_
    refine WH.val (O.ld1 (PtI.ref rfl rfl) rfl Try.underlying3 rfl rfl Taken.no) rfl rfl ?_
    refine WH.val (O.idx_ref (i := 4) (m := 1) rfl rfl (by omega) (by decide) Try.underlying61 (by kernel_rfl) rfl rfl Taken.no) rfl rfl ?_
    refine WH.val (O.ld1 (PtI.ref rfl rfl) rfl Try.underlying58 rfl rfl Taken.no) rfl rfl ?_
    refine WH.val (O.ldN (m := 8) (PtI.ref rfl rfl) (js := [_, _, _, _, _, _, _, _]) rfl (Nat.le_of_ble_eq_true rfl) Try.underlying34 rfl (by kernel_rfl) rfl Taken.no) rfl rfl ?_
    refine WH.memS (O.call (rn [(0, 107), (1, 105), (2, 106), (3, 115), (4, 114)]) [] rfl rfl rfl (giveBack_m hdo.1) (.cons (ArgOk.same rfl) (.cons (ArgOk.aggU (.cons (ArgOk.same rfl) (.cons (ArgOk.same rfl) (.cons (ArgOk.same rfl) (.cons (ArgOk.same rfl) (.cons (ArgOk.same rfl) (.cons (ArgOk.same rfl) (.cons (ArgOk.same rfl) (.cons (ArgOk.same rfl) .nil))))))))) .nil)) (SubS.cons rfl (SubS.cons rfl (SubS.cons rfl SubS.nil))) rfl rfl rfl rfl rfl (.inl rfl) hcallOk22 (r' := .u _) rfl rfl Taken.no) rfl rfl rfl rfl rfl (S' := (107, .cells _ [.u _, .own 114, .own 115]) :: (114, .data _ _ _) :: (115, .data _ _ _) :: (105, .dead) :: (106, .dead) :: _) rfl ?_
    refine WH.val (O.assign rfl rfl Taken.no) rfl rfl ?_
    refine WH.nil (E.to (W.rg (SL.mv rfl rfl ?_)))
    refine SL.val (O.det (fun _ => G.R.neq rfl rfl) rfl Taken.no) ?_
    refine E.fo ?_
    first | refine W.cond_d rfl (fun hc7 => ?_) (fun hc7 => ?_) | refine W.cond_nd rfl (fun hc7 => ?_) (fun hc7 => ?_) | refine W.cond rfl (fun hc7 => ?_) (fun hc7 => ?_)
    ·skip
     have hne : ¬ stE s x = 0 := by rw [hse]; first | assumption | omega
     refine W.rg ?_
     refine SL.val (O.build (res := [_, _, _]) (z := .agg #[.int .i64 0, .slice none 0 0, .slice none 0 0]) (places := [(0, 1), (1, 1), (2, 1)]) rfl rfl Try.underlying28 (by kernel_rfl) (fun _ => by kernel_rfl) rfl rfl Taken.no) ?_
     refine SL.mv rfl rfl ?_
     refine SL.effS (O.st_ref (m := 3) rfl rfl rfl (js := [_, _, _]) rfl rfl (by kernel_rfl) (by simp) (Nat.le_of_ble_eq_true rfl) rfl (is' := [_, _, _]) rfl Taken.no) (S' := (103, _) :: _) rfl ?_
     refine SL.an rfl rfl (E.fo (W.ret (E.thr ?_)))
     refine E.nilslC 103 1 8 (is' := [_, _, _]) rfl rfl rfl ?_
     refine E.nilslC 103 2 2 (is' := [_, _, _]) rfl rfl rfl ?_
     refine E.fin (rs := [_, _]) (rn []) (.inl rfl) rfl (.cons (ResOne.cellN (m := 3) (PtI.ref rfl rfl) (js := [_, _, _]) rfl (Nat.le_of_ble_eq_true rfl) Try.underlying28 rfl (by kernel_rfl)) (.cons (ResOne.tmp rfl) .nil)) ?_ ?_ rfl (fixL_spec rfl)
     ·skip
      first | (rw [(do_bad hdo hne).1, (do_bad hdo hne).2, hse]; rfl) | (rw [(do_good hdo hz).1, (do_good hdo hz).2, hss]; rfl)
     · exact SubS.nil
    have hz : stE s x = 0 := by rw [hse]; first | assumption | omega
    refine W.skip (E.to (W.rg ?_))
    refine SL.val (O.ldN (m := 3) (PtI.ref rfl rfl) (js := [_, _, _]) rfl (Nat.le_of_ble_eq_true rfl) Try.underlying28 rfl (by kernel_rfl) rfl Taken.no) ?_
    refine SL.effS (O.st_ref (m := 3) rfl rfl rfl (js := [_, _, _]) rfl rfl (by kernel_rfl) (by simp) (Nat.le_of_ble_eq_true rfl) rfl (is' := [_, _, _]) rfl Taken.no) (S' := (103, _) :: _) rfl ?_
    refine SL.an rfl rfl (E.fo (W.ret ?_))
    refine E.freezeC 103 1 114 (is' := [_, _, _]) rfl rfl rfl rfl ?_
    refine E.freezeC 103 2 115 (is' := [_, _, _]) rfl rfl rfl rfl ?_
    refine E.fin (rs := [_, _]) (rn []) (.inl rfl) rfl (.cons (ResOne.cellN (m := 3) (PtI.ref rfl rfl) (js := [_, _, _]) rfl (Nat.le_of_ble_eq_true rfl) Try.underlying28 rfl (by kernel_rfl)) (.cons (ResOne.tmp rfl) .nil)) ?_ ?_ rfl (fixL_spec rfl)
    ·skip
     first | (rw [(do_bad hdo hne).1, (do_bad hdo hne).2, hse]; rfl) | (rw [(do_good hdo hz).1, (do_good hdo hz).2, hss]; rfl)
    · exact SubS.nil
   ·skip
    have hse : stE s x = renE s x := (stS_5 hk).2
    have hss : stS s x = renS s x := (stS_5 hk).1
    refine W.draw [⟨[], [], [], [102]⟩, ⟨[102], [], [], []⟩, ⟨[], [], [], [104]⟩, ⟨[104], [], [], []⟩, ⟨[102], [], [], []⟩, ⟨[105, 106, 107, 116, 117], [105, 106, 107, 116, 117], [116, 117], []⟩, ⟨[], [], [], []⟩] rfl (by kernel_rfl) (by kernel_rfl) rfl rfl ?_
    refine WH.val (O.fld_ref (o' := 0) rfl Try.underlying34 rfl (m := 0) (by kernel_rfl) rfl rfl Taken.no) rfl rfl ?_
    refine WH.val (O.ld1 (PtI.ref rfl rfl) rfl Try.underlying3 rfl rfl Taken.no) rfl rfl ?_
    refine WH.val (O.idx_ref (i := 5) (m := 1) rfl rfl (by omega) (by decide) Try.underlying61 (by kernel_rfl) rfl rfl Taken.no) rfl rfl ?_
    refine WH.val (O.ld1 (PtI.ref rfl rfl) rfl Try.underlying58 rfl rfl Taken.no) rfl rfl ?_
    refine WH.val (O.ldN (m := 8) (PtI.ref rfl rfl) (js := [_, _, _, _, _, _, _, _]) rfl (Nat.le_of_ble_eq_true rfl) Try.underlying34 rfl (by kernel_rfl) rfl Taken.no) rfl rfl ?_
    refine WH.memS (O.call (rn [(0, 107), (1, 105), (2, 106), (3, 117), (4, 116)]) [] rfl rfl rfl (renew_m hdo.1) (.cons (ArgOk.same rfl) (.cons (ArgOk.aggU (.cons (ArgOk.same rfl) (.cons (ArgOk.same rfl) (.cons (ArgOk.same rfl) (.cons (ArgOk.same rfl) (.cons (ArgOk.same rfl) (.cons (ArgOk.same rfl) (.cons (ArgOk.same rfl) (.cons (ArgOk.same rfl) .nil))))))))) .nil)) (SubS.cons rfl (SubS.cons rfl (SubS.cons rfl SubS.nil))) rfl rfl rfl rfl rfl (.inl rfl) hcallOk23 (r' := .u _) rfl rfl Taken.no) rfl rfl rfl rfl rfl (S' := (107, .cells _ [.u _, .own 116, .own 117]) :: (116, .data _ _ _) :: (117, .data _ _ _) :: (105, .dead) :: (106, .dead) :: _) rfl ?_
    refine WH.val (O.assign rfl rfl Taken.no) rfl rfl ?_
    refine WH.nil (E.to (W.rg (SL.mv rfl rfl ?_)))
    refine SL.val (O.det (fun _ => G.R.neq rfl rfl) rfl Taken.no) ?_
    refine E.fo ?_
    first | refine W.cond_d rfl (fun hc8 => ?_) (fun hc8 => ?_) | refine W.cond_nd rfl (fun hc8 => ?_) (fun hc8 => ?_) | refine W.cond rfl (fun hc8 => ?_) (fun hc8 => ?_)
    ·skip
     have hne : ¬ stE s x = 0 := by rw [hse]; first | assumption | omega
     refine W.rg ?_
     refine SL.val (O.build (res := [_, _, _]) (z := .agg #[.int .i64 0, .slice none 0 0, .slice none 0 0]) (places := [(0, 1), (1, 1), (2, 1)]) rfl rfl Try.underlying28 (by kernel_rfl) (fun _ => by kernel_rfl) rfl rfl Taken.no) ?_
     refine SL.mv rfl rfl ?_
     refine SL.effS (O.st_ref (m := 3) rfl rfl rfl (js := [_, _, _]) rfl rfl (by kernel_rfl) (by simp) (Nat.le_of_ble_eq_true rfl) rfl (is' := [_, _, _]) rfl Taken.no) (S' := (103, _) :: _) rfl ?_
     refine SL.an rfl rfl (E.fo (W.ret (E.thr ?_)))
     refine E.nilslC 103 1 8 (is' := [_, _, _]) rfl rfl rfl ?_
     refine E.nilslC 103 2 2 (is' := [_, _, _]) rfl rfl rfl ?_
     refine E.fin (rs := [_, _]) (rn []) (.inl rfl) rfl (.cons (ResOne.cellN (m := 3) (PtI.ref rfl rfl) (js := [_, _, _]) rfl (Nat.le_of_ble_eq_true rfl) Try.underlying28 rfl (by kernel_rfl)) (.cons (ResOne.tmp rfl) .nil)) ?_ ?_ rfl (fixL_spec rfl)
     ·skip
      first | (rw [(do_bad hdo hne).1, (do_bad hdo hne).2, hse]; rfl) | (rw [(do_good hdo hz).1, (do_good hdo hz).2, hss]; rfl)
     · exact SubS.nil
    have hz : stE s x = 0 := by rw [hse]; first | assumption | omega
    refine W.skip (E.to (W.rg ?_))
    refine SL.val (O.ldN (m := 3) (PtI.ref rfl rfl) (js := [_, _, _]) rfl (Nat.le_of_ble_eq_true rfl) Try.underlying28 rfl (by kernel_rfl) rfl Taken.no) ?_
    refine SL.effS (O.st_ref (m := 3) rfl rfl rfl (js := [_, _, _]) rfl rfl (by kernel_rfl) (by simp) (Nat.le_of_ble_eq_true rfl) rfl (is' := [_, _, _]) rfl Taken.no) (S' := (103, _) :: _) rfl ?_
    refine SL.an rfl rfl (E.fo (W.ret ?_))
    refine E.freezeC 103 1 116 (is' := [_, _, _]) rfl rfl rfl rfl ?_
    refine E.freezeC 103 2 117 (is' := [_, _, _]) rfl rfl rfl rfl ?_
    refine E.fin (rs := [_, _]) (rn []) (.inl rfl) rfl (.cons (ResOne.cellN (m := 3) (PtI.ref rfl rfl) (js := [_, _, _]) rfl (Nat.le_of_ble_eq_true rfl) Try.underlying28 rfl (by kernel_rfl)) (.cons (ResOne.tmp rfl) .nil)) ?_ ?_ rfl (fixL_spec rfl)
    ·skip
     first | (rw [(do_bad hdo hne).1, (do_bad hdo hne).2, hse]; rfl) | (rw [(do_good hdo hz).1, (do_good hdo hz).2, hss]; rfl)
    · exact SubS.nil
   ·skip
    have hse : stE s x = askE s x := (stS_6 hk).2
    have hss : stS s x = askS s x := (stS_6 hk).1
    refine W.draw [⟨[], [], [], [102]⟩, ⟨[102], [], [], []⟩, ⟨[], [], [], [104]⟩, ⟨[104], [], [], []⟩, ⟨[102], [], [], []⟩, ⟨[105, 106, 107, 118, 119], [105, 106, 107, 118, 119], [118, 119], []⟩, ⟨[], [], [], []⟩] rfl (by kernel_rfl) (by kernel_rfl) rfl rfl ?_
    refine WH.val (O.fld_ref (o' := 0) rfl Try.underlying34 rfl (m := 0) (by kernel_rfl) rfl rfl Taken.no) rfl rfl ?_
    refine WH.val (O.ld1 (PtI.ref rfl rfl) rfl Try.underlying3 rfl rfl Taken.no) rfl rfl ?_
    refine WH.val (O.idx_ref (i := 6) (m := 1) rfl rfl (by omega) (by decide) Try.underlying61 (by kernel_rfl) rfl rfl Taken.no) rfl rfl ?_
    refine WH.val (O.ld1 (PtI.ref rfl rfl) rfl Try.underlying58 rfl rfl Taken.no) rfl rfl ?_
    refine WH.val (O.ldN (m := 8) (PtI.ref rfl rfl) (js := [_, _, _, _, _, _, _, _]) rfl (Nat.le_of_ble_eq_true rfl) Try.underlying34 rfl (by kernel_rfl) rfl Taken.no) rfl rfl ?_
    refine WH.memS (O.call (rn [(0, 107), (1, 105), (2, 106), (3, 119), (4, 118)]) [] rfl rfl rfl (ask_m hdo.1) (.cons (ArgOk.same rfl) (.cons (ArgOk.aggU (.cons (ArgOk.same rfl) (.cons (ArgOk.same rfl) (.cons (ArgOk.same rfl) (.cons (ArgOk.same rfl) (.cons (ArgOk.same rfl) (.cons (ArgOk.same rfl) (.cons (ArgOk.same rfl) (.cons (ArgOk.same rfl) .nil))))))))) .nil)) (SubS.cons rfl (SubS.cons rfl (SubS.cons rfl SubS.nil))) rfl rfl rfl rfl rfl (.inl rfl) hcallOk24 (r' := .u _) rfl rfl Taken.no) rfl rfl rfl rfl rfl (S' := (107, .cells _ [.u _, .own 118, .own 119]) :: (118, .data _ _ _) :: (119, .data _ _ _) :: (105, .dead) :: (106, .dead) :: _) rfl ?_
    refine WH.val (O.assign rfl rfl Taken.no) rfl rfl ?_
    refine WH.nil (E.to (W.rg (SL.mv rfl rfl ?_)))
    refine SL.val (O.det (fun _ => G.R.neq rfl rfl) rfl Taken.no) ?_
    refine E.fo ?_
    first | refine W.cond_d rfl (fun hc9 => ?_) (fun hc9 => ?_) | refine W.cond_nd rfl (fun hc9 => ?_) (fun hc9 => ?_) | refine W.cond rfl (fun hc9 => ?_) (fun hc9 => ?_)
    ·skip
     have hne : ¬ stE s x = 0 := by rw [hse]; first | assumption | omega
     refine W.rg ?_
     refine SL.val (O.build (res := [_, _, _]) (z := .agg #[.int .i64 0, .slice none 0 0, .slice none 0 0]) (places := [(0, 1), (1, 1), (2, 1)]) rfl rfl Try.underlying28 (by kernel_rfl) (fun _ => by kernel_rfl) rfl rfl Taken.no) ?_
     refine SL.mv rfl rfl ?_
     refine SL.effS (O.st_ref (m := 3) rfl rfl rfl (js := [_, _, _]) rfl rfl (by kernel_rfl) (by simp) (Nat.le_of_ble_eq_true rfl) rfl (is' := [_, _, _]) rfl Taken.no) (S' := (103, _) :: _) rfl ?_
     refine SL.an rfl rfl (E.fo (W.ret (E.thr ?_)))
     refine E.nilslC 103 1 8 (is' := [_, _, _]) rfl rfl rfl ?_
     refine E.nilslC 103 2 2 (is' := [_, _, _]) rfl rfl rfl ?_
     refine E.fin (rs := [_, _]) (rn []) (.inl rfl) rfl (.cons (ResOne.cellN (m := 3) (PtI.ref rfl rfl) (js := [_, _, _]) rfl (Nat.le_of_ble_eq_true rfl) Try.underlying28 rfl (by kernel_rfl)) (.cons (ResOne.tmp rfl) .nil)) ?_ ?_ rfl (fixL_spec rfl)
     ·skip
      first | (rw [(do_bad hdo hne).1, (do_bad hdo hne).2, hse]; rfl) | (rw [(do_good hdo hz).1, (do_good hdo hz).2, hss]; rfl)
     · exact SubS.nil
    have hz : stE s x = 0 := by rw [hse]; first | assumption | omega
    refine W.skip (E.to (W.rg ?_))
    refine SL.val (O.ldN (m := 3) (PtI.ref rfl rfl) (js := [_, _, _]) rfl (Nat.le_of_ble_eq_true rfl) Try.underlying28 rfl (by kernel_rfl) rfl Taken.no) ?_
    refine SL.effS (O.st_ref (m := 3) rfl rfl rfl (js := [_, _, _]) rfl rfl (by kernel_rfl) (by simp) (Nat.le_of_ble_eq_true rfl) rfl (is' := [_, _, _]) rfl Taken.no) (S' := (103, _) :: _) rfl ?_
    refine SL.an rfl rfl (E.fo (W.ret ?_))
    refine E.freezeC 103 1 118 (is' := [_, _, _]) rfl rfl rfl rfl ?_
    refine E.freezeC 103 2 119 (is' := [_, _, _]) rfl rfl rfl rfl ?_
    refine E.fin (rs := [_, _]) (rn []) (.inl rfl) rfl (.cons (ResOne.cellN (m := 3) (PtI.ref rfl rfl) (js := [_, _, _]) rfl (Nat.le_of_ble_eq_true rfl) Try.underlying28 rfl (by kernel_rfl)) (.cons (ResOne.tmp rfl) .nil)) ?_ ?_ rfl (fixL_spec rfl)
    ·skip
     first | (rw [(do_bad hdo hne).1, (do_bad hdo hne).2, hse]; rfl) | (rw [(do_good hdo hz).1, (do_good hdo hz).2, hss]; rfl)
    · exact SubS.nil
   ·skip
    have hse : stE s x = clcE s x := (stS_7 hk).2
    have hss : stS s x = clcS s x := (stS_7 hk).1
    refine W.draw [⟨[], [], [], [102]⟩, ⟨[102], [], [], []⟩, ⟨[], [], [], [104]⟩, ⟨[104], [], [], []⟩, ⟨[102], [], [], []⟩, ⟨[105, 106, 107, 120, 121], [105, 106, 107, 120, 121], [120, 121], []⟩, ⟨[], [], [], []⟩] rfl (by kernel_rfl) (by kernel_rfl) rfl rfl ?_
    refine WH.val (O.fld_ref (o' := 0) rfl Try.underlying34 rfl (m := 0) (by kernel_rfl) rfl rfl Taken.no) rfl rfl ?_
    refine WH.val (O.ld1 (PtI.ref rfl rfl) rfl Try.underlying3 rfl rfl Taken.no) rfl rfl ?_
    refine WH.val (O.idx_ref (i := 7) (m := 1) rfl rfl (by omega) (by decide) Try.underlying61 (by kernel_rfl) rfl rfl Taken.no) rfl rfl ?_
    refine WH.val (O.ld1 (PtI.ref rfl rfl) rfl Try.underlying58 rfl rfl Taken.no) rfl rfl ?_
    refine WH.val (O.ldN (m := 8) (PtI.ref rfl rfl) (js := [_, _, _, _, _, _, _, _]) rfl (Nat.le_of_ble_eq_true rfl) Try.underlying34 rfl (by kernel_rfl) rfl Taken.no) rfl rfl ?_
    refine WH.memS (O.call (rn [(0, 107), (1, 105), (2, 106), (3, 121), (4, 120)]) [] rfl rfl rfl (cancel_m hdo.1) (.cons (ArgOk.same rfl) (.cons (ArgOk.aggU (.cons (ArgOk.same rfl) (.cons (ArgOk.same rfl) (.cons (ArgOk.same rfl) (.cons (ArgOk.same rfl) (.cons (ArgOk.same rfl) (.cons (ArgOk.same rfl) (.cons (ArgOk.same rfl) (.cons (ArgOk.same rfl) .nil))))))))) .nil)) (SubS.cons rfl (SubS.cons rfl (SubS.cons rfl SubS.nil))) rfl rfl rfl rfl rfl (.inl rfl) hcallOk25 (r' := .u _) rfl rfl Taken.no) rfl rfl rfl rfl rfl (S' := (107, .cells _ [.u _, .own 120, .own 121]) :: (120, .data _ _ _) :: (121, .data _ _ _) :: (105, .dead) :: (106, .dead) :: _) rfl ?_
    refine WH.val (O.assign rfl rfl Taken.no) rfl rfl ?_
    refine WH.nil (E.to (W.rg (SL.mv rfl rfl ?_)))
    refine SL.val (O.det (fun _ => G.R.neq rfl rfl) rfl Taken.no) ?_
    refine E.fo ?_
    first | refine W.cond_d rfl (fun hc10 => ?_) (fun hc10 => ?_) | refine W.cond_nd rfl (fun hc10 => ?_) (fun hc10 => ?_) | refine W.cond rfl (fun hc10 => ?_) (fun hc10 => ?_)
    ·skip
     have hne : ¬ stE s x = 0 := by rw [hse]; first | assumption | omega
     refine W.rg ?_
     refine SL.val (O.build (res := [_, _, _]) (z := .agg #[.int .i64 0, .slice none 0 0, .slice none 0 0]) (places := [(0, 1), (1, 1), (2, 1)]) rfl rfl Try.underlying28 (by kernel_rfl) (fun _ => by kernel_rfl) rfl rfl Taken.no) ?_
     refine SL.mv rfl rfl ?_
     refine SL.effS (O.st_ref (m := 3) rfl rfl rfl (js := [_, _, _]) rfl rfl (by kernel_rfl) (by simp) (Nat.le_of_ble_eq_true rfl) rfl (is' := [_, _, _]) rfl Taken.no) (S' := (103, _) :: _) rfl ?_
     refine SL.an rfl rfl (E.fo (W.ret (E.thr ?_)))
     refine E.nilslC 103 1 8 (is' := [_, _, _]) rfl rfl rfl ?_
     refine E.nilslC 103 2 2 (is' := [_, _, _]) rfl rfl rfl ?_
     refine E.fin (rs := [_, _]) (rn []) (.inl rfl) rfl (.cons (ResOne.cellN (m := 3) (PtI.ref rfl rfl) (js := [_, _, _]) rfl (Nat.le_of_ble_eq_true rfl) Try.underlying28 rfl (by kernel_rfl)) (.cons (ResOne.tmp rfl) .nil)) ?_ ?_ rfl (fixL_spec rfl)
     ·skip
      first | (rw [(do_bad hdo hne).1, (do_bad hdo hne).2, hse]; rfl) | (rw [(do_good hdo hz).1, (do_good hdo hz).2, hss]; rfl)
     · exact SubS.nil
    have hz : stE s x = 0 := by rw [hse]; first | assumption | omega
    refine W.skip (E.to (W.rg ?_))
    refine SL.val (O.ldN (m := 3) (PtI.ref rfl rfl) (js := [_, _, _]) rfl (Nat.le_of_ble_eq_true rfl) Try.underlying28 rfl (by kernel_rfl) rfl Taken.no) ?_
    refine SL.effS (O.st_ref (m := 3) rfl rfl rfl (js := [_, _, _]) rfl rfl (by kernel_rfl) (by simp) (Nat.le_of_ble_eq_true rfl) rfl (is' := [_, _, _]) rfl Taken.no) (S' := (103, _) :: _) rfl ?_
    refine SL.an rfl rfl (E.fo (W.ret ?_))
    refine E.freezeC 103 1 120 (is' := [_, _, _]) rfl rfl rfl rfl ?_
    refine E.freezeC 103 2 121 (is' := [_, _, _]) rfl rfl rfl rfl ?_
    refine E.fin (rs := [_, _]) (rn []) (.inl rfl) rfl (.cons (ResOne.cellN (m := 3) (PtI.ref rfl rfl) (js := [_, _, _]) rfl (Nat.le_of_ble_eq_true rfl) Try.underlying28 rfl (by kernel_rfl)) (.cons (ResOne.tmp rfl) .nil)) ?_ ?_ rfl (fixL_spec rfl)
    ·skip
     first | (rw [(do_bad hdo hne).1, (do_bad hdo hne).2, hse]; rfl) | (rw [(do_good hdo hz).1, (do_good hdo hz).2, hss]; rfl)
    · exact SubS.nil
   have hse : stE s x = waiE s x := (stS_8 hk).2
   have hss : stS s x = waiS s x := (stS_8 hk).1
   refine W.draw [⟨[], [], [], [102]⟩, ⟨[102], [], [], []⟩, ⟨[], [], [], [104]⟩, ⟨[104], [], [], []⟩, ⟨[102], [], [], []⟩, ⟨[105, 106, 107, 122, 123], [105, 106, 107, 122, 123], [122, 123], []⟩, ⟨[], [], [], []⟩] rfl (by kernel_rfl) (by kernel_rfl) rfl rfl ?_
   refine WH.val (O.fld_ref (o' := 0) rfl Try.underlying34 rfl (m := 0) (by kernel_rfl) rfl rfl Taken.no) rfl rfl ?_
   refine WH.val (O.ld1 (PtI.ref rfl rfl) rfl Try.underlying3 rfl rfl Taken.no) rfl rfl ?_
   refine WH.val (O.idx_ref (i := 8) (m := 1) rfl rfl (by omega) (by decide) Try.underlying61 (by kernel_rfl) rfl rfl Taken.no) rfl rfl ?_
   refine WH.val (O.ld1 (PtI.ref rfl rfl) rfl Try.underlying58 rfl rfl Taken.no) rfl rfl ?_
   refine WH.val (O.ldN (m := 8) (PtI.ref rfl rfl) (js := [_, _, _, _, _, _, _, _]) rfl (Nat.le_of_ble_eq_true rfl) Try.underlying34 rfl (by kernel_rfl) rfl Taken.no) rfl rfl ?_
   refine WH.memS (O.call (rn [(0, 107), (1, 105), (2, 106), (3, 123), (4, 122)]) [] rfl rfl rfl (wait_m hdo.1) (.cons (ArgOk.same rfl) (.cons (ArgOk.aggU (.cons (ArgOk.same rfl) (.cons (ArgOk.same rfl) (.cons (ArgOk.same rfl) (.cons (ArgOk.same rfl) (.cons (ArgOk.same rfl) (.cons (ArgOk.same rfl) (.cons (ArgOk.same rfl) (.cons (ArgOk.same rfl) .nil))))))))) .nil)) (SubS.cons rfl (SubS.cons rfl (SubS.cons rfl SubS.nil))) rfl rfl rfl rfl rfl (.inl rfl) hcallOk26 (r' := .u _) rfl rfl Taken.no) rfl rfl rfl rfl rfl (S' := (107, .cells _ [.u _, .own 122, .own 123]) :: (122, .data _ _ _) :: (123, .data _ _ _) :: (105, .dead) :: (106, .dead) :: _) rfl ?_
   refine WH.val (O.assign rfl rfl Taken.no) rfl rfl ?_
   refine WH.nil (E.to (W.rg (SL.mv rfl rfl ?_)))
   refine SL.val (O.det (fun _ => G.R.neq rfl rfl) rfl Taken.no) ?_
   refine E.fo ?_
   first | refine W.cond_d rfl (fun hc11 => ?_) (fun hc11 => ?_) | refine W.cond_nd rfl (fun hc11 => ?_) (fun hc11 => ?_) | refine W.cond rfl (fun hc11 => ?_) (fun hc11 => ?_)
   ·skip
    have hne : ¬ stE s x = 0 := by rw [hse]; first | assumption | omega
    refine W.rg ?_
    refine SL.val (O.build (res := [_, _, _]) (z := .agg #[.int .i64 0, .slice none 0 0, .slice none 0 0]) (places := [(0, 1), (1, 1), (2, 1)]) rfl rfl Try.underlying28 (by kernel_rfl) (fun _ => by kernel_rfl) rfl rfl Taken.no) ?_
    refine SL.mv rfl rfl ?_
    refine SL.effS (O.st_ref (m := 3) rfl rfl rfl (js := [_, _, _]) rfl rfl (by kernel_rfl) (by simp) (Nat.le_of_ble_eq_true rfl) rfl (is' := [_, _, _]) rfl Taken.no) (S' := (103, _) :: _) rfl ?_
    refine SL.an rfl rfl (E.fo (W.ret (E.thr ?_)))
    refine E.nilslC 103 1 8 (is' := [_, _, _]) rfl rfl rfl ?_
    refine E.nilslC 103 2 2 (is' := [_, _, _]) rfl rfl rfl ?_
    refine E.fin (rs := [_, _]) (rn []) (.inl rfl) rfl (.cons (ResOne.cellN (m := 3) (PtI.ref rfl rfl) (js := [_, _, _]) rfl (Nat.le_of_ble_eq_true rfl) Try.underlying28 rfl (by kernel_rfl)) (.cons (ResOne.tmp rfl) .nil)) ?_ ?_ rfl (fixL_spec rfl)
    ·skip
     first | (rw [(do_bad hdo hne).1, (do_bad hdo hne).2, hse]; rfl) | (rw [(do_good hdo hz).1, (do_good hdo hz).2, hss]; rfl)
    · exact SubS.nil
   have hz : stE s x = 0 := by rw [hse]; first | assumption | omega
   refine W.skip (E.to (W.rg ?_))
   refine SL.val (O.ldN (m := 3) (PtI.ref rfl rfl) (js := [_, _, _]) rfl (Nat.le_of_ble_eq_true rfl) Try.underlying28 rfl (by kernel_rfl) rfl Taken.no) ?_
   refine SL.effS (O.st_ref (m := 3) rfl rfl rfl (js := [_, _, _]) rfl rfl (by kernel_rfl) (by simp) (Nat.le_of_ble_eq_true rfl) rfl (is' := [_, _, _]) rfl Taken.no) (S' := (103, _) :: _) rfl ?_
   refine SL.an rfl rfl (E.fo (W.ret ?_))
   refine E.freezeC 103 1 122 (is' := [_, _, _]) rfl rfl rfl rfl ?_
   refine E.freezeC 103 2 123 (is' := [_, _, _]) rfl rfl rfl rfl ?_
   refine E.fin (rs := [_, _]) (rn []) (.inl rfl) rfl (.cons (ResOne.cellN (m := 3) (PtI.ref rfl rfl) (js := [_, _, _]) rfl (Nat.le_of_ble_eq_true rfl) Try.underlying28 rfl (by kernel_rfl)) (.cons (ResOne.tmp rfl) .nil)) ?_ ?_ rfl (fixL_spec rfl)
   ·skip
    first | (rw [(do_bad hdo hne).1, (do_bad hdo hne).2, hse]; rfl) | (rw [(do_good hdo hz).1, (do_good hdo hz).2, hss]; rfl)
   · exact SubS.nil
  first | have hg2p := G.gA7 hg2 | have hg2p := G.gA8 hg2 | have hg2p := hg2
  have hdo : ¬ doOk s x := fun z => by have := z.2.1; simp_all
  refine WH.sk rfl rfl rfl hg2 (WH.sk rfl rfl rfl hg2 (WH.sk rfl rfl rfl hg2 (WH.sk rfl rfl rfl hg2 ?_)))
  refine WH.val (O.pick_t rfl (G.ne_f hg2) rfl rfl Taken.no) rfl rfl ?_
  refine WH.nil (E.to ?_)
  refine W.cond_t rfl ?_
  refine W.rg ?_
  refine SL.val (O.build (res := [_, _, _]) (z := .agg #[.int .i64 0, .slice none 0 0, .slice none 0 0]) (places := [(0, 1), (1, 1), (2, 1)]) rfl rfl Try.underlying28 (by kernel_rfl) (fun _ => by kernel_rfl) rfl rfl Taken.no) ?_
  refine SL.effS (O.st_ref (m := 3) rfl rfl rfl (js := [_, _, _]) rfl rfl (by kernel_rfl) (by simp) (Nat.le_of_ble_eq_true rfl) rfl (is' := [_, _, _]) rfl Taken.no) (S' := (103, _) :: _) rfl ?_
  refine SL.an rfl rfl (E.fo (W.ret (E.thr ?_)))
  refine E.nilslC 103 1 8 (is' := [_, _, _]) rfl rfl rfl ?_
  refine E.nilslC 103 2 2 (is' := [_, _, _]) rfl rfl rfl ?_
  refine E.fin (rs := [_, _]) (rn []) (.inl rfl) rfl (.cons (ResOne.cellN (m := 3) (PtI.ref rfl rfl) (js := [_, _, _]) rfl (Nat.le_of_ble_eq_true rfl) Try.underlying28 rfl (by kernel_rfl)) (.cons (ResOne.tmp rfl) .nil)) ?_ ?_ rfl (fixL_spec rfl)
  ·skip
   rw [(do_arg hdo).1, (do_arg hdo).2]; rfl
  · exact SubS.nil
 first | have hg1p := G.gA7 hg1 | have hg1p := G.gA8 hg1 | have hg1p := hg1
 have hdo : ¬ doOk s x := fun z => by have := z.1; simp_all
 refine WH.sk rfl rfl rfl hg1 (WH.sk rfl rfl rfl hg1 (WH.sk rfl rfl rfl hg1 (WH.sk rfl rfl rfl hg1 ?_)))
 refine WH.val (O.pick_t rfl (G.ne_f hg1) rfl rfl Taken.no) rfl rfl ?_
 refine WH.mv rfl rfl rfl ?_
 have hg12 : true ≠ false := by decide
 refine WH.sk rfl rfl rfl hg12 (WH.sk rfl rfl rfl hg12 (WH.sk rfl rfl rfl hg12 (WH.sk rfl rfl rfl hg12 ?_)))
 refine WH.val (O.pick_t rfl rfl rfl rfl Taken.no) rfl rfl ?_
 refine WH.nil (E.to ?_)
 refine W.cond_t rfl ?_
 refine W.rg ?_
 refine SL.val (O.build (res := [_, _, _]) (z := .agg #[.int .i64 0, .slice none 0 0, .slice none 0 0]) (places := [(0, 1), (1, 1), (2, 1)]) rfl rfl Try.underlying28 (by kernel_rfl) (fun _ => by kernel_rfl) rfl rfl Taken.no) ?_
 refine SL.effS (O.st_ref (m := 3) rfl rfl rfl (js := [_, _, _]) rfl rfl (by kernel_rfl) (by simp) (Nat.le_of_ble_eq_true rfl) rfl (is' := [_, _, _]) rfl Taken.no) (S' := (103, _) :: _) rfl ?_
 refine SL.an rfl rfl (E.fo (W.ret (E.thr ?_)))
 refine E.nilslC 103 1 8 (is' := [_, _, _]) rfl rfl rfl ?_
 refine E.nilslC 103 2 2 (is' := [_, _, _]) rfl rfl rfl ?_
 refine E.fin (rs := [_, _]) (rn []) (.inl rfl) rfl (.cons (ResOne.cellN (m := 3) (PtI.ref rfl rfl) (js := [_, _, _]) rfl (Nat.le_of_ble_eq_true rfl) Try.underlying28 rfl (by kernel_rfl)) (.cons (ResOne.tmp rfl) .nil)) ?_ ?_ rfl (fixL_spec rfl)
 ·skip
  rw [(do_arg hdo).1, (do_arg hdo).2]; rfl
 · exact SubS.nil

set_option maxRecDepth 8000 in
theorem run_h {s : St} {l : List Sp} :
    Con Try.prog 15 [vA [uI s.now, .sl 8 (s.cps.map eCp), .sl 2 (s.lns.map eLn)], vL 8 (l.map eSp)] [] (.tup [.agg [vI ((runF s l).1).now, vL 8 (((runF s l).1).cps.map eCp), vL 2 (((runF s l).1).lns.map eLn)], vI ((runF s l).2.1 : Nat), vI (runF s l).2.2]) [] := by
 obtain ⟨i34, hi34, hz34, hs34, hb34⟩ := hinf34
 refine Con.enterL (n := 40) Try.func15 rfl rfl rfl (fun τ w ok vs hin => ?_)
 have hl0_1 := hin.lenA (i := 0) (j := 1) rfl rfl
 try rw [List.length_map] at hl0_1
 have hl0_2 := hin.lenA (i := 0) (j := 2) rfl rfl
 try rw [List.length_map] at hl0_2
 have hl1 := hin.len (i := 1) rfl
 try rw [List.length_map] at hl1
 clear hin
 refine W.rg ?_
 refine SL.memS (O.box (is := [_, _, _]) 101 rfl rfl (by simp) rfl rfl Taken.no) rfl rfl (S' := (101, _) :: _) rfl ?_
 refine SL.memS (O.alloc (z := .agg #[.int .i64 0, .slice none 0 0, .slice none 0 0]) (is := [.u (.sc (.int .i64 0)), .u (.sc (.slice none 0 0)), .u (.sc (.slice none 0 0))]) 102 (by kernel_rfl) rfl rfl rfl Taken.no) rfl rfl (S' := (102, _) :: _) rfl ?_
 refine SL.an rfl rfl (SL.an rfl rfl (E.fo (W.seq (W.rg ?_))))
 refine SL.val (O.ldN (m := 3) (PtI.ref rfl rfl) (js := [_, _, _]) rfl (Nat.le_of_ble_eq_true rfl) Try.underlying28 rfl (by kernel_rfl) rfl Taken.no) ?_
 refine SL.val (O.callp rfl rfl rfl (stvalid_h (s := s)) (.cons (ArgOk.aggU (.cons (ArgOk.same rfl) (.cons (ArgOk.same rfl) (.cons (ArgOk.same rfl) .nil)))) .nil) hcallOk16 rfl Taken.no) ?_
 refine SL.val (O.det (fun _ => G.R.not rfl) rfl Taken.no) ?_
 refine E.fo ?_
 first | refine W.cond_d rfl (fun hc1 => ?_) (fun hc1 => ?_) | refine W.cond_nd rfl (fun hc1 => ?_) (fun hc1 => ?_) | refine W.cond rfl (fun hc1 => ?_) (fun hc1 => ?_)
 ·skip
  refine W.rg ?_
  refine SL.val (O.build (res := [_, _, _]) (z := .agg #[.int .i64 0, .slice none 0 0, .slice none 0 0]) (places := [(0, 1), (1, 1), (2, 1)]) rfl rfl Try.underlying28 (by kernel_rfl) (fun _ => by kernel_rfl) rfl rfl Taken.no) ?_
  refine SL.effS (O.st_ref (m := 3) rfl rfl rfl (js := [_, _, _]) rfl rfl (by kernel_rfl) (by simp) (Nat.le_of_ble_eq_true rfl) rfl (is' := [_, _, _]) rfl Taken.no) (S' := (102, _) :: _) rfl ?_
  refine SL.an rfl rfl (SL.an rfl rfl (E.fo (W.ret (E.thr ?_))))
  refine E.nilslC 102 1 8 (is' := [_, _, _]) rfl rfl rfl ?_
  refine E.nilslC 102 2 2 (is' := [_, _, _]) rfl rfl rfl ?_
  refine E.fin (rs := [_, _, _]) (rn []) (.inl rfl) rfl (.cons (ResOne.cellN (m := 3) (PtI.ref rfl rfl) (js := [_, _, _]) rfl (Nat.le_of_ble_eq_true rfl) Try.underlying28 rfl (by kernel_rfl)) (.cons (ResOne.tmp rfl) (.cons (ResOne.tmp rfl) .nil))) ?_ ?_ rfl (fixL_spec rfl)
  ·skip
   rw [runF, if_neg (by first | assumption | simp_all)]; rfl
  · exact SubS.nil
 have hv : validS s := by first | assumption | simp_all
 have hok := valid_ok hv
 have hrf : runF s l = runR s (l.drop 0) 0 := if_pos hv
 refine W.skip (E.to (W.rg ?_))
 refine SL.val (O.ldN (m := 3) (PtI.ref rfl rfl) (js := [_, _, _]) rfl (Nat.le_of_ble_eq_true rfl) Try.underlying28 rfl (by kernel_rfl) rfl Taken.no) ?_
 refine SL.memS (O.call (rn [(0, 103), (1, 104)]) [] rfl rfl rfl (cloned_h (s := s) (by have := hv.2.1; omega) (by have := hok.2.1; omega) (fun l hl => by have := hok.2.2 l hl; omega)) (.cons (ArgOk.aggU (.cons (ArgOk.same rfl) (.cons (ArgOk.same rfl) (.cons (ArgOk.same rfl) .nil)))) .nil) SubS.nil rfl rfl rfl rfl rfl (.inl rfl) hcallOk27 (r' := .agg [.u _, .own 103, .own 104]) rfl rfl Taken.no) rfl rfl (S' := (103, .data _ _ _) :: (104, .data _ _ _) :: _) rfl ?_
 refine SL.effS (O.st_ref (m := 3) rfl rfl rfl (js := [_, _, _]) rfl rfl (by kernel_rfl) (by simp) (Nat.le_of_ble_eq_true rfl) rfl (is' := [_, _, _]) rfl Taken.no) (S' := (101, _) :: _) rfl ?_
 refine E.fo (W.seq (W.rg (SL.mv rfl rfl ?_)))
 refine SL.val (O.lenE (SlOf.fz rfl (by decide)) (by first | exact List.length_map _ | rfl) Try.underlying52 rfl Taken.no) ?_
 refine SL.mv rfl rfl (E.fo (W.block ?_))
 refine W.freezeC 101 1 103 (is' := [_, _, _]) rfl rfl rfl rfl ?_
 refine W.freezeC 101 2 104 (is' := [_, _, _]) rfl rfl rfl rfl ?_
 refine W.loopx2 (fun (k : Nat) (t : St) => [(19, vI (k : Int))]) (fun (k : Nat) (t : St) => [(101, .cells 28 [vI t.now, vL 8 (t.cps.map eCp), vL 2 (t.lns.map eLn)])]) (fun (k : Nat) (t : St) => k ≤ l.length ∧ runF s l = runR t (l.drop k) k) (fun (k : Nat) (t : St) => l.length - k) (0) (s) (rn []) (.cons (t := 1) rfl (.cons (t := 2) rfl (.cons (t := 4) rfl (.cons (t := 17) rfl (.cons (t := 18) rfl .nil))))) (.cons (t := 102) rfl .nil) rfl ?_ ?_ rfl rfl ?_ ?_
 · exact (SubF.cons rfl SubF.nil)
 · exact (SubS.cons rfl SubS.nil)
 ·skip
  exact ⟨by omega, hrf⟩
 intro k t hinv
 obtain ⟨hk, hr⟩ := hinv
 refine W.rg ?_
 refine SL.val (O.det (fun _ => G.R.lss rfl rfl) rfl Taken.no) ?_
 refine E.fo (W.seq ?_)
 first | refine W.cond_d rfl (fun hc2 => ?_) (fun hc2 => ?_) | refine W.cond_nd rfl (fun hc2 => ?_) (fun hc2 => ?_) | refine W.cond rfl (fun hc2 => ?_) (fun hc2 => ?_)
 ·skip
  refine W.skip (E.to (W.seq (W.block (W.rg (SL.mv rfl rfl ?_)))))
  refine SL.val (O.idx_fz rfl rfl (rfl) (row_get (by omega)) Try.underlying52 hi34 hs34 rfl Taken.no) ?_
  refine SL.val (O.ldU (m := 8) (PtU.fz rfl) rfl Try.underlying34 rfl (by kernel_rfl) rfl Taken.no) ?_
  refine SL.memS (O.alloc (z := .agg #[.int .i64 0, .int .i64 0, .int .i64 0, .int .i64 0, .int .i64 0, .int .i64 0, .int .i64 0, .string ByteArray.empty]) (is := [.u (.sc (.int .i64 0)), .u (.sc (.int .i64 0)), .u (.sc (.int .i64 0)), .u (.sc (.int .i64 0)), .u (.sc (.int .i64 0)), .u (.sc (.int .i64 0)), .u (.sc (.int .i64 0)), .u (.sc (.string ByteArray.empty))]) 105 (by kernel_rfl) rfl rfl rfl Taken.no) rfl rfl (S' := (105, _) :: _) rfl ?_
  refine SL.an rfl rfl ?_
  refine SL.effS (O.st_ref (m := 8) rfl rfl rfl (js := [_, _, _, _, _, _, _, _]) rfl rfl (by kernel_rfl) (by simp) (Nat.le_of_ble_eq_true rfl) rfl (is' := [_, _, _, _, _, _, _, _]) rfl Taken.no) (S' := (105, _) :: _) rfl ?_
  refine E.fo (W.rg ?_)
  refine SL.val (O.ldN (m := 3) (PtI.ref rfl rfl) (js := [_, _, _]) rfl (Nat.le_of_ble_eq_true rfl) Try.underlying28 rfl (by kernel_rfl) rfl Taken.no) ?_
  refine SL.val (O.ldN (m := 8) (PtI.ref rfl rfl) (js := [_, _, _, _, _, _, _, _]) rfl (Nat.le_of_ble_eq_true rfl) Try.underlying34 rfl (by kernel_rfl) rfl Taken.no) ?_
  refine SL.memS (O.call (rn []) [] rfl rfl rfl (do_h (s := t) (x := l[k]!)) (.cons (ArgOk.aggU (.cons (ArgOk.same rfl) (.cons (ArgOk.same rfl) (.cons (ArgOk.same rfl) .nil)))) (.cons (ArgOk.aggU (.cons (ArgOk.same rfl) (.cons (ArgOk.same rfl) (.cons (ArgOk.same rfl) (.cons (ArgOk.same rfl) (.cons (ArgOk.same rfl) (.cons (ArgOk.same rfl) (.cons (ArgOk.same rfl) (.cons (ArgOk.same rfl) .nil))))))))) .nil)) SubS.nil rfl rfl rfl rfl rfl (.inl rfl) hcallOk9 (r' := .tup [.agg [.u _, .u _, .u _], .u _]) rfl rfl Taken.no) rfl rfl (S' := _) rfl ?_
  refine SL.mv rfl rfl ?_
  refine SL.val (O.extract rfl rfl rfl Taken.no) ?_
  refine SL.val (O.extract rfl rfl rfl Taken.no) ?_
  refine SL.memS (O.alloc (z := .agg #[.int .i64 0, .slice none 0 0, .slice none 0 0]) (is := [.u (.sc (.int .i64 0)), .u (.sc (.slice none 0 0)), .u (.sc (.slice none 0 0))]) 106 (by kernel_rfl) rfl rfl rfl Taken.no) rfl rfl (S' := (106, _) :: _) rfl ?_
  refine SL.effS (O.st_ref (m := 3) rfl rfl rfl (js := [_, _, _]) rfl rfl (by kernel_rfl) (by simp) (Nat.le_of_ble_eq_true rfl) rfl (is' := [_, _, _]) rfl Taken.no) (S' := (106, _) :: _) rfl ?_
  refine SL.an rfl rfl (E.fo (W.seq (W.rg (SL.mv rfl rfl ?_))))
  refine SL.val (O.det (fun _ => G.R.neq rfl rfl) rfl Taken.no) ?_
  refine E.fo ?_
  first | refine W.cond_d rfl (fun hc3 => ?_) (fun hc3 => ?_) | refine W.cond_nd rfl (fun hc3 => ?_) (fun hc3 => ?_) | refine W.cond rfl (fun hc3 => ?_) (fun hc3 => ?_)
  ·skip
   refine W.rg ?_
   refine SL.val (O.ldN (m := 3) (PtI.ref rfl rfl) (js := [_, _, _]) rfl (Nat.le_of_ble_eq_true rfl) Try.underlying28 rfl (by kernel_rfl) rfl Taken.no) ?_
   refine SL.mv rfl rfl (SL.mv rfl rfl ?_)
   refine SL.effS (O.st_ref (m := 3) rfl rfl rfl (js := [_, _, _]) rfl rfl (by kernel_rfl) (by simp) (Nat.le_of_ble_eq_true rfl) rfl (is' := [_, _, _]) rfl Taken.no) (S' := (102, _) :: _) rfl ?_
   refine SL.an rfl rfl (SL.an rfl rfl (E.fo ?_))
   refine W.pick (K:=[(1,_),(2,_),(4,_),(5,_),(6,_),(9,_),(17,_),(18,_),(19,_)]) (Z:=[(101,_),(102,_),(105,_),(106,_)]) ⟨rfl,rfl,rfl,rfl,rfl,rfl,rfl,rfl,rfl,trivial⟩ ⟨rfl,rfl,rfl,rfl,trivial⟩ ?_
   refine W.ret (E.thr ?_)
   refine E.inr ?_
   refine E.thr (E.thr ?_)
   refine E.inr ?_
   refine E.thr ?_
   refine E.fin (rs := [_, _, _]) (rn []) (.inl rfl) rfl (.cons (ResOne.cellN (m := 3) (PtI.ref rfl rfl) (js := [_, _, _]) rfl (Nat.le_of_ble_eq_true rfl) Try.underlying28 rfl (by kernel_rfl)) (.cons (ResOne.tmp rfl) (.cons (ResOne.tmp rfl) .nil))) ?_ ?_ rfl (fixL_spec rfl)
   ·skip
    rw [hr, run_stop (by omega) (by omega)]; rfl
   · exact SubS.nil
  refine W.skip (E.to (W.region ?_))
  refine SL.val (O.ldN (m := 3) (PtI.ref rfl rfl) (js := [_, _, _]) rfl (Nat.le_of_ble_eq_true rfl) Try.underlying28 rfl (by kernel_rfl) rfl Taken.no) ?_
  refine SL.effS (O.st_ref (m := 3) rfl rfl rfl (js := [_, _, _]) rfl rfl (by kernel_rfl) (by simp) (Nat.le_of_ble_eq_true rfl) rfl (is' := [_, _, _]) rfl Taken.no) (S' := (101, _) :: _) rfl ?_
  refine SL.nil (E.inn (E.to (W.region ?_)))
  refine SL.val (O.det (fun _ => by first | exact G.R.add64 rfl rfl (by omega) | exact G.R.add rfl rfl) rfl Taken.no) ?_
  refine SL.mv rfl rfl (SL.nil ?_)
  refine E.again ((k + 1), (doS t l[k]!)) (rn []) ?_ ?_ rfl (fixL_spec rfl) ?_ ?_
  · exact (SubF.cons rfl (SubF.cons rfl (SubF.cons rfl (SubF.cons rfl (SubF.cons rfl (SubF.cons rfl SubF.nil))))))
  · exact (SubS.cons rfl (SubS.cons rfl SubS.nil))
  ·try dsimp only
   exact ⟨by omega, hr.trans (run_at (by omega) (by omega))⟩
  · (try dsimp only); omega
 refine W.exit (E.th (E.th (E.hit (E.to (W.rg ?_)))))
 refine SL.val (O.ldN (m := 3) (PtI.ref rfl rfl) (js := [_, _, _]) rfl (Nat.le_of_ble_eq_true rfl) Try.underlying28 rfl (by kernel_rfl) rfl Taken.no) ?_
 refine SL.mv rfl rfl ?_
 refine SL.val (O.lenE (SlOf.fz rfl (by decide)) (by first | exact List.length_map _ | rfl) Try.underlying52 rfl Taken.no) ?_
 refine SL.effS (O.st_ref (m := 3) rfl rfl rfl (js := [_, _, _]) rfl rfl (by kernel_rfl) (by simp) (Nat.le_of_ble_eq_true rfl) rfl (is' := [_, _, _]) rfl Taken.no) (S' := (102, _) :: _) rfl ?_
 refine SL.an rfl rfl (SL.an rfl rfl (E.fo (W.ret ?_)))
 refine E.fin (rs := [_, _, _]) (rn []) (.inl rfl) rfl (.cons (ResOne.cellN (m := 3) (PtI.ref rfl rfl) (js := [_, _, _]) rfl (Nat.le_of_ble_eq_true rfl) Try.underlying28 rfl (by kernel_rfl)) (.cons (ResOne.tmp rfl) (.cons (ResOne.tmp rfl) .nil))) ?_ ?_ rfl (fixL_spec rfl)
 ·skip
  rw [hr, run_end (by omega)]
  obtain rfl : k = l.length := by omega
  rfl
 · exact SubS.nil

end Go.Proofs.Ytmekkjehkcjpdaa
end
section
namespace Go.D58
open Go Go.RowKit Go.H Go.D57
theorem valid_nil : validQ [] := ⟨fun i hi => absurd hi (by simp), by simp⟩
def okV (ls : List Ln) : Prop := ∀ l ∈ ls, validQ l.q
theorem que_okV {s : St} (h : okV s.lns) (w : Int) : validQ (queS s w) := by
  unfold queS
  split
  · rename_i e; exact h _ (at_mem (idxF_lt e).1)
  · exact valid_nil
theorem setQ_okV {ls : List Ln} (h : okV ls) (w : Int) {q : List Hd} (hq : validQ q) : okV (setQ ls w q) := by
  cases hf : kfnd (·.work) ls w with
  | true =>
    by_cases h0 : q.length = 0
    · rw [setQ_del hf h0]
      exact fun l hl => (List.mem_append.1 hl).elim (fun m => h l (List.mem_of_mem_take m)) (fun m => h l (List.mem_of_mem_drop m))
    · rw [setQ_set hf h0]
      exact fun l hl => (List.mem_or_eq_of_mem_set hl).elim (h l) (fun e => by rw [e]; exact hq)
  | false =>
    by_cases h0 : q.length = 0
    · rw [setQ_no hf h0]; exact h
    · rw [setQ_ins hf h0]
      refine fun l hl => (List.mem_append.1 hl).elim (fun m => h l (List.mem_of_mem_take m)) (fun m => ?_)
      rcases List.mem_cons.1 m with e | m
      · rw [e]; exact hq
      · exact h l (List.mem_of_mem_drop m)
theorem srv_okV {q : List Hd} (h : validQ q) (hl : ¬ q.length = 0) : validQ (srvQ q) := srvQ_valid (srv_0 h (by omega)).1
theorem free_okV {s : St} (h : okV s.lns) (i : Nat) : okV (freeS s i).lns := by
  by_cases e : (queS s s.cps[i]!.work).length = 0
  · rw [free_0 e]; exact h
  · rw [free_1 e]; exact setQ_okV h _ (srv_okV (que_okV h _) e)
theorem do_len {s : St} {x : Sp} (he : doE s x = 0) : (doS s x).cps.length ≤ 61 := by
  have h1 := copies_len he
  have h2 := (do_ok he).1.2.1
  unfold wantN at h1
  split at h1
  · omega
  · split at h1 <;> omega
def fairP (s n : St) (i : Int) : Prop := 0 ≤ cpI n i ∧ ((queS s (finD n i).work).length = 0 → (finD n i).place = 1) ∧
  (0 < (queS s (finD n i).work).length → (finD n i).place = 3 ∧ (finD n i).hold = (nextH (queS s (finD n i).work)).id ∧ (finD n i).pat = (nextH (queS s (finD n i).work)).pat ∧ (queS n (finD n i).work).length + 1 = (queS s (finD n i).work).length)
def rcF (w : Int) (c : Cp) : Bool := decide (c.work = w ∧ c.place = 2 ∧ c.rc = true)
def rcN (cs : List Cp) (w : Int) : Nat := (cs.filter (rcF w)).length
def jena : List UInt8 := [106, 101, 110, 97]
def exL : List Sp := [⟨1, 1, 9, 0, 0, 0, 0, jena⟩, ⟨3, 1, 0, 5, 0, 0, 0, []⟩, ⟨8, 0, 0, 0, 0, 0, 10, []⟩, ⟨6, 0, 9, 6, 3, 2, 0, []⟩]
def exS : St := ⟨10, [⟨1, 9, jena, 2, 5, 17, 0, true⟩], [⟨9, [⟨3, 6, 2, 10, 0⟩]⟩]⟩
def exT : St := ⟨12, [⟨1, 9, jena, 2, 5, 17, 0, true⟩], [⟨9, [⟨3, 6, 2, 10, 0⟩]⟩]⟩
def exU : St := ⟨12, [⟨1, 9, jena, 3, 6, 19, 3, false⟩], []⟩
set_option maxRecDepth 100000 in
theorem ex_run : runF zeroS exL = (exS, 4, 0) := by kernel_rfl
theorem ex_t : doS exS ⟨8, 0, 0, 0, 0, 0, 2, []⟩ = exT ∧ doE exS ⟨8, 0, 0, 0, 0, 0, 2, []⟩ = 0 := ⟨by kernel_rfl, by kernel_rfl⟩
theorem ex_u : doS exT ⟨4, 1, 0, 0, 0, 0, 0, []⟩ = exU ∧ doE exT ⟨4, 1, 0, 0, 0, 0, 0, []⟩ = 0 := ⟨by kernel_rfl, by kernel_rfl⟩
theorem ex_valid : decide (validS exU) = true := by kernel_rfl
end Go.D58
end
section
namespace Go.Proofs.Ytmekkjehkcjpdaa
open Go Go.RowKit Go.H Go.D57 Go.D58

theorem hinf30 : ∃ i, Try.prog.info? 30 = some i ∧ i.zero = some (.agg #[.int .i64 0, .int .i64 0, .int .i64 0, .int .i64 0, .int .i64 0, .int .i64 0, .int .i64 0, .string ByteArray.empty]) ∧ i.size = 8 ∧ i.bytes = 72 := G.info_of (by kernel_rfl)
theorem hcallOk7 : G.callOk Try.prog 7 = true := by kernel_rfl
theorem hcallOk8 : G.callOk Try.prog 8 = true := by kernel_rfl
theorem hcallOk13 : G.callOk Try.prog 13 = true := by kernel_rfl
theorem hcallOk15 : G.callOk Try.prog 15 = true := by kernel_rfl

def fewL (l : List Sp) : Prop := (∀ j, j < l.length → l[j]!.lib.length ≤ 50) ∧ l.length ≤ 30
instance (l : List Sp) : Decidable (fewL l) := by unfold fewL; infer_instance

set_option maxRecDepth 8000 in
theorem fewSteps_h {l : List Sp} :
    Con Try.prog 8 [vL 8 (l.map eSp)] [] (vB (decide (fewL l))) [] := by
 obtain ⟨i30, hi30, hz30, hs30, hb30⟩ := hinf30
 refine Con.enterL (n := 19) Try.func8 rfl rfl rfl (fun τ w ok vs hin => ?_)
 have hl0 := hin.len (i := 0) rfl
 try rw [List.length_map] at hl0
 clear hin
 refine W.rg (SL.an rfl rfl (E.fo (W.seq (W.rg (SL.mv rfl rfl ?_)))))
 refine SL.val (O.lenE (SlOf.fz rfl (by decide)) (by first | exact List.length_map _ | rfl) Try.underlying22 rfl Taken.no) ?_
 refine SL.mv rfl rfl (E.fo (W.block ?_))
 refine W.loopx1 (fun (k : Nat) => [(7, vI (k : Int))]) (fun (k : Nat) => []) (fun (k : Nat) => k ≤ l.length ∧ ∀ j, j < k → l[j]!.lib.length ≤ 50) (fun (k : Nat) => l.length - k) (0) (rn []) (.cons (t := 0) rfl (.cons (t := 5) rfl (.cons (t := 6) rfl .nil))) .nil rfl ?_ ?_ rfl rfl ?_ ?_
 · exact (SubF.cons rfl SubF.nil)
 · exact SubS.nil
 ·skip
  exact ⟨by omega, fun j h => by omega⟩
 intro k hinv
 obtain ⟨hk, hp⟩ := hinv
 refine W.rg ?_
 refine SL.val (O.det (fun _ => G.R.lss rfl rfl) rfl Taken.no) ?_
 refine E.fo (W.seq ?_)
 first | refine W.cond_d rfl (fun hc1 => ?_) (fun hc1 => ?_) | refine W.cond_nd rfl (fun hc1 => ?_) (fun hc1 => ?_) | refine W.cond rfl (fun hc1 => ?_) (fun hc1 => ?_)
 ·skip
  refine W.skip (E.to (W.seq (W.block (W.rg ?_))))
  refine SL.val (O.idx_fz rfl rfl (rfl) (row_get (by omega)) Try.underlying22 hi30 hs30 rfl Taken.no) ?_
  refine SL.val (O.ldU (m := 8) (PtU.fz rfl) rfl Try.underlying30 rfl (by kernel_rfl) rfl Taken.no) ?_
  refine SL.memS (O.alloc (z := .agg #[.int .i64 0, .int .i64 0, .int .i64 0, .int .i64 0, .int .i64 0, .int .i64 0, .int .i64 0, .string ByteArray.empty]) (is := [.u (.sc (.int .i64 0)), .u (.sc (.int .i64 0)), .u (.sc (.int .i64 0)), .u (.sc (.int .i64 0)), .u (.sc (.int .i64 0)), .u (.sc (.int .i64 0)), .u (.sc (.int .i64 0)), .u (.sc (.string ByteArray.empty))]) 101 (by kernel_rfl) rfl rfl rfl Taken.no) rfl rfl (S' := (101, _) :: _) rfl ?_
  refine SL.effS (O.st_ref (m := 8) rfl rfl rfl (js := [_, _, _, _, _, _, _, _]) rfl rfl (by kernel_rfl) (by simp) (Nat.le_of_ble_eq_true rfl) rfl (is' := [_, _, _, _, _, _, _, _]) rfl Taken.no) (S' := (101, _) :: _) rfl ?_
  refine E.fo (W.rg ?_)
  refine SL.val (O.fld_ref (o' := 7) rfl Try.underlying30 rfl (m := 0) (by kernel_rfl) rfl rfl Taken.no) ?_
  refine SL.val (O.ld1 (PtI.ref rfl rfl) rfl Try.underlying9 rfl rfl Taken.no) ?_
  refine SL.val (O.det (fun _ => G.R.lenL rfl Try.underlying9) rfl Taken.no) ?_
  refine SL.val (O.det (fun _ => G.R.gtr rfl rfl) rfl Taken.no) ?_
  refine E.fo ?_
  first | refine W.cond_d rfl (fun hc2 => ?_) (fun hc2 => ?_) | refine W.cond_nd rfl (fun hc2 => ?_) (fun hc2 => ?_) | refine W.cond rfl (fun hc2 => ?_) (fun hc2 => ?_)
  ·skip
   refine W.rg (SL.an rfl rfl (E.fo (W.ret ?_)))
   refine E.inr ?_
   refine E.thr (E.thr ?_)
   refine E.inr ?_
   refine E.thr ?_
   refine E.fin (rs := [_]) (rn []) (.inl rfl) rfl (.cons (ResOne.tmp rfl) .nil) ?_ ?_ rfl (fixL_spec rfl)
   ·skip
    exact iv_bool (dec_f fun z => by have := z.1 k (by omega); omega)
   · exact SubS.nil
  refine W.skip (E.inn (E.to (W.region ?_)))
  refine SL.val (O.det (fun _ => by first | exact G.R.add64 rfl rfl (by omega) | exact G.R.add rfl rfl) rfl Taken.no) ?_
  refine SL.mv rfl rfl (SL.nil ?_)
  refine E.again ((k + 1)) (rn []) ?_ ?_ rfl (fixL_spec rfl) ?_ ?_
  · exact (SubF.cons rfl (SubF.cons rfl (SubF.cons rfl (SubF.cons rfl SubF.nil))))
  · exact SubS.nil
  ·try dsimp only
   exact ⟨by omega, upto_s hp (by omega)⟩
  · (try dsimp only); omega
 refine W.exit (E.th (E.th (E.hit (E.to (W.rg (SL.mv rfl rfl ?_))))))
 refine SL.val (O.lenE (SlOf.fz rfl (by decide)) (by first | exact List.length_map _ | rfl) Try.underlying22 rfl Taken.no) ?_
 refine SL.val (O.det (fun _ => G.R.leq rfl rfl) rfl Taken.no) ?_
 refine SL.an rfl rfl (E.fo (W.ret ?_))
 refine E.fin (rs := [_]) (rn []) (.inl rfl) rfl (.cons (ResOne.tmp rfl) .nil) ?_ ?_ rfl (fixL_spec rfl)
 ·skip
  exact iv_bool (dec_iff ⟨fun z => by have := z.2; omega, fun z => ⟨fun j hj => hp j (by omega), by omega⟩⟩)
 · exact SubS.nil

set_option maxRecDepth 8000 in
theorem awake_h  :
    Con Try.prog 7 [] [] (vB true) [] := by
 obtain ⟨i34, hi34, hz34, hs34, hb34⟩ := hinf34
 refine Con.enterL (n := 90) Try.func7 rfl rfl rfl (fun τ w ok vs hin => ?_)
 clear hin
 refine W.rg (SL.an rfl rfl (E.fo (W.rg ?_)))
 refine SL.val (O.build (res := [_, _, _, _, _, _, _, _]) (z := .agg #[.int .i64 0, .int .i64 0, .int .i64 0, .int .i64 0, .int .i64 0, .int .i64 0, .int .i64 0, .string ByteArray.empty]) (places := [(0, 1), (1, 1), (2, 1), (3, 1), (4, 1), (5, 1), (6, 1), (7, 1)]) rfl rfl Try.underlying34 (by kernel_rfl) (fun _ => by kernel_rfl) rfl rfl Taken.no) ?_
 refine SL.val (O.build (res := [_, _, _, _, _, _, _, _]) (z := .agg #[.int .i64 0, .int .i64 0, .int .i64 0, .int .i64 0, .int .i64 0, .int .i64 0, .int .i64 0, .string ByteArray.empty]) (places := [(0, 1), (1, 1), (2, 1), (3, 1), (4, 1), (5, 1), (6, 1), (7, 1)]) rfl rfl Try.underlying34 (by kernel_rfl) (fun _ => by kernel_rfl) rfl rfl Taken.no) ?_
 refine SL.val (O.build (res := [_, _, _, _, _, _, _, _]) (z := .agg #[.int .i64 0, .int .i64 0, .int .i64 0, .int .i64 0, .int .i64 0, .int .i64 0, .int .i64 0, .string ByteArray.empty]) (places := [(0, 1), (1, 1), (2, 1), (3, 1), (4, 1), (5, 1), (6, 1), (7, 1)]) rfl rfl Try.underlying34 (by kernel_rfl) (fun _ => by kernel_rfl) rfl rfl Taken.no) ?_
 refine SL.val (O.build (res := [_, _, _, _, _, _, _, _]) (z := .agg #[.int .i64 0, .int .i64 0, .int .i64 0, .int .i64 0, .int .i64 0, .int .i64 0, .int .i64 0, .string ByteArray.empty]) (places := [(0, 1), (1, 1), (2, 1), (3, 1), (4, 1), (5, 1), (6, 1), (7, 1)]) rfl rfl Try.underlying34 (by kernel_rfl) (fun _ => by kernel_rfl) rfl rfl Taken.no) ?_
 refine SL.memS (O.buildSlice 101 (rows := exL.map eSp) rfl rfl Try.underlying52 hi34 hz34 hs34 (by decide) rfl (by decide) rfl rfl rfl Taken.no) rfl rfl (S' := (101, .data 34 8 (exL.map eSp)) :: _) rfl ?_
 refine SL.an rfl rfl (E.fo (W.rg ?_))
 refine SL.val (O.build (res := [_, _, _]) (z := .agg #[.int .i64 0, .slice none 0 0, .slice none 0 0]) (places := [(0, 1), (1, 1), (2, 1)]) rfl rfl Try.underlying28 (by kernel_rfl) (fun _ => by kernel_rfl) rfl rfl Taken.no) ?_
 refine SL.mv rfl rfl ?_
 refine SL.freeze 101 rfl (F' := [(17, _), (1, _), (20, _)]) (⟨⟨_, rfl, rfl⟩, ⟨_, rfl, rfl⟩, ⟨_, rfl, rfl⟩, trivial⟩) ?_
 refine SL.memS (O.call (rn []) [] rfl rfl rfl (run_h (s := zeroS) (l := exL)) (.cons (ArgOk.aggU (.cons (ArgOk.same rfl) (.cons ArgOk.nil (.cons ArgOk.nil .nil)))) (.cons (ArgOk.same rfl) .nil)) SubS.nil rfl rfl rfl rfl rfl (.inl rfl) hcallOk15 (r' := .tup [.agg [.u _, .u _, .u _], .u _, .u _]) rfl rfl Taken.no) rfl rfl (S' := _) rfl ?_
 refine SL.as (i' := .tup [.agg [vI (exS).now, vL 8 ((exS).cps.map eCp), vL 2 ((exS).lns.map eLn)], vI 4, vI 0]) 21 rfl (by rw [ex_run]; rfl) ?_
 refine SL.mv rfl rfl ?_
 refine SL.val (O.extract rfl rfl rfl Taken.no) ?_
 refine SL.val (O.extract rfl rfl rfl Taken.no) ?_
 refine SL.val (O.extract rfl rfl rfl Taken.no) ?_
 refine SL.memS (O.alloc (z := .agg #[.int .i64 0, .slice none 0 0, .slice none 0 0]) (is := [.u (.sc (.int .i64 0)), .u (.sc (.slice none 0 0)), .u (.sc (.slice none 0 0))]) 102 (by kernel_rfl) rfl rfl rfl Taken.no) rfl rfl (S' := (102, _) :: _) rfl ?_
 refine SL.effS (O.st_ref (m := 3) rfl rfl rfl (js := [_, _, _]) rfl rfl (by kernel_rfl) (by simp) (Nat.le_of_ble_eq_true rfl) rfl (is' := [_, _, _]) rfl Taken.no) (S' := (102, _) :: _) rfl ?_
 refine SL.an rfl rfl (SL.an rfl rfl (E.fo (W.rg ?_)))
 refine SL.val (O.ldN (m := 3) (PtI.ref rfl rfl) (js := [_, _, _]) rfl (Nat.le_of_ble_eq_true rfl) Try.underlying28 rfl (by kernel_rfl) rfl Taken.no) ?_
 refine SL.memS (O.call (rn []) [] rfl rfl rfl (find_h (s := exS) (i := 1)) (.cons (ArgOk.aggU (.cons (ArgOk.same rfl) (.cons (ArgOk.same rfl) (.cons (ArgOk.same rfl) .nil)))) (.cons (ArgOk.same rfl) .nil)) SubS.nil rfl rfl rfl rfl rfl (.inl rfl) hcallOk13 (r' := .tup [.agg [.u _, .u _, .u _, .u _, .u _, .u _, .u _, .u _], .u _]) rfl rfl Taken.no) rfl rfl (S' := _) rfl ?_
 refine SL.as (i' := .tup [.agg [vI 1, vI 9, vT jena, vI 2, vI 5, vI 17, vI 0, vB true], vB true]) 27 rfl (by rfl) ?_
 refine SL.mv rfl rfl ?_
 refine SL.val (O.extract rfl rfl rfl Taken.no) ?_
 refine SL.val (O.extract rfl rfl rfl Taken.no) ?_
 refine SL.memS (O.alloc (z := .agg #[.int .i64 0, .int .i64 0, .string ByteArray.empty, .int .i64 0, .int .i64 0, .int .i64 0, .int .i64 0, .bool false]) (is := [.u (.sc (.int .i64 0)), .u (.sc (.int .i64 0)), .u (.sc (.string ByteArray.empty)), .u (.sc (.int .i64 0)), .u (.sc (.int .i64 0)), .u (.sc (.int .i64 0)), .u (.sc (.int .i64 0)), .u (.sc (.bool false))]) 103 (by kernel_rfl) rfl rfl rfl Taken.no) rfl rfl (S' := (103, _) :: _) rfl ?_
 refine SL.effS (O.st_ref (m := 8) rfl rfl rfl (js := [_, _, _, _, _, _, _, _]) rfl rfl (by kernel_rfl) (by simp) (Nat.le_of_ble_eq_true rfl) rfl (is' := [_, _, _, _, _, _, _, _]) rfl Taken.no) (S' := (103, _) :: _) rfl ?_
 refine SL.an rfl rfl (E.fo ?_)
 refine W.pick (K:=[(0,_),(2,_),(3,_),(4,_),(5,_),(6,_)]) (Z:=[(102,_),(103,_)]) ⟨rfl,rfl,rfl,rfl,rfl,rfl,trivial⟩ ⟨rfl,rfl,trivial⟩ ?_
 refine W.rg ?_
 refine SL.val (O.ldN (m := 3) (PtI.ref rfl rfl) (js := [_, _, _]) rfl (Nat.le_of_ble_eq_true rfl) Try.underlying28 rfl (by kernel_rfl) rfl Taken.no) ?_
 refine SL.val (O.build (res := [_, _, _, _, _, _, _, _]) (z := .agg #[.int .i64 0, .int .i64 0, .int .i64 0, .int .i64 0, .int .i64 0, .int .i64 0, .int .i64 0, .string ByteArray.empty]) (places := [(0, 1), (1, 1), (2, 1), (3, 1), (4, 1), (5, 1), (6, 1), (7, 1)]) rfl rfl Try.underlying34 (by kernel_rfl) (fun _ => by kernel_rfl) rfl rfl Taken.no) ?_
 refine SL.memS (O.call (rn []) [] rfl rfl rfl (do_h (s := exS) (x := ⟨8, 0, 0, 0, 0, 0, 2, []⟩)) (.cons (ArgOk.aggU (.cons (ArgOk.same rfl) (.cons (ArgOk.same rfl) (.cons (ArgOk.same rfl) .nil)))) (.cons (ArgOk.aggU (.cons (ArgOk.same rfl) (.cons (ArgOk.same rfl) (.cons (ArgOk.same rfl) (.cons (ArgOk.same rfl) (.cons (ArgOk.same rfl) (.cons (ArgOk.same rfl) (.cons (ArgOk.same rfl) (.cons (ArgOk.same rfl) .nil))))))))) .nil)) SubS.nil rfl rfl rfl rfl rfl (.inl rfl) hcallOk9 (r' := .tup [.agg [.u _, .u _, .u _], .u _]) rfl rfl Taken.no) rfl rfl (S' := _) rfl ?_
 refine SL.as (i' := .tup [.agg [vI (exT).now, vL 8 ((exT).cps.map eCp), vL 2 ((exT).lns.map eLn)], vI 0]) 33 rfl (by rw [ex_t.1, ex_t.2]) ?_
 refine SL.mv rfl rfl ?_
 refine SL.val (O.extract rfl rfl rfl Taken.no) ?_
 refine SL.val (O.extract rfl rfl rfl Taken.no) ?_
 refine SL.memS (O.alloc (z := .agg #[.int .i64 0, .slice none 0 0, .slice none 0 0]) (is := [.u (.sc (.int .i64 0)), .u (.sc (.slice none 0 0)), .u (.sc (.slice none 0 0))]) 104 (by kernel_rfl) rfl rfl rfl Taken.no) rfl rfl (S' := (104, _) :: _) rfl ?_
 refine SL.effS (O.st_ref (m := 3) rfl rfl rfl (js := [_, _, _]) rfl rfl (by kernel_rfl) (by simp) (Nat.le_of_ble_eq_true rfl) rfl (is' := [_, _, _]) rfl Taken.no) (S' := (104, _) :: _) rfl ?_
 refine SL.an rfl rfl (E.fo (W.rg ?_))
 refine SL.val (O.ldN (m := 3) (PtI.ref rfl rfl) (js := [_, _, _]) rfl (Nat.le_of_ble_eq_true rfl) Try.underlying28 rfl (by kernel_rfl) rfl Taken.no) ?_
 refine SL.val (O.build (res := [_, _, _, _, _, _, _, _]) (z := .agg #[.int .i64 0, .int .i64 0, .int .i64 0, .int .i64 0, .int .i64 0, .int .i64 0, .int .i64 0, .string ByteArray.empty]) (places := [(0, 1), (1, 1), (2, 1), (3, 1), (4, 1), (5, 1), (6, 1), (7, 1)]) rfl rfl Try.underlying34 (by kernel_rfl) (fun _ => by kernel_rfl) rfl rfl Taken.no) ?_
 refine SL.memS (O.call (rn []) [] rfl rfl rfl (do_h (s := exT) (x := ⟨4, 1, 0, 0, 0, 0, 0, []⟩)) (.cons (ArgOk.aggU (.cons (ArgOk.same rfl) (.cons (ArgOk.same rfl) (.cons (ArgOk.same rfl) .nil)))) (.cons (ArgOk.aggU (.cons (ArgOk.same rfl) (.cons (ArgOk.same rfl) (.cons (ArgOk.same rfl) (.cons (ArgOk.same rfl) (.cons (ArgOk.same rfl) (.cons (ArgOk.same rfl) (.cons (ArgOk.same rfl) (.cons (ArgOk.same rfl) .nil))))))))) .nil)) SubS.nil rfl rfl rfl rfl rfl (.inl rfl) hcallOk9 (r' := .tup [.agg [.u _, .u _, .u _], .u _]) rfl rfl Taken.no) rfl rfl (S' := _) rfl ?_
 refine SL.as (i' := .tup [.agg [vI (exU).now, vL 8 ((exU).cps.map eCp), vL 2 ((exU).lns.map eLn)], vI 0]) 39 rfl (by rw [ex_u.1, ex_u.2]) ?_
 refine SL.mv rfl rfl ?_
 refine SL.val (O.extract rfl rfl rfl Taken.no) ?_
 refine SL.val (O.extract rfl rfl rfl Taken.no) ?_
 refine SL.memS (O.alloc (z := .agg #[.int .i64 0, .slice none 0 0, .slice none 0 0]) (is := [.u (.sc (.int .i64 0)), .u (.sc (.slice none 0 0)), .u (.sc (.slice none 0 0))]) 105 (by kernel_rfl) rfl rfl rfl Taken.no) rfl rfl (S' := (105, _) :: _) rfl ?_
 refine SL.effS (O.st_ref (m := 3) rfl rfl rfl (js := [_, _, _]) rfl rfl (by kernel_rfl) (by simp) (Nat.le_of_ble_eq_true rfl) rfl (is' := [_, _, _]) rfl Taken.no) (S' := (105, _) :: _) rfl ?_
 refine SL.an rfl rfl (E.fo (W.rg ?_))
 refine SL.val (O.ldN (m := 3) (PtI.ref rfl rfl) (js := [_, _, _]) rfl (Nat.le_of_ble_eq_true rfl) Try.underlying28 rfl (by kernel_rfl) rfl Taken.no) ?_
 refine SL.memS (O.call (rn []) [] rfl rfl rfl (find_h (s := exU) (i := 1)) (.cons (ArgOk.aggU (.cons (ArgOk.same rfl) (.cons (ArgOk.same rfl) (.cons (ArgOk.same rfl) .nil)))) (.cons (ArgOk.same rfl) .nil)) SubS.nil rfl rfl rfl rfl rfl (.inl rfl) hcallOk13 (r' := .tup [.agg [.u _, .u _, .u _, .u _, .u _, .u _, .u _, .u _], .u _]) rfl rfl Taken.no) rfl rfl (S' := _) rfl ?_
 refine SL.as (i' := .tup [.agg [vI 1, vI 9, vT jena, vI 3, vI 6, vI 19, vI 3, vB false], vB true]) 44 rfl (by rfl) ?_
 refine SL.mv rfl rfl ?_
 refine SL.val (O.extract rfl rfl rfl Taken.no) ?_
 refine SL.val (O.extract rfl rfl rfl Taken.no) ?_
 refine SL.memS (O.alloc (z := .agg #[.int .i64 0, .int .i64 0, .string ByteArray.empty, .int .i64 0, .int .i64 0, .int .i64 0, .int .i64 0, .bool false]) (is := [.u (.sc (.int .i64 0)), .u (.sc (.int .i64 0)), .u (.sc (.string ByteArray.empty)), .u (.sc (.int .i64 0)), .u (.sc (.int .i64 0)), .u (.sc (.int .i64 0)), .u (.sc (.int .i64 0)), .u (.sc (.bool false))]) 106 (by kernel_rfl) rfl rfl rfl Taken.no) rfl rfl (S' := (106, _) :: _) rfl ?_
 refine SL.effS (O.st_ref (m := 8) rfl rfl rfl (js := [_, _, _, _, _, _, _, _]) rfl rfl (by kernel_rfl) (by simp) (Nat.le_of_ble_eq_true rfl) rfl (is' := [_, _, _, _, _, _, _, _]) rfl Taken.no) (S' := (106, _) :: _) rfl ?_
 refine SL.an rfl rfl (E.fo ?_)
 refine W.pick (K:=[(0,_),(3,_),(4,_),(5,_),(6,_),(8,_),(9,_),(10,_),(11,_),(12,_)]) (Z:=[(102,_),(103,_),(104,_),(105,_),(106,_)]) ⟨rfl,rfl,rfl,rfl,rfl,rfl,rfl,rfl,rfl,rfl,trivial⟩ ⟨rfl,rfl,rfl,rfl,rfl,trivial⟩ ?_
 refine W.rg (SL.mv rfl rfl ?_)
 refine SL.val (O.det (fun _ => G.R.mv (G.R.eql rfl rfl) (congrArg Value.bool (decide_eq_true (by rfl)))) rfl Taken.no) ?_
 refine SL.mv rfl rfl ?_
 have hg1 : true = true := by decide
 refine SL.val (O.move rfl rfl (Taken.yes rfl rfl hg1)) ?_
 refine SL.val (O.det (fun _ => G.R.mv (G.R.eql rfl rfl) (congrArg Value.bool (decide_eq_true (by rfl)))) rfl (Taken.yes rfl rfl hg1)) ?_
 refine SL.val (O.pick_t rfl rfl rfl rfl Taken.no) ?_
 refine SL.mv rfl rfl ?_
 have hg2 : true = true := by decide
 refine SL.val (O.move rfl rfl (Taken.yes rfl rfl hg2)) ?_
 refine SL.val (O.det (fun _ => G.R.mv (G.R.eql rfl rfl) (congrArg Value.bool (decide_eq_true (by rfl)))) rfl (Taken.yes rfl rfl hg2)) ?_
 refine SL.val (O.pick_t rfl rfl rfl rfl Taken.no) ?_
 refine SL.mv rfl rfl ?_
 have hg3 : true = true := by decide
 refine SL.val (O.move rfl rfl (Taken.yes rfl rfl hg3)) ?_
 refine SL.val (O.det (fun _ => G.R.mv (G.R.eql rfl rfl) (congrArg Value.bool (decide_eq_true (by rfl)))) rfl (Taken.yes rfl rfl hg3)) ?_
 refine SL.val (O.pick_t rfl rfl rfl rfl Taken.no) ?_
 refine SL.mv rfl rfl ?_
 have hg4 : true = true := by decide
 refine SL.val (O.move rfl rfl (Taken.yes rfl rfl hg4)) ?_
 refine SL.val (O.pick_t rfl rfl rfl rfl Taken.no) ?_
 refine SL.mv rfl rfl ?_
 have hg5 : true = true := by decide
 refine SL.val (O.move rfl rfl (Taken.yes rfl rfl hg5)) ?_
 refine SL.val (O.pick_t rfl rfl rfl rfl Taken.no) ?_
 refine SL.mv rfl rfl ?_
 have hg6 : true = true := by decide
 refine SL.val (O.fld_ref (o' := 5) rfl Try.underlying43 rfl (m := 0) (by kernel_rfl) rfl rfl (Taken.yes rfl rfl hg6)) ?_
 refine SL.val (O.ld1 (PtI.ref rfl rfl) rfl Try.underlying3 rfl rfl (Taken.yes rfl rfl hg6)) ?_
 refine SL.val (O.det (fun _ => G.R.mv (G.R.eql rfl rfl) (congrArg Value.bool (decide_eq_true (by rfl)))) rfl (Taken.yes rfl rfl hg6)) ?_
 refine SL.val (O.pick_t rfl rfl rfl rfl Taken.no) ?_
 refine SL.mv rfl rfl ?_
 have hg7 : true = true := by decide
 refine SL.val (O.fld_ref (o' := 7) rfl Try.underlying43 rfl (m := 0) (by kernel_rfl) rfl rfl (Taken.yes rfl rfl hg7)) ?_
 refine SL.val (O.ld1 (PtI.ref rfl rfl) rfl Try.underlying4 rfl rfl (Taken.yes rfl rfl hg7)) ?_
 refine SL.val (O.pick_t rfl rfl rfl rfl Taken.no) ?_
 refine SL.mv rfl rfl ?_
 have hg8 : true = true := by decide
 refine SL.val (O.fld_ref (o' := 3) rfl Try.underlying43 rfl (m := 0) (by kernel_rfl) rfl rfl (Taken.yes rfl rfl hg8)) ?_
 refine SL.val (O.ld1 (PtI.ref rfl rfl) rfl Try.underlying3 rfl rfl (Taken.yes rfl rfl hg8)) ?_
 refine SL.val (O.det (fun _ => G.R.mv (G.R.eql rfl rfl) (congrArg Value.bool (decide_eq_true (by rfl)))) rfl (Taken.yes rfl rfl hg8)) ?_
 refine SL.val (O.pick_t rfl rfl rfl rfl Taken.no) ?_
 refine SL.mv rfl rfl ?_
 have hg9 : true = true := by decide
 refine SL.val (O.fld_ref (o' := 5) rfl Try.underlying43 rfl (m := 0) (by kernel_rfl) rfl rfl (Taken.yes rfl rfl hg9)) ?_
 refine SL.val (O.ld1 (PtI.ref rfl rfl) rfl Try.underlying3 rfl rfl (Taken.yes rfl rfl hg9)) ?_
 refine SL.val (O.det (fun _ => G.R.mv (G.R.eql rfl rfl) (congrArg Value.bool (decide_eq_true (by rfl)))) rfl (Taken.yes rfl rfl hg9)) ?_
 refine SL.val (O.pick_t rfl rfl rfl rfl Taken.no) ?_
 refine SL.mv rfl rfl ?_
 have hg10 : true = true := by decide
 refine SL.val (O.ldN (m := 3) (PtI.ref rfl rfl) (js := [_, _, _]) rfl (Nat.le_of_ble_eq_true rfl) Try.underlying28 rfl (by kernel_rfl) rfl (Taken.yes rfl rfl hg10)) ?_
 refine SL.val (O.callp rfl rfl rfl (stvalid_h (s := exU)) (.cons (ArgOk.aggU (.cons (ArgOk.same rfl) (.cons (ArgOk.same rfl) (.cons (ArgOk.same rfl) .nil)))) .nil) hcallOk16 rfl (Taken.yes rfl rfl hg10)) ?_
 refine SL.as (i' := vB true) 88 rfl (by exact iv_bool (ex_valid)) ?_
 refine SL.val (O.pick_t rfl rfl rfl rfl Taken.no) ?_
 refine SL.an rfl rfl (E.fo ?_)
 refine W.pick (K:=[(0,_)]) (Z:=[(102,_),(103,_),(104,_),(105,_),(106,_)]) ⟨rfl,trivial⟩ ⟨rfl,rfl,rfl,rfl,rfl,trivial⟩ ?_
 refine W.ret ?_
 refine E.fin (rs := [_]) (rn []) (.inl rfl) rfl (.cons (ResOne.tmp rfl) .nil) ?_ ?_ rfl (fixL_spec rfl)
 ·skip
  rfl
 · exact SubS.nil


end Go.Proofs.Ytmekkjehkcjpdaa
end
section
namespace Go.G
open Go Go.RowKit
section
variable {n : Nat} {P : Program} {F : Frm} {w : World} {ty : TypeId}
end
end Go.G
namespace Go.H
open Go Go.RowKit
section
variable {c : Ctx} {P : Program} {F : Frm} {S : Sto} {ops : Array Oper} {d : Nat} {ty : TypeId} {pos : String} {af : Array Edge} {gd : Option (Nat × Bool)}
end
end Go.H
end
section
namespace Go.Proofs.Ytmekkjehkcjpdaa
open Go Go.RowKit Go.H Go.D57 Go.D58


set_option maxRecDepth 8000 in
theorem copies_h {l : List Sp} :
    Con Try.prog 5 [vL 8 (l.map eSp)] [] (vB true) [] := by
 obtain ⟨i30, hi30, hz30, hs30, hb30⟩ := hinf30
 obtain ⟨i43, hi43, hz43, hs43, hb43⟩ := hinf43
 refine Con.enterL (n := 101) Try.func5 rfl rfl rfl (fun τ w ok vs hin => ?_)
 have hl0 := hin.len (i := 0) rfl
 try rw [List.length_map] at hl0
 clear hin
 refine W.rg (SL.an rfl rfl (E.fo (W.seq (W.rg ?_))))
 refine SL.val (O.callp rfl rfl rfl (awake_h) .nil hcallOk7 rfl Taken.no) ?_
 refine SL.as (i' := vB true) 14 rfl (by exact iv_bool (rfl)) ?_
 refine SL.val (O.det (fun _ => G.R.mv (G.R.not rfl) rfl) rfl Taken.no) ?_
 refine SL.mv rfl rfl ?_
 have hg1 : false = false := by decide
 refine SL.val (O.move rfl rfl (Taken.yes rfl rfl hg1)) ?_
 refine SL.val (O.callp rfl rfl rfl (fewSteps_h (l := l)) (.cons (ArgOk.same rfl) .nil) hcallOk8 rfl (Taken.yes rfl rfl hg1)) ?_
 refine SL.val (O.det (fun _ => G.R.not rfl) rfl (Taken.yes rfl rfl hg1)) ?_
 refine SL.val (O.pick_f rfl rfl rfl rfl Taken.no) ?_
 refine E.fo ?_
 first | refine W.cond_d rfl (fun hc2 => ?_) (fun hc2 => ?_) | refine W.cond_nd rfl (fun hc2 => ?_) (fun hc2 => ?_) | refine W.cond rfl (fun hc2 => ?_) (fun hc2 => ?_)
 ·skip
  refine W.rg ?_
  refine SL.val (O.callp rfl rfl rfl (awake_h) .nil hcallOk7 rfl Taken.no) ?_
  refine SL.as (i' := vB true) 21 rfl (by exact iv_bool (rfl)) ?_
  refine SL.an rfl rfl (E.fo (W.ret (E.thr ?_)))
  refine E.fin (rs := [_]) (rn []) (.inl rfl) rfl (.cons (ResOne.tmp rfl) .nil) ?_ ?_ rfl (fixL_spec rfl)
  ·skip
   rfl
  · exact SubS.nil
 refine W.skip (E.to (W.rg ?_))
 refine SL.memS (O.alloc (z := .agg #[.int .i64 0, .slice none 0 0, .slice none 0 0]) (is := [.u (.sc (.int .i64 0)), .u (.sc (.slice none 0 0)), .u (.sc (.slice none 0 0))]) 101 (by kernel_rfl) rfl rfl rfl Taken.no) rfl rfl (S' := (101, _) :: _) rfl ?_
 refine E.fo (W.seq (W.rg (SL.mv rfl rfl ?_)))
 refine SL.val (O.lenE (SlOf.fz rfl (by decide)) (by first | exact List.length_map _ | rfl) Try.underlying22 rfl Taken.no) ?_
 refine SL.mv rfl rfl (E.fo (W.block ?_))
 refine W.nilslC 101 1 8 (is' := [_, _, _]) rfl rfl rfl ?_
 refine W.nilslC 101 2 2 (is' := [_, _, _]) rfl rfl rfl ?_
 refine W.loopx2 (fun (k : Nat) (s : St) => [(24, vI (k : Int))]) (fun (k : Nat) (s : St) => [(101, .cells 28 [vI s.now, vL 8 (s.cps.map eCp), vL 2 (s.lns.map eLn)])]) (fun (k : Nat) (s : St) => k ≤ l.length) (fun (k : Nat) (s : St) => l.length - k) (0) (zeroS) (rn []) (.cons (t := 3) rfl (.cons (t := 22) rfl (.cons (t := 23) rfl .nil))) .nil rfl ?_ ?_ rfl rfl ?_ ?_
 · exact (SubF.cons rfl SubF.nil)
 · exact (SubS.cons rfl SubS.nil)
 ·skip
  omega
 intro k s hinv
 have hk := hinv
 refine W.rg ?_
 refine SL.val (O.det (fun _ => G.R.lss rfl rfl) rfl Taken.no) ?_
 refine E.fo (W.seq ?_)
 first | refine W.cond_d rfl (fun hc3 => ?_) (fun hc3 => ?_) | refine W.cond_nd rfl (fun hc3 => ?_) (fun hc3 => ?_) | refine W.cond rfl (fun hc3 => ?_) (fun hc3 => ?_)
 ·skip
  refine W.skip (E.to (W.seq (W.block (W.rg ?_))))
  refine SL.val (O.idx_fz (i := k) rfl rfl (rfl) (row_get (by omega)) Try.underlying22 hi30 hs30 rfl Taken.no) ?_
  refine SL.val (O.ldU (m := 8) (PtU.fz rfl) rfl Try.underlying30 rfl (by kernel_rfl) rfl Taken.no) ?_
  refine SL.memS (O.alloc (z := .agg #[.int .i64 0, .int .i64 0, .int .i64 0, .int .i64 0, .int .i64 0, .int .i64 0, .int .i64 0, .string ByteArray.empty]) (is := [.u (.sc (.int .i64 0)), .u (.sc (.int .i64 0)), .u (.sc (.int .i64 0)), .u (.sc (.int .i64 0)), .u (.sc (.int .i64 0)), .u (.sc (.int .i64 0)), .u (.sc (.int .i64 0)), .u (.sc (.string ByteArray.empty))]) 102 (by kernel_rfl) rfl rfl rfl Taken.no) rfl rfl (S' := (102, _) :: _) rfl ?_
  refine SL.effS (O.st_ref (m := 8) rfl rfl rfl (js := [_, _, _, _, _, _, _, _]) rfl rfl (by kernel_rfl) (by simp) (Nat.le_of_ble_eq_true rfl) rfl (is' := [_, _, _, _, _, _, _, _]) rfl Taken.no) (S' := (102, _) :: _) rfl ?_
  refine E.fo (W.rg ?_)
  refine SL.val (O.ldN (m := 3) (PtI.ref rfl rfl) (js := [_, _, _]) rfl (Nat.le_of_ble_eq_true rfl) Try.underlying28 rfl (by kernel_rfl) rfl Taken.no) ?_
  refine SL.val (O.ldN (m := 8) (PtI.ref rfl rfl) (js := [_, _, _, _, _, _, _, _]) rfl (Nat.le_of_ble_eq_true rfl) Try.underlying30 rfl (by kernel_rfl) rfl Taken.no) ?_
  refine SL.memS (O.call (rn []) [] rfl rfl rfl (do_h (s := s) (x := l[k]!)) (.cons (ArgOk.aggU (.cons (ArgOk.same rfl) (.cons (ArgOk.same rfl) (.cons (ArgOk.same rfl) .nil)))) (.cons (ArgOk.aggU (.cons (ArgOk.same rfl) (.cons (ArgOk.same rfl) (.cons (ArgOk.same rfl) (.cons (ArgOk.same rfl) (.cons (ArgOk.same rfl) (.cons (ArgOk.same rfl) (.cons (ArgOk.same rfl) (.cons (ArgOk.same rfl) .nil))))))))) .nil)) SubS.nil rfl rfl rfl rfl rfl (.inl rfl) hcallOk9 (r' := .tup [.agg [.u _, .u _, .u _], .u _]) rfl rfl Taken.no) rfl rfl (S' := _) rfl ?_
  refine SL.mv rfl rfl ?_
  refine SL.val (O.extract rfl rfl rfl Taken.no) ?_
  refine SL.val (O.extract rfl rfl rfl Taken.no) ?_
  refine SL.memS (O.alloc (z := .agg #[.int .i64 0, .slice none 0 0, .slice none 0 0]) (is := [.u (.sc (.int .i64 0)), .u (.sc (.slice none 0 0)), .u (.sc (.slice none 0 0))]) 103 (by kernel_rfl) rfl rfl rfl Taken.no) rfl rfl (S' := (103, _) :: _) rfl ?_
  refine SL.effS (O.st_ref (m := 3) rfl rfl rfl (js := [_, _, _]) rfl rfl (by kernel_rfl) (by simp) (Nat.le_of_ble_eq_true rfl) rfl (is' := [_, _, _]) rfl Taken.no) (S' := (103, _) :: _) rfl ?_
  refine SL.an rfl rfl (E.fo (W.seq (W.rg (SL.mv rfl rfl ?_))))
  refine SL.val (O.det (fun _ => G.R.neq rfl rfl) rfl Taken.no) ?_
  refine E.fo ?_
  first | refine W.cond_d rfl (fun hc4 => ?_) (fun hc4 => ?_) | refine W.cond_nd rfl (fun hc4 => ?_) (fun hc4 => ?_) | refine W.cond rfl (fun hc4 => ?_) (fun hc4 => ?_)
  ·skip
   refine W.exit (E.th (E.hit (E.to (W.region ?_))))
   refine SL.val (O.det (fun _ => by first | exact G.R.add64 rfl rfl (by omega) | exact G.R.add rfl rfl) rfl Taken.no) ?_
   refine SL.mv rfl rfl (SL.nil ?_)
   refine E.again ((k + 1), (s)) (rn []) ?_ ?_ rfl (fixL_spec rfl) ?_ ?_
   · exact (SubF.cons rfl (SubF.cons rfl (SubF.cons rfl (SubF.cons rfl SubF.nil))))
   · exact (SubS.cons rfl SubS.nil)
   ·try dsimp only
    omega
   · (try dsimp only); omega
  have he : doE s l[k]! = 0 := by first | assumption | omega | simp_all
  have hdl := do_len he
  have h60 := (do_ok he).1.2.1
  refine W.skip (E.to (W.seq (W.rg ?_)))
  refine SL.val (O.fld_ref (o' := 1) rfl Try.underlying28 rfl (m := 0) (by kernel_rfl) rfl rfl Taken.no) ?_
  refine SL.val (O.ld1 (PtI.ref rfl rfl) rfl Try.underlying25 rfl rfl Taken.no) ?_
  refine SL.val (O.lenE (SlOf.fz rfl (by decide)) (by first | exact List.length_map _ | rfl) Try.underlying25 rfl Taken.no) ?_
  refine SL.mv rfl rfl (E.fo (W.block ?_))
  refine W.loopx1 (fun (j : Nat) => [(39, vI (j : Int))]) (fun (j : Nat) => []) (fun (j : Nat) => j ≤ s.cps.length) (fun (j : Nat) => s.cps.length - j) (0) (rn []) (.cons (t := 3) rfl (.cons (t := 5) rfl (.cons (t := 6) rfl (.cons (t := 22) rfl (.cons (t := 23) rfl (.cons (t := 24) rfl (.cons (t := 37) rfl (.cons (t := 38) rfl .nil)))))))) (.cons (t := 101) rfl (.cons (t := 102) rfl (.cons (t := 103) rfl .nil))) rfl ?_ ?_ rfl rfl ?_ ?_
  · exact (SubF.cons rfl SubF.nil)
  · exact SubS.nil
  ·skip
   omega
  intro j hinv
  have hj := hinv
  refine W.rg ?_
  refine SL.val (O.det (fun _ => G.R.lss rfl rfl) rfl Taken.no) ?_
  refine E.fo (W.seq ?_)
  first | refine W.cond_d rfl (fun hc5 => ?_) (fun hc5 => ?_) | refine W.cond_nd rfl (fun hc5 => ?_) (fun hc5 => ?_) | refine W.cond rfl (fun hc5 => ?_) (fun hc5 => ?_)
  ·skip
   have hone := copies_one he (c := s.cps[j]!) (at_mem (by omega))
   refine W.skip (E.to (W.seq (W.block (W.rg ?_))))
   refine SL.val (O.idx_fz (i := j) rfl rfl (rfl) (row_get (by omega)) Try.underlying25 hi43 hs43 rfl Taken.no) ?_
   refine SL.val (O.ldU (m := 8) (PtU.fz rfl) rfl Try.underlying43 rfl (by kernel_rfl) rfl Taken.no) ?_
   refine SL.memS (O.alloc (z := .agg #[.int .i64 0, .int .i64 0, .string ByteArray.empty, .int .i64 0, .int .i64 0, .int .i64 0, .int .i64 0, .bool false]) (is := [.u (.sc (.int .i64 0)), .u (.sc (.int .i64 0)), .u (.sc (.string ByteArray.empty)), .u (.sc (.int .i64 0)), .u (.sc (.int .i64 0)), .u (.sc (.int .i64 0)), .u (.sc (.int .i64 0)), .u (.sc (.bool false))]) 104 (by kernel_rfl) rfl rfl rfl Taken.no) rfl rfl (S' := (104, _) :: _) rfl ?_
   refine SL.effS (O.st_ref (m := 8) rfl rfl rfl (js := [_, _, _, _, _, _, _, _]) rfl rfl (by kernel_rfl) (by simp) (Nat.le_of_ble_eq_true rfl) rfl (is' := [_, _, _, _, _, _, _, _]) rfl Taken.no) (S' := (104, _) :: _) rfl ?_
   refine E.fo (W.rg ?_)
   refine SL.val (O.ldN (m := 3) (PtI.ref rfl rfl) (js := [_, _, _]) rfl (Nat.le_of_ble_eq_true rfl) Try.underlying28 rfl (by kernel_rfl) rfl Taken.no) ?_
   refine SL.val (O.fld_ref (o' := 0) rfl Try.underlying43 rfl (m := 0) (by kernel_rfl) rfl rfl Taken.no) ?_
   refine SL.val (O.ld1 (PtI.ref rfl rfl) rfl Try.underlying3 rfl rfl Taken.no) ?_
   refine SL.memS (O.call (rn []) [] rfl rfl rfl (find_h (s := (doS s l[k]!)) (i := s.cps[j]!.id)) (.cons (ArgOk.aggU (.cons (ArgOk.same rfl) (.cons (ArgOk.same rfl) (.cons (ArgOk.same rfl) .nil)))) (.cons (ArgOk.same rfl) .nil)) SubS.nil rfl rfl rfl rfl rfl (.inl rfl) hcallOk13 (r' := .tup [.agg [.u _, .u _, .u _, .u _, .u _, .u _, .u _, .u _], .u _]) rfl rfl Taken.no) rfl rfl (S' := _) rfl ?_
   refine SL.mv rfl rfl ?_
   refine SL.val (O.extract rfl rfl rfl Taken.no) ?_
   refine SL.val (O.extract rfl rfl rfl Taken.no) ?_
   refine SL.memS (O.alloc (z := .agg #[.int .i64 0, .int .i64 0, .string ByteArray.empty, .int .i64 0, .int .i64 0, .int .i64 0, .int .i64 0, .bool false]) (is := [.u (.sc (.int .i64 0)), .u (.sc (.int .i64 0)), .u (.sc (.string ByteArray.empty)), .u (.sc (.int .i64 0)), .u (.sc (.int .i64 0)), .u (.sc (.int .i64 0)), .u (.sc (.int .i64 0)), .u (.sc (.bool false))]) 105 (by kernel_rfl) rfl rfl rfl Taken.no) rfl rfl (S' := (105, _) :: _) rfl ?_
   refine SL.effS (O.st_ref (m := 8) rfl rfl rfl (js := [_, _, _, _, _, _, _, _]) rfl rfl (by kernel_rfl) (by simp) (Nat.le_of_ble_eq_true rfl) rfl (is' := [_, _, _, _, _, _, _, _]) rfl Taken.no) (S' := (105, _) :: _) rfl ?_
   refine SL.an rfl rfl (E.fo (W.rg ?_))
   refine SL.val (O.fld_ref (o' := 0) rfl Try.underlying30 rfl (m := 0) (by kernel_rfl) rfl rfl Taken.no) ?_
   refine SL.val (O.ld1 (PtI.ref rfl rfl) rfl Try.underlying3 rfl rfl Taken.no) ?_
   refine SL.val (O.det (fun _ => G.R.eql rfl rfl) rfl Taken.no) ?_
   refine SL.mv rfl rfl ?_
   refine SL.case (j := 3) (g := 53) (want := true) rfl rfl (fun hg6 => ?_) (fun hg6 => ?_)
   ·skip
    first | have hg6p := G.gA1 hg6 | have hg6p := G.gA2 hg6 | have hg6p := hg6
    refine SL.val (O.fld_ref (o' := 1) rfl Try.underlying30 rfl (m := 0) (by kernel_rfl) rfl rfl (Taken.yes rfl rfl hg6)) ?_
    refine SL.val (O.ld1 (PtI.ref rfl rfl) rfl Try.underlying3 rfl rfl (Taken.yes rfl rfl hg6)) ?_
    refine SL.val (O.fld_ref (o' := 0) rfl Try.underlying43 rfl (m := 0) (by kernel_rfl) rfl rfl (Taken.yes rfl rfl hg6)) ?_
    refine SL.val (O.ld1 (PtI.ref rfl rfl) rfl Try.underlying3 rfl rfl (Taken.yes rfl rfl hg6)) ?_
    refine SL.val (O.det (fun _ => G.R.eql rfl rfl) rfl (Taken.yes rfl rfl hg6)) ?_
    refine SL.val (O.pick_t rfl hg6 rfl rfl Taken.no) ?_
    refine SL.an rfl rfl (E.fo ?_)
    refine W.pick (K:=[(3,_),(5,_),(6,_),(9,_),(10,_),(11,_),(12,_),(22,_),(23,_),(24,_),(37,_),(38,_),(39,_)]) (Z:=[(101,_),(102,_),(103,_),(104,_),(105,_)]) ⟨rfl,rfl,rfl,rfl,rfl,rfl,rfl,rfl,rfl,rfl,rfl,rfl,rfl,trivial⟩ ⟨rfl,rfl,rfl,rfl,rfl,trivial⟩ ?_
    refine W.rg (SL.mv rfl rfl (SL.mv rfl rfl ?_))
    refine SL.val (O.det (fun _ => G.R.mv (G.R.booleql rfl rfl Try.underlying4) (congrArg Value.bool (by show (decide (0 ≤ cpI (doS s l[k]!) s.cps[j]!.id) == _) = false; rw [hone.1, goneB]; simp_all))) rfl Taken.no) ?_
    refine SL.mv rfl rfl ?_
    have hg7 : false = false := by decide
    refine SL.val (O.move rfl rfl (Taken.yes rfl rfl hg7)) ?_
    refine SL.val (O.move rfl rfl (Taken.yes rfl rfl hg7)) ?_
    refine SL.case (j := 5) (g := 65) (want := true) rfl rfl (fun hg8 => ?_) (fun hg8 => ?_)
    ·skip
     first | have hg8p := G.gA1 hg8 | have hg8p := G.gA2 hg8 | have hg8p := hg8
     have hw := hone.2 (by first | assumption | simp_all)
     refine SL.val (O.fld_ref (o' := 1) rfl Try.underlying43 rfl (m := 0) (by kernel_rfl) rfl rfl (Taken.yes rfl rfl hg8)) ?_
     refine SL.val (O.ld1 (PtI.ref rfl rfl) rfl Try.underlying3 rfl rfl (Taken.yes rfl rfl hg8)) ?_
     refine SL.val (O.fld_ref (o' := 1) rfl Try.underlying43 rfl (m := 0) (by kernel_rfl) rfl rfl (Taken.yes rfl rfl hg8)) ?_
     refine SL.val (O.ld1 (PtI.ref rfl rfl) rfl Try.underlying3 rfl rfl (Taken.yes rfl rfl hg8)) ?_
     refine SL.val (O.det (fun _ => G.R.mv (G.R.neq rfl rfl) (congrArg Value.bool (decide_eq_false (by exact fun z => z hw.1)))) rfl (Taken.yes rfl rfl hg8)) ?_
     refine SL.val (O.move rfl rfl (Taken.yes rfl rfl hg8)) ?_
     have hg9 : false = false := by decide
     refine SL.val (O.fld_ref (o' := 2) rfl Try.underlying43 rfl (m := 0) (by kernel_rfl) rfl rfl (Taken.yes rfl rfl hg9)) ?_
     refine SL.val (O.ld1 (PtI.ref rfl rfl) rfl Try.underlying9 rfl rfl (Taken.yes rfl rfl hg9)) ?_
     refine SL.val (O.fld_ref (o' := 2) rfl Try.underlying43 rfl (m := 0) (by kernel_rfl) rfl rfl (Taken.yes rfl rfl hg9)) ?_
     refine SL.val (O.ld1 (PtI.ref rfl rfl) rfl Try.underlying9 rfl rfl (Taken.yes rfl rfl hg9)) ?_
     refine SL.val (O.det (fun _ => G.R.mv (G.R.strneL  rfl rfl) (congrArg Value.bool (decide_eq_false (by exact fun z => z hw.2)))) rfl (Taken.yes rfl rfl hg9)) ?_
     refine SL.val (O.pick_f rfl rfl rfl rfl (Taken.yes rfl rfl hg8)) ?_
     refine SL.val (O.pick_t rfl hg8 rfl rfl (Taken.yes rfl rfl hg7)) ?_
     refine SL.val (O.pick_f rfl rfl rfl rfl Taken.no) ?_
     refine E.fo ?_
     refine W.pick (K:=[(3,_),(5,_),(6,_),(22,_),(23,_),(24,_),(37,_),(38,_),(39,_),(79,_)]) (Z:=[(101,_),(102,_),(103,_),(104,_),(105,_)]) ⟨rfl,rfl,rfl,rfl,rfl,rfl,rfl,rfl,rfl,rfl,trivial⟩ ⟨rfl,rfl,rfl,rfl,rfl,trivial⟩ ?_
     refine W.cond_f rfl ?_
     refine W.skip (E.inn (E.to (W.region ?_)))
     refine SL.val (O.det (fun _ => by first | exact G.R.add64 rfl rfl (by omega) | exact G.R.add rfl rfl) rfl Taken.no) ?_
     refine SL.mv rfl rfl (SL.nil ?_)
     refine E.again ((j + 1)) (rn []) ?_ ?_ rfl (fixL_spec rfl) ?_ ?_
     · exact (SubF.cons rfl (SubF.cons rfl (SubF.cons rfl (SubF.cons rfl (SubF.cons rfl (SubF.cons rfl (SubF.cons rfl (SubF.cons rfl (SubF.cons rfl SubF.nil)))))))))
     · exact (SubS.cons rfl (SubS.cons rfl (SubS.cons rfl SubS.nil)))
     ·try dsimp only
      omega
     · (try dsimp only); omega
    first | have hg8p := G.gA5 hg8 | have hg8p := G.gA6 hg8 | have hg8p := hg8
    refine SL.sk rfl rfl rfl hg8 (SL.sk rfl rfl rfl hg8 (SL.sk rfl rfl rfl hg8 (SL.sk rfl rfl rfl hg8 (SL.sk rfl rfl rfl hg8 (SL.sk rfl rfl rfl hg8 ?_)))))
    refine SL.skip (OpOk.not2 rfl rfl rfl) ?_
    refine SL.skip (OpOk.not2 rfl rfl rfl) ?_
    refine SL.skip (OpOk.not2 rfl rfl rfl) ?_
    refine SL.skip (OpOk.not2 rfl rfl rfl) ?_
    refine SL.skip (OpOk.not2 rfl rfl rfl) ?_
    refine SL.sk rfl rfl rfl hg8 ?_
    refine SL.val (O.pick_f rfl (G.ne_t hg8) rfl rfl (Taken.yes rfl rfl hg7)) ?_
    refine SL.val (O.pick_f rfl rfl rfl rfl Taken.no) ?_
    refine E.fo ?_
    refine W.pick (K:=[(3,_),(5,_),(6,_),(22,_),(23,_),(24,_),(37,_),(38,_),(39,_),(79,_)]) (Z:=[(101,_),(102,_),(103,_),(104,_),(105,_)]) ⟨rfl,rfl,rfl,rfl,rfl,rfl,rfl,rfl,rfl,rfl,trivial⟩ ⟨rfl,rfl,rfl,rfl,rfl,trivial⟩ ?_
    refine W.cond_f rfl ?_
    refine W.skip (E.inn (E.to (W.region ?_)))
    refine SL.val (O.det (fun _ => by first | exact G.R.add64 rfl rfl (by omega) | exact G.R.add rfl rfl) rfl Taken.no) ?_
    refine SL.mv rfl rfl (SL.nil ?_)
    refine E.again ((j + 1)) (rn []) ?_ ?_ rfl (fixL_spec rfl) ?_ ?_
    · exact (SubF.cons rfl (SubF.cons rfl (SubF.cons rfl (SubF.cons rfl (SubF.cons rfl (SubF.cons rfl (SubF.cons rfl (SubF.cons rfl (SubF.cons rfl SubF.nil)))))))))
    · exact (SubS.cons rfl (SubS.cons rfl (SubS.cons rfl SubS.nil)))
    ·try dsimp only
     omega
    · (try dsimp only); omega
   first | have hg6p := G.gA5 hg6 | have hg6p := G.gA6 hg6 | have hg6p := hg6
   refine SL.sk rfl rfl rfl hg6 (SL.sk rfl rfl rfl hg6 (SL.sk rfl rfl rfl hg6 (SL.sk rfl rfl rfl hg6 (SL.sk rfl rfl rfl hg6 ?_))))
   refine SL.val (O.pick_f rfl (G.ne_t hg6) rfl rfl Taken.no) ?_
   refine SL.an rfl rfl (E.fo ?_)
   refine W.pick (K:=[(3,_),(5,_),(6,_),(9,_),(10,_),(11,_),(12,_),(22,_),(23,_),(24,_),(37,_),(38,_),(39,_)]) (Z:=[(101,_),(102,_),(103,_),(104,_),(105,_)]) ⟨rfl,rfl,rfl,rfl,rfl,rfl,rfl,rfl,rfl,rfl,rfl,rfl,rfl,trivial⟩ ⟨rfl,rfl,rfl,rfl,rfl,trivial⟩ ?_
   refine W.rg (SL.mv rfl rfl (SL.mv rfl rfl ?_))
   refine SL.val (O.det (fun _ => G.R.mv (G.R.booleql rfl rfl Try.underlying4) (congrArg Value.bool (by show (decide (0 ≤ cpI (doS s l[k]!) s.cps[j]!.id) == _) = false; rw [hone.1, goneB]; simp_all))) rfl Taken.no) ?_
   refine SL.mv rfl rfl ?_
   have hg10 : false = false := by decide
   refine SL.val (O.move rfl rfl (Taken.yes rfl rfl hg10)) ?_
   refine SL.val (O.move rfl rfl (Taken.yes rfl rfl hg10)) ?_
   refine SL.case (j := 5) (g := 65) (want := true) rfl rfl (fun hg11 => ?_) (fun hg11 => ?_)
   ·skip
    first | have hg11p := G.gA1 hg11 | have hg11p := G.gA2 hg11 | have hg11p := hg11
    have hw := hone.2 (by first | assumption | simp_all)
    refine SL.val (O.fld_ref (o' := 1) rfl Try.underlying43 rfl (m := 0) (by kernel_rfl) rfl rfl (Taken.yes rfl rfl hg11)) ?_
    refine SL.val (O.ld1 (PtI.ref rfl rfl) rfl Try.underlying3 rfl rfl (Taken.yes rfl rfl hg11)) ?_
    refine SL.val (O.fld_ref (o' := 1) rfl Try.underlying43 rfl (m := 0) (by kernel_rfl) rfl rfl (Taken.yes rfl rfl hg11)) ?_
    refine SL.val (O.ld1 (PtI.ref rfl rfl) rfl Try.underlying3 rfl rfl (Taken.yes rfl rfl hg11)) ?_
    refine SL.val (O.det (fun _ => G.R.mv (G.R.neq rfl rfl) (congrArg Value.bool (decide_eq_false (by exact fun z => z hw.1)))) rfl (Taken.yes rfl rfl hg11)) ?_
    refine SL.val (O.move rfl rfl (Taken.yes rfl rfl hg11)) ?_
    have hg12 : false = false := by decide
    refine SL.val (O.fld_ref (o' := 2) rfl Try.underlying43 rfl (m := 0) (by kernel_rfl) rfl rfl (Taken.yes rfl rfl hg12)) ?_
    refine SL.val (O.ld1 (PtI.ref rfl rfl) rfl Try.underlying9 rfl rfl (Taken.yes rfl rfl hg12)) ?_
    refine SL.val (O.fld_ref (o' := 2) rfl Try.underlying43 rfl (m := 0) (by kernel_rfl) rfl rfl (Taken.yes rfl rfl hg12)) ?_
    refine SL.val (O.ld1 (PtI.ref rfl rfl) rfl Try.underlying9 rfl rfl (Taken.yes rfl rfl hg12)) ?_
    refine SL.val (O.det (fun _ => G.R.mv (G.R.strneL  rfl rfl) (congrArg Value.bool (decide_eq_false (by exact fun z => z hw.2)))) rfl (Taken.yes rfl rfl hg12)) ?_
    refine SL.val (O.pick_f rfl rfl rfl rfl (Taken.yes rfl rfl hg11)) ?_
    refine SL.val (O.pick_t rfl hg11 rfl rfl (Taken.yes rfl rfl hg10)) ?_
    refine SL.val (O.pick_f rfl rfl rfl rfl Taken.no) ?_
    refine E.fo ?_
    refine W.pick (K:=[(3,_),(5,_),(6,_),(22,_),(23,_),(24,_),(37,_),(38,_),(39,_),(79,_)]) (Z:=[(101,_),(102,_),(103,_),(104,_),(105,_)]) ⟨rfl,rfl,rfl,rfl,rfl,rfl,rfl,rfl,rfl,rfl,trivial⟩ ⟨rfl,rfl,rfl,rfl,rfl,trivial⟩ ?_
    refine W.cond_f rfl ?_
    refine W.skip (E.inn (E.to (W.region ?_)))
    refine SL.val (O.det (fun _ => by first | exact G.R.add64 rfl rfl (by omega) | exact G.R.add rfl rfl) rfl Taken.no) ?_
    refine SL.mv rfl rfl (SL.nil ?_)
    refine E.again ((j + 1)) (rn []) ?_ ?_ rfl (fixL_spec rfl) ?_ ?_
    · exact (SubF.cons rfl (SubF.cons rfl (SubF.cons rfl (SubF.cons rfl (SubF.cons rfl (SubF.cons rfl (SubF.cons rfl (SubF.cons rfl (SubF.cons rfl SubF.nil)))))))))
    · exact (SubS.cons rfl (SubS.cons rfl (SubS.cons rfl SubS.nil)))
    ·try dsimp only
     omega
    · (try dsimp only); omega
   first | have hg11p := G.gA5 hg11 | have hg11p := G.gA6 hg11 | have hg11p := hg11
   refine SL.sk rfl rfl rfl hg11 (SL.sk rfl rfl rfl hg11 (SL.sk rfl rfl rfl hg11 (SL.sk rfl rfl rfl hg11 (SL.sk rfl rfl rfl hg11 (SL.sk rfl rfl rfl hg11 ?_)))))
   refine SL.skip (OpOk.not2 rfl rfl rfl) ?_
   refine SL.skip (OpOk.not2 rfl rfl rfl) ?_
   refine SL.skip (OpOk.not2 rfl rfl rfl) ?_
   refine SL.skip (OpOk.not2 rfl rfl rfl) ?_
   refine SL.skip (OpOk.not2 rfl rfl rfl) ?_
   refine SL.sk rfl rfl rfl hg11 ?_
   refine SL.val (O.pick_f rfl (G.ne_t hg11) rfl rfl (Taken.yes rfl rfl hg10)) ?_
   refine SL.val (O.pick_f rfl rfl rfl rfl Taken.no) ?_
   refine E.fo ?_
   refine W.pick (K:=[(3,_),(5,_),(6,_),(22,_),(23,_),(24,_),(37,_),(38,_),(39,_),(79,_)]) (Z:=[(101,_),(102,_),(103,_),(104,_),(105,_)]) ⟨rfl,rfl,rfl,rfl,rfl,rfl,rfl,rfl,rfl,rfl,trivial⟩ ⟨rfl,rfl,rfl,rfl,rfl,trivial⟩ ?_
   refine W.cond_f rfl ?_
   refine W.skip (E.inn (E.to (W.region ?_)))
   refine SL.val (O.det (fun _ => by first | exact G.R.add64 rfl rfl (by omega) | exact G.R.add rfl rfl) rfl Taken.no) ?_
   refine SL.mv rfl rfl (SL.nil ?_)
   refine E.again ((j + 1)) (rn []) ?_ ?_ rfl (fixL_spec rfl) ?_ ?_
   · exact (SubF.cons rfl (SubF.cons rfl (SubF.cons rfl (SubF.cons rfl (SubF.cons rfl (SubF.cons rfl (SubF.cons rfl (SubF.cons rfl (SubF.cons rfl SubF.nil)))))))))
   · exact (SubS.cons rfl (SubS.cons rfl (SubS.cons rfl SubS.nil)))
   ·try dsimp only
    omega
   · (try dsimp only); omega
  refine W.exit (E.th (E.th (E.hit (E.to (W.rg ?_)))))
  refine SL.val (O.fld_ref (o' := 1) rfl Try.underlying28 rfl (m := 0) (by kernel_rfl) rfl rfl Taken.no) ?_
  refine SL.val (O.ld1 (PtI.ref rfl rfl) rfl Try.underlying25 rfl rfl Taken.no) ?_
  refine SL.val (O.lenE (SlOf.fz rfl (by decide)) (by first | exact List.length_map _ | rfl) Try.underlying25 rfl Taken.no) ?_
  refine SL.an rfl rfl (E.fo (W.seq (W.rg ?_)))
  refine SL.val (O.fld_ref (o' := 0) rfl Try.underlying30 rfl (m := 0) (by kernel_rfl) rfl rfl Taken.no) ?_
  refine SL.val (O.ld1 (PtI.ref rfl rfl) rfl Try.underlying3 rfl rfl Taken.no) ?_
  refine E.fo (W.block (W.rg ?_))
  refine SL.val (O.det (fun _ => G.R.eql rfl rfl) rfl Taken.no) ?_
  refine SL.an rfl rfl (E.fo ?_)
  first | refine W.cond_d rfl (fun hc13 => ?_) (fun hc13 => ?_) | refine W.cond_nd rfl (fun hc13 => ?_) (fun hc13 => ?_) | refine W.cond rfl (fun hc13 => ?_) (fun hc13 => ?_)
  ·skip
   refine W.region (SL.mv rfl rfl ?_)
   refine SL.val (O.det (fun _ => by first | exact G.R.add64 rfl rfl (by omega) | exact G.R.add rfl rfl) rfl Taken.no) ?_
   refine SL.an rfl rfl (SL.nil (E.inn (E.to (W.seq (W.rg ?_)))))
   refine SL.val (O.fld_ref (o' := 1) rfl Try.underlying28 rfl (m := 0) (by kernel_rfl) rfl rfl Taken.no) ?_
   refine SL.val (O.ld1 (PtI.ref rfl rfl) rfl Try.underlying25 rfl rfl Taken.no) ?_
   refine SL.val (O.lenE (SlOf.fz rfl (by decide)) (by first | exact List.length_map _ | rfl) Try.underlying25 rfl Taken.no) ?_
   refine SL.mv rfl rfl ?_
   refine SL.val (O.det (fun _ => G.R.mv (G.R.neq rfl rfl) (congrArg Value.bool (decide_eq_false (by intro z; have z2 := copies_len he; unfold wantN at z2; first | omega | (split at z2 <;> first | omega | (split at z2 <;> omega)))))) rfl Taken.no) ?_
   refine E.fo ?_
   refine W.pick (K:=[(3,_),(6,_),(22,_),(23,_),(24,_),(98,_)]) (Z:=[(101,_),(102,_),(103,_)]) ⟨rfl,rfl,rfl,rfl,rfl,rfl,trivial⟩ ⟨rfl,rfl,rfl,trivial⟩ ?_
   refine W.cond_f rfl ?_
   refine W.skip (E.to (W.region ?_))
   refine SL.val (O.ldN (m := 3) (PtI.ref rfl rfl) (js := [_, _, _]) rfl (Nat.le_of_ble_eq_true rfl) Try.underlying28 rfl (by kernel_rfl) rfl Taken.no) ?_
   refine SL.effS (O.st_ref (m := 3) rfl rfl rfl (js := [_, _, _]) rfl rfl (by kernel_rfl) (by simp) (Nat.le_of_ble_eq_true rfl) rfl (is' := [_, _, _]) rfl Taken.no) (S' := (101, _) :: _) rfl ?_
   refine SL.nil (E.inn (E.to (W.region ?_)))
   refine SL.val (O.det (fun _ => by first | exact G.R.add64 rfl rfl (by omega) | exact G.R.add rfl rfl) rfl Taken.no) ?_
   refine SL.mv rfl rfl (SL.nil ?_)
   refine E.again ((k + 1), ((doS s l[k]!))) (rn []) ?_ ?_ rfl (fixL_spec rfl) ?_ ?_
   · exact (SubF.cons rfl (SubF.cons rfl (SubF.cons rfl (SubF.cons rfl SubF.nil))))
   · exact (SubS.cons rfl SubS.nil)
   ·try dsimp only
    omega
   · (try dsimp only); omega
  refine W.rg ?_
  refine SL.val (O.det (fun _ => G.R.eql rfl rfl) rfl Taken.no) ?_
  refine SL.an rfl rfl (E.fo ?_)
  first | refine W.cond_d rfl (fun hc14 => ?_) (fun hc14 => ?_) | refine W.cond_nd rfl (fun hc14 => ?_) (fun hc14 => ?_) | refine W.cond rfl (fun hc14 => ?_) (fun hc14 => ?_)
  ·skip
   refine W.region (SL.mv rfl rfl ?_)
   refine SL.val (O.det (fun _ => by first | exact G.R.sub64 rfl rfl (by omega) | exact G.R.sub rfl rfl) rfl Taken.no) ?_
   refine SL.an rfl rfl (SL.nil (E.inn (E.to (W.seq (W.rg ?_)))))
   refine SL.val (O.fld_ref (o' := 1) rfl Try.underlying28 rfl (m := 0) (by kernel_rfl) rfl rfl Taken.no) ?_
   refine SL.val (O.ld1 (PtI.ref rfl rfl) rfl Try.underlying25 rfl rfl Taken.no) ?_
   refine SL.val (O.lenE (SlOf.fz rfl (by decide)) (by first | exact List.length_map _ | rfl) Try.underlying25 rfl Taken.no) ?_
   refine SL.mv rfl rfl ?_
   refine SL.val (O.det (fun _ => G.R.mv (G.R.neq rfl rfl) (congrArg Value.bool (decide_eq_false (by intro z; have z2 := copies_len he; unfold wantN at z2; first | omega | (split at z2 <;> first | omega | (split at z2 <;> omega)))))) rfl Taken.no) ?_
   refine E.fo ?_
   refine W.pick (K:=[(3,_),(6,_),(22,_),(23,_),(24,_),(98,_)]) (Z:=[(101,_),(102,_),(103,_)]) ⟨rfl,rfl,rfl,rfl,rfl,rfl,trivial⟩ ⟨rfl,rfl,rfl,trivial⟩ ?_
   refine W.cond_f rfl ?_
   refine W.skip (E.to (W.region ?_))
   refine SL.val (O.ldN (m := 3) (PtI.ref rfl rfl) (js := [_, _, _]) rfl (Nat.le_of_ble_eq_true rfl) Try.underlying28 rfl (by kernel_rfl) rfl Taken.no) ?_
   refine SL.effS (O.st_ref (m := 3) rfl rfl rfl (js := [_, _, _]) rfl rfl (by kernel_rfl) (by simp) (Nat.le_of_ble_eq_true rfl) rfl (is' := [_, _, _]) rfl Taken.no) (S' := (101, _) :: _) rfl ?_
   refine SL.nil (E.inn (E.to (W.region ?_)))
   refine SL.val (O.det (fun _ => by first | exact G.R.add64 rfl rfl (by omega) | exact G.R.add rfl rfl) rfl Taken.no) ?_
   refine SL.mv rfl rfl (SL.nil ?_)
   refine E.again ((k + 1), ((doS s l[k]!))) (rn []) ?_ ?_ rfl (fixL_spec rfl) ?_ ?_
   · exact (SubF.cons rfl (SubF.cons rfl (SubF.cons rfl (SubF.cons rfl SubF.nil))))
   · exact (SubS.cons rfl SubS.nil)
   ·try dsimp only
    omega
   · (try dsimp only); omega
  refine W.skip (E.inn (E.to (W.seq (W.rg ?_))))
  refine SL.val (O.fld_ref (o' := 1) rfl Try.underlying28 rfl (m := 0) (by kernel_rfl) rfl rfl Taken.no) ?_
  refine SL.val (O.ld1 (PtI.ref rfl rfl) rfl Try.underlying25 rfl rfl Taken.no) ?_
  refine SL.val (O.lenE (SlOf.fz rfl (by decide)) (by first | exact List.length_map _ | rfl) Try.underlying25 rfl Taken.no) ?_
  refine SL.mv rfl rfl ?_
  refine SL.val (O.det (fun _ => G.R.mv (G.R.neq rfl rfl) (congrArg Value.bool (decide_eq_false (by intro z; have z2 := copies_len he; unfold wantN at z2; first | omega | (split at z2 <;> first | omega | (split at z2 <;> omega)))))) rfl Taken.no) ?_
  refine E.fo ?_
  refine W.pick (K:=[(3,_),(6,_),(22,_),(23,_),(24,_),(98,_)]) (Z:=[(101,_),(102,_),(103,_)]) ⟨rfl,rfl,rfl,rfl,rfl,rfl,trivial⟩ ⟨rfl,rfl,rfl,trivial⟩ ?_
  refine W.cond_f rfl ?_
  refine W.skip (E.to (W.region ?_))
  refine SL.val (O.ldN (m := 3) (PtI.ref rfl rfl) (js := [_, _, _]) rfl (Nat.le_of_ble_eq_true rfl) Try.underlying28 rfl (by kernel_rfl) rfl Taken.no) ?_
  refine SL.effS (O.st_ref (m := 3) rfl rfl rfl (js := [_, _, _]) rfl rfl (by kernel_rfl) (by simp) (Nat.le_of_ble_eq_true rfl) rfl (is' := [_, _, _]) rfl Taken.no) (S' := (101, _) :: _) rfl ?_
  refine SL.nil (E.inn (E.to (W.region ?_)))
  refine SL.val (O.det (fun _ => by first | exact G.R.add64 rfl rfl (by omega) | exact G.R.add rfl rfl) rfl Taken.no) ?_
  refine SL.mv rfl rfl (SL.nil ?_)
  refine E.again ((k + 1), ((doS s l[k]!))) (rn []) ?_ ?_ rfl (fixL_spec rfl) ?_ ?_
  · exact (SubF.cons rfl (SubF.cons rfl (SubF.cons rfl (SubF.cons rfl SubF.nil))))
  · exact (SubS.cons rfl SubS.nil)
  ·try dsimp only
   omega
  · (try dsimp only); omega
 refine W.exit (E.th (E.th (E.hit (E.to (W.rg (SL.an rfl rfl (E.fo (W.ret ?_))))))))
 refine E.fin (rs := [_]) (rn []) (.inl rfl) rfl (.cons (ResOne.tmp rfl) .nil) ?_ ?_ rfl (fixL_spec rfl)
 ·skip
  rfl
 · exact SubS.nil




end Go.Proofs.Ytmekkjehkcjpdaa
end
