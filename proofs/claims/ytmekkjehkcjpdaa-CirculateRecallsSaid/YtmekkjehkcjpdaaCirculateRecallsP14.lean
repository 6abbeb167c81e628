/-
  What the proof rests on: part 14 of 14.
-/
import Derived.Test.YtmekkjehkcjpdaaCirculateRecallsP13
section
namespace Go.Proofs.Ytmekkjehkcjpdaa
open Go Go.RowKit Go.H Go.D57 Go.D58

theorem hinf34 : ∃ i, Try.prog.info? 34 = some i ∧ i.zero = some (.agg #[.int .i64 0, .int .i64 0, .int .i64 0, .int .i64 0, .int .i64 0, .int .i64 0, .int .i64 0, .string ByteArray.empty]) ∧ i.size = 8 ∧ i.bytes = 72 := G.info_of (by kernel_rfl)
theorem hinf58 : ∃ i, Try.prog.info? 58 = some i ∧ i.zero = some (.nilFunc) ∧ i.size = 1 ∧ i.bytes = 8 := G.info_of (by kernel_rfl)
theorem hcallOk9 : G.callOk Try.prog 9 = true := by kernel_rfl
theorem hcallOk16 : G.callOk Try.prog 16 = true := by kernel_rfl
theorem hcallOk18 : G.callOk Try.prog 18 = true := by kernel_rfl
theorem hcallOk19 : G.callOk Try.prog 19 = true := by kernel_rfl
theorem hcallOk20 : G.callOk Try.prog 20 = true := by kernel_rfl
theorem hcallOk21 : G.callOk Try.prog 21 = true := by kernel_rfl
theorem hcallOk22 : G.callOk Try.prog 22 = true := by kernel_rfl
theorem hcallOk23 : G.callOk Try.prog 23 = true := by kernel_rfl
theorem hcallOk24 : G.callOk Try.prog 24 = true := by kernel_rfl
theorem hcallOk25 : G.callOk Try.prog 25 = true := by kernel_rfl
theorem hcallOk26 : G.callOk Try.prog 26 = true := by kernel_rfl
theorem hcallOk27 : G.callOk Try.prog 27 = true := by kernel_rfl

def spV (x : Sp) : List Value := [.int .i64 x.kind, .int .i64 x.copy, .int .i64 x.work, .int .i64 x.pat, .int .i64 x.hold, .int .i64 x.cls, .int .i64 x.days, .string (G.bs x.lib)]
theorem bs_list (l : List UInt8) : (G.bs l).toList = l := by rw [ByteArray.toList_eq]
theorem eqSp (a b : Sp) : eqvL (spV a) (spV b) = decide (a = b) := by
  cases a; cases b
  rw [Bool.eq_iff_iff]
  simp only [spV, eqvL, eqv, bs_list]
  simp

set_option maxRecDepth 8000 in
theorem do_h {s : St} {x : Sp} :
    Con Try.prog 9 [vA [uI s.now, .sl 8 (s.cps.map eCp), .sl 2 (s.lns.map eLn)], vA (eSp x)] [] (.tup [.agg [vI (doS s x).now, vL 8 ((doS s x).cps.map eCp), vL 2 ((doS s x).lns.map eLn)], vI (doE s x)]) [] := by
 obtain ⟨i58, hi58, hz58, hs58, hb58⟩ := hinf58
 refine Con.enterL (n := 39) Try.func9 rfl rfl rfl (fun τ w ok vs hin => ?_)
 have hl0_1 := hin.lenA (i := 0) (j := 1) rfl rfl
 try rw [List.length_map] at hl0_1
 have hl0_2 := hin.lenA (i := 0) (j := 2) rfl rfl
 try rw [List.length_map] at hl0_2
 clear hin
 refine W.rg ?_
 refine SL.memS (O.box (is := [_, _, _]) 101 rfl rfl (by simp) rfl rfl Taken.no) rfl rfl (S' := (101, _) :: _) rfl ?_
 refine SL.memS (O.box (is := [_, _, _, _, _, _, _, _]) 102 rfl rfl (by simp) rfl rfl Taken.no) rfl rfl (S' := (102, _) :: _) rfl ?_
 refine SL.memS (O.alloc (z := .agg #[.int .i64 0, .slice none 0 0, .slice none 0 0]) (is := [.u (.sc (.int .i64 0)), .u (.sc (.slice none 0 0)), .u (.sc (.slice none 0 0))]) 103 (by kernel_rfl) rfl rfl rfl Taken.no) rfl rfl (S' := (103, _) :: _) rfl ?_
 refine SL.an rfl rfl (E.fo (W.seq (W.seq ?_)))
 refine W.draw [⟨[101], [], [], []⟩, ⟨[], [], [], []⟩, ⟨[], [], [], []⟩, ⟨[], [], [], []⟩, ⟨[], [], [], [102]⟩, ⟨[102], [], [], []⟩, ⟨[], [], [], []⟩, ⟨[], [], [], []⟩, ⟨[], [], [], []⟩, ⟨[], [], [], []⟩, ⟨[102], [], [], []⟩, ⟨[], [], [], []⟩, ⟨[102], [], [], []⟩, ⟨[], [], [], []⟩, ⟨[], [], [], []⟩] rfl (by kernel_rfl) (by kernel_rfl) rfl rfl ?_
 refine WH.val (O.ldN (m := 3) (PtI.ref rfl rfl) (js := [_, _, _]) rfl (Nat.le_of_ble_eq_true rfl) Try.underlying28 rfl (by kernel_rfl) rfl Taken.no) rfl rfl ?_
 refine WH.val (O.callp rfl rfl rfl (stvalid_h (s := s)) (.cons (ArgOk.aggU (.cons (ArgOk.same rfl) (.cons (ArgOk.same rfl) (.cons (ArgOk.same rfl) .nil)))) .nil) hcallOk16 rfl Taken.no) rfl rfl ?_
 refine WH.val (O.det (fun _ => G.R.not rfl) rfl Taken.no) rfl rfl ?_
 refine WH.mv rfl rfl rfl ?_
 refine WH.case (j := 3) (g := 12) (want := false) rfl rfl (fun hg1 => ?_) (fun hg1 => ?_)
 ·skip
  first | have hg1p := G.gA3 hg1 | have hg1p := G.gA4 hg1 | have hg1p := hg1
  refine WH.val (O.fld_ref (o' := 0) rfl Try.underlying34 rfl (m := 0) (by kernel_rfl) rfl rfl (Taken.yes rfl rfl hg1)) rfl rfl ?_
  refine WH.val (O.ld1 (PtI.ref rfl rfl) rfl Try.underlying3 rfl rfl (Taken.yes rfl rfl hg1)) rfl rfl ?_
  refine WH.val (O.callp rfl rfl rfl (in_h) (.cons (ArgOk.same rfl) (.cons (ArgOk.same rfl) (.cons (ArgOk.same rfl) .nil))) hcallOk17 rfl (Taken.yes rfl rfl hg1)) rfl rfl ?_
  refine WH.val (O.det (fun _ => G.R.not rfl) rfl (Taken.yes rfl rfl hg1)) rfl rfl ?_
  refine WH.val (O.pick_f rfl hg1 rfl rfl Taken.no) rfl rfl ?_
  refine WH.mv rfl rfl rfl ?_
  refine WH.case (j := 9) (g := 18) (want := false) rfl rfl (fun hg2 => ?_) (fun hg2 => ?_)
  ·skip
   first | have hg2p := G.gA3 hg2 | have hg2p := G.gA4 hg2 | have hg2p := hg2
   refine WH.val (O.ldN (m := 8) (PtI.ref rfl rfl) (js := [_, _, _, _, _, _, _, _]) rfl (Nat.le_of_ble_eq_true rfl) Try.underlying34 rfl (by kernel_rfl) rfl (Taken.yes rfl rfl hg2)) rfl rfl ?_
   refine WH.memS (O.call (rn []) [] rfl rfl rfl (fields_h (x := x)) (.cons (ArgOk.aggU (.cons (ArgOk.same rfl) (.cons (ArgOk.same rfl) (.cons (ArgOk.same rfl) (.cons (ArgOk.same rfl) (.cons (ArgOk.same rfl) (.cons (ArgOk.same rfl) (.cons (ArgOk.same rfl) (.cons (ArgOk.same rfl) .nil))))))))) .nil) SubS.nil rfl rfl rfl rfl rfl (.inl rfl) hcallOk18 (r' := .agg [.u _, .u _, .u _, .u _, .u _, .u _, .u _, .u _]) rfl rfl (Taken.yes rfl rfl hg2)) rfl rfl rfl rfl rfl (S' := _) rfl ?_
   refine WH.val (O.ldN (m := 8) (PtI.ref rfl rfl) (js := [_, _, _, _, _, _, _, _]) rfl (Nat.le_of_ble_eq_true rfl) Try.underlying34 rfl (by kernel_rfl) rfl (Taken.yes rfl rfl hg2)) rfl rfl ?_
   refine WH.val (O.neAgg (ls := (spV (fldS x))) (ms := (spV x)) (r := (!decide (fldS x = x))) (.inr rfl) (.inr rfl) (by kernel_rfl) (by kernel_rfl) (by kernel_rfl) (by kernel_rfl) (by rw [eqSp]) rfl (Taken.yes rfl rfl hg2)) rfl rfl ?_
   refine WH.val (O.pick_f rfl hg2 rfl rfl Taken.no) rfl rfl ?_
   refine WH.nil (E.to ?_)
   first | refine W.cond_d rfl (fun hc3 => ?_) (fun hc3 => ?_) | refine W.cond_nd rfl (fun hc3 => ?_) (fun hc3 => ?_) | refine W.cond rfl (fun hc3 => ?_) (fun hc3 => ?_)
   ·skip
    have hdo : ¬ doOk s x := fun z => by have := z.2.2; simp_all
    refine W.rg ?_
    refine SL.val (O.build (res := [_, _, _]) (z := .agg #[.int .i64 0, .slice none 0 0, .slice none 0 0]) (places := [(0, 1), (1, 1), (2, 1)]) rfl rfl Try.underlying28 (by kernel_rfl) (fun _ => by kernel_rfl) rfl rfl Taken.no) ?_
    refine SL.effS (O.st_ref (m := 3) rfl rfl rfl (js := [_, _, _]) rfl rfl (by kernel_rfl) (by simp) (Nat.le_of_ble_eq_true rfl) rfl (is' := [_, _, _]) rfl Taken.no) (S' := (103, _) :: _) rfl ?_
    refine SL.an rfl rfl (E.fo (W.ret (E.thr ?_)))
    refine E.nilslC 103 1 8 (is' := [_, _, _]) rfl rfl rfl ?_
    refine E.nilslC 103 2 2 (is' := [_, _, _]) rfl rfl rfl ?_
    refine E.fin (rs := [_, _]) (rn []) (.inl rfl) rfl (.cons (ResOne.cellN (m := 3) (PtI.ref rfl rfl) (js := [_, _, _]) rfl (Nat.le_of_ble_eq_true rfl) Try.underlying28 rfl (by kernel_rfl)) (.cons (ResOne.tmp rfl) .nil)) ?_ ?_ rfl (fixL_spec rfl)
    ·skip
     rw [(do_arg hdo).1, (do_arg hdo).2]; rfl
    · exact SubS.nil
   have hdo : doOk s x := ⟨by first | assumption | simp_all, by first | assumption | simp_all, by first | assumption | simp_all⟩
   have hv := hdo.1
   have hok := valid_ok hv
   have hk18 : 1 ≤ x.kind ∧ x.kind ≤ 8 := hdo.2.1
   refine W.skip (E.to (W.rg ?_))
   refine SL.val (O.buildA (m := 1) (res := [_, _, _, _, _, _, _, _, _]) (z := .agg #[.nilFunc, .nilFunc, .nilFunc, .nilFunc, .nilFunc, .nilFunc, .nilFunc, .nilFunc, .nilFunc]) rfl rfl Try.underlying61 (by kernel_rfl) hi58 hs58 rfl rfl Taken.no) ?_
   refine SL.memS (O.alloc (z := .agg #[.nilFunc, .nilFunc, .nilFunc, .nilFunc, .nilFunc, .nilFunc, .nilFunc, .nilFunc, .nilFunc]) (is := [.u (.sc (.nilFunc)), .u (.sc (.nilFunc)), .u (.sc (.nilFunc)), .u (.sc (.nilFunc)), .u (.sc (.nilFunc)), .u (.sc (.nilFunc)), .u (.sc (.nilFunc)), .u (.sc (.nilFunc)), .u (.sc (.nilFunc))]) 104 (by kernel_rfl) rfl rfl rfl Taken.no) rfl rfl (S' := (104, _) :: _) rfl ?_
   refine SL.effS (O.st_ref (m := 9) rfl rfl rfl (js := [_, _, _, _, _, _, _, _, _]) rfl rfl (by kernel_rfl) (by simp) (Nat.le_of_ble_eq_true rfl) rfl (is' := [_, _, _, _, _, _, _, _, _]) rfl Taken.no) (S' := (104, _) :: _) rfl ?_
   refine E.fo (W.rg ?_)
   refine SL.val (O.ldN (m := 3) (PtI.ref rfl rfl) (js := [_, _, _]) rfl (Nat.le_of_ble_eq_true rfl) Try.underlying28 rfl (by kernel_rfl) rfl Taken.no) ?_
   refine SL.memS (O.call (rn [(0, 105), (1, 106)]) [] rfl rfl rfl (cloned_h (s := s) (by have := hv.2.1; omega) (by have := hok.2.1; omega) (fun l hl => by have := hok.2.2 l hl; omega)) (.cons (ArgOk.aggU (.cons (ArgOk.same rfl) (.cons (ArgOk.same rfl) (.cons (ArgOk.same rfl) .nil)))) .nil) SubS.nil rfl rfl rfl rfl rfl (.inl rfl) hcallOk27 (r' := .agg [.u _, .own 105, .own 106]) rfl rfl Taken.no) rfl rfl (S' := (105, .data _ _ _) :: (106, .data _ _ _) :: _) rfl ?_
   refine SL.memS (O.alloc (z := .agg #[.int .i64 0, .slice none 0 0, .slice none 0 0]) (is := [.u (.sc (.int .i64 0)), .u (.sc (.slice none 0 0)), .u (.sc (.slice none 0 0))]) 107 (by kernel_rfl) rfl rfl rfl Taken.no) rfl rfl (S' := (107, _) :: _) rfl ?_
   refine SL.effS (O.st_ref (m := 3) rfl rfl rfl (js := [_, _, _]) rfl rfl (by kernel_rfl) (by simp) (Nat.le_of_ble_eq_true rfl) rfl (is' := [_, _, _]) rfl Taken.no) (S' := (107, _) :: _) rfl ?_
   refine E.fo ?_
   refine W.pick (K:=[(3,_),(4,_),(5,_),(6,_),(7,_)]) (Z:=[(101,_),(102,_),(103,_),(104,_),(105,_),(106,_),(107,_)]) ⟨rfl,rfl,rfl,rfl,rfl,trivial⟩ ⟨rfl,rfl,rfl,rfl,rfl,rfl,rfl,trivial⟩ ?_
   refine W.seq (W.seq ?_)
   rcases (show x.kind = 1 ∨ x.kind = 2 ∨ x.kind = 3 ∨ x.kind = 4 ∨ x.kind = 5 ∨ x.kind = 6 ∨ x.kind = 7 ∨ x.kind = 8 by omega) with hk | hk | hk | hk | hk | hk | hk | hk
   ·skip
    have hse : stE s x = addE s x := (stS_1 hk).2
    have hss : stS s x = addS s x := (stS_1 hk).1
    refine W.draw [⟨[], [], [], [102]⟩, ⟨[102], [], [], []⟩, ⟨[], [], [], [104]⟩, ⟨[104], [], [], []⟩, ⟨[102], [], [], []⟩, ⟨[105, 106, 107, 108, 109], [105, 106, 107, 108, 109], [108, 109], []⟩, ⟨[], [], [], []⟩] rfl (by kernel_rfl) (by kernel_rfl) rfl rfl ?_
    refine WH.val (O.fld_ref (o' := 0) rfl Try.underlying34 rfl (m := 0) (by kernel_rfl) rfl rfl Taken.no) rfl rfl ?_
    refine WH.val (O.ld1 (PtI.ref rfl rfl) rfl Try.underlying3 rfl rfl Taken.no) rfl rfl ?_
    refine WH.val (O.idx_ref (i := 1) (m := 1) rfl rfl (by omega) (by decide) Try.underlying61 (by kernel_rfl) rfl rfl Taken.no) rfl rfl ?_
    refine WH.val (O.ld1 (PtI.ref rfl rfl) rfl Try.underlying58 rfl rfl Taken.no) rfl rfl ?_
    refine WH.val (O.ldN (m := 8) (PtI.ref rfl rfl) (js := [_, _, _, _, _, _, _, _]) rfl (Nat.le_of_ble_eq_true rfl) Try.underlying34 rfl (by kernel_rfl) rfl Taken.no) rfl rfl ?_
    refine WH.memS (O.call (rn [(0, 107), (1, 105), (2, 106), (3, 109), (4, 108)]) [] rfl rfl rfl (add_m hdo.1) (.cons (ArgOk.same rfl) (.cons (ArgOk.aggU (.cons (ArgOk.same rfl) (.cons (ArgOk.same rfl) (.cons (ArgOk.same rfl) (.cons (ArgOk.same rfl) (.cons (ArgOk.same rfl) (.cons (ArgOk.same rfl) (.cons (ArgOk.same rfl) (.cons (ArgOk.same rfl) .nil))))))))) .nil)) (SubS.cons rfl (SubS.cons rfl (SubS.cons rfl SubS.nil))) rfl rfl rfl rfl rfl (.inl rfl) hcallOk19 (r' := .u _) rfl rfl Taken.no) rfl rfl rfl rfl rfl (S' := (107, .cells _ [.u _, .own 108, .own 109]) :: (108, .data _ _ _) :: (109, .data _ _ _) :: (105, .dead) :: (106, .dead) :: _) rfl ?_
    refine WH.val (O.assign rfl rfl Taken.no) rfl rfl ?_
    refine WH.nil (E.to (W.rg (SL.mv rfl rfl ?_)))
    refine SL.val (O.det (fun _ => G.R.neq rfl rfl) rfl Taken.no) ?_
    refine E.fo ?_
    first | refine W.cond_d rfl (fun hc4 => ?_) (fun hc4 => ?_) | refine W.cond_nd rfl (fun hc4 => ?_) (fun hc4 => ?_) | refine W.cond rfl (fun hc4 => ?_) (fun hc4 => ?_)
    ·skip
     have hne : ¬ stE s x = 0 := by rw [hse]; first | assumption | omega
     refine W.rg ?_
     refine SL.val (O.build (res := [_, _, _]) (z := .agg #[.int .i64 0, .slice none 0 0, .slice none 0 0]) (places := [(0, 1), (1, 1), (2, 1)]) rfl rfl Try.underlying28 (by kernel_rfl) (fun _ => by kernel_rfl) rfl rfl Taken.no) ?_
     refine SL.mv rfl rfl ?_
     refine SL.effS (O.st_ref (m := 3) rfl rfl rfl (js := [_, _, _]) rfl rfl (by kernel_rfl) (by simp) (Nat.le_of_ble_eq_true rfl) rfl (is' := [_, _, _]) rfl Taken.no) (S' := (103, _) :: _) rfl ?_
     refine SL.an rfl rfl (E.fo (W.ret (E.thr ?_)))
     refine E.nilslC 103 1 8 (is' := [_, _, _]) rfl rfl rfl ?_
     refine E.nilslC 103 2 2 (is' := [_, _, _]) rfl rfl rfl ?_
     refine E.fin (rs := [_, _]) (rn []) (.inl rfl) rfl (.cons (ResOne.cellN (m := 3) (PtI.ref rfl rfl) (js := [_, _, _]) rfl (Nat.le_of_ble_eq_true rfl) Try.underlying28 rfl (by kernel_rfl)) (.cons (ResOne.tmp rfl) .nil)) ?_ ?_ rfl (fixL_spec rfl)
     ·skip
      first | (rw [(do_bad hdo hne).1, (do_bad hdo hne).2, hse]; rfl) | (rw [(do_good hdo hz).1, (do_good hdo hz).2, hss]; rfl)
     · exact SubS.nil
    have hz : stE s x = 0 := by rw [hse]; first | assumption | omega
    refine W.skip (E.to (W.rg ?_))
    refine SL.val (O.ldN (m := 3) (PtI.ref rfl rfl) (js := [_, _, _]) rfl (Nat.le_of_ble_eq_true rfl) Try.underlying28 rfl (by kernel_rfl) rfl Taken.no) ?_
    refine SL.effS (O.st_ref (m := 3) rfl rfl rfl (js := [_, _, _]) rfl rfl (by kernel_rfl) (by simp) (Nat.le_of_ble_eq_true rfl) rfl (is' := [_, _, _]) rfl Taken.no) (S' := (103, _) :: _) rfl ?_
    refine SL.an rfl rfl (E.fo (W.ret ?_))
    refine E.freezeC 103 1 108 (is' := [_, _, _]) rfl rfl rfl rfl ?_
    refine E.freezeC 103 2 109 (is' := [_, _, _]) rfl rfl rfl rfl ?_
    refine E.fin (rs := [_, _]) (rn []) (.inl rfl) rfl (.cons (ResOne.cellN (m := 3) (PtI.ref rfl rfl) (js := [_, _, _]) rfl (Nat.le_of_ble_eq_true rfl) Try.underlying28 rfl (by kernel_rfl)) (.cons (ResOne.tmp rfl) .nil)) ?_ ?_ rfl (fixL_spec rfl)
    ·skip
     first | (rw [(do_bad hdo hne).1, (do_bad hdo hne).2, hse]; rfl) | (rw [(do_good hdo hz).1, (do_good hdo hz).2, hss]; rfl)
    · exact SubS.nil
   ·skip
    have hse : stE s x = remE s x := (stS_2 hk).2
    have hss : stS s x = remS s x := (stS_2 hk).1
    refine W.draw [⟨[], [], [], [102]⟩, ⟨[102], [], [], []⟩, ⟨[], [], [], [104]⟩, ⟨[104], [], [], []⟩, ⟨[102], [], [], []⟩, ⟨[105, 106, 107, 110, 111], [105, 106, 107, 110, 111], [110, 111], []⟩, ⟨[], [], [], []⟩] rfl (by kernel_rfl) (by kernel_rfl) rfl rfl ?_
    refine WH.val (O.fld_ref (o' := 0) rfl Try.underlying34 rfl (m := 0) (by kernel_rfl) rfl rfl Taken.no) rfl rfl ?_
    refine WH.val (O.ld1 (PtI.ref rfl rfl) rfl Try.underlying3 rfl rfl Taken.no) rfl rfl ?_
    refine WH.val (O.idx_ref (i := 2) (m := 1) rfl rfl (by omega) (by decide) Try.underlying61 (by kernel_rfl) rfl rfl Taken.no) rfl rfl ?_
    refine WH.val (O.ld1 (PtI.ref rfl rfl) rfl Try.underlying58 rfl rfl Taken.no) rfl rfl ?_
    refine WH.val (O.ldN (m := 8) (PtI.ref rfl rfl) (js := [_, _, _, _, _, _, _, _]) rfl (Nat.le_of_ble_eq_true rfl) Try.underlying34 rfl (by kernel_rfl) rfl Taken.no) rfl rfl ?_
    refine WH.memS (O.call (rn [(0, 107), (1, 105), (2, 106), (3, 111), (4, 110)]) [] rfl rfl rfl (remove_m hdo.1) (.cons (ArgOk.same rfl) (.cons (ArgOk.aggU (.cons (ArgOk.same rfl) (.cons (ArgOk.same rfl) (.cons (ArgOk.same rfl) (.cons (ArgOk.same rfl) (.cons (ArgOk.same rfl) (.cons (ArgOk.same rfl) (.cons (ArgOk.same rfl) (.cons (ArgOk.same rfl) .nil))))))))) .nil)) (SubS.cons rfl (SubS.cons rfl (SubS.cons rfl SubS.nil))) rfl rfl rfl rfl rfl (.inl rfl) hcallOk20 (r' := .u _) rfl rfl Taken.no) rfl rfl rfl rfl rfl (S' := (107, .cells _ [.u _, .own 110, .own 111]) :: (110, .data _ _ _) :: (111, .data _ _ _) :: (105, .dead) :: (106, .dead) :: _) rfl ?_
    refine WH.val (O.assign rfl rfl Taken.no) rfl rfl ?_
    refine WH.nil (E.to (W.rg (SL.mv rfl rfl ?_)))
    refine SL.val (O.det (fun _ => G.R.neq rfl rfl) rfl Taken.no) ?_
    refine E.fo ?_
    first | refine W.cond_d rfl (fun hc5 => ?_) (fun hc5 => ?_) | refine W.cond_nd rfl (fun hc5 => ?_) (fun hc5 => ?_) | refine W.cond rfl (fun hc5 => ?_) (fun hc5 => ?_)
    ·skip
     have hne : ¬ stE s x = 0 := by rw [hse]; first | assumption | omega
     refine W.rg ?_
     refine SL.val (O.build (res := [_, _, _]) (z := .agg #[.int .i64 0, .slice none 0 0, .slice none 0 0]) (places := [(0, 1), (1, 1), (2, 1)]) rfl rfl Try.underlying28 (by kernel_rfl) (fun _ => by kernel_rfl) rfl rfl Taken.no) ?_
     refine SL.mv rfl rfl ?_
     refine SL.effS (O.st_ref (m := 3) rfl rfl rfl (js := [_, _, _]) rfl rfl (by kernel_rfl) (by simp) (Nat.le_of_ble_eq_true rfl) rfl (is' := [_, _, _]) rfl Taken.no) (S' := (103, _) :: _) rfl ?_
     refine SL.an rfl rfl (E.fo (W.ret (E.thr ?_)))
     refine E.nilslC 103 1 8 (is' := [_, _, _]) rfl rfl rfl ?_
     refine E.nilslC 103 2 2 (is' := [_, _, _]) rfl rfl rfl ?_
     refine E.fin (rs := [_, _]) (rn []) (.inl rfl) rfl (.cons (ResOne.cellN (m := 3) (PtI.ref rfl rfl) (js := [_, _, _]) rfl (Nat.le_of_ble_eq_true rfl) Try.underlying28 rfl (by kernel_rfl)) (.cons (ResOne.tmp rfl) .nil)) ?_ ?_ rfl (fixL_spec rfl)
     ·skip
      first | (rw [(do_bad hdo hne).1, (do_bad hdo hne).2, hse]; rfl) | (rw [(do_good hdo hz).1, (do_good hdo hz).2, hss]; rfl)
     · exact SubS.nil
    have hz : stE s x = 0 := by rw [hse]; first | assumption | omega
    refine W.skip (E.to (W.rg ?_))
    refine SL.val (O.ldN (m := 3) (PtI.ref rfl rfl) (js := [_, _, _]) rfl (Nat.le_of_ble_eq_true rfl) Try.underlying28 rfl (by kernel_rfl) rfl Taken.no) ?_
    refine SL.effS (O.st_ref (m := 3) rfl rfl rfl (js := [_, _, _]) rfl rfl (by kernel_rfl) (by simp) (Nat.le_of_ble_eq_true rfl) rfl (is' := [_, _, _]) rfl Taken.no) (S' := (103, _) :: _) rfl ?_
    refine SL.an rfl rfl (E.fo (W.ret ?_))
    refine E.freezeC 103 1 110 (is' := [_, _, _]) rfl rfl rfl rfl ?_
    refine E.freezeC 103 2 111 (is' := [_, _, _]) rfl rfl rfl rfl ?_
    refine E.fin (rs := [_, _]) (rn []) (.inl rfl) rfl (.cons (ResOne.cellN (m := 3) (PtI.ref rfl rfl) (js := [_, _, _]) rfl (Nat.le_of_ble_eq_true rfl) Try.underlying28 rfl (by kernel_rfl)) (.cons (ResOne.tmp rfl) .nil)) ?_ ?_ rfl (fixL_spec rfl)
    ·skip
     first | (rw [(do_bad hdo hne).1, (do_bad hdo hne).2, hse]; rfl) | (rw [(do_good hdo hz).1, (do_good hdo hz).2, hss]; rfl)
    · exact SubS.nil
   ·skip
    have hse : stE s x = lenE s x := (stS_3 hk).2
    have hss : stS s x = lenS s x := (stS_3 hk).1
    refine W.draw [⟨[], [], [], [102]⟩, ⟨[102], [], [], []⟩, ⟨[], [], [], [104]⟩, ⟨[104], [], [], []⟩, ⟨[102], [], [], []⟩, ⟨[105, 106, 107, 112, 113], [105, 106, 107, 112, 113], [112, 113], []⟩, ⟨[], [], [], []⟩] rfl (by kernel_rfl) (by kernel_rfl) rfl rfl ?_
    refine WH.val (O.fld_ref (o' := 0) rfl Try.underlying34 rfl (m := 0) (by kernel_rfl) rfl rfl Taken.no) rfl rfl ?_
    refine WH.val (O.ld1 (PtI.ref rfl rfl) rfl Try.underlying3 rfl rfl Taken.no) rfl rfl ?_
    refine WH.val (O.idx_ref (i := 3) (m := 1) rfl rfl (by omega) (by decide) Try.underlying61 (by kernel_rfl) rfl rfl Taken.no) rfl rfl ?_
    refine WH.val (O.ld1 (PtI.ref rfl rfl) rfl Try.underlying58 rfl rfl Taken.no) rfl rfl ?_
    refine WH.val (O.ldN (m := 8) (PtI.ref rfl rfl) (js := [_, _, _, _, _, _, _, _]) rfl (Nat.le_of_ble_eq_true rfl) Try.underlying34 rfl (by kernel_rfl) rfl Taken.no) rfl rfl ?_
    refine WH.memS (O.call (rn [(0, 107), (1, 105), (2, 106), (3, 113), (4, 112)]) [] rfl rfl rfl (lend_m hdo.1) (.cons (ArgOk.same rfl) (.cons (ArgOk.aggU (.cons (ArgOk.same rfl) (.cons (ArgOk.same rfl) (.cons (ArgOk.same rfl) (.cons (ArgOk.same rfl) (.cons (ArgOk.same rfl) (.cons (ArgOk.same rfl) (.cons (ArgOk.same rfl) (.cons (ArgOk.same rfl) .nil))))))))) .nil)) (SubS.cons rfl (SubS.cons rfl (SubS.cons rfl SubS.nil))) rfl rfl rfl rfl rfl (.inl rfl) hcallOk21 (r' := .u _) rfl rfl Taken.no) rfl rfl rfl rfl rfl (S' := (107, .cells _ [.u _, .own 112, .own 113]) :: (112, .data _ _ _) :: (113, .data _ _ _) :: (105, .dead) :: (106, .dead) :: _) rfl ?_
    refine WH.val (O.assign rfl rfl Taken.no) rfl rfl ?_
    refine WH.nil (E.to (W.rg (SL.mv rfl rfl ?_)))
    refine SL.val (O.det (fun _ => G.R.neq rfl rfl) rfl Taken.no) ?_
    refine E.fo ?_
    first | refine W.cond_d rfl (fun hc6 => ?_) (fun hc6 => ?_) | refine W.cond_nd rfl (fun hc6 => ?_) (fun hc6 => ?_) | refine W.cond rfl (fun hc6 => ?_) (fun hc6 => ?_)
    ·skip
     have hne : ¬ stE s x = 0 := by rw [hse]; first | assumption | omega
     refine W.rg ?_
     refine SL.val (O.build (res := [_, _, _]) (z := .agg #[.int .i64 0, .slice none 0 0, .slice none 0 0]) (places := [(0, 1), (1, 1), (2, 1)]) rfl rfl Try.underlying28 (by kernel_rfl) (fun _ => by kernel_rfl) rfl rfl Taken.no) ?_
     refine SL.mv rfl rfl ?_
     refine SL.effS (O.st_ref (m := 3) rfl rfl rfl (js := [_, _, _]) rfl rfl (by kernel_rfl) (by simp) (Nat.le_of_ble_eq_true rfl) rfl (is' := [_, _, _]) rfl Taken.no) (S' := (103, _) :: _) rfl ?_
     refine SL.an rfl rfl (E.fo (W.ret (E.thr ?_)))
     refine E.nilslC 103 1 8 (is' := [_, _, _]) rfl rfl rfl ?_
     refine E.nilslC 103 2 2 (is' := [_, _, _]) rfl rfl rfl ?_
     refine E.fin (rs := [_, _]) (rn []) (.inl rfl) rfl (.cons (ResOne.cellN (m := 3) (PtI.ref rfl rfl) (js := [_, _, _]) rfl (Nat.le_of_ble_eq_true rfl) Try.underlying28 rfl (by kernel_rfl)) (.cons (ResOne.tmp rfl) .nil)) ?_ ?_ rfl (fixL_spec rfl)
     ·skip
      first | (rw [(do_bad hdo hne).1, (do_bad hdo hne).2, hse]; rfl) | (rw [(do_good hdo hz).1, (do_good hdo hz).2, hss]; rfl)
     · exact SubS.nil
    have hz : stE s x = 0 := by rw [hse]; first | assumption | omega
    refine W.skip (E.to (W.rg ?_))
    refine SL.val (O.ldN (m := 3) (PtI.ref rfl rfl) (js := [_, _, _]) rfl (Nat.le_of_ble_eq_true rfl) Try.underlying28 rfl (by kernel_rfl) rfl Taken.no) ?_
    refine SL.effS (O.st_ref (m := 3) rfl rfl rfl (js := [_, _, _]) rfl rfl (by kernel_rfl) (by simp) (Nat.le_of_ble_eq_true rfl) rfl (is' := [_, _, _]) rfl Taken.no) (S' := (103, _) :: _) rfl ?_
    refine SL.an rfl rfl (E.fo (W.ret ?_))
    refine E.freezeC 103 1 112 (is' := [_, _, _]) rfl rfl rfl rfl ?_
    refine E.freezeC 103 2 113 (is' := [_, _, _]) rfl rfl rfl rfl ?_
    refine E.fin (rs := [_, _]) (rn []) (.inl rfl) rfl (.cons (ResOne.cellN (m := 3) (PtI.ref rfl rfl) (js := [_, _, _]) rfl (Nat.le_of_ble_eq_true rfl) Try.underlying28 rfl (by kernel_rfl)) (.cons (ResOne.tmp rfl) .nil)) ?_ ?_ rfl (fixL_spec rfl)
    ·skip
     first | (rw [(do_bad hdo hne).1, (do_bad hdo hne).2, hse]; rfl) | (rw [(do_good hdo hz).1, (do_good hdo hz).2, hss]; rfl)
    · exact SubS.nil
   ·skip
    have hse : stE s x = bakE s x := (stS_4 hk).2
    have hss : stS s x = bakS s x := (stS_4 hk).1
    refine W.draw [⟨[], [], [], [102]⟩, ⟨[102], [], [], []⟩, ⟨[], [], [], [104]⟩, ⟨[104], [], [], []⟩, ⟨[102], [], [], []⟩, ⟨[105, 106, 107, 114, 115], [105, 106, 107, 114, 115], [114, 115], []⟩, ⟨[], [], [], []⟩] rfl (by kernel_rfl) (by kernel_rfl) rfl rfl ?_
    refine WH.val (O.fld_ref (o' := 0) rfl Try.underlying34 rfl (m := 0) (by kernel_rfl) rfl rfl Taken.no) rfl rfl ?_
    refine WH.val (O.ld1 (PtI.ref rfl rfl) rfl Try.underlying3 rfl rfl Taken.no) rfl rfl ?_
    refine WH.val (O.idx_ref (i := 4) (m := 1) rfl rfl (by omega) (by decide) Try.underlying61 (by kernel_rfl) rfl rfl Taken.no) rfl rfl ?_
    refine WH.val (O.ld1 (PtI.ref rfl rfl) rfl Try.underlying58 rfl rfl Taken.no) rfl rfl ?_
    refine WH.val (O.ldN (m := 8) (PtI.ref rfl rfl) (js := [_, _, _, _, _, _, _, _]) rfl (Nat.le_of_ble_eq_true rfl) Try.underlying34 rfl (by kernel_rfl) rfl Taken.no) rfl rfl ?_
    refine WH.memS (O.call (rn [(0, 107), (1, 105), (2, 106), (3, 115), (4, 114)]) [] rfl rfl rfl (giveBack_m hdo.1) (.cons (ArgOk.same rfl) (.cons (ArgOk.aggU (.cons (ArgOk.same rfl) (.cons (ArgOk.same rfl) (.cons (ArgOk.same rfl) (.cons (ArgOk.same rfl) (.cons (ArgOk.same rfl) (.cons (ArgOk.same rfl) (.cons (ArgOk.same rfl) (.cons (ArgOk.same rfl) .nil))))))))) .nil)) (SubS.cons rfl (SubS.cons rfl (SubS.cons rfl SubS.nil))) rfl rfl rfl rfl rfl (.inl rfl) hcallOk22 (r' := .u _) rfl rfl Taken.no) rfl rfl rfl rfl rfl (S' := (107, .cells _ [.u _, .own 114, .own 115]) :: (114, .data _ _ _) :: (115, .data _ _ _) :: (105, .dead) :: (106, .dead) :: _) rfl ?_
    refine WH.val (O.assign rfl rfl Taken.no) rfl rfl ?_
    refine WH.nil (E.to (W.rg (SL.mv rfl rfl ?_)))
    refine SL.val (O.det (fun _ => G.R.neq rfl rfl) rfl Taken.no) ?_
    refine E.fo ?_
    first | refine W.cond_d rfl (fun hc7 => ?_) (fun hc7 => ?_) | refine W.cond_nd rfl (fun hc7 => ?_) (fun hc7 => ?_) | refine W.cond rfl (fun hc7 => ?_) (fun hc7 => ?_)
    ·skip
     have hne : ¬ stE s x = 0 := by rw [hse]; first | assumption | omega
     refine W.rg ?_
     refine SL.val (O.build (res := [_, _, _]) (z := .agg #[.int .i64 0, .slice none 0 0, .slice none 0 0]) (places := [(0, 1), (1, 1), (2, 1)]) rfl rfl Try.underlying28 (by kernel_rfl) (fun _ => by kernel_rfl) rfl rfl Taken.no) ?_
     refine SL.mv rfl rfl ?_
     refine SL.effS (O.st_ref (m := 3) rfl rfl rfl (js := [_, _, _]) rfl rfl (by kernel_rfl) (by simp) (Nat.le_of_ble_eq_true rfl) rfl (is' := [_, _, _]) rfl Taken.no) (S' := (103, _) :: _) rfl ?_
     refine SL.an rfl rfl (E.fo (W.ret (E.thr ?_)))
     refine E.nilslC 103 1 8 (is' := [_, _, _]) rfl rfl rfl ?_
     refine E.nilslC 103 2 2 (is' := [_, _, _]) rfl rfl rfl ?_
     refine E.fin (rs := [_, _]) (rn []) (.inl rfl) rfl (.cons (ResOne.cellN (m := 3) (PtI.ref rfl rfl) (js := [_, _, _]) rfl (Nat.le_of_ble_eq_true rfl) Try.underlying28 rfl (by kernel_rfl)) (.cons (ResOne.tmp rfl) .nil)) ?_ ?_ rfl (fixL_spec rfl)
     ·skip
      first | (rw [(do_bad hdo hne).1, (do_bad hdo hne).2, hse]; rfl) | (rw [(do_good hdo hz).1, (do_good hdo hz).2, hss]; rfl)
     · exact SubS.nil
    have hz : stE s x = 0 := by rw [hse]; first | assumption | omega
    refine W.skip (E.to (W.rg ?_))
    refine SL.val (O.ldN (m := 3) (PtI.ref rfl rfl) (js := [_, _, _]) rfl (Nat.le_of_ble_eq_true rfl) Try.underlying28 rfl (by kernel_rfl) rfl Taken.no) ?_
    refine SL.effS (O.st_ref (m := 3) rfl rfl rfl (js := [_, _, _]) rfl rfl (by kernel_rfl) (by simp) (Nat.le_of_ble_eq_true rfl) rfl (is' := [_, _, _]) rfl Taken.no) (S' := (103, _) :: _) rfl ?_
    refine SL.an rfl rfl (E.fo (W.ret ?_))
    refine E.freezeC 103 1 114 (is' := [_, _, _]) rfl rfl rfl rfl ?_
    refine E.freezeC 103 2 115 (is' := [_, _, _]) rfl rfl rfl rfl ?_
    refine E.fin (rs := [_, _]) (rn []) (.inl rfl) rfl (.cons (ResOne.cellN (m := 3) (PtI.ref rfl rfl) (js := [_, _, _]) rfl (Nat.le_of_ble_eq_true rfl) Try.underlying28 rfl (by kernel_rfl)) (.cons (ResOne.tmp rfl) .nil)) ?_ ?_ rfl (fixL_spec rfl)
    ·skip
     first | (rw [(do_bad hdo hne).1, (do_bad hdo hne).2, hse]; rfl) | (rw [(do_good hdo hz).1, (do_good hdo hz).2, hss]; rfl)
    · exact SubS.nil
   ·skip
    have hse : stE s x = renE s x := (stS_5 hk).2
    have hss : stS s x = renS s x := (stS_5 hk).1
    refine W.draw [⟨[], [], [], [102]⟩, ⟨[102], [], [], []⟩, ⟨[], [], [], [104]⟩, ⟨[104], [], [], []⟩, ⟨[102], [], [], []⟩, ⟨[105, 106, 107, 116, 117], [105, 106, 107, 116, 117], [116, 117], []⟩, ⟨[], [], [], []⟩] rfl (by kernel_rfl) (by kernel_rfl) rfl rfl ?_
    refine WH.val (O.fld_ref (o' := 0) rfl Try.underlying34 rfl (m := 0) (by kernel_rfl) rfl rfl Taken.no) rfl rfl ?_
    refine WH.val (O.ld1 (PtI.ref rfl rfl) rfl Try.underlying3 rfl rfl Taken.no) rfl rfl ?_
    refine WH.val (O.idx_ref (i := 5) (m := 1) rfl rfl (by omega) (by decide) Try.underlying61 (by kernel_rfl) rfl rfl Taken.no) rfl rfl ?_
    refine WH.val (O.ld1 (PtI.ref rfl rfl) rfl Try.underlying58 rfl rfl Taken.no) rfl rfl ?_
    refine WH.val (O.ldN (m := 8) (PtI.ref rfl rfl) (js := [_, _, _, _, _, _, _, _]) rfl (Nat.le_of_ble_eq_true rfl) Try.underlying34 rfl (by kernel_rfl) rfl Taken.no) rfl rfl ?_
    refine WH.memS (O.call (rn [(0, 107), (1, 105), (2, 106), (3, 117), (4, 116)]) [] rfl rfl rfl (renew_m hdo.1) (.cons (ArgOk.same rfl) (.cons (ArgOk.aggU (.cons (ArgOk.same rfl) (.cons (ArgOk.same rfl) (.cons (ArgOk.same rfl) (.cons (ArgOk.same rfl) (.cons (ArgOk.same rfl) (.cons (ArgOk.same rfl) (.cons (ArgOk.same rfl) (.cons (ArgOk.same rfl) .nil))))))))) .nil)) (SubS.cons rfl (SubS.cons rfl (SubS.cons rfl SubS.nil))) rfl rfl rfl rfl rfl (.inl rfl) hcallOk23 (r' := .u _) rfl rfl Taken.no) rfl rfl rfl rfl rfl (S' := (107, .cells _ [.u _, .own 116, .own 117]) :: (116, .data _ _ _) :: (117, .data _ _ _) :: (105, .dead) :: (106, .dead) :: _) rfl ?_
    refine WH.val (O.assign rfl rfl Taken.no) rfl rfl ?_
    refine WH.nil (E.to (W.rg (SL.mv rfl rfl ?_)))
    refine SL.val (O.det (fun _ => G.R.neq rfl rfl) rfl Taken.no) ?_
    refine E.fo ?_
    first | refine W.cond_d rfl (fun hc8 => ?_) (fun hc8 => ?_) | refine W.cond_nd rfl (fun hc8 => ?_) (fun hc8 => ?_) | refine W.cond rfl (fun hc8 => ?_) (fun hc8 => ?_)
    ·skip
     have hne : ¬ stE s x = 0 := by rw [hse]; first | assumption | omega
     refine W.rg ?_
     refine SL.val (O.build (res := [_, _, _]) (z := .agg #[.int .i64 0, .slice none 0 0, .slice none 0 0]) (places := [(0, 1), (1, 1), (2, 1)]) rfl rfl Try.underlying28 (by kernel_rfl) (fun _ => by kernel_rfl) rfl rfl Taken.no) ?_
     refine SL.mv rfl rfl ?_
     refine SL.effS (O.st_ref (m := 3) rfl rfl rfl (js := [_, _, _]) rfl rfl (by kernel_rfl) (by simp) (Nat.le_of_ble_eq_true rfl) rfl (is' := [_, _, _]) rfl Taken.no) (S' := (103, _) :: _) rfl ?_
     refine SL.an rfl rfl (E.fo (W.ret (E.thr ?_)))
     refine E.nilslC 103 1 8 (is' := [_, _, _]) rfl rfl rfl ?_
     refine E.nilslC 103 2 2 (is' := [_, _, _]) rfl rfl rfl ?_
     refine E.fin (rs := [_, _]) (rn []) (.inl rfl) rfl (.cons (ResOne.cellN (m := 3) (PtI.ref rfl rfl) (js := [_, _, _]) rfl (Nat.le_of_ble_eq_true rfl) Try.underlying28 rfl (by kernel_rfl)) (.cons (ResOne.tmp rfl) .nil)) ?_ ?_ rfl (fixL_spec rfl)
     ·skip
      first | (rw [(do_bad hdo hne).1, (do_bad hdo hne).2, hse]; rfl) | (rw [(do_good hdo hz).1, (do_good hdo hz).2, hss]; rfl)
     · exact SubS.nil
    have hz : stE s x = 0 := by rw [hse]; first | assumption | omega
    refine W.skip (E.to (W.rg ?_))
    refine SL.val (O.ldN (m := 3) (PtI.ref rfl rfl) (js := [_, _, _]) rfl (Nat.le_of_ble_eq_true rfl) Try.underlying28 rfl (by kernel_rfl) rfl Taken.no) ?_
    refine SL.effS (O.st_ref (m := 3) rfl rfl rfl (js := [_, _, _]) rfl rfl (by kernel_rfl) (by simp) (Nat.le_of_ble_eq_true rfl) rfl (is' := [_, _, _]) rfl Taken.no) (S' := (103, _) :: _) rfl ?_
    refine SL.an rfl rfl (E.fo (W.ret ?_))
    refine E.freezeC 103 1 116 (is' := [_, _, _]) rfl rfl rfl rfl ?_
    refine E.freezeC 103 2 117 (is' := [_, _, _]) rfl rfl rfl rfl ?_
    refine E.fin (rs := [_, _]) (rn []) (.inl rfl) rfl (.cons (ResOne.cellN (m := 3) (PtI.ref rfl rfl) (js := [_, _, _]) rfl (Nat.le_of_ble_eq_true rfl) Try.underlying28 rfl (by kernel_rfl)) (.cons (ResOne.tmp rfl) .nil)) ?_ ?_ rfl (fixL_spec rfl)
    ·skip
     first | (rw [(do_bad hdo hne).1, (do_bad hdo hne).2, hse]; rfl) | (rw [(do_good hdo hz).1, (do_good hdo hz).2, hss]; rfl)
    · exact SubS.nil
   ·skip
    have hse : stE s x = askE s x := (stS_6 hk).2
    have hss : stS s x = askS s x := (stS_6 hk).1
    refine W.draw [⟨[], [], [], [102]⟩, ⟨[102], [], [], []⟩, ⟨[], [], [], [104]⟩, ⟨[104], [], [], []⟩, ⟨[102], [], [], []⟩, ⟨[105, 106, 107, 118, 119], [105, 106, 107, 118, 119], [118, 119], []⟩, ⟨[], [], [], []⟩] rfl (by kernel_rfl) (by kernel_rfl) rfl rfl ?_
    refine WH.val (O.fld_ref (o' := 0) rfl Try.underlying34 rfl (m := 0) (by kernel_rfl) rfl rfl Taken.no) rfl rfl ?_
    refine WH.val (O.ld1 (PtI.ref rfl rfl) rfl Try.underlying3 rfl rfl Taken.no) rfl rfl ?_
    refine WH.val (O.idx_ref (i := 6) (m := 1) rfl rfl (by omega) (by decide) Try.underlying61 (by kernel_rfl) rfl rfl Taken.no) rfl rfl ?_
    refine WH.val (O.ld1 (PtI.ref rfl rfl) rfl Try.underlying58 rfl rfl Taken.no) rfl rfl ?_
    refine WH.val (O.ldN (m := 8) (PtI.ref rfl rfl) (js := [_, _, _, _, _, _, _, _]) rfl (Nat.le_of_ble_eq_true rfl) Try.underlying34 rfl (by kernel_rfl) rfl Taken.no) rfl rfl ?_
    refine WH.memS (O.call (rn [(0, 107), (1, 105), (2, 106), (3, 119), (4, 118)]) [] rfl rfl rfl (ask_m hdo.1) (.cons (ArgOk.same rfl) (.cons (ArgOk.aggU (.cons (ArgOk.same rfl) (.cons (ArgOk.same rfl) (.cons (ArgOk.same rfl) (.cons (ArgOk.same rfl) (.cons (ArgOk.same rfl) (.cons (ArgOk.same rfl) (.cons (ArgOk.same rfl) (.cons (ArgOk.same rfl) .nil))))))))) .nil)) (SubS.cons rfl (SubS.cons rfl (SubS.cons rfl SubS.nil))) rfl rfl rfl rfl rfl (.inl rfl) hcallOk24 (r' := .u _) rfl rfl Taken.no) rfl rfl rfl rfl rfl (S' := (107, .cells _ [.u _, .own 118, .own 119]) :: (118, .data _ _ _) :: (119, .data _ _ _) :: (105, .dead) :: (106, .dead) :: _) rfl ?_
    refine WH.val (O.assign rfl rfl Taken.no) rfl rfl ?_
    refine WH.nil (E.to (W.rg (SL.mv rfl rfl ?_)))
    refine SL.val (O.det (fun _ => G.R.neq rfl rfl) rfl Taken.no) ?_
    refine E.fo ?_
    first | refine W.cond_d rfl (fun hc9 => ?_) (fun hc9 => ?_) | refine W.cond_nd rfl (fun hc9 => ?_) (fun hc9 => ?_) | refine W.cond rfl (fun hc9 => ?_) (fun hc9 => ?_)
    ·skip
     have hne : ¬ stE s x = 0 := by rw [hse]; first | assumption | omega
     refine W.rg ?_
     refine SL.val (O.build (res := [_, _, _]) (z := .agg #[.int .i64 0, .slice none 0 0, .slice none 0 0]) (places := [(0, 1), (1, 1), (2, 1)]) rfl rfl Try.underlying28 (by kernel_rfl) (fun _ => by kernel_rfl) rfl rfl Taken.no) ?_
     refine SL.mv rfl rfl ?_
     refine SL.effS (O.st_ref (m := 3) rfl rfl rfl (js := [_, _, _]) rfl rfl (by kernel_rfl) (by simp) (Nat.le_of_ble_eq_true rfl) rfl (is' := [_, _, _]) rfl Taken.no) (S' := (103, _) :: _) rfl ?_
     refine SL.an rfl rfl (E.fo (W.ret (E.thr ?_)))
     refine E.nilslC 103 1 8 (is' := [_, _, _]) rfl rfl rfl ?_
     refine E.nilslC 103 2 2 (is' := [_, _, _]) rfl rfl rfl ?_
     refine E.fin (rs := [_, _]) (rn []) (.inl rfl) rfl (.cons (ResOne.cellN (m := 3) (PtI.ref rfl rfl) (js := [_, _, _]) rfl (Nat.le_of_ble_eq_true rfl) Try.underlying28 rfl (by kernel_rfl)) (.cons (ResOne.tmp rfl) .nil)) ?_ ?_ rfl (fixL_spec rfl)
     ·skip
      first | (rw [(do_bad hdo hne).1, (do_bad hdo hne).2, hse]; rfl) | (rw [(do_good hdo hz).1, (do_good hdo hz).2, hss]; rfl)
     · exact SubS.nil
    have hz : stE s x = 0 := by rw [hse]; first | assumption | omega
    refine W.skip (E.to (W.rg ?_))
    refine SL.val (O.ldN (m := 3) (PtI.ref rfl rfl) (js := [_, _, _]) rfl (Nat.le_of_ble_eq_true rfl) Try.underlying28 rfl (by kernel_rfl) rfl Taken.no) ?_
    refine SL.effS (O.st_ref (m := 3) rfl rfl rfl (js := [_, _, _]) rfl rfl (by kernel_rfl) (by simp) (Nat.le_of_ble_eq_true rfl) rfl (is' := [_, _, _]) rfl Taken.no) (S' := (103, _) :: _) rfl ?_
    refine SL.an rfl rfl (E.fo (W.ret ?_))
    refine E.freezeC 103 1 118 (is' := [_, _, _]) rfl rfl rfl rfl ?_
    refine E.freezeC 103 2 119 (is' := [_, _, _]) rfl rfl rfl rfl ?_
    refine E.fin (rs := [_, _]) (rn []) (.inl rfl) rfl (.cons (ResOne.cellN (m := 3) (PtI.ref rfl rfl) (js := [_, _, _]) rfl (Nat.le_of_ble_eq_true rfl) Try.underlying28 rfl (by kernel_rfl)) (.cons (ResOne.tmp rfl) .nil)) ?_ ?_ rfl (fixL_spec rfl)
    ·skip
     first | (rw [(do_bad hdo hne).1, (do_bad hdo hne).2, hse]; rfl) | (rw [(do_good hdo hz).1, (do_good hdo hz).2, hss]; rfl)
    · exact SubS.nil
   ·skip
    have hse : stE s x = clcE s x := (stS_7 hk).2
    have hss : stS s x = clcS s x := (stS_7 hk).1
    refine W.draw [⟨[], [], [], [102]⟩, ⟨[102], [], [], []⟩, ⟨[], [], [], [104]⟩, ⟨[104], [], [], []⟩, ⟨[102], [], [], []⟩, ⟨[105, 106, 107, 120, 121], [105, 106, 107, 120, 121], [120, 121], []⟩, ⟨[], [], [], []⟩] rfl (by kernel_rfl) (by kernel_rfl) rfl rfl ?_
    refine WH.val (O.fld_ref (o' := 0) rfl Try.underlying34 rfl (m := 0) (by kernel_rfl) rfl rfl Taken.no) rfl rfl ?_
    refine WH.val (O.ld1 (PtI.ref rfl rfl) rfl Try.underlying3 rfl rfl Taken.no) rfl rfl ?_
    refine WH.val (O.idx_ref (i := 7) (m := 1) rfl rfl (by omega) (by decide) Try.underlying61 (by kernel_rfl) rfl rfl Taken.no) rfl rfl ?_
    refine WH.val (O.ld1 (PtI.ref rfl rfl) rfl Try.underlying58 rfl rfl Taken.no) rfl rfl ?_
    refine WH.val (O.ldN (m := 8) (PtI.ref rfl rfl) (js := [_, _, _, _, _, _, _, _]) rfl (Nat.le_of_ble_eq_true rfl) Try.underlying34 rfl (by kernel_rfl) rfl Taken.no) rfl rfl ?_
    refine WH.memS (O.call (rn [(0, 107), (1, 105), (2, 106), (3, 121), (4, 120)]) [] rfl rfl rfl (cancel_m hdo.1) (.cons (ArgOk.same rfl) (.cons (ArgOk.aggU (.cons (ArgOk.same rfl) (.cons (ArgOk.same rfl) (.cons (ArgOk.same rfl) (.cons (ArgOk.same rfl) (.cons (ArgOk.same rfl) (.cons (ArgOk.same rfl) (.cons (ArgOk.same rfl) (.cons (ArgOk.same rfl) .nil))))))))) .nil)) (SubS.cons rfl (SubS.cons rfl (SubS.cons rfl SubS.nil))) rfl rfl rfl rfl rfl (.inl rfl) hcallOk25 (r' := .u _) rfl rfl Taken.no) rfl rfl rfl rfl rfl (S' := (107, .cells _ [.u _, .own 120, .own 121]) :: (120, .data _ _ _) :: (121, .data _ _ _) :: (105, .dead) :: (106, .dead) :: _) rfl ?_
    refine WH.val (O.assign rfl rfl Taken.no) rfl rfl ?_
    refine WH.nil (E.to (W.rg (SL.mv rfl rfl ?_)))
    refine SL.val (O.det (fun _ => G.R.neq rfl rfl) rfl Taken.no) ?_
    refine E.fo ?_
    first | refine W.cond_d rfl (fun hc10 => ?_) (fun hc10 => ?_) | refine W.cond_nd rfl (fun hc10 => ?_) (fun hc10 => ?_) | refine W.cond rfl (fun hc10 => ?_) (fun hc10 => ?_)
    ·skip
     have hne : ¬ stE s x = 0 := by rw [hse]; first | assumption | omega
     refine W.rg ?_
     refine SL.val (O.build (res := [_, _, _]) (z := .agg #[.int .i64 0, .slice none 0 0, .slice none 0 0]) (places := [(0, 1), (1, 1), (2, 1)]) rfl rfl Try.underlying28 (by kernel_rfl) (fun _ => by kernel_rfl) rfl rfl Taken.no) ?_
     refine SL.mv rfl rfl ?_
     refine SL.effS (O.st_ref (m := 3) rfl rfl rfl (js := [_, _, _]) rfl rfl (by kernel_rfl) (by simp) (Nat.le_of_ble_eq_true rfl) rfl (is' := [_, _, _]) rfl Taken.no) (S' := (103, _) :: _) rfl ?_
     refine SL.an rfl rfl (E.fo (W.ret (E.thr ?_)))
     refine E.nilslC 103 1 8 (is' := [_, _, _]) rfl rfl rfl ?_
     refine E.nilslC 103 2 2 (is' := [_, _, _]) rfl rfl rfl ?_
     refine E.fin (rs := [_, _]) (rn []) (.inl rfl) rfl (.cons (ResOne.cellN (m := 3) (PtI.ref rfl rfl) (js := [_, _, _]) rfl (Nat.le_of_ble_eq_true rfl) Try.underlying28 rfl (by kernel_rfl)) (.cons (ResOne.tmp rfl) .nil)) ?_ ?_ rfl (fixL_spec rfl)
     ·skip
      first | (rw [(do_bad hdo hne).1, (do_bad hdo hne).2, hse]; rfl) | (rw [(do_good hdo hz).1, (do_good hdo hz).2, hss]; rfl)
     · exact SubS.nil
    have hz : stE s x = 0 := by rw [hse]; first | assumption | omega
    refine W.skip (E.to (W.rg ?_))
    refine SL.val (O.ldN (m := 3) (PtI.ref rfl rfl) (js := [_, _, _]) rfl (Nat.le_of_ble_eq_true rfl) Try.underlying28 rfl (by kernel_rfl) rfl Taken.no) ?_
    refine SL.effS (O.st_ref (m := 3) rfl rfl rfl (js := [_, _, _]) rfl rfl (by kernel_rfl) (by simp) (Nat.le_of_ble_eq_true rfl) rfl (is' := [_, _, _]) rfl Taken.no) (S' := (103, _) :: _) rfl ?_
    refine SL.an rfl rfl (E.fo (W.ret ?_))
    refine E.freezeC 103 1 120 (is' := [_, _, _]) rfl rfl rfl rfl ?_
    refine E.freezeC 103 2 121 (is' := [_, _, _]) rfl rfl rfl rfl ?_
    refine E.fin (rs := [_, _]) (rn []) (.inl rfl) rfl (.cons (ResOne.cellN (m := 3) (PtI.ref rfl rfl) (js := [_, _, _]) rfl (Nat.le_of_ble_eq_true rfl) Try.underlying28 rfl (by kernel_rfl)) (.cons (ResOne.tmp rfl) .nil)) ?_ ?_ rfl (fixL_spec rfl)
    ·skip
     first | (rw [(do_bad hdo hne).1, (do_bad hdo hne).2, hse]; rfl) | (rw [(do_good hdo hz).1, (do_good hdo hz).2, hss]; rfl)
    · exact SubS.nil
   have hse : stE s x = waiE s x := (stS_8 hk).2
   have hss : stS s x = waiS s x := (stS_8 hk).1
   refine W.draw [⟨[], [], [], [102]⟩, ⟨[102], [], [], []⟩, ⟨[], [], [], [104]⟩, ⟨[104], [], [], []⟩, ⟨[102], [], [], []⟩, ⟨[105, 106, 107, 122, 123], [105, 106, 107, 122, 123], [122, 123], []⟩, ⟨[], [], [], []⟩] rfl (by kernel_rfl) (by kernel_rfl) rfl rfl ?_
   refine WH.val (O.fld_ref (o' := 0) rfl Try.underlying34 rfl (m := 0) (by kernel_rfl) rfl rfl Taken.no) rfl rfl ?_
   refine WH.val (O.ld1 (PtI.ref rfl rfl) rfl Try.underlying3 rfl rfl Taken.no) rfl rfl ?_
   refine WH.val (O.idx_ref (i := 8) (m := 1) rfl rfl (by omega) (by decide) Try.underlying61 (by kernel_rfl) rfl rfl Taken.no) rfl rfl ?_
   refine WH.val (O.ld1 (PtI.ref rfl rfl) rfl Try.underlying58 rfl rfl Taken.no) rfl rfl ?_
   refine WH.val (O.ldN (m := 8) (PtI.ref rfl rfl) (js := [_, _, _, _, _, _, _, _]) rfl (Nat.le_of_ble_eq_true rfl) Try.underlying34 rfl (by kernel_rfl) rfl Taken.no) rfl rfl ?_
   refine WH.memS (O.call (rn [(0, 107), (1, 105), (2, 106), (3, 123), (4, 122)]) [] rfl rfl rfl (wait_m hdo.1) (.cons (ArgOk.same rfl) (.cons (ArgOk.aggU (.cons (ArgOk.same rfl) (.cons (ArgOk.same rfl) (.cons (ArgOk.same rfl) (.cons (ArgOk.same rfl) (.cons (ArgOk.same rfl) (.cons (ArgOk.same rfl) (.cons (ArgOk.same rfl) (.cons (ArgOk.same rfl) .nil))))))))) .nil)) (SubS.cons rfl (SubS.cons rfl (SubS.cons rfl SubS.nil))) rfl rfl rfl rfl rfl (.inl rfl) hcallOk26 (r' := .u _) rfl rfl Taken.no) rfl rfl rfl rfl rfl (S' := (107, .cells _ [.u _, .own 122, .own 123]) :: (122, .data _ _ _) :: (123, .data _ _ _) :: (105, .dead) :: (106, .dead) :: _) rfl ?_
   refine WH.val (O.assign rfl rfl Taken.no) rfl rfl ?_
   refine WH.nil (E.to (W.rg (SL.mv rfl rfl ?_)))
   refine SL.val (O.det (fun _ => G.R.neq rfl rfl) rfl Taken.no) ?_
   refine E.fo ?_
   first | refine W.cond_d rfl (fun hc11 => ?_) (fun hc11 => ?_) | refine W.cond_nd rfl (fun hc11 => ?_) (fun hc11 => ?_) | refine W.cond rfl (fun hc11 => ?_) (fun hc11 => ?_)
   ·skip
    have hne : ¬ stE s x = 0 := by rw [hse]; first | assumption | omega
    refine W.rg ?_
    refine SL.val (O.build (res := [_, _, _]) (z := .agg #[.int .i64 0, .slice none 0 0, .slice none 0 0]) (places := [(0, 1), (1, 1), (2, 1)]) rfl rfl Try.underlying28 (by kernel_rfl) (fun _ => by kernel_rfl) rfl rfl Taken.no) ?_
    refine SL.mv rfl rfl ?_
    refine SL.effS (O.st_ref (m := 3) rfl rfl rfl (js := [_, _, _]) rfl rfl (by kernel_rfl) (by simp) (Nat.le_of_ble_eq_true rfl) rfl (is' := [_, _, _]) rfl Taken.no) (S' := (103, _) :: _) rfl ?_
    refine SL.an rfl rfl (E.fo (W.ret (E.thr ?_)))
    refine E.nilslC 103 1 8 (is' := [_, _, _]) rfl rfl rfl ?_
    refine E.nilslC 103 2 2 (is' := [_, _, _]) rfl rfl rfl ?_
    refine E.fin (rs := [_, _]) (rn []) (.inl rfl) rfl (.cons (ResOne.cellN (m := 3) (PtI.ref rfl rfl) (js := [_, _, _]) rfl (Nat.le_of_ble_eq_true rfl) Try.underlying28 rfl (by kernel_rfl)) (.cons (ResOne.tmp rfl) .nil)) ?_ ?_ rfl (fixL_spec rfl)
    ·skip
     first | (rw [(do_bad hdo hne).1, (do_bad hdo hne).2, hse]; rfl) | (rw [(do_good hdo hz).1, (do_good hdo hz).2, hss]; rfl)
    · exact SubS.nil
   have hz : stE s x = 0 := by rw [hse]; first | assumption | omega
   refine W.skip (E.to (W.rg ?_))
   refine SL.val (O.ldN (m := 3) (PtI.ref rfl rfl) (js := [_, _, _]) rfl (Nat.le_of_ble_eq_true rfl) Try.underlying28 rfl (by kernel_rfl) rfl Taken.no) ?_
   refine SL.effS (O.st_ref (m := 3) rfl rfl rfl (js := [_, _, _]) rfl rfl (by kernel_rfl) (by simp) (Nat.le_of_ble_eq_true rfl) rfl (is' := [_, _, _]) rfl Taken.no) (S' := (103, _) :: _) rfl ?_
   refine SL.an rfl rfl (E.fo (W.ret ?_))
   refine E.freezeC 103 1 122 (is' := [_, _, _]) rfl rfl rfl rfl ?_
   refine E.freezeC 103 2 123 (is' := [_, _, _]) rfl rfl rfl rfl ?_
   refine E.fin (rs := [_, _]) (rn []) (.inl rfl) rfl (.cons (ResOne.cellN (m := 3) (PtI.ref rfl rfl) (js := [_, _, _]) rfl (Nat.le_of_ble_eq_true rfl) Try.underlying28 rfl (by kernel_rfl)) (.cons (ResOne.tmp rfl) .nil)) ?_ ?_ rfl (fixL_spec rfl)
   ·skip
    first | (rw [(do_bad hdo hne).1, (do_bad hdo hne).2, hse]; rfl) | (rw [(do_good hdo hz).1, (do_good hdo hz).2, hss]; rfl)
   · exact SubS.nil
  first | have hg2p := G.gA7 hg2 | have hg2p := G.gA8 hg2 | have hg2p := hg2
  have hdo : ¬ doOk s x := fun z => by have := z.2.1; simp_all
  refine WH.sk rfl rfl rfl hg2 (WH.sk rfl rfl rfl hg2 (WH.sk rfl rfl rfl hg2 (WH.sk rfl rfl rfl hg2 ?_)))
  refine WH.val (O.pick_t rfl (G.ne_f hg2) rfl rfl Taken.no) rfl rfl ?_
  refine WH.nil (E.to ?_)
  refine W.cond_t rfl ?_
  refine W.rg ?_
  refine SL.val (O.build (res := [_, _, _]) (z := .agg #[.int .i64 0, .slice none 0 0, .slice none 0 0]) (places := [(0, 1), (1, 1), (2, 1)]) rfl rfl Try.underlying28 (by kernel_rfl) (fun _ => by kernel_rfl) rfl rfl Taken.no) ?_
  refine SL.effS (O.st_ref (m := 3) rfl rfl rfl (js := [_, _, _]) rfl rfl (by kernel_rfl) (by simp) (Nat.le_of_ble_eq_true rfl) rfl (is' := [_, _, _]) rfl Taken.no) (S' := (103, _) :: _) rfl ?_
  refine SL.an rfl rfl (E.fo (W.ret (E.thr ?_)))
  refine E.nilslC 103 1 8 (is' := [_, _, _]) rfl rfl rfl ?_
  refine E.nilslC 103 2 2 (is' := [_, _, _]) rfl rfl rfl ?_
  refine E.fin (rs := [_, _]) (rn []) (.inl rfl) rfl (.cons (ResOne.cellN (m := 3) (PtI.ref rfl rfl) (js := [_, _, _]) rfl (Nat.le_of_ble_eq_true rfl) Try.underlying28 rfl (by kernel_rfl)) (.cons (ResOne.tmp rfl) .nil)) ?_ ?_ rfl (fixL_spec rfl)
  ·skip
   rw [(do_arg hdo).1, (do_arg hdo).2]; rfl
  · exact SubS.nil
 first | have hg1p := G.gA7 hg1 | have hg1p := G.gA8 hg1 | have hg1p := hg1
 have hdo : ¬ doOk s x := fun z => by have := z.1; simp_all
 refine WH.sk rfl rfl rfl hg1 (WH.sk rfl rfl rfl hg1 (WH.sk rfl rfl rfl hg1 (WH.sk rfl rfl rfl hg1 ?_)))
 refine WH.val (O.pick_t rfl (G.ne_f hg1) rfl rfl Taken.no) rfl rfl ?_
 refine WH.mv rfl rfl rfl ?_
 have hg12 : true ≠ false := by decide
 refine WH.sk rfl rfl rfl hg12 (WH.sk rfl rfl rfl hg12 (WH.sk rfl rfl rfl hg12 (WH.sk rfl rfl rfl hg12 ?_)))
 refine WH.val (O.pick_t rfl rfl rfl rfl Taken.no) rfl rfl ?_
 refine WH.nil (E.to ?_)
 refine W.cond_t rfl ?_
 refine W.rg ?_
 refine SL.val (O.build (res := [_, _, _]) (z := .agg #[.int .i64 0, .slice none 0 0, .slice none 0 0]) (places := [(0, 1), (1, 1), (2, 1)]) rfl rfl Try.underlying28 (by kernel_rfl) (fun _ => by kernel_rfl) rfl rfl Taken.no) ?_
 refine SL.effS (O.st_ref (m := 3) rfl rfl rfl (js := [_, _, _]) rfl rfl (by kernel_rfl) (by simp) (Nat.le_of_ble_eq_true rfl) rfl (is' := [_, _, _]) rfl Taken.no) (S' := (103, _) :: _) rfl ?_
 refine SL.an rfl rfl (E.fo (W.ret (E.thr ?_)))
 refine E.nilslC 103 1 8 (is' := [_, _, _]) rfl rfl rfl ?_
 refine E.nilslC 103 2 2 (is' := [_, _, _]) rfl rfl rfl ?_
 refine E.fin (rs := [_, _]) (rn []) (.inl rfl) rfl (.cons (ResOne.cellN (m := 3) (PtI.ref rfl rfl) (js := [_, _, _]) rfl (Nat.le_of_ble_eq_true rfl) Try.underlying28 rfl (by kernel_rfl)) (.cons (ResOne.tmp rfl) .nil)) ?_ ?_ rfl (fixL_spec rfl)
 ·skip
  rw [(do_arg hdo).1, (do_arg hdo).2]; rfl
 · exact SubS.nil

set_option maxRecDepth 8000 in
theorem run_h {s : St} {l : List Sp} :
    Con Try.prog 15 [vA [uI s.now, .sl 8 (s.cps.map eCp), .sl 2 (s.lns.map eLn)], vL 8 (l.map eSp)] [] (.tup [.agg [vI ((runF s l).1).now, vL 8 (((runF s l).1).cps.map eCp), vL 2 (((runF s l).1).lns.map eLn)], vI ((runF s l).2.1 : Nat), vI (runF s l).2.2]) [] := by
 obtain ⟨i34, hi34, hz34, hs34, hb34⟩ := hinf34
 refine Con.enterL (n := 40) Try.func15 rfl rfl rfl (fun τ w ok vs hin => ?_)
 have hl0_1 := hin.lenA (i := 0) (j := 1) rfl rfl
 try rw [List.length_map] at hl0_1
 have hl0_2 := hin.lenA (i := 0) (j := 2) rfl rfl
 try rw [List.length_map] at hl0_2
 have hl1 := hin.len (i := 1) rfl
 try rw [List.length_map] at hl1
 clear hin
 refine W.rg ?_
 refine SL.memS (O.box (is := [_, _, _]) 101 rfl rfl (by simp) rfl rfl Taken.no) rfl rfl (S' := (101, _) :: _) rfl ?_
 refine SL.memS (O.alloc (z := .agg #[.int .i64 0, .slice none 0 0, .slice none 0 0]) (is := [.u (.sc (.int .i64 0)), .u (.sc (.slice none 0 0)), .u (.sc (.slice none 0 0))]) 102 (by kernel_rfl) rfl rfl rfl Taken.no) rfl rfl (S' := (102, _) :: _) rfl ?_
 refine SL.an rfl rfl (SL.an rfl rfl (E.fo (W.seq (W.rg ?_))))
 refine SL.val (O.ldN (m := 3) (PtI.ref rfl rfl) (js := [_, _, _]) rfl (Nat.le_of_ble_eq_true rfl) Try.underlying28 rfl (by kernel_rfl) rfl Taken.no) ?_
 refine SL.val (O.callp rfl rfl rfl (stvalid_h (s := s)) (.cons (ArgOk.aggU (.cons (ArgOk.same rfl) (.cons (ArgOk.same rfl) (.cons (ArgOk.same rfl) .nil)))) .nil) hcallOk16 rfl Taken.no) ?_
 refine SL.val (O.det (fun _ => G.R.not rfl) rfl Taken.no) ?_
 refine E.fo ?_
 first | refine W.cond_d rfl (fun hc1 => ?_) (fun hc1 => ?_) | refine W.cond_nd rfl (fun hc1 => ?_) (fun hc1 => ?_) | refine W.cond rfl (fun hc1 => ?_) (fun hc1 => ?_)
 ·skip
  refine W.rg ?_
  refine SL.val (O.build (res := [_, _, _]) (z := .agg #[.int .i64 0, .slice none 0 0, .slice none 0 0]) (places := [(0, 1), (1, 1), (2, 1)]) rfl rfl Try.underlying28 (by kernel_rfl) (fun _ => by kernel_rfl) rfl rfl Taken.no) ?_
  refine SL.effS (O.st_ref (m := 3) rfl rfl rfl (js := [_, _, _]) rfl rfl (by kernel_rfl) (by simp) (Nat.le_of_ble_eq_true rfl) rfl (is' := [_, _, _]) rfl Taken.no) (S' := (102, _) :: _) rfl ?_
  refine SL.an rfl rfl (SL.an rfl rfl (E.fo (W.ret (E.thr ?_))))
  refine E.nilslC 102 1 8 (is' := [_, _, _]) rfl rfl rfl ?_
  refine E.nilslC 102 2 2 (is' := [_, _, _]) rfl rfl rfl ?_
  refine E.fin (rs := [_, _, _]) (rn []) (.inl rfl) rfl (.cons (ResOne.cellN (m := 3) (PtI.ref rfl rfl) (js := [_, _, _]) rfl (Nat.le_of_ble_eq_true rfl) Try.underlying28 rfl (by kernel_rfl)) (.cons (ResOne.tmp rfl) (.cons (ResOne.tmp rfl) .nil))) ?_ ?_ rfl (fixL_spec rfl)
  ·skip
   rw [runF, if_neg (by first | assumption | simp_all)]; rfl
  · exact SubS.nil
 have hv : validS s := by first | assumption | simp_all
 have hok := valid_ok hv
 have hrf : runF s l = runR s (l.drop 0) 0 := if_pos hv
 refine W.skip (E.to (W.rg ?_))
 refine SL.val (O.ldN (m := 3) (PtI.ref rfl rfl) (js := [_, _, _]) rfl (Nat.le_of_ble_eq_true rfl) Try.underlying28 rfl (by kernel_rfl) rfl Taken.no) ?_
 refine SL.memS (O.call (rn [(0, 103), (1, 104)]) [] rfl rfl rfl (cloned_h (s := s) (by have := hv.2.1; omega) (by have := hok.2.1; omega) (fun l hl => by have := hok.2.2 l hl; omega)) (.cons (ArgOk.aggU (.cons (ArgOk.same rfl) (.cons (ArgOk.same rfl) (.cons (ArgOk.same rfl) .nil)))) .nil) SubS.nil rfl rfl rfl rfl rfl (.inl rfl) hcallOk27 (r' := .agg [.u _, .own 103, .own 104]) rfl rfl Taken.no) rfl rfl (S' := (103, .data _ _ _) :: (104, .data _ _ _) :: _) rfl ?_
 refine SL.effS (O.st_ref (m := 3) rfl rfl rfl (js := [_, _, _]) rfl rfl (by kernel_rfl) (by simp) (Nat.le_of_ble_eq_true rfl) rfl (is' := [_, _, _]) rfl Taken.no) (S' := (101, _) :: _) rfl ?_
 refine E.fo (W.seq (W.rg (SL.mv rfl rfl ?_)))
 refine SL.val (O.lenE (SlOf.fz rfl (by decide)) (by first | exact List.length_map _ | rfl) Try.underlying52 rfl Taken.no) ?_
 refine SL.mv rfl rfl (E.fo (W.block ?_))
 refine W.freezeC 101 1 103 (is' := [_, _, _]) rfl rfl rfl rfl ?_
 refine W.freezeC 101 2 104 (is' := [_, _, _]) rfl rfl rfl rfl ?_
 refine W.loopx2 (fun (k : Nat) (t : St) => [(19, vI (k : Int))]) (fun (k : Nat) (t : St) => [(101, .cells 28 [vI t.now, vL 8 (t.cps.map eCp), vL 2 (t.lns.map eLn)])]) (fun (k : Nat) (t : St) => k ≤ l.length ∧ runF s l = runR t (l.drop k) k) (fun (k : Nat) (t : St) => l.length - k) (0) (s) (rn []) (.cons (t := 1) rfl (.cons (t := 2) rfl (.cons (t := 4) rfl (.cons (t := 17) rfl (.cons (t := 18) rfl .nil))))) (.cons (t := 102) rfl .nil) rfl ?_ ?_ rfl rfl ?_ ?_
 · exact (SubF.cons rfl SubF.nil)
 · exact (SubS.cons rfl SubS.nil)
 ·skip
  exact ⟨by omega, hrf⟩
 intro k t hinv
 obtain ⟨hk, hr⟩ := hinv
 refine W.rg ?_
 refine SL.val (O.det (fun _ => G.R.lss rfl rfl) rfl Taken.no) ?_
 refine E.fo (W.seq ?_)
 first | refine W.cond_d rfl (fun hc2 => ?_) (fun hc2 => ?_) | refine W.cond_nd rfl (fun hc2 => ?_) (fun hc2 => ?_) | refine W.cond rfl (fun hc2 => ?_) (fun hc2 => ?_)
 ·skip
  refine W.skip (E.to (W.seq (W.block (W.rg (SL.mv rfl rfl ?_)))))
  refine SL.val (O.idx_fz rfl rfl (rfl) (row_get (by omega)) Try.underlying52 hi34 hs34 rfl Taken.no) ?_
  refine SL.val (O.ldU (m := 8) (PtU.fz rfl) rfl Try.underlying34 rfl (by kernel_rfl) rfl Taken.no) ?_
  refine SL.memS (O.alloc (z := .agg #[.int .i64 0, .int .i64 0, .int .i64 0, .int .i64 0, .int .i64 0, .int .i64 0, .int .i64 0, .string ByteArray.empty]) (is := [.u (.sc (.int .i64 0)), .u (.sc (.int .i64 0)), .u (.sc (.int .i64 0)), .u (.sc (.int .i64 0)), .u (.sc (.int .i64 0)), .u (.sc (.int .i64 0)), .u (.sc (.int .i64 0)), .u (.sc (.string ByteArray.empty))]) 105 (by kernel_rfl) rfl rfl rfl Taken.no) rfl rfl (S' := (105, _) :: _) rfl ?_
  refine SL.an rfl rfl ?_
  refine SL.effS (O.st_ref (m := 8) rfl rfl rfl (js := [_, _, _, _, _, _, _, _]) rfl rfl (by kernel_rfl) (by simp) (Nat.le_of_ble_eq_true rfl) rfl (is' := [_, _, _, _, _, _, _, _]) rfl Taken.no) (S' := (105, _) :: _) rfl ?_
  refine E.fo (W.rg ?_)
  refine SL.val (O.ldN (m := 3) (PtI.ref rfl rfl) (js := [_, _, _]) rfl (Nat.le_of_ble_eq_true rfl) Try.underlying28 rfl (by kernel_rfl) rfl Taken.no) ?_
  refine SL.val (O.ldN (m := 8) (PtI.ref rfl rfl) (js := [_, _, _, _, _, _, _, _]) rfl (Nat.le_of_ble_eq_true rfl) Try.underlying34 rfl (by kernel_rfl) rfl Taken.no) ?_
  refine SL.memS (O.call (rn []) [] rfl rfl rfl (do_h (s := t) (x := l[k]!)) (.cons (ArgOk.aggU (.cons (ArgOk.same rfl) (.cons (ArgOk.same rfl) (.cons (ArgOk.same rfl) .nil)))) (.cons (ArgOk.aggU (.cons (ArgOk.same rfl) (.cons (ArgOk.same rfl) (.cons (ArgOk.same rfl) (.cons (ArgOk.same rfl) (.cons (ArgOk.same rfl) (.cons (ArgOk.same rfl) (.cons (ArgOk.same rfl) (.cons (ArgOk.same rfl) .nil))))))))) .nil)) SubS.nil rfl rfl rfl rfl rfl (.inl rfl) hcallOk9 (r' := .tup [.agg [.u _, .u _, .u _], .u _]) rfl rfl Taken.no) rfl rfl (S' := _) rfl ?_
  refine SL.mv rfl rfl ?_
  refine SL.val (O.extract rfl rfl rfl Taken.no) ?_
  refine SL.val (O.extract rfl rfl rfl Taken.no) ?_
  refine SL.memS (O.alloc (z := .agg #[.int .i64 0, .slice none 0 0, .slice none 0 0]) (is := [.u (.sc (.int .i64 0)), .u (.sc (.slice none 0 0)), .u (.sc (.slice none 0 0))]) 106 (by kernel_rfl) rfl rfl rfl Taken.no) rfl rfl (S' := (106, _) :: _) rfl ?_
  refine SL.effS (O.st_ref (m := 3) rfl rfl rfl (js := [_, _, _]) rfl rfl (by kernel_rfl) (by simp) (Nat.le_of_ble_eq_true rfl) rfl (is' := [_, _, _]) rfl Taken.no) (S' := (106, _) :: _) rfl ?_
  refine SL.an rfl rfl (E.fo (W.seq (W.rg (SL.mv rfl rfl ?_))))
  refine SL.val (O.det (fun _ => G.R.neq rfl rfl) rfl Taken.no) ?_
  refine E.fo ?_
  first | refine W.cond_d rfl (fun hc3 => ?_) (fun hc3 => ?_) | refine W.cond_nd rfl (fun hc3 => ?_) (fun hc3 => ?_) | refine W.cond rfl (fun hc3 => ?_) (fun hc3 => ?_)
  ·skip
   refine W.rg ?_
   refine SL.val (O.ldN (m := 3) (PtI.ref rfl rfl) (js := [_, _, _]) rfl (Nat.le_of_ble_eq_true rfl) Try.underlying28 rfl (by kernel_rfl) rfl Taken.no) ?_
   refine SL.mv rfl rfl (SL.mv rfl rfl ?_)
   refine SL.effS (O.st_ref (m := 3) rfl rfl rfl (js := [_, _, _]) rfl rfl (by kernel_rfl) (by simp) (Nat.le_of_ble_eq_true rfl) rfl (is' := [_, _, _]) rfl Taken.no) (S' := (102, _) :: _) rfl ?_
   refine SL.an rfl rfl (SL.an rfl rfl (E.fo ?_))
   refine W.pick (K:=[(1,_),(2,_),(4,_),(5,_),(6,_),(9,_),(17,_),(18,_),(19,_)]) (Z:=[(101,_),(102,_),(105,_),(106,_)]) ⟨rfl,rfl,rfl,rfl,rfl,rfl,rfl,rfl,rfl,trivial⟩ ⟨rfl,rfl,rfl,rfl,trivial⟩ ?_
   refine W.ret (E.thr ?_)
   refine E.inr ?_
   refine E.thr (E.thr ?_)
   refine E.inr ?_
   refine E.thr ?_
   refine E.fin (rs := [_, _, _]) (rn []) (.inl rfl) rfl (.cons (ResOne.cellN (m := 3) (PtI.ref rfl rfl) (js := [_, _, _]) rfl (Nat.le_of_ble_eq_true rfl) Try.underlying28 rfl (by kernel_rfl)) (.cons (ResOne.tmp rfl) (.cons (ResOne.tmp rfl) .nil))) ?_ ?_ rfl (fixL_spec rfl)
   ·skip
    rw [hr, run_stop (by omega) (by omega)]; rfl
   · exact SubS.nil
  refine W.skip (E.to (W.region ?_))
  refine SL.val (O.ldN (m := 3) (PtI.ref rfl rfl) (js := [_, _, _]) rfl (Nat.le_of_ble_eq_true rfl) Try.underlying28 rfl (by kernel_rfl) rfl Taken.no) ?_
  refine SL.effS (O.st_ref (m := 3) rfl rfl rfl (js := [_, _, _]) rfl rfl (by kernel_rfl) (by simp) (Nat.le_of_ble_eq_true rfl) rfl (is' := [_, _, _]) rfl Taken.no) (S' := (101, _) :: _) rfl ?_
  refine SL.nil (E.inn (E.to (W.region ?_)))
  refine SL.val (O.det (fun _ => by first | exact G.R.add64 rfl rfl (by omega) | exact G.R.add rfl rfl) rfl Taken.no) ?_
  refine SL.mv rfl rfl (SL.nil ?_)
  refine E.again ((k + 1), (doS t l[k]!)) (rn []) ?_ ?_ rfl (fixL_spec rfl) ?_ ?_
  · exact (SubF.cons rfl (SubF.cons rfl (SubF.cons rfl (SubF.cons rfl (SubF.cons rfl (SubF.cons rfl SubF.nil))))))
  · exact (SubS.cons rfl (SubS.cons rfl SubS.nil))
  ·try dsimp only
   exact ⟨by omega, hr.trans (run_at (by omega) (by omega))⟩
  · (try dsimp only); omega
 refine W.exit (E.th (E.th (E.hit (E.to (W.rg ?_)))))
 refine SL.val (O.ldN (m := 3) (PtI.ref rfl rfl) (js := [_, _, _]) rfl (Nat.le_of_ble_eq_true rfl) Try.underlying28 rfl (by kernel_rfl) rfl Taken.no) ?_
 refine SL.mv rfl rfl ?_
 refine SL.val (O.lenE (SlOf.fz rfl (by decide)) (by first | exact List.length_map _ | rfl) Try.underlying52 rfl Taken.no) ?_
 refine SL.effS (O.st_ref (m := 3) rfl rfl rfl (js := [_, _, _]) rfl rfl (by kernel_rfl) (by simp) (Nat.le_of_ble_eq_true rfl) rfl (is' := [_, _, _]) rfl Taken.no) (S' := (102, _) :: _) rfl ?_
 refine SL.an rfl rfl (SL.an rfl rfl (E.fo (W.ret ?_)))
 refine E.fin (rs := [_, _, _]) (rn []) (.inl rfl) rfl (.cons (ResOne.cellN (m := 3) (PtI.ref rfl rfl) (js := [_, _, _]) rfl (Nat.le_of_ble_eq_true rfl) Try.underlying28 rfl (by kernel_rfl)) (.cons (ResOne.tmp rfl) (.cons (ResOne.tmp rfl) .nil))) ?_ ?_ rfl (fixL_spec rfl)
 ·skip
  rw [hr, run_end (by omega)]
  obtain rfl : k = l.length := by omega
  rfl
 · exact SubS.nil

end Go.Proofs.Ytmekkjehkcjpdaa
end
section
namespace Go.D58
open Go Go.RowKit Go.H Go.D57
theorem valid_nil : validQ [] := ⟨fun i hi => absurd hi (by simp), by simp⟩
def okV (ls : List Ln) : Prop := ∀ l ∈ ls, validQ l.q
theorem valid_okV {s : St} (h : validS s) : okV s.lns := fun l hl => by
  obtain ⟨i, hi, rfl⟩ := mem_at hl
  exact (h.2.2.2.2.1 i hi).1.2.1
theorem que_okV {s : St} (h : okV s.lns) (w : Int) : validQ (queS s w) := by
  unfold queS
  split
  · rename_i e; exact h _ (at_mem (idxF_lt e).1)
  · exact valid_nil
theorem setQ_okV {ls : List Ln} (h : okV ls) (w : Int) {q : List Hd} (hq : validQ q) : okV (setQ ls w q) := by
  cases hf : kfnd (·.work) ls w with
  | true =>
    by_cases h0 : q.length = 0
    · rw [setQ_del hf h0]
      exact fun l hl => (List.mem_append.1 hl).elim (fun m => h l (List.mem_of_mem_take m)) (fun m => h l (List.mem_of_mem_drop m))
    · rw [setQ_set hf h0]
      exact fun l hl => (List.mem_or_eq_of_mem_set hl).elim (h l) (fun e => by rw [e]; exact hq)
  | false =>
    by_cases h0 : q.length = 0
    · rw [setQ_no hf h0]; exact h
    · rw [setQ_ins hf h0]
      refine fun l hl => (List.mem_append.1 hl).elim (fun m => h l (List.mem_of_mem_take m)) (fun m => ?_)
      rcases List.mem_cons.1 m with e | m
      · rw [e]; exact hq
      · exact h l (List.mem_of_mem_drop m)
theorem srv_okV {q : List Hd} (h : validQ q) (hl : ¬ q.length = 0) : validQ (srvQ q) := srvQ_valid (srv_0 h (by omega)).1
theorem free_okV {s : St} (h : okV s.lns) (i : Nat) : okV (freeS s i).lns := by
  by_cases e : (queS s s.cps[i]!.work).length = 0
  · rw [free_0 e]; exact h
  · rw [free_1 e]; exact setQ_okV h _ (srv_okV (que_okV h _) e)
theorem late_okV {s : St} (h : okV s.lns) : ∀ k, okV (lateS s k).lns
  | 0 => h
  | k + 1 => by
    rw [lateS]
    split
    · exact free_okV (late_okV h k) k
    · exact late_okV h k
theorem put_okV {q : List Hd} {h : Hd} : validQ (putQ q h) := by
  unfold putQ
  split
  · rename_i e; exact put_valid e
  · exact valid_nil
theorem can_okV {q : List Hd} {i : Int} : validQ (canQ q i) := by
  unfold canQ
  split
  · exact valid_nil
  · split
    · exact valid_nil
    · rename_i h1 h2
      have := ixI_range q i
      exact canL_valid (Decidable.not_not.1 h1) (show (ixI q i).toNat < q.length by omega)
theorem rec_lns (s : St) (w : Int) : (recS s w).lns = s.lns := by unfold recS; split <;> rfl
theorem do_okV {s : St} {x : Sp} (he : doE s x = 0) : okV (doS s x).lns := by
  obtain ⟨hv, hk, _, he2, hd⟩ := do_ok he
  have h := valid_okV hv
  rw [hd]
  rcases (show x.kind = 1 ∨ x.kind = 2 ∨ x.kind = 3 ∨ x.kind = 4 ∨ x.kind = 5 ∨ x.kind = 6 ∨ x.kind = 7 ∨ x.kind = 8 by omega) with k | k | k | k | k | k | k | k
  · rw [(stS_1 k).1]; unfold addS; split
    · exact free_okV (s := insC s x) h _
    · exact h
  · rw [(stS_2 k).1]; unfold remS; split <;> exact h
  · rw [(stS_3 k).1]; unfold lenS; split <;> exact h
  · rw [(stS_4 k).1]; unfold bakS; split
    · exact free_okV h _
    · exact h
  · rw [(stS_5 k).1]; unfold renS; split <;> exact h
  · rw [(stS_6 k).1]; unfold askS; split
    · split
      · exact h
      · rw [rec_lns]; exact setQ_okV h _ put_okV
    · exact h
  · rw [(stS_7 k).1]; unfold clcS; split
    · exact free_okV h _
    · split
      · exact setQ_okV h _ can_okV
      · exact h
  · rw [(stS_8 k).1]; unfold waiS; split
    · exact late_okV (s := ⟨s.now + x.days, s.cps, s.lns⟩) h _
    · exact h
theorem okV_len {ls : List Ln} (h : okV ls) : ∀ l ∈ ls, l.q.length ≤ 1000000 := fun l hl => by have := (h l hl).2; omega
theorem do_len {s : St} {x : Sp} (he : doE s x = 0) : (doS s x).cps.length ≤ 61 := by
  have h1 := copies_len he
  have h2 := (do_ok he).1.2.1
  unfold wantN at h1
  split at h1
  · omega
  · split at h1 <;> omega
theorem que_mem {s : St} (h : asc (·.work) s.lns) {l : Ln} (hl : l ∈ s.lns) : queS s l.work = l.q := by
  obtain ⟨j, hj, rfl⟩ := mem_at hl
  have e : idxF (fun x : Ln => decide (x.work = s.lns[j]!.work)) s.lns = j := idxF_here hj (fun i hi => decide_eq_false (by have : s.lns[i]!.work < s.lns[j]!.work := h i j hi hj; omega)) (decide_eq_true rfl)
  rw [queS_y (by omega), e]; rfl
theorem que_no {s : St} {w : Int} (h : ∀ l ∈ s.lns, l.work ≠ w) : queS s w = [] := queS_no fun q => by
  obtain ⟨l, hl, e⟩ := any_iff.2 q
  exact h l hl (of_decide_eq_true e)
theorem que_setQ {s : St} (h : asc (·.work) s.lns) (w : Int) (q : List Hd) (n : Int) (cs : List Cp) : queS ⟨n, cs, setQ s.lns w q⟩ w = q := by
  have hk := kpos_le (key := fun l : Ln => l.work) s.lns w
  cases hf : kfnd (·.work) s.lns w with
  | true =>
    obtain ⟨hlt, hw⟩ := (kfnd_iff h).1 hf
    by_cases h0 : q.length = 0
    · rw [setQ_del hf h0, List.eq_nil_of_length_eq_zero h0]
      refine que_no fun l hl => ?_
      obtain ⟨j, hj, rfl⟩ := mem_at hl
      have hl2 : (s.lns.take (kpos (·.work) s.lns w) ++ s.lns.drop (kpos (·.work) s.lns w + 1)).length = s.lns.length - 1 := by simp; omega
      show (s.lns.take (kpos (·.work) s.lns w) ++ s.lns.drop (kpos (·.work) s.lns w + 1))[j]!.work ≠ w
      rw [get_cut hlt (by rw [← hl2]; exact hj)]
      have hj2 : j < s.lns.length - 1 := by rw [← hl2]; exact hj
      split
      · rename_i e
        have : s.lns[j]!.work < s.lns[kpos (·.work) s.lns w]!.work := h _ _ e hlt
        omega
      · have : s.lns[kpos (·.work) s.lns w]!.work < s.lns[j + 1]!.work := h _ _ (by omega) (by omega)
        omega
    · rw [setQ_set hf h0]
      have := que_mem (s := ⟨n, cs, s.lns.set (kpos (·.work) s.lns w) ⟨s.lns[kpos (·.work) s.lns w]!.work, q⟩⟩) (asc_set h rfl) (List.mem_set hlt _)
      have hw2 : s.lns[kpos (·.work) s.lns w]!.work = w := hw
      refine Eq.trans ?_ this
      show queS ⟨n, cs, s.lns.set (kpos (·.work) s.lns w) ⟨s.lns[kpos (·.work) s.lns w]!.work, q⟩⟩ w = queS ⟨n, cs, s.lns.set (kpos (·.work) s.lns w) ⟨s.lns[kpos (·.work) s.lns w]!.work, q⟩⟩ s.lns[kpos (·.work) s.lns w]!.work
      rw [hw2]
  | false =>
    by_cases h0 : q.length = 0
    · rw [setQ_no hf h0, List.eq_nil_of_length_eq_zero h0]
      refine que_no fun l hl => ?_
      obtain ⟨j, hj, rfl⟩ := mem_at hl
      exact kfnd_no h hf hj
    · rw [setQ_ins hf h0]
      exact que_mem (s := ⟨n, cs, s.lns.take (kpos (·.work) s.lns w) ++ ⟨w, q⟩ :: s.lns.drop (kpos (·.work) s.lns w)⟩) (l := ⟨w, q⟩) (asc_ins (x := (⟨w, q⟩ : Ln)) h hf) (List.mem_append_right _ List.mem_cons_self)
def fairP (s n : St) (i : Int) : Prop := 0 ≤ cpI n i ∧ ((queS s (finD n i).work).length = 0 → (finD n i).place = 1) ∧
  (0 < (queS s (finD n i).work).length → (finD n i).place = 3 ∧ (finD n i).hold = (nextH (queS s (finD n i).work)).id ∧ (finD n i).pat = (nextH (queS s (finD n i).work)).pat ∧ (queS n (finD n i).work).length + 1 = (queS s (finD n i).work).length)
def rcF (w : Int) (c : Cp) : Bool := decide (c.work = w ∧ c.place = 2 ∧ c.rc = true)
def rcN (cs : List Cp) (w : Int) : Nat := (cs.filter (rcF w)).length
theorem rcN_y {cs : List Cp} {w : Int} {k : Nat} (h : k < cs.length) (e : cs[k]!.work = w ∧ cs[k]!.place = 2 ∧ cs[k]!.rc = true) : rcN (cs.take (k + 1)) w = rcN (cs.take k) w + 1 := by
  unfold rcN
  rw [filt_y h (decide_eq_true e), List.length_append]; rfl
theorem rcN_n {cs : List Cp} {w : Int} {k : Nat} (h : k < cs.length) (e : ¬ (cs[k]!.work = w ∧ cs[k]!.place = 2 ∧ cs[k]!.rc = true)) : rcN (cs.take (k + 1)) w = rcN (cs.take k) w := by
  unfold rcN
  rw [filt_n h (by rw [show rcF w cs[k]! = false from decide_eq_false e]; decide)]
theorem rcN_le (cs : List Cp) (w : Int) (k : Nat) : rcN (cs.take k) w ≤ k := by
  unfold rcN
  have := List.length_filter_le (rcF w) (cs.take k)
  rw [List.length_take] at this; omega
theorem cnt_set {p : Cp → Bool} {l : List Cp} {i : Nat} {c : Cp} (hi : i < l.length) : ((l.set i c).filter p).length + (if p l[i]! = true then 1 else 0) = (l.filter p).length + (if p c = true then 1 else 0) := by
  have e : l = l.take i ++ l[i]! :: l.drop (i + 1) := by rw [← drop_at hi, List.take_append_drop]
  have e2 : l.set i c = l.take i ++ c :: l.drop (i + 1) := by rw [List.set_eq_take_append_cons_drop, if_pos hi]
  have e3 : (l.filter p).length = ((l.take i ++ l[i]! :: l.drop (i + 1)).filter p).length := by rw [← e]
  rw [e3, e2, List.filter_append, List.filter_append, List.filter_cons, List.filter_cons]
  cases p l[i]! <;> cases p c <;> simp <;> omega
theorem rec_none {cs : List Cp} {w : Int} : ∀ {k : Nat}, recB cs w k = none → ∀ j, j < k → ¬ (cs[j]!.work = w ∧ cs[j]!.place = 2 ∧ cs[j]!.rc = false)
  | k + 1, h, j, hj => by
    rw [recB] at h
    split at h
    · cases h
    · rename_i e
      rcases Nat.lt_succ_iff_lt_or_eq.1 hj with q | q
      · exact rec_none h j q
      · subst q
        rintro ⟨z1, z2, z3⟩
        refine e ?_
        unfold recC
        rw [h, decide_eq_true z1, decide_eq_true z2, z3]; rfl
theorem rec_count {s : St} {w : Int} : rcN (recS s w).cps w = min (rcN s.cps w + 1) (cntP (recS s w).cps w 2) ∧ cntP (recS s w).cps w 2 = cntP s.cps w 2 := by
  have hle : rcN s.cps w ≤ cntP s.cps w 2 := by
    unfold rcN cntP
    rw [← List.countP_eq_length_filter, ← List.countP_eq_length_filter]
    refine List.countP_mono_left fun c _ h => ?_
    have := of_decide_eq_true h
    exact decide_eq_true ⟨this.1, this.2.1⟩
  unfold recS
  split
  · rename_i h
    refine ⟨?_, rfl⟩
    have : rcN s.cps w = cntP s.cps w 2 := by
      unfold rcN cntP
      congr 1
      refine List.filter_congr fun c hc => ?_
      obtain ⟨j, hj, rfl⟩ := mem_at hc
      have := rec_none h j hj
      unfold rcF
      refine decide_eq_decide.2 ⟨fun z => ⟨z.1, z.2.1⟩, fun z => ⟨z.1, z.2, ?_⟩⟩
      cases e : s.cps[j]!.rc with
      | true => rfl
      | false => exact absurd ⟨z.1, z.2, e⟩ this
    omega
  · rename_i i h
    obtain ⟨h1, h2, h3, h4⟩ := rec_lt h
    have a1 := cnt_set (p := rcF w) (l := s.cps) (c := rclC s.cps[i]! s.now) h1
    rw [if_neg (by rw [show rcF w s.cps[i]! = false from decide_eq_false (by rw [h4]; simp)]; decide), if_pos (show rcF w (rclC s.cps[i]! s.now) = true from decide_eq_true ⟨h2, h3, rfl⟩)] at a1
    have a2 := cnt_set (p := fun c : Cp => decide (c.work = w ∧ c.place = 2)) (l := s.cps) (c := rclC s.cps[i]! s.now) h1
    rw [if_pos (decide_eq_true ⟨h2, h3⟩), if_pos (show decide _ = true from decide_eq_true ⟨h2, h3⟩)] at a2
    have b1 : rcN (s.cps.set i (rclC s.cps[i]! s.now)) w = rcN s.cps w + 1 := by unfold rcN; omega
    have b2 : cntP (s.cps.set i (rclC s.cps[i]! s.now)) w 2 = cntP s.cps w 2 := by unfold cntP; omega
    have b3 : rcN (s.cps.set i (rclC s.cps[i]! s.now)) w ≤ cntP (s.cps.set i (rclC s.cps[i]! s.now)) w 2 := by
      unfold rcN cntP
      rw [← List.countP_eq_length_filter, ← List.countP_eq_length_filter]
      refine List.countP_mono_left fun c _ h => ?_
      have := of_decide_eq_true h
      exact decide_eq_true ⟨this.1, this.2.1⟩
    refine ⟨?_, b2⟩
    show rcN (s.cps.set i (rclC s.cps[i]! s.now)) w = min (rcN s.cps w + 1) (cntP (s.cps.set i (rclC s.cps[i]! s.now)) w 2)
    omega
theorem cnt_0 {cs : List Cp} {w p : Int} (h : cntP cs w p = 0) {c : Cp} (hc : c ∈ cs) : ¬ (c.work = w ∧ c.place = p) := fun e => by
  unfold cntP at h
  have := List.eq_nil_of_length_eq_zero h
  have hm : c ∈ cs.filter fun c => decide (c.work = w ∧ c.place = p) := List.mem_filter.2 ⟨hc, decide_eq_true e⟩
  rw [this] at hm
  cases hm
theorem ask_put {s : St} {x : Sp} (hv : validS s) (he : askE s x = 0) : putE (queS s x.work) (hldX s x) = 0 := by
  obtain ⟨⟨_, h2, h3, h4⟩, _, hu, _, hp, h60, _⟩ := ask_ok he
  have hn := hv.1
  have g : validQ (queS s x.work) ∧ goodH (h0 (hldX s x)) := by
    refine ⟨que_okV (valid_okV hv) _, ?_⟩
    unfold idB inB at h2 h3
    unfold inB at h4 hn
    show 1 ≤ x.hold ∧ x.hold ≤ 1000000000 ∧ 1 ≤ x.pat ∧ x.pat ≤ 1000000000 ∧ 1 ≤ x.cls ∧ x.cls ≤ 3 ∧ 0 ≤ s.now ∧ s.now ≤ 1000000 ∧ (0 : Int) ≤ 0 ∧ (0 : Int) ≤ 2
    omega
  have l : ¬ likeQ (queS s x.work) (h0 (hldX s x)) := by
    rintro ⟨j, hj, e⟩
    have hm : (queS s x.work)[j]! ∈ queS s x.work := at_mem hj
    rcases e with e | e
    · unfold useB at hu
      rw [Bool.or_eq_false_iff] at hu
      refine of_decide_eq_false hu.2 (any_iff.1 ?_)
      obtain ⟨y, hm, e⟩ : ∃ y ∈ queS s x.work, y.id = x.hold := ⟨_, hm, e⟩
      unfold queS at hm
      split at hm
      · rename_i q
        exact ⟨_, at_mem (idxF_lt q).1, decide_eq_true (any_iff.1 ⟨_, hm, decide_eq_true e⟩)⟩
      · cases hm
    · exact hp (any_iff.1 ⟨_, hm, decide_eq_true e⟩)
  exact (put_0 g l h60).1
theorem recalls {s : St} {x : Sp} (he : doE s x = 0) (hk : x.kind = 6) (h0 : cntP s.cps x.work 1 = 0) :
    rcN (doS s x).cps x.work = min (rcN s.cps x.work + 1) (cntP (doS s x).cps x.work 2) ∧ (queS (doS s x) x.work).length = (queS s x.work).length + 1 := by
  obtain ⟨hv, _, _, he2, hd⟩ := do_ok he
  rw [(stS_6 hk).2] at he2
  obtain ⟨_, _, _, _, _, _, e⟩ := ask_ok he2
  have hs : ¬ 0 ≤ shlI s x.work := fun q => by
    obtain ⟨c, hc, z⟩ := any_iff.2 q
    exact cnt_0 h0 hc (of_decide_eq_true z)
  rw [hd, (stS_6 hk).1, e, if_neg hs]
  refine ⟨(rec_count (s := putS s x) (w := x.work)).1, ?_⟩
  have h1 : queS (recS (putS s x) x.work) x.work = queS (putS s x) x.work := by unfold queS; rw [rec_lns]
  have hp := ask_put hv he2
  rw [h1, putS, que_setQ (valid_ok hv).1, (put_ok hp).2.2.2.2, putL_len]
theorem renewed {s : St} {c : Cp} (hc : c ∈ s.cps) (he : doE s ⟨5, c.id, 0, 0, 0, 0, 0, []⟩ = 0) : c.rc = false ∧ (queS s c.work).length = 0 := by
  obtain ⟨hv, _, _, he2, _⟩ := do_ok he
  rw [(stS_5 (x := ⟨5, c.id, 0, 0, 0, 0, 0, []⟩) rfl).2] at he2
  obtain ⟨_, _, h3, h4, _⟩ := ren_ok he2
  obtain ⟨j, hj, rfl⟩ := mem_at hc
  have e : atC s s.cps[j]!.id = s.cps[j]! := by unfold atC; rw [cpI_at (valid_asc hv) hj]; rfl
  have h3' : (atC s s.cps[j]!.id).rc = false := h3
  have h4' : (queS s (atC s s.cps[j]!.id).work).length = 0 := h4
  rw [e] at h3' h4'
  exact ⟨h3', h4'⟩
def jena : List UInt8 := [106, 101, 110, 97]
def exL : List Sp := [⟨1, 1, 9, 0, 0, 0, 0, jena⟩, ⟨3, 1, 0, 5, 0, 0, 0, []⟩, ⟨8, 0, 0, 0, 0, 0, 10, []⟩, ⟨6, 0, 9, 6, 3, 2, 0, []⟩]
def exS : St := ⟨10, [⟨1, 9, jena, 2, 5, 17, 0, true⟩], [⟨9, [⟨3, 6, 2, 10, 0⟩]⟩]⟩
def exT : St := ⟨12, [⟨1, 9, jena, 2, 5, 17, 0, true⟩], [⟨9, [⟨3, 6, 2, 10, 0⟩]⟩]⟩
def exU : St := ⟨12, [⟨1, 9, jena, 3, 6, 19, 3, false⟩], []⟩
set_option maxRecDepth 100000 in
theorem ex_run : runF zeroS exL = (exS, 4, 0) := by kernel_rfl
theorem ex_t : doS exS ⟨8, 0, 0, 0, 0, 0, 2, []⟩ = exT ∧ doE exS ⟨8, 0, 0, 0, 0, 0, 2, []⟩ = 0 := ⟨by kernel_rfl, by kernel_rfl⟩
theorem ex_u : doS exT ⟨4, 1, 0, 0, 0, 0, 0, []⟩ = exU ∧ doE exT ⟨4, 1, 0, 0, 0, 0, 0, []⟩ = 0 := ⟨by kernel_rfl, by kernel_rfl⟩
theorem ex_valid : decide (validS exU) = true := by kernel_rfl
end Go.D58
end
section
namespace Go.Proofs.Ytmekkjehkcjpdaa
open Go Go.RowKit Go.H Go.D57 Go.D58

theorem hinf30 : ∃ i, Try.prog.info? 30 = some i ∧ i.zero = some (.agg #[.int .i64 0, .int .i64 0, .int .i64 0, .int .i64 0, .int .i64 0, .int .i64 0, .int .i64 0, .string ByteArray.empty]) ∧ i.size = 8 ∧ i.bytes = 72 := G.info_of (by kernel_rfl)
theorem hcallOk7 : G.callOk Try.prog 7 = true := by kernel_rfl
theorem hcallOk8 : G.callOk Try.prog 8 = true := by kernel_rfl
theorem hcallOk13 : G.callOk Try.prog 13 = true := by kernel_rfl
theorem hcallOk15 : G.callOk Try.prog 15 = true := by kernel_rfl

def fewL (l : List Sp) : Prop := (∀ j, j < l.length → l[j]!.lib.length ≤ 50) ∧ l.length ≤ 30
instance (l : List Sp) : Decidable (fewL l) := by unfold fewL; infer_instance

set_option maxRecDepth 8000 in
theorem fewSteps_h {l : List Sp} :
    Con Try.prog 8 [vL 8 (l.map eSp)] [] (vB (decide (fewL l))) [] := by
 obtain ⟨i30, hi30, hz30, hs30, hb30⟩ := hinf30
 refine Con.enterL (n := 19) Try.func8 rfl rfl rfl (fun τ w ok vs hin => ?_)
 have hl0 := hin.len (i := 0) rfl
 try rw [List.length_map] at hl0
 clear hin
 refine W.rg (SL.an rfl rfl (E.fo (W.seq (W.rg (SL.mv rfl rfl ?_)))))
 refine SL.val (O.lenE (SlOf.fz rfl (by decide)) (by first | exact List.length_map _ | rfl) Try.underlying22 rfl Taken.no) ?_
 refine SL.mv rfl rfl (E.fo (W.block ?_))
 refine W.loopx1 (fun (k : Nat) => [(7, vI (k : Int))]) (fun (k : Nat) => []) (fun (k : Nat) => k ≤ l.length ∧ ∀ j, j < k → l[j]!.lib.length ≤ 50) (fun (k : Nat) => l.length - k) (0) (rn []) (.cons (t := 0) rfl (.cons (t := 5) rfl (.cons (t := 6) rfl .nil))) .nil rfl ?_ ?_ rfl rfl ?_ ?_
 · exact (SubF.cons rfl SubF.nil)
 · exact SubS.nil
 ·skip
  exact ⟨by omega, fun j h => by omega⟩
 intro k hinv
 obtain ⟨hk, hp⟩ := hinv
 refine W.rg ?_
 refine SL.val (O.det (fun _ => G.R.lss rfl rfl) rfl Taken.no) ?_
 refine E.fo (W.seq ?_)
 first | refine W.cond_d rfl (fun hc1 => ?_) (fun hc1 => ?_) | refine W.cond_nd rfl (fun hc1 => ?_) (fun hc1 => ?_) | refine W.cond rfl (fun hc1 => ?_) (fun hc1 => ?_)
 ·skip
  refine W.skip (E.to (W.seq (W.block (W.rg ?_))))
  refine SL.val (O.idx_fz rfl rfl (rfl) (row_get (by omega)) Try.underlying22 hi30 hs30 rfl Taken.no) ?_
  refine SL.val (O.ldU (m := 8) (PtU.fz rfl) rfl Try.underlying30 rfl (by kernel_rfl) rfl Taken.no) ?_
  refine SL.memS (O.alloc (z := .agg #[.int .i64 0, .int .i64 0, .int .i64 0, .int .i64 0, .int .i64 0, .int .i64 0, .int .i64 0, .string ByteArray.empty]) (is := [.u (.sc (.int .i64 0)), .u (.sc (.int .i64 0)), .u (.sc (.int .i64 0)), .u (.sc (.int .i64 0)), .u (.sc (.int .i64 0)), .u (.sc (.int .i64 0)), .u (.sc (.int .i64 0)), .u (.sc (.string ByteArray.empty))]) 101 (by kernel_rfl) rfl rfl rfl Taken.no) rfl rfl (S' := (101, _) :: _) rfl ?_
  refine SL.effS (O.st_ref (m := 8) rfl rfl rfl (js := [_, _, _, _, _, _, _, _]) rfl rfl (by kernel_rfl) (by simp) (Nat.le_of_ble_eq_true rfl) rfl (is' := [_, _, _, _, _, _, _, _]) rfl Taken.no) (S' := (101, _) :: _) rfl ?_
  refine E.fo (W.rg ?_)
  refine SL.val (O.fld_ref (o' := 7) rfl Try.underlying30 rfl (m := 0) (by kernel_rfl) rfl rfl Taken.no) ?_
  refine SL.val (O.ld1 (PtI.ref rfl rfl) rfl Try.underlying9 rfl rfl Taken.no) ?_
  refine SL.val (O.det (fun _ => G.R.lenL rfl Try.underlying9) rfl Taken.no) ?_
  refine SL.val (O.det (fun _ => G.R.gtr rfl rfl) rfl Taken.no) ?_
  refine E.fo ?_
  first | refine W.cond_d rfl (fun hc2 => ?_) (fun hc2 => ?_) | refine W.cond_nd rfl (fun hc2 => ?_) (fun hc2 => ?_) | refine W.cond rfl (fun hc2 => ?_) (fun hc2 => ?_)
  ·skip
   refine W.rg (SL.an rfl rfl (E.fo (W.ret ?_)))
   refine E.inr ?_
   refine E.thr (E.thr ?_)
   refine E.inr ?_
   refine E.thr ?_
   refine E.fin (rs := [_]) (rn []) (.inl rfl) rfl (.cons (ResOne.tmp rfl) .nil) ?_ ?_ rfl (fixL_spec rfl)
   ·skip
    exact iv_bool (dec_f fun z => by have := z.1 k (by omega); omega)
   · exact SubS.nil
  refine W.skip (E.inn (E.to (W.region ?_)))
  refine SL.val (O.det (fun _ => by first | exact G.R.add64 rfl rfl (by omega) | exact G.R.add rfl rfl) rfl Taken.no) ?_
  refine SL.mv rfl rfl (SL.nil ?_)
  refine E.again ((k + 1)) (rn []) ?_ ?_ rfl (fixL_spec rfl) ?_ ?_
  · exact (SubF.cons rfl (SubF.cons rfl (SubF.cons rfl (SubF.cons rfl SubF.nil))))
  · exact SubS.nil
  ·try dsimp only
   exact ⟨by omega, upto_s hp (by omega)⟩
  · (try dsimp only); omega
 refine W.exit (E.th (E.th (E.hit (E.to (W.rg (SL.mv rfl rfl ?_))))))
 refine SL.val (O.lenE (SlOf.fz rfl (by decide)) (by first | exact List.length_map _ | rfl) Try.underlying22 rfl Taken.no) ?_
 refine SL.val (O.det (fun _ => G.R.leq rfl rfl) rfl Taken.no) ?_
 refine SL.an rfl rfl (E.fo (W.ret ?_))
 refine E.fin (rs := [_]) (rn []) (.inl rfl) rfl (.cons (ResOne.tmp rfl) .nil) ?_ ?_ rfl (fixL_spec rfl)
 ·skip
  exact iv_bool (dec_iff ⟨fun z => by have := z.2; omega, fun z => ⟨fun j hj => hp j (by omega), by omega⟩⟩)
 · exact SubS.nil

set_option maxRecDepth 8000 in
theorem awake_h  :
    Con Try.prog 7 [] [] (vB true) [] := by
 obtain ⟨i34, hi34, hz34, hs34, hb34⟩ := hinf34
 refine Con.enterL (n := 90) Try.func7 rfl rfl rfl (fun τ w ok vs hin => ?_)
 clear hin
 refine W.rg (SL.an rfl rfl (E.fo (W.rg ?_)))
 refine SL.val (O.build (res := [_, _, _, _, _, _, _, _]) (z := .agg #[.int .i64 0, .int .i64 0, .int .i64 0, .int .i64 0, .int .i64 0, .int .i64 0, .int .i64 0, .string ByteArray.empty]) (places := [(0, 1), (1, 1), (2, 1), (3, 1), (4, 1), (5, 1), (6, 1), (7, 1)]) rfl rfl Try.underlying34 (by kernel_rfl) (fun _ => by kernel_rfl) rfl rfl Taken.no) ?_
 refine SL.val (O.build (res := [_, _, _, _, _, _, _, _]) (z := .agg #[.int .i64 0, .int .i64 0, .int .i64 0, .int .i64 0, .int .i64 0, .int .i64 0, .int .i64 0, .string ByteArray.empty]) (places := [(0, 1), (1, 1), (2, 1), (3, 1), (4, 1), (5, 1), (6, 1), (7, 1)]) rfl rfl Try.underlying34 (by kernel_rfl) (fun _ => by kernel_rfl) rfl rfl Taken.no) ?_
 refine SL.val (O.build (res := [_, _, _, _, _, _, _, _]) (z := .agg #[.int .i64 0, .int .i64 0, .int .i64 0, .int .i64 0, .int .i64 0, .int .i64 0, .int .i64 0, .string ByteArray.empty]) (places := [(0, 1), (1, 1), (2, 1), (3, 1), (4, 1), (5, 1), (6, 1), (7, 1)]) rfl rfl Try.underlying34 (by kernel_rfl) (fun _ => by kernel_rfl) rfl rfl Taken.no) ?_
 refine SL.val (O.build (res := [_, _, _, _, _, _, _, _]) (z := .agg #[.int .i64 0, .int .i64 0, .int .i64 0, .int .i64 0, .int .i64 0, .int .i64 0, .int .i64 0, .string ByteArray.empty]) (places := [(0, 1), (1, 1), (2, 1), (3, 1), (4, 1), (5, 1), (6, 1), (7, 1)]) rfl rfl Try.underlying34 (by kernel_rfl) (fun _ => by kernel_rfl) rfl rfl Taken.no) ?_
 refine SL.memS (O.buildSlice 101 (rows := exL.map eSp) rfl rfl Try.underlying52 hi34 hz34 hs34 (by decide) rfl (by decide) rfl rfl rfl Taken.no) rfl rfl (S' := (101, .data 34 8 (exL.map eSp)) :: _) rfl ?_
 refine SL.an rfl rfl (E.fo (W.rg ?_))
 refine SL.val (O.build (res := [_, _, _]) (z := .agg #[.int .i64 0, .slice none 0 0, .slice none 0 0]) (places := [(0, 1), (1, 1), (2, 1)]) rfl rfl Try.underlying28 (by kernel_rfl) (fun _ => by kernel_rfl) rfl rfl Taken.no) ?_
 refine SL.mv rfl rfl ?_
 refine SL.freeze 101 rfl (F' := [(17, _), (1, _), (20, _)]) (⟨⟨_, rfl, rfl⟩, ⟨_, rfl, rfl⟩, ⟨_, rfl, rfl⟩, trivial⟩) ?_
 refine SL.memS (O.call (rn []) [] rfl rfl rfl (run_h (s := zeroS) (l := exL)) (.cons (ArgOk.aggU (.cons (ArgOk.same rfl) (.cons ArgOk.nil (.cons ArgOk.nil .nil)))) (.cons (ArgOk.same rfl) .nil)) SubS.nil rfl rfl rfl rfl rfl (.inl rfl) hcallOk15 (r' := .tup [.agg [.u _, .u _, .u _], .u _, .u _]) rfl rfl Taken.no) rfl rfl (S' := _) rfl ?_
 refine SL.as (i' := .tup [.agg [vI (exS).now, vL 8 ((exS).cps.map eCp), vL 2 ((exS).lns.map eLn)], vI 4, vI 0]) 21 rfl (by rw [ex_run]; rfl) ?_
 refine SL.mv rfl rfl ?_
 refine SL.val (O.extract rfl rfl rfl Taken.no) ?_
 refine SL.val (O.extract rfl rfl rfl Taken.no) ?_
 refine SL.val (O.extract rfl rfl rfl Taken.no) ?_
 refine SL.memS (O.alloc (z := .agg #[.int .i64 0, .slice none 0 0, .slice none 0 0]) (is := [.u (.sc (.int .i64 0)), .u (.sc (.slice none 0 0)), .u (.sc (.slice none 0 0))]) 102 (by kernel_rfl) rfl rfl rfl Taken.no) rfl rfl (S' := (102, _) :: _) rfl ?_
 refine SL.effS (O.st_ref (m := 3) rfl rfl rfl (js := [_, _, _]) rfl rfl (by kernel_rfl) (by simp) (Nat.le_of_ble_eq_true rfl) rfl (is' := [_, _, _]) rfl Taken.no) (S' := (102, _) :: _) rfl ?_
 refine SL.an rfl rfl (SL.an rfl rfl (E.fo (W.rg ?_)))
 refine SL.val (O.ldN (m := 3) (PtI.ref rfl rfl) (js := [_, _, _]) rfl (Nat.le_of_ble_eq_true rfl) Try.underlying28 rfl (by kernel_rfl) rfl Taken.no) ?_
 refine SL.memS (O.call (rn []) [] rfl rfl rfl (find_h (s := exS) (i := 1)) (.cons (ArgOk.aggU (.cons (ArgOk.same rfl) (.cons (ArgOk.same rfl) (.cons (ArgOk.same rfl) .nil)))) (.cons (ArgOk.same rfl) .nil)) SubS.nil rfl rfl rfl rfl rfl (.inl rfl) hcallOk13 (r' := .tup [.agg [.u _, .u _, .u _, .u _, .u _, .u _, .u _, .u _], .u _]) rfl rfl Taken.no) rfl rfl (S' := _) rfl ?_
 refine SL.as (i' := .tup [.agg [vI 1, vI 9, vT jena, vI 2, vI 5, vI 17, vI 0, vB true], vB true]) 27 rfl (by rfl) ?_
 refine SL.mv rfl rfl ?_
 refine SL.val (O.extract rfl rfl rfl Taken.no) ?_
 refine SL.val (O.extract rfl rfl rfl Taken.no) ?_
 refine SL.memS (O.alloc (z := .agg #[.int .i64 0, .int .i64 0, .string ByteArray.empty, .int .i64 0, .int .i64 0, .int .i64 0, .int .i64 0, .bool false]) (is := [.u (.sc (.int .i64 0)), .u (.sc (.int .i64 0)), .u (.sc (.string ByteArray.empty)), .u (.sc (.int .i64 0)), .u (.sc (.int .i64 0)), .u (.sc (.int .i64 0)), .u (.sc (.int .i64 0)), .u (.sc (.bool false))]) 103 (by kernel_rfl) rfl rfl rfl Taken.no) rfl rfl (S' := (103, _) :: _) rfl ?_
 refine SL.effS (O.st_ref (m := 8) rfl rfl rfl (js := [_, _, _, _, _, _, _, _]) rfl rfl (by kernel_rfl) (by simp) (Nat.le_of_ble_eq_true rfl) rfl (is' := [_, _, _, _, _, _, _, _]) rfl Taken.no) (S' := (103, _) :: _) rfl ?_
 refine SL.an rfl rfl (E.fo ?_)
 refine W.pick (K:=[(0,_),(2,_),(3,_),(4,_),(5,_),(6,_)]) (Z:=[(102,_),(103,_)]) ⟨rfl,rfl,rfl,rfl,rfl,rfl,trivial⟩ ⟨rfl,rfl,trivial⟩ ?_
 refine W.rg ?_
 refine SL.val (O.ldN (m := 3) (PtI.ref rfl rfl) (js := [_, _, _]) rfl (Nat.le_of_ble_eq_true rfl) Try.underlying28 rfl (by kernel_rfl) rfl Taken.no) ?_
 refine SL.val (O.build (res := [_, _, _, _, _, _, _, _]) (z := .agg #[.int .i64 0, .int .i64 0, .int .i64 0, .int .i64 0, .int .i64 0, .int .i64 0, .int .i64 0, .string ByteArray.empty]) (places := [(0, 1), (1, 1), (2, 1), (3, 1), (4, 1), (5, 1), (6, 1), (7, 1)]) rfl rfl Try.underlying34 (by kernel_rfl) (fun _ => by kernel_rfl) rfl rfl Taken.no) ?_
 refine SL.memS (O.call (rn []) [] rfl rfl rfl (do_h (s := exS) (x := ⟨8, 0, 0, 0, 0, 0, 2, []⟩)) (.cons (ArgOk.aggU (.cons (ArgOk.same rfl) (.cons (ArgOk.same rfl) (.cons (ArgOk.same rfl) .nil)))) (.cons (ArgOk.aggU (.cons (ArgOk.same rfl) (.cons (ArgOk.same rfl) (.cons (ArgOk.same rfl) (.cons (ArgOk.same rfl) (.cons (ArgOk.same rfl) (.cons (ArgOk.same rfl) (.cons (ArgOk.same rfl) (.cons (ArgOk.same rfl) .nil))))))))) .nil)) SubS.nil rfl rfl rfl rfl rfl (.inl rfl) hcallOk9 (r' := .tup [.agg [.u _, .u _, .u _], .u _]) rfl rfl Taken.no) rfl rfl (S' := _) rfl ?_
 refine SL.as (i' := .tup [.agg [vI (exT).now, vL 8 ((exT).cps.map eCp), vL 2 ((exT).lns.map eLn)], vI 0]) 33 rfl (by rw [ex_t.1, ex_t.2]) ?_
 refine SL.mv rfl rfl ?_
 refine SL.val (O.extract rfl rfl rfl Taken.no) ?_
 refine SL.val (O.extract rfl rfl rfl Taken.no) ?_
 refine SL.memS (O.alloc (z := .agg #[.int .i64 0, .slice none 0 0, .slice none 0 0]) (is := [.u (.sc (.int .i64 0)), .u (.sc (.slice none 0 0)), .u (.sc (.slice none 0 0))]) 104 (by kernel_rfl) rfl rfl rfl Taken.no) rfl rfl (S' := (104, _) :: _) rfl ?_
 refine SL.effS (O.st_ref (m := 3) rfl rfl rfl (js := [_, _, _]) rfl rfl (by kernel_rfl) (by simp) (Nat.le_of_ble_eq_true rfl) rfl (is' := [_, _, _]) rfl Taken.no) (S' := (104, _) :: _) rfl ?_
 refine SL.an rfl rfl (E.fo (W.rg ?_))
 refine SL.val (O.ldN (m := 3) (PtI.ref rfl rfl) (js := [_, _, _]) rfl (Nat.le_of_ble_eq_true rfl) Try.underlying28 rfl (by kernel_rfl) rfl Taken.no) ?_
 refine SL.val (O.build (res := [_, _, _, _, _, _, _, _]) (z := .agg #[.int .i64 0, .int .i64 0, .int .i64 0, .int .i64 0, .int .i64 0, .int .i64 0, .int .i64 0, .string ByteArray.empty]) (places := [(0, 1), (1, 1), (2, 1), (3, 1), (4, 1), (5, 1), (6, 1), (7, 1)]) rfl rfl Try.underlying34 (by kernel_rfl) (fun _ => by kernel_rfl) rfl rfl Taken.no) ?_
 refine SL.memS (O.call (rn []) [] rfl rfl rfl (do_h (s := exT) (x := ⟨4, 1, 0, 0, 0, 0, 0, []⟩)) (.cons (ArgOk.aggU (.cons (ArgOk.same rfl) (.cons (ArgOk.same rfl) (.cons (ArgOk.same rfl) .nil)))) (.cons (ArgOk.aggU (.cons (ArgOk.same rfl) (.cons (ArgOk.same rfl) (.cons (ArgOk.same rfl) (.cons (ArgOk.same rfl) (.cons (ArgOk.same rfl) (.cons (ArgOk.same rfl) (.cons (ArgOk.same rfl) (.cons (ArgOk.same rfl) .nil))))))))) .nil)) SubS.nil rfl rfl rfl rfl rfl (.inl rfl) hcallOk9 (r' := .tup [.agg [.u _, .u _, .u _], .u _]) rfl rfl Taken.no) rfl rfl (S' := _) rfl ?_
 refine SL.as (i' := .tup [.agg [vI (exU).now, vL 8 ((exU).cps.map eCp), vL 2 ((exU).lns.map eLn)], vI 0]) 39 rfl (by rw [ex_u.1, ex_u.2]) ?_
 refine SL.mv rfl rfl ?_
 refine SL.val (O.extract rfl rfl rfl Taken.no) ?_
 refine SL.val (O.extract rfl rfl rfl Taken.no) ?_
 refine SL.memS (O.alloc (z := .agg #[.int .i64 0, .slice none 0 0, .slice none 0 0]) (is := [.u (.sc (.int .i64 0)), .u (.sc (.slice none 0 0)), .u (.sc (.slice none 0 0))]) 105 (by kernel_rfl) rfl rfl rfl Taken.no) rfl rfl (S' := (105, _) :: _) rfl ?_
 refine SL.effS (O.st_ref (m := 3) rfl rfl rfl (js := [_, _, _]) rfl rfl (by kernel_rfl) (by simp) (Nat.le_of_ble_eq_true rfl) rfl (is' := [_, _, _]) rfl Taken.no) (S' := (105, _) :: _) rfl ?_
 refine SL.an rfl rfl (E.fo (W.rg ?_))
 refine SL.val (O.ldN (m := 3) (PtI.ref rfl rfl) (js := [_, _, _]) rfl (Nat.le_of_ble_eq_true rfl) Try.underlying28 rfl (by kernel_rfl) rfl Taken.no) ?_
 refine SL.memS (O.call (rn []) [] rfl rfl rfl (find_h (s := exU) (i := 1)) (.cons (ArgOk.aggU (.cons (ArgOk.same rfl) (.cons (ArgOk.same rfl) (.cons (ArgOk.same rfl) .nil)))) (.cons (ArgOk.same rfl) .nil)) SubS.nil rfl rfl rfl rfl rfl (.inl rfl) hcallOk13 (r' := .tup [.agg [.u _, .u _, .u _, .u _, .u _, .u _, .u _, .u _], .u _]) rfl rfl Taken.no) rfl rfl (S' := _) rfl ?_
 refine SL.as (i' := .tup [.agg [vI 1, vI 9, vT jena, vI 3, vI 6, vI 19, vI 3, vB false], vB true]) 44 rfl (by rfl) ?_
 refine SL.mv rfl rfl ?_
 refine SL.val (O.extract rfl rfl rfl Taken.no) ?_
 refine SL.val (O.extract rfl rfl rfl Taken.no) ?_
 refine SL.memS (O.alloc (z := .agg #[.int .i64 0, .int .i64 0, .string ByteArray.empty, .int .i64 0, .int .i64 0, .int .i64 0, .int .i64 0, .bool false]) (is := [.u (.sc (.int .i64 0)), .u (.sc (.int .i64 0)), .u (.sc (.string ByteArray.empty)), .u (.sc (.int .i64 0)), .u (.sc (.int .i64 0)), .u (.sc (.int .i64 0)), .u (.sc (.int .i64 0)), .u (.sc (.bool false))]) 106 (by kernel_rfl) rfl rfl rfl Taken.no) rfl rfl (S' := (106, _) :: _) rfl ?_
 refine SL.effS (O.st_ref (m := 8) rfl rfl rfl (js := [_, _, _, _, _, _, _, _]) rfl rfl (by kernel_rfl) (by simp) (Nat.le_of_ble_eq_true rfl) rfl (is' := [_, _, _, _, _, _, _, _]) rfl Taken.no) (S' := (106, _) :: _) rfl ?_
 refine SL.an rfl rfl (E.fo ?_)
 refine W.pick (K:=[(0,_),(3,_),(4,_),(5,_),(6,_),(8,_),(9,_),(10,_),(11,_),(12,_)]) (Z:=[(102,_),(103,_),(104,_),(105,_),(106,_)]) ⟨rfl,rfl,rfl,rfl,rfl,rfl,rfl,rfl,rfl,rfl,trivial⟩ ⟨rfl,rfl,rfl,rfl,rfl,trivial⟩ ?_
 refine W.rg (SL.mv rfl rfl ?_)
 refine SL.val (O.det (fun _ => G.R.mv (G.R.eql rfl rfl) (congrArg Value.bool (decide_eq_true (by rfl)))) rfl Taken.no) ?_
 refine SL.mv rfl rfl ?_
 have hg1 : true = true := by decide
 refine SL.val (O.move rfl rfl (Taken.yes rfl rfl hg1)) ?_
 refine SL.val (O.det (fun _ => G.R.mv (G.R.eql rfl rfl) (congrArg Value.bool (decide_eq_true (by rfl)))) rfl (Taken.yes rfl rfl hg1)) ?_
 refine SL.val (O.pick_t rfl rfl rfl rfl Taken.no) ?_
 refine SL.mv rfl rfl ?_
 have hg2 : true = true := by decide
 refine SL.val (O.move rfl rfl (Taken.yes rfl rfl hg2)) ?_
 refine SL.val (O.det (fun _ => G.R.mv (G.R.eql rfl rfl) (congrArg Value.bool (decide_eq_true (by rfl)))) rfl (Taken.yes rfl rfl hg2)) ?_
 refine SL.val (O.pick_t rfl rfl rfl rfl Taken.no) ?_
 refine SL.mv rfl rfl ?_
 have hg3 : true = true := by decide
 refine SL.val (O.move rfl rfl (Taken.yes rfl rfl hg3)) ?_
 refine SL.val (O.det (fun _ => G.R.mv (G.R.eql rfl rfl) (congrArg Value.bool (decide_eq_true (by rfl)))) rfl (Taken.yes rfl rfl hg3)) ?_
 refine SL.val (O.pick_t rfl rfl rfl rfl Taken.no) ?_
 refine SL.mv rfl rfl ?_
 have hg4 : true = true := by decide
 refine SL.val (O.move rfl rfl (Taken.yes rfl rfl hg4)) ?_
 refine SL.val (O.pick_t rfl rfl rfl rfl Taken.no) ?_
 refine SL.mv rfl rfl ?_
 have hg5 : true = true := by decide
 refine SL.val (O.move rfl rfl (Taken.yes rfl rfl hg5)) ?_
 refine SL.val (O.pick_t rfl rfl rfl rfl Taken.no) ?_
 refine SL.mv rfl rfl ?_
 have hg6 : true = true := by decide
 refine SL.val (O.fld_ref (o' := 5) rfl Try.underlying43 rfl (m := 0) (by kernel_rfl) rfl rfl (Taken.yes rfl rfl hg6)) ?_
 refine SL.val (O.ld1 (PtI.ref rfl rfl) rfl Try.underlying3 rfl rfl (Taken.yes rfl rfl hg6)) ?_
 refine SL.val (O.det (fun _ => G.R.mv (G.R.eql rfl rfl) (congrArg Value.bool (decide_eq_true (by rfl)))) rfl (Taken.yes rfl rfl hg6)) ?_
 refine SL.val (O.pick_t rfl rfl rfl rfl Taken.no) ?_
 refine SL.mv rfl rfl ?_
 have hg7 : true = true := by decide
 refine SL.val (O.fld_ref (o' := 7) rfl Try.underlying43 rfl (m := 0) (by kernel_rfl) rfl rfl (Taken.yes rfl rfl hg7)) ?_
 refine SL.val (O.ld1 (PtI.ref rfl rfl) rfl Try.underlying4 rfl rfl (Taken.yes rfl rfl hg7)) ?_
 refine SL.val (O.pick_t rfl rfl rfl rfl Taken.no) ?_
 refine SL.mv rfl rfl ?_
 have hg8 : true = true := by decide
 refine SL.val (O.fld_ref (o' := 3) rfl Try.underlying43 rfl (m := 0) (by kernel_rfl) rfl rfl (Taken.yes rfl rfl hg8)) ?_
 refine SL.val (O.ld1 (PtI.ref rfl rfl) rfl Try.underlying3 rfl rfl (Taken.yes rfl rfl hg8)) ?_
 refine SL.val (O.det (fun _ => G.R.mv (G.R.eql rfl rfl) (congrArg Value.bool (decide_eq_true (by rfl)))) rfl (Taken.yes rfl rfl hg8)) ?_
 refine SL.val (O.pick_t rfl rfl rfl rfl Taken.no) ?_
 refine SL.mv rfl rfl ?_
 have hg9 : true = true := by decide
 refine SL.val (O.fld_ref (o' := 5) rfl Try.underlying43 rfl (m := 0) (by kernel_rfl) rfl rfl (Taken.yes rfl rfl hg9)) ?_
 refine SL.val (O.ld1 (PtI.ref rfl rfl) rfl Try.underlying3 rfl rfl (Taken.yes rfl rfl hg9)) ?_
 refine SL.val (O.det (fun _ => G.R.mv (G.R.eql rfl rfl) (congrArg Value.bool (decide_eq_true (by rfl)))) rfl (Taken.yes rfl rfl hg9)) ?_
 refine SL.val (O.pick_t rfl rfl rfl rfl Taken.no) ?_
 refine SL.mv rfl rfl ?_
 have hg10 : true = true := by decide
 refine SL.val (O.ldN (m := 3) (PtI.ref rfl rfl) (js := [_, _, _]) rfl (Nat.le_of_ble_eq_true rfl) Try.underlying28 rfl (by kernel_rfl) rfl (Taken.yes rfl rfl hg10)) ?_
 refine SL.val (O.callp rfl rfl rfl (stvalid_h (s := exU)) (.cons (ArgOk.aggU (.cons (ArgOk.same rfl) (.cons (ArgOk.same rfl) (.cons (ArgOk.same rfl) .nil)))) .nil) hcallOk16 rfl (Taken.yes rfl rfl hg10)) ?_
 refine SL.as (i' := vB true) 88 rfl (by exact iv_bool (ex_valid)) ?_
 refine SL.val (O.pick_t rfl rfl rfl rfl Taken.no) ?_
 refine SL.an rfl rfl (E.fo ?_)
 refine W.pick (K:=[(0,_)]) (Z:=[(102,_),(103,_),(104,_),(105,_),(106,_)]) ⟨rfl,trivial⟩ ⟨rfl,rfl,rfl,rfl,rfl,trivial⟩ ?_
 refine W.ret ?_
 refine E.fin (rs := [_]) (rn []) (.inl rfl) rfl (.cons (ResOne.tmp rfl) .nil) ?_ ?_ rfl (fixL_spec rfl)
 ·skip
  rfl
 · exact SubS.nil


end Go.Proofs.Ytmekkjehkcjpdaa
end
section
namespace Go.G
open Go Go.RowKit
section
variable {n : Nat} {P : Program} {F : Frm} {w : World} {ty : TypeId}
theorem R.idxval {x y : Operand} {t e : TypeId} {len i : Nat} {k : IntKind} {cs : List Value} {u : Value} {dd : TypeDesc} (hx : ev F x = some (.agg cs.toArray)) (hy : ev F y = some (.int k (i : Int))) (hi : i < len) (ht : P.underlying t = some (.array len e))
    (he : (P.info? e).map (·.size) = some 1) (ho : cs[i]? = some u) (hd : P.underlying e = some dd) (ha : aggD dd = false) : Runs P w F (.index t x y) ty u := fun op ρ ho' _ hρ => by
  obtain ⟨inf, hinf, hs⟩ := Option.map_eq_some_iff.1 he
  simp only [execOp, ho', hρ x (by simp [Op.operands]) _ hx, hρ y (by simp [Op.operands]) _ hy]
  simp [Instr.index, asIntOf, run_underlying ht, hi, sizeOf, typeInfo, hinf, hs, part, run_isAgg' hd, ha, ho]
end
end Go.G
namespace Go.H
open Go Go.RowKit
section
variable {c : Ctx} {P : Program} {F : Frm} {S : Sto} {ops : Array Oper} {d : Nat} {ty : TypeId} {pos : String} {af : Array Edge} {gd : Option (Nat × Bool)}
theorem O.idxval {x y : Operand} {t e : TypeId} {k : IntKind} {ii : Int} {len i : Nat} {dd : TypeDesc} {i0 j : IV} (hx : ev F x = some i0) (hy : ev F y = some (.u (.sc (.int k ii)))) (hii : ii = (i : Int)) (hi : i < len) (hj : i0.fld i = some j)
    (ht : P.underlying t = some (.array len e)) (he : (P.info? e).map (·.size) = some 1) (hty : P.underlying e = some dd) (hag : G.aggD dd = false) (hd : Nat.blt d c.n = true) (hg : Taken ops F gd) : OpOk c P ops ⟨some d, .index t x y, ty, pos, af, gd⟩ F S [] [] (some j) [] :=
  OpOk.runs hd hg fun σ τ a w hA _ h => by
    subst hii
    obtain ⟨h1, h2⟩ := h.opd hA (by simp [Op.operands]) hx
    have hy2 := (h.sc hA (by simp [Op.operands]) hy).2
    obtain ⟨vs, u, e, q1, q2⟩ := h1.fld hj
    rw [e] at h2
    exact ⟨u, G.R.idxval h2 hy2 hi ht he q1 hty hag, q2⟩
end
end Go.H
end
section
namespace Go.Proofs.Ytmekkjehkcjpdaa
open Go Go.RowKit Go.H Go.D57 Go.D58

theorem hcallOk11 : G.callOk Try.prog 11 = true := by kernel_rfl



set_option maxRecDepth 8000 in
theorem recalled_h {s : St} {work : Int} :
    Con Try.prog 11 [vA [uI s.now, .sl 8 (s.cps.map eCp), .sl 2 (s.lns.map eLn)], vI work] [] (.tup [vI ((rcN s.cps work : Nat) : Int), vI ((cntP s.cps work 2 : Nat) : Int)]) [] := by
 obtain ⟨i43, hi43, hz43, hs43, hb43⟩ := hinf43
 refine Con.enterL (n := 35) Try.func11 rfl rfl rfl (fun τ w ok vs hin => ?_)
 have hl0_1 := hin.lenA (i := 0) (j := 1) rfl rfl
 try rw [List.length_map] at hl0_1
 have hl0_2 := hin.lenA (i := 0) (j := 2) rfl rfl
 try rw [List.length_map] at hl0_2
 clear hin
 refine W.rg ?_
 refine SL.memS (O.box (is := [_, _, _]) 101 rfl rfl (by simp) rfl rfl Taken.no) rfl rfl (S' := (101, _) :: _) rfl ?_
 refine SL.an rfl rfl (SL.an rfl rfl (E.fo (W.rg (SL.an rfl rfl (SL.an rfl rfl (E.fo (W.seq (W.rg ?_))))))))
 refine SL.val (O.fld_ref (o' := 1) rfl Try.underlying28 rfl (m := 0) (by kernel_rfl) rfl rfl Taken.no) ?_
 refine SL.val (O.ld1 (PtI.ref rfl rfl) rfl Try.underlying25 rfl rfl Taken.no) ?_
 refine SL.val (O.lenE (SlOf.fz rfl (by decide)) (by first | exact List.length_map _ | rfl) Try.underlying25 rfl Taken.no) ?_
 refine SL.mv rfl rfl (E.fo (W.block ?_))
 refine W.loopx1 (fun (k : Nat) => [(13, vI (k : Int)), (6, vI ((rcN (s.cps.take k) work : Nat) : Int)), (7, vI ((cntP (s.cps.take k) work 2 : Nat) : Int))]) (fun (k : Nat) => []) (fun (k : Nat) => k ≤ s.cps.length) (fun (k : Nat) => s.cps.length - k) (0) (rn []) (.cons (t := 1) rfl (.cons (t := 4) rfl (.cons (t := 5) rfl (.cons (t := 11) rfl (.cons (t := 12) rfl .nil))))) (.cons (t := 101) rfl .nil) rfl ?_ ?_ rfl rfl ?_ ?_
 · exact (SubF.cons rfl (SubF.cons rfl (SubF.cons rfl SubF.nil)))
 · exact SubS.nil
 ·skip
  omega
 intro k hinv
 have hk := hinv
 have hb1 := rcN_le s.cps work k
 have hb2 := cnt_le s.cps work 2 k
 refine W.rg ?_
 refine SL.val (O.det (fun _ => G.R.lss rfl rfl) rfl Taken.no) ?_
 refine E.fo (W.seq ?_)
 first | refine W.cond_d rfl (fun hc1 => ?_) (fun hc1 => ?_) | refine W.cond_nd rfl (fun hc1 => ?_) (fun hc1 => ?_) | refine W.cond rfl (fun hc1 => ?_) (fun hc1 => ?_)
 ·skip
  refine W.skip (E.to (W.seq (W.block (W.rg ?_))))
  refine SL.val (O.idx_fz rfl rfl (rfl) (row_get (by omega)) Try.underlying25 hi43 hs43 rfl Taken.no) ?_
  refine SL.val (O.ldU (m := 8) (PtU.fz rfl) rfl Try.underlying43 rfl (by kernel_rfl) rfl Taken.no) ?_
  refine SL.memS (O.alloc (z := .agg #[.int .i64 0, .int .i64 0, .string ByteArray.empty, .int .i64 0, .int .i64 0, .int .i64 0, .int .i64 0, .bool false]) (is := [.u (.sc (.int .i64 0)), .u (.sc (.int .i64 0)), .u (.sc (.string ByteArray.empty)), .u (.sc (.int .i64 0)), .u (.sc (.int .i64 0)), .u (.sc (.int .i64 0)), .u (.sc (.int .i64 0)), .u (.sc (.bool false))]) 102 (by kernel_rfl) rfl rfl rfl Taken.no) rfl rfl (S' := (102, _) :: _) rfl ?_
  refine SL.effS (O.st_ref (m := 8) rfl rfl rfl (js := [_, _, _, _, _, _, _, _]) rfl rfl (by kernel_rfl) (by simp) (Nat.le_of_ble_eq_true rfl) rfl (is' := [_, _, _, _, _, _, _, _]) rfl Taken.no) (S' := (102, _) :: _) rfl ?_
  refine E.fo (W.rg ?_)
  refine SL.val (O.fld_ref (o' := 1) rfl Try.underlying43 rfl (m := 0) (by kernel_rfl) rfl rfl Taken.no) ?_
  refine SL.val (O.ld1 (PtI.ref rfl rfl) rfl Try.underlying3 rfl rfl Taken.no) ?_
  refine SL.mv rfl rfl ?_
  refine SL.val (O.det (fun _ => G.R.eql rfl rfl) rfl Taken.no) ?_
  refine SL.mv rfl rfl ?_
  refine SL.case (j := 4) (g := 21) (want := true) rfl rfl (fun hg2 => ?_) (fun hg2 => ?_)
  ·skip
   first | have hg2p := G.gA1 hg2 | have hg2p := G.gA2 hg2 | have hg2p := hg2
   refine SL.val (O.fld_ref (o' := 3) rfl Try.underlying43 rfl (m := 0) (by kernel_rfl) rfl rfl (Taken.yes rfl rfl hg2)) ?_
   refine SL.val (O.ld1 (PtI.ref rfl rfl) rfl Try.underlying3 rfl rfl (Taken.yes rfl rfl hg2)) ?_
   refine SL.val (O.det (fun _ => G.R.eql rfl rfl) rfl (Taken.yes rfl rfl hg2)) ?_
   refine SL.val (O.pick_t rfl hg2 rfl rfl Taken.no) ?_
   refine E.fo ?_
   first | refine W.cond_d rfl (fun hc3 => ?_) (fun hc3 => ?_) | refine W.cond_nd rfl (fun hc3 => ?_) (fun hc3 => ?_) | refine W.cond rfl (fun hc3 => ?_) (fun hc3 => ?_)
   ·skip
    have hw1 : s.cps[k]!.work = work ∧ s.cps[k]!.place = 2 := ⟨by omega, by omega⟩
    refine W.rg (SL.mv rfl rfl ?_)
    refine SL.val (O.det (fun _ => by first | exact G.R.add64 rfl rfl (by omega) | exact G.R.add rfl rfl) rfl Taken.no) ?_
    refine SL.an rfl rfl (E.fo (W.rg ?_))
    refine SL.val (O.fld_ref (o' := 7) rfl Try.underlying43 rfl (m := 0) (by kernel_rfl) rfl rfl Taken.no) ?_
    refine SL.val (O.ld1 (PtI.ref rfl rfl) rfl Try.underlying4 rfl rfl Taken.no) ?_
    refine E.fo ?_
    refine W.pick (K:=[(1,_),(4,_),(5,_),(6,_),(7,_),(11,_),(12,_),(13,_),(29,_)]) (Z:=[(101,_),(102,_)]) ⟨rfl,rfl,rfl,rfl,rfl,rfl,rfl,rfl,rfl,trivial⟩ ⟨rfl,rfl,trivial⟩ ?_
    first | refine W.cond_d rfl (fun hc4 => ?_) (fun hc4 => ?_) | refine W.cond_nd rfl (fun hc4 => ?_) (fun hc4 => ?_) | refine W.cond rfl (fun hc4 => ?_) (fun hc4 => ?_)
    ·skip
     have hr1 : s.cps[k]!.work = work ∧ s.cps[k]!.place = 2 ∧ s.cps[k]!.rc = true := ⟨hw1.1, hw1.2, by first | assumption | simp_all⟩
     refine W.region (SL.mv rfl rfl ?_)
     refine SL.val (O.det (fun _ => by first | exact G.R.add64 rfl rfl (by omega) | exact G.R.add rfl rfl) rfl Taken.no) ?_
     refine SL.an rfl rfl (SL.nil (E.inn (E.to (W.region ?_))))
     refine SL.val (O.det (fun _ => by first | exact G.R.add64 rfl rfl (by omega) | exact G.R.add rfl rfl) rfl Taken.no) ?_
     refine SL.mv rfl rfl (SL.nil ?_)
     refine E.again ((k + 1)) (rn []) ?_ ?_ rfl (fixL_spec rfl) ?_ ?_
     · exact (SubF.cons rfl (SubF.val rfl (by (try dsimp only); first | exact iv_int (by rw [rcN_y (by omega) hr1]; omega) | exact iv_int (by rw [rcN_n (by omega) hr0])) (SubF.val rfl (by (try dsimp only); first | exact iv_int (by rw [cnt_y (by omega) hw1]; omega) | exact iv_int (by rw [cnt_n (by omega) hw0])) (SubF.cons rfl (SubF.cons rfl (SubF.cons rfl (SubF.cons rfl (SubF.cons rfl SubF.nil))))))))
     · exact (SubS.cons rfl SubS.nil)
     ·try dsimp only
      omega
     · (try dsimp only); omega
    have hr0 : ¬ (s.cps[k]!.work = work ∧ s.cps[k]!.place = 2 ∧ s.cps[k]!.rc = true) := fun z => by have := z.2.2; simp_all
    refine W.skip (E.inn (E.to (W.region ?_)))
    refine SL.val (O.det (fun _ => by first | exact G.R.add64 rfl rfl (by omega) | exact G.R.add rfl rfl) rfl Taken.no) ?_
    refine SL.mv rfl rfl (SL.nil ?_)
    refine E.again ((k + 1)) (rn []) ?_ ?_ rfl (fixL_spec rfl) ?_ ?_
    · exact (SubF.cons rfl (SubF.val rfl (by (try dsimp only); first | exact iv_int (by rw [rcN_y (by omega) hr1]; omega) | exact iv_int (by rw [rcN_n (by omega) hr0])) (SubF.val rfl (by (try dsimp only); first | exact iv_int (by rw [cnt_y (by omega) hw1]; omega) | exact iv_int (by rw [cnt_n (by omega) hw0])) (SubF.cons rfl (SubF.cons rfl (SubF.cons rfl (SubF.cons rfl (SubF.cons rfl SubF.nil))))))))
    · exact (SubS.cons rfl SubS.nil)
    ·try dsimp only
     omega
    · (try dsimp only); omega
   have hw0 : ¬ (s.cps[k]!.work = work ∧ s.cps[k]!.place = 2) := fun z => by omega
   have hr0 : ¬ (s.cps[k]!.work = work ∧ s.cps[k]!.place = 2 ∧ s.cps[k]!.rc = true) := fun z => by omega
   refine W.skip (E.inn (E.to (W.region ?_)))
   refine SL.val (O.det (fun _ => by first | exact G.R.add64 rfl rfl (by omega) | exact G.R.add rfl rfl) rfl Taken.no) ?_
   refine SL.mv rfl rfl (SL.nil ?_)
   refine E.again ((k + 1)) (rn []) ?_ ?_ rfl (fixL_spec rfl) ?_ ?_
   · exact (SubF.cons rfl (SubF.val rfl (by (try dsimp only); first | exact iv_int (by rw [rcN_y (by omega) hr1]; omega) | exact iv_int (by rw [rcN_n (by omega) hr0])) (SubF.val rfl (by (try dsimp only); first | exact iv_int (by rw [cnt_y (by omega) hw1]; omega) | exact iv_int (by rw [cnt_n (by omega) hw0])) (SubF.cons rfl (SubF.cons rfl (SubF.cons rfl (SubF.cons rfl (SubF.cons rfl SubF.nil))))))))
   · exact (SubS.cons rfl SubS.nil)
   ·try dsimp only
    omega
   · (try dsimp only); omega
  first | have hg2p := G.gA5 hg2 | have hg2p := G.gA6 hg2 | have hg2p := hg2
  have hw0 : ¬ (s.cps[k]!.work = work ∧ s.cps[k]!.place = 2) := fun z => by omega
  have hr0 : ¬ (s.cps[k]!.work = work ∧ s.cps[k]!.place = 2 ∧ s.cps[k]!.rc = true) := fun z => by omega
  refine SL.sk rfl rfl rfl hg2 (SL.sk rfl rfl rfl hg2 (SL.sk rfl rfl rfl hg2 ?_))
  refine SL.val (O.pick_f rfl (G.ne_t hg2) rfl rfl Taken.no) ?_
  refine E.fo ?_
  refine W.cond_f rfl ?_
  refine W.skip (E.inn (E.to (W.region ?_)))
  refine SL.val (O.det (fun _ => by first | exact G.R.add64 rfl rfl (by omega) | exact G.R.add rfl rfl) rfl Taken.no) ?_
  refine SL.mv rfl rfl (SL.nil ?_)
  refine E.again ((k + 1)) (rn []) ?_ ?_ rfl (fixL_spec rfl) ?_ ?_
  · exact (SubF.cons rfl (SubF.val rfl (by (try dsimp only); first | exact iv_int (by rw [rcN_y (by omega) hr1]; omega) | exact iv_int (by rw [rcN_n (by omega) hr0])) (SubF.val rfl (by (try dsimp only); first | exact iv_int (by rw [cnt_y (by omega) hw1]; omega) | exact iv_int (by rw [cnt_n (by omega) hw0])) (SubF.cons rfl (SubF.cons rfl (SubF.cons rfl (SubF.cons rfl (SubF.cons rfl SubF.nil))))))))
  · exact (SubS.cons rfl SubS.nil)
  ·try dsimp only
   omega
  · (try dsimp only); omega
 refine W.exit (E.th (E.th (E.hit (E.to (W.rg (SL.mv rfl rfl (SL.mv rfl rfl (SL.an rfl rfl (SL.an rfl rfl (E.fo (W.ret ?_)))))))))))
 refine E.fin (rs := [_, _]) (rn []) (.inl rfl) rfl (.cons (ResOne.tmp rfl) (.cons (ResOne.tmp rfl) .nil)) ?_ ?_ rfl (fixL_spec rfl)
 ·skip
  rw [show k = s.cps.length by omega, List.take_length]; rfl
 · exact SubS.nil

set_option maxRecDepth 8000 in
theorem recalls_h {l : List Sp} :
    Con Try.prog 3 [vL 8 (l.map eSp)] [] (vB true) [] := by
 obtain ⟨i30, hi30, hz30, hs30, hb30⟩ := hinf30
 obtain ⟨i43, hi43, hz43, hs43, hb43⟩ := hinf43
 refine Con.enterL (n := 115) Try.func3 rfl rfl rfl (fun τ w ok vs hin => ?_)
 have hl0 := hin.len (i := 0) rfl
 try rw [List.length_map] at hl0
 clear hin
 refine W.rg (SL.an rfl rfl (E.fo (W.seq (W.rg ?_))))
 refine SL.val (O.callp rfl rfl rfl (awake_h) .nil hcallOk7 rfl Taken.no) ?_
 refine SL.as (i' := vB true) 16 rfl (by exact iv_bool (rfl)) ?_
 refine SL.val (O.det (fun _ => G.R.mv (G.R.not rfl) rfl) rfl Taken.no) ?_
 refine SL.mv rfl rfl ?_
 have hg1 : false = false := by decide
 refine SL.val (O.move rfl rfl (Taken.yes rfl rfl hg1)) ?_
 refine SL.val (O.callp rfl rfl rfl (fewSteps_h (l := l)) (.cons (ArgOk.same rfl) .nil) hcallOk8 rfl (Taken.yes rfl rfl hg1)) ?_
 refine SL.val (O.det (fun _ => G.R.not rfl) rfl (Taken.yes rfl rfl hg1)) ?_
 refine SL.val (O.pick_f rfl rfl rfl rfl Taken.no) ?_
 refine E.fo ?_
 first | refine W.cond_d rfl (fun hc2 => ?_) (fun hc2 => ?_) | refine W.cond_nd rfl (fun hc2 => ?_) (fun hc2 => ?_) | refine W.cond rfl (fun hc2 => ?_) (fun hc2 => ?_)
 ·skip
  refine W.rg ?_
  refine SL.val (O.callp rfl rfl rfl (awake_h) .nil hcallOk7 rfl Taken.no) ?_
  refine SL.as (i' := vB true) 23 rfl (by exact iv_bool (rfl)) ?_
  refine SL.an rfl rfl (E.fo (W.ret (E.thr ?_)))
  refine E.fin (rs := [_]) (rn []) (.inl rfl) rfl (.cons (ResOne.tmp rfl) .nil) ?_ ?_ rfl (fixL_spec rfl)
  ·skip
   rfl
  · exact SubS.nil
 refine W.skip (E.to (W.rg ?_))
 refine SL.memS (O.alloc (z := .agg #[.int .i64 0, .slice none 0 0, .slice none 0 0]) (is := [.u (.sc (.int .i64 0)), .u (.sc (.slice none 0 0)), .u (.sc (.slice none 0 0))]) 101 (by kernel_rfl) rfl rfl rfl Taken.no) rfl rfl (S' := (101, _) :: _) rfl ?_
 refine E.fo (W.seq (W.rg (SL.mv rfl rfl ?_)))
 refine SL.val (O.lenE (SlOf.fz rfl (by decide)) (by first | exact List.length_map _ | rfl) Try.underlying22 rfl Taken.no) ?_
 refine SL.mv rfl rfl (E.fo (W.block ?_))
 refine W.nilslC 101 1 8 (is' := [_, _, _]) rfl rfl rfl ?_
 refine W.nilslC 101 2 2 (is' := [_, _, _]) rfl rfl rfl ?_
 refine W.loopx2 (fun (k : Nat) (s : St) => [(26, vI (k : Int))]) (fun (k : Nat) (s : St) => [(101, .cells 28 [vI s.now, vL 8 (s.cps.map eCp), vL 2 (s.lns.map eLn)])]) (fun (k : Nat) (s : St) => k ≤ l.length) (fun (k : Nat) (s : St) => l.length - k) (0) (zeroS) (rn []) (.cons (t := 3) rfl (.cons (t := 24) rfl (.cons (t := 25) rfl .nil))) .nil rfl ?_ ?_ rfl rfl ?_ ?_
 · exact (SubF.cons rfl SubF.nil)
 · exact (SubS.cons rfl SubS.nil)
 ·skip
  omega
 intro k s hinv
 have hk := hinv
 refine W.rg ?_
 refine SL.val (O.det (fun _ => G.R.lss rfl rfl) rfl Taken.no) ?_
 refine E.fo (W.seq ?_)
 first | refine W.cond_d rfl (fun hc3 => ?_) (fun hc3 => ?_) | refine W.cond_nd rfl (fun hc3 => ?_) (fun hc3 => ?_) | refine W.cond rfl (fun hc3 => ?_) (fun hc3 => ?_)
 ·skip
  refine W.skip (E.to (W.seq (W.block (W.rg ?_))))
  refine SL.val (O.idx_fz (i := k) rfl rfl (rfl) (row_get (by omega)) Try.underlying22 hi30 hs30 rfl Taken.no) ?_
  refine SL.val (O.ldU (m := 8) (PtU.fz rfl) rfl Try.underlying30 rfl (by kernel_rfl) rfl Taken.no) ?_
  refine SL.memS (O.alloc (z := .agg #[.int .i64 0, .int .i64 0, .int .i64 0, .int .i64 0, .int .i64 0, .int .i64 0, .int .i64 0, .string ByteArray.empty]) (is := [.u (.sc (.int .i64 0)), .u (.sc (.int .i64 0)), .u (.sc (.int .i64 0)), .u (.sc (.int .i64 0)), .u (.sc (.int .i64 0)), .u (.sc (.int .i64 0)), .u (.sc (.int .i64 0)), .u (.sc (.string ByteArray.empty))]) 102 (by kernel_rfl) rfl rfl rfl Taken.no) rfl rfl (S' := (102, _) :: _) rfl ?_
  refine SL.effS (O.st_ref (m := 8) rfl rfl rfl (js := [_, _, _, _, _, _, _, _]) rfl rfl (by kernel_rfl) (by simp) (Nat.le_of_ble_eq_true rfl) rfl (is' := [_, _, _, _, _, _, _, _]) rfl Taken.no) (S' := (102, _) :: _) rfl ?_
  refine E.fo (W.rg ?_)
  refine SL.val (O.ldN (m := 3) (PtI.ref rfl rfl) (js := [_, _, _]) rfl (Nat.le_of_ble_eq_true rfl) Try.underlying28 rfl (by kernel_rfl) rfl Taken.no) ?_
  refine SL.val (O.ldN (m := 8) (PtI.ref rfl rfl) (js := [_, _, _, _, _, _, _, _]) rfl (Nat.le_of_ble_eq_true rfl) Try.underlying30 rfl (by kernel_rfl) rfl Taken.no) ?_
  refine SL.memS (O.call (rn []) [] rfl rfl rfl (do_h (s := s) (x := l[k]!)) (.cons (ArgOk.aggU (.cons (ArgOk.same rfl) (.cons (ArgOk.same rfl) (.cons (ArgOk.same rfl) .nil)))) (.cons (ArgOk.aggU (.cons (ArgOk.same rfl) (.cons (ArgOk.same rfl) (.cons (ArgOk.same rfl) (.cons (ArgOk.same rfl) (.cons (ArgOk.same rfl) (.cons (ArgOk.same rfl) (.cons (ArgOk.same rfl) (.cons (ArgOk.same rfl) .nil))))))))) .nil)) SubS.nil rfl rfl rfl rfl rfl (.inl rfl) hcallOk9 (r' := .tup [.agg [.u _, .u _, .u _], .u _]) rfl rfl Taken.no) rfl rfl (S' := _) rfl ?_
  refine SL.mv rfl rfl ?_
  refine SL.val (O.extract rfl rfl rfl Taken.no) ?_
  refine SL.val (O.extract rfl rfl rfl Taken.no) ?_
  refine SL.memS (O.alloc (z := .agg #[.int .i64 0, .slice none 0 0, .slice none 0 0]) (is := [.u (.sc (.int .i64 0)), .u (.sc (.slice none 0 0)), .u (.sc (.slice none 0 0))]) 103 (by kernel_rfl) rfl rfl rfl Taken.no) rfl rfl (S' := (103, _) :: _) rfl ?_
  refine SL.effS (O.st_ref (m := 3) rfl rfl rfl (js := [_, _, _]) rfl rfl (by kernel_rfl) (by simp) (Nat.le_of_ble_eq_true rfl) rfl (is' := [_, _, _]) rfl Taken.no) (S' := (103, _) :: _) rfl ?_
  refine SL.an rfl rfl (E.fo (W.seq (W.rg (SL.mv rfl rfl ?_))))
  refine SL.val (O.det (fun _ => G.R.neq rfl rfl) rfl Taken.no) ?_
  refine E.fo ?_
  first | refine W.cond_d rfl (fun hc4 => ?_) (fun hc4 => ?_) | refine W.cond_nd rfl (fun hc4 => ?_) (fun hc4 => ?_) | refine W.cond rfl (fun hc4 => ?_) (fun hc4 => ?_)
  ·skip
   refine W.exit (E.th (E.hit (E.to (W.region ?_))))
   refine SL.val (O.det (fun _ => by first | exact G.R.add64 rfl rfl (by omega) | exact G.R.add rfl rfl) rfl Taken.no) ?_
   refine SL.mv rfl rfl (SL.nil ?_)
   refine E.again ((k + 1), (s)) (rn []) ?_ ?_ rfl (fixL_spec rfl) ?_ ?_
   · exact (SubF.cons rfl (SubF.cons rfl (SubF.cons rfl (SubF.cons rfl SubF.nil))))
   · exact (SubS.cons rfl SubS.nil)
   ·try dsimp only
    omega
   · (try dsimp only); omega
  have he : doE s l[k]! = 0 := by first | assumption | omega | simp_all
  have hdl := do_len he
  have hV := do_okV he
  have h60 := (do_ok he).1.2.1
  have hVs := valid_okV (do_ok he).1
  have hq1 := (que_okV hVs l[k]!.work).2
  have hq2 := (que_okV hV l[k]!.work).2
  have hrl := List.length_filter_le (rcF l[k]!.work) s.cps
  refine W.skip (E.to (W.seq (W.rg ?_)))
  refine SL.val (O.fld_ref (o' := 0) rfl Try.underlying30 rfl (m := 0) (by kernel_rfl) rfl rfl Taken.no) ?_
  refine SL.val (O.ld1 (PtI.ref rfl rfl) rfl Try.underlying3 rfl rfl Taken.no) ?_
  refine SL.val (O.det (fun _ => G.R.eql rfl rfl) rfl Taken.no) ?_
  refine SL.mv rfl rfl ?_
  refine SL.case (j := 3) (g := 41) (want := true) rfl rfl (fun hg5 => ?_) (fun hg5 => ?_)
  ·skip
   first | have hg5p := G.gA1 hg5 | have hg5p := G.gA2 hg5 | have hg5p := hg5
   refine SL.val (O.ldN (m := 3) (PtI.ref rfl rfl) (js := [_, _, _]) rfl (Nat.le_of_ble_eq_true rfl) Try.underlying28 rfl (by kernel_rfl) rfl (Taken.yes rfl rfl hg5)) ?_
   refine SL.val (O.fld_ref (o' := 2) rfl Try.underlying30 rfl (m := 0) (by kernel_rfl) rfl rfl (Taken.yes rfl rfl hg5)) ?_
   refine SL.val (O.ld1 (PtI.ref rfl rfl) rfl Try.underlying3 rfl rfl (Taken.yes rfl rfl hg5)) ?_
   refine SL.memS (O.call (rn []) [] rfl rfl rfl (count_h (s := s) (work := l[k]!.work)) (.cons (ArgOk.aggU (.cons (ArgOk.same rfl) (.cons (ArgOk.same rfl) (.cons (ArgOk.same rfl) .nil)))) (.cons (ArgOk.same rfl) .nil)) SubS.nil rfl rfl rfl rfl rfl (.inl rfl) hcallOk10 (r' := .agg [.u _, .u _, .u _]) rfl rfl (Taken.yes rfl rfl hg5)) rfl rfl (S' := _) rfl ?_
   refine SL.val (O.idxval (i := 0) rfl rfl (by rfl) (by decide) (by rfl) Try.underlying35 (by kernel_rfl) Try.underlying3 rfl rfl (Taken.yes rfl rfl hg5)) ?_
   refine SL.val (O.det (fun _ => G.R.eql rfl rfl) rfl (Taken.yes rfl rfl hg5)) ?_
   refine SL.val (O.pick_t rfl hg5 rfl rfl Taken.no) ?_
   refine E.fo ?_
   refine W.pick (K:=[(3,_),(5,_),(6,_),(24,_),(25,_),(26,_),(48,_)]) (Z:=[(101,_),(102,_),(103,_)]) ⟨rfl,rfl,rfl,rfl,rfl,rfl,rfl,trivial⟩ ⟨rfl,rfl,rfl,trivial⟩ ?_
   first | refine W.cond_d rfl (fun hc6 => ?_) (fun hc6 => ?_) | refine W.cond_nd rfl (fun hc6 => ?_) (fun hc6 => ?_) | refine W.cond rfl (fun hc6 => ?_) (fun hc6 => ?_)
   ·skip
    have hr := recalls he (by omega) (by omega)
    refine W.rg ?_
    refine SL.val (O.ldN (m := 3) (PtI.ref rfl rfl) (js := [_, _, _]) rfl (Nat.le_of_ble_eq_true rfl) Try.underlying28 rfl (by kernel_rfl) rfl Taken.no) ?_
    refine SL.val (O.fld_ref (o' := 2) rfl Try.underlying30 rfl (m := 0) (by kernel_rfl) rfl rfl Taken.no) ?_
    refine SL.val (O.ld1 (PtI.ref rfl rfl) rfl Try.underlying3 rfl rfl Taken.no) ?_
    refine SL.memS (O.call (rn []) [] rfl rfl rfl (recalled_h (s := s) (work := l[k]!.work)) (.cons (ArgOk.aggU (.cons (ArgOk.same rfl) (.cons (ArgOk.same rfl) (.cons (ArgOk.same rfl) .nil)))) (.cons (ArgOk.same rfl) .nil)) SubS.nil rfl rfl rfl rfl rfl (.inl rfl) hcallOk11 (r' := .tup [.u _, .u _]) rfl rfl Taken.no) rfl rfl (S' := _) rfl ?_
    refine SL.mv rfl rfl ?_
    refine SL.val (O.extract rfl rfl rfl Taken.no) ?_
    refine SL.val (O.extract rfl rfl rfl Taken.no) ?_
    refine SL.an rfl rfl (SL.an rfl rfl (E.fo (W.rg ?_)))
    refine SL.val (O.ldN (m := 3) (PtI.ref rfl rfl) (js := [_, _, _]) rfl (Nat.le_of_ble_eq_true rfl) Try.underlying28 rfl (by kernel_rfl) rfl Taken.no) ?_
    refine SL.val (O.fld_ref (o' := 2) rfl Try.underlying30 rfl (m := 0) (by kernel_rfl) rfl rfl Taken.no) ?_
    refine SL.val (O.ld1 (PtI.ref rfl rfl) rfl Try.underlying3 rfl rfl Taken.no) ?_
    refine SL.memS (O.call (rn []) [] rfl rfl rfl (recalled_h (s := (doS s l[k]!)) (work := l[k]!.work)) (.cons (ArgOk.aggU (.cons (ArgOk.same rfl) (.cons (ArgOk.same rfl) (.cons (ArgOk.same rfl) .nil)))) (.cons (ArgOk.same rfl) .nil)) SubS.nil rfl rfl rfl rfl rfl (.inl rfl) hcallOk11 (r' := .tup [.u _, .u _]) rfl rfl Taken.no) rfl rfl (S' := _) rfl ?_
    refine SL.mv rfl rfl ?_
    refine SL.val (O.extract rfl rfl rfl Taken.no) ?_
    refine SL.val (O.extract rfl rfl rfl Taken.no) ?_
    refine SL.an rfl rfl (SL.an rfl rfl (E.fo ?_))
    refine W.pick (K:=[(3,_),(5,_),(6,_),(8,_),(10,_),(11,_),(24,_),(25,_),(26,_)]) (Z:=[(101,_),(102,_),(103,_)]) ⟨rfl,rfl,rfl,rfl,rfl,rfl,rfl,rfl,rfl,trivial⟩ ⟨rfl,rfl,rfl,trivial⟩ ?_
    refine W.seq ?_
    refine W.draw [⟨[], [], [], []⟩, ⟨[], [], [], []⟩, ⟨[], [], [], []⟩, ⟨[], [], [], []⟩, ⟨[], [], [], []⟩, ⟨[], [], [], []⟩, ⟨[], [], [], []⟩, ⟨[103], [], [], []⟩, ⟨[], [], [], [102]⟩, ⟨[102], [], [], []⟩, ⟨[], [], [], []⟩, ⟨[], [], [], []⟩, ⟨[101], [], [], []⟩, ⟨[], [], [], [102]⟩, ⟨[102], [], [], []⟩, ⟨[], [], [], []⟩, ⟨[], [], [], []⟩, ⟨[], [], [], []⟩, ⟨[], [], [], []⟩, ⟨[], [], [], []⟩] rfl (by kernel_rfl) (by kernel_rfl) rfl rfl ?_
    refine WH.mv rfl rfl rfl (WH.mv rfl rfl rfl ?_)
    have hrl2 : rcN s.cps l[k]!.work ≤ s.cps.length := hrl
    refine WH.val (O.det (fun _ => by first | exact G.R.add64 rfl rfl (by omega) | exact G.R.add rfl rfl) rfl Taken.no) rfl rfl ?_
    refine WH.mv rfl rfl rfl ?_
    refine WH.val (O.det (fun _ => G.R.mv (G.R.min2 rfl rfl) (congrArg (Value.int .i64) (show _ = ((rcN (doS s l[k]!).cps l[k]!.work : Nat) : Int) by rw [hr.1]; split <;> omega))) rfl Taken.no) rfl rfl ?_
    refine WH.val (O.det (fun _ => G.R.mv (G.R.neq rfl rfl) (congrArg Value.bool (decide_eq_false (by exact fun z => z rfl)))) rfl Taken.no) rfl rfl ?_
    refine WH.mv rfl rfl rfl ?_
    have hg7 : false = false := by decide
    refine WH.val (O.ldN (m := 3) (PtI.ref rfl rfl) (js := [_, _, _]) rfl (Nat.le_of_ble_eq_true rfl) Try.underlying28 rfl (by kernel_rfl) rfl (Taken.yes rfl rfl hg7)) rfl rfl ?_
    refine WH.val (O.fld_ref (o' := 2) rfl Try.underlying30 rfl (m := 0) (by kernel_rfl) rfl rfl (Taken.yes rfl rfl hg7)) rfl rfl ?_
    refine WH.val (O.ld1 (PtI.ref rfl rfl) rfl Try.underlying3 rfl rfl (Taken.yes rfl rfl hg7)) rfl rfl ?_
    refine WH.val (O.callp rfl rfl rfl (queue_h (s := (doS s l[k]!)) (i := l[k]!.work) (okV_len hV)) (.cons (ArgOk.aggU (.cons (ArgOk.same rfl) (.cons (ArgOk.same rfl) (.cons (ArgOk.same rfl) .nil)))) (.cons (ArgOk.same rfl) .nil)) hcallOk12 rfl (Taken.yes rfl rfl hg7)) rfl rfl ?_
    refine WH.val (O.lenE (SlOf.fz rfl (by decide)) (by first | exact List.length_map _ | rfl) Try.underlying40 rfl (Taken.yes rfl rfl hg7)) rfl rfl ?_
    refine WH.val (O.ldN (m := 3) (PtI.ref rfl rfl) (js := [_, _, _]) rfl (Nat.le_of_ble_eq_true rfl) Try.underlying28 rfl (by kernel_rfl) rfl (Taken.yes rfl rfl hg7)) rfl rfl ?_
    refine WH.val (O.fld_ref (o' := 2) rfl Try.underlying30 rfl (m := 0) (by kernel_rfl) rfl rfl (Taken.yes rfl rfl hg7)) rfl rfl ?_
    refine WH.val (O.ld1 (PtI.ref rfl rfl) rfl Try.underlying3 rfl rfl (Taken.yes rfl rfl hg7)) rfl rfl ?_
    refine WH.val (O.callp rfl rfl rfl (queue_h (s := s) (i := l[k]!.work) (okV_len hVs)) (.cons (ArgOk.aggU (.cons (ArgOk.same rfl) (.cons (ArgOk.same rfl) (.cons (ArgOk.same rfl) .nil)))) (.cons (ArgOk.same rfl) .nil)) hcallOk12 rfl (Taken.yes rfl rfl hg7)) rfl rfl ?_
    refine WH.val (O.lenE (SlOf.fz rfl (by decide)) (by first | exact List.length_map _ | rfl) Try.underlying40 rfl (Taken.yes rfl rfl hg7)) rfl rfl ?_
    refine WH.val (O.det (fun _ => by first | exact G.R.add64 rfl rfl (by omega) | exact G.R.add rfl rfl) rfl (Taken.yes rfl rfl hg7)) rfl rfl ?_
    refine WH.val (O.det (fun _ => G.R.mv (G.R.neq rfl rfl) (congrArg Value.bool (decide_eq_false (by have := hr.2; omega)))) rfl (Taken.yes rfl rfl hg7)) rfl rfl ?_
    refine WH.val (O.pick_f rfl rfl rfl rfl Taken.no) rfl rfl ?_
    refine WH.nil (E.to ?_)
    refine W.pick (K:=[(3,_),(6,_),(24,_),(25,_),(26,_),(82,_)]) (Z:=[(101,_),(102,_),(103,_)]) ⟨rfl,rfl,rfl,rfl,rfl,rfl,trivial⟩ ⟨rfl,rfl,rfl,trivial⟩ ?_
    refine W.cond_f rfl ?_
    refine W.skip (E.to (W.rg ?_))
    refine SL.val (O.ldN (m := 3) (PtI.ref rfl rfl) (js := [_, _, _]) rfl (Nat.le_of_ble_eq_true rfl) Try.underlying28 rfl (by kernel_rfl) rfl Taken.no) ?_
    refine SL.effS (O.st_ref (m := 3) rfl rfl rfl (js := [_, _, _]) rfl rfl (by kernel_rfl) (by simp) (Nat.le_of_ble_eq_true rfl) rfl (is' := [_, _, _]) rfl Taken.no) (S' := (101, _) :: _) rfl ?_
    refine E.fo (W.rg ?_)
    refine SL.val (O.fld_ref (o' := 1) rfl Try.underlying28 rfl (m := 0) (by kernel_rfl) rfl rfl Taken.no) ?_
    refine SL.val (O.ld1 (PtI.ref rfl rfl) rfl Try.underlying25 rfl rfl Taken.no) ?_
    refine SL.val (O.lenE (SlOf.fz rfl (by decide)) (by first | exact List.length_map _ | rfl) Try.underlying25 rfl Taken.no) ?_
    refine SL.mv rfl rfl (E.fo (W.block ?_))
    refine W.loopx1 (fun (j : Nat) => [(87, vI (j : Int))]) (fun (j : Nat) => []) (fun (j : Nat) => j ≤ (doS s l[k]!).cps.length) (fun (j : Nat) => (doS s l[k]!).cps.length - j) (0) (rn []) (.cons (t := 3) rfl (.cons (t := 24) rfl (.cons (t := 25) rfl (.cons (t := 26) rfl (.cons (t := 85) rfl (.cons (t := 86) rfl .nil)))))) (.cons (t := 101) rfl (.cons (t := 102) rfl (.cons (t := 103) rfl .nil))) rfl ?_ ?_ rfl rfl ?_ ?_
    · exact (SubF.cons rfl SubF.nil)
    · exact SubS.nil
    ·skip
     omega
    intro j hinv
    have hj := hinv
    refine W.rg ?_
    refine SL.val (O.det (fun _ => G.R.lss rfl rfl) rfl Taken.no) ?_
    refine E.fo (W.seq ?_)
    first | refine W.cond_d rfl (fun hc8 => ?_) (fun hc8 => ?_) | refine W.cond_nd rfl (fun hc8 => ?_) (fun hc8 => ?_) | refine W.cond rfl (fun hc8 => ?_) (fun hc8 => ?_)
    ·skip
     refine W.skip (E.to (W.seq (W.block (W.rg ?_))))
     refine SL.val (O.idx_fz (i := j) rfl rfl (rfl) (row_get (by omega)) Try.underlying25 hi43 hs43 rfl Taken.no) ?_
     refine SL.val (O.ldU (m := 8) (PtU.fz rfl) rfl Try.underlying43 rfl (by kernel_rfl) rfl Taken.no) ?_
     refine SL.memS (O.alloc (z := .agg #[.int .i64 0, .int .i64 0, .string ByteArray.empty, .int .i64 0, .int .i64 0, .int .i64 0, .int .i64 0, .bool false]) (is := [.u (.sc (.int .i64 0)), .u (.sc (.int .i64 0)), .u (.sc (.string ByteArray.empty)), .u (.sc (.int .i64 0)), .u (.sc (.int .i64 0)), .u (.sc (.int .i64 0)), .u (.sc (.int .i64 0)), .u (.sc (.bool false))]) 104 (by kernel_rfl) rfl rfl rfl Taken.no) rfl rfl (S' := (104, _) :: _) rfl ?_
     refine SL.effS (O.st_ref (m := 8) rfl rfl rfl (js := [_, _, _, _, _, _, _, _]) rfl rfl (by kernel_rfl) (by simp) (Nat.le_of_ble_eq_true rfl) rfl (is' := [_, _, _, _, _, _, _, _]) rfl Taken.no) (S' := (104, _) :: _) rfl ?_
     refine E.fo (W.rg ?_)
     refine SL.val (O.ldN (m := 3) (PtI.ref rfl rfl) (js := [_, _, _]) rfl (Nat.le_of_ble_eq_true rfl) Try.underlying28 rfl (by kernel_rfl) rfl Taken.no) ?_
     refine SL.val (O.fld_ref (o' := 0) rfl Try.underlying43 rfl (m := 0) (by kernel_rfl) rfl rfl Taken.no) ?_
     refine SL.val (O.ld1 (PtI.ref rfl rfl) rfl Try.underlying3 rfl rfl Taken.no) ?_
     refine SL.val (O.build (res := [_, _, _, _, _, _, _, _]) (z := .agg #[.int .i64 0, .int .i64 0, .int .i64 0, .int .i64 0, .int .i64 0, .int .i64 0, .int .i64 0, .string ByteArray.empty]) (places := [(0, 1), (1, 1), (2, 1), (3, 1), (4, 1), (5, 1), (6, 1), (7, 1)]) rfl rfl Try.underlying34 (by kernel_rfl) (fun _ => by kernel_rfl) rfl rfl Taken.no) ?_
     refine SL.memS (O.call (rn []) [] rfl rfl rfl (do_h (s := (doS s l[k]!)) (x := ⟨5, (doS s l[k]!).cps[j]!.id, 0, 0, 0, 0, 0, []⟩)) (.cons (ArgOk.aggU (.cons (ArgOk.same rfl) (.cons (ArgOk.same rfl) (.cons (ArgOk.same rfl) .nil)))) (.cons (ArgOk.aggU (.cons (ArgOk.same rfl) (.cons (ArgOk.same rfl) (.cons (ArgOk.same rfl) (.cons (ArgOk.same rfl) (.cons (ArgOk.same rfl) (.cons (ArgOk.same rfl) (.cons (ArgOk.same rfl) (.cons (ArgOk.same rfl) .nil))))))))) .nil)) SubS.nil rfl rfl rfl rfl rfl (.inl rfl) hcallOk9 (r' := .tup [.agg [.u _, .u _, .u _], .u _]) rfl rfl Taken.no) rfl rfl (S' := _) rfl ?_
     refine SL.mv rfl rfl ?_
     refine SL.val (O.extract rfl rfl rfl Taken.no) ?_
     refine SL.val (O.extract rfl rfl rfl Taken.no) ?_
     refine SL.memS (O.alloc (z := .agg #[.int .i64 0, .slice none 0 0, .slice none 0 0]) (is := [.u (.sc (.int .i64 0)), .u (.sc (.slice none 0 0)), .u (.sc (.slice none 0 0))]) 105 (by kernel_rfl) rfl rfl rfl Taken.no) rfl rfl (S' := (105, _) :: _) rfl ?_
     refine SL.effS (O.st_ref (m := 3) rfl rfl rfl (js := [_, _, _]) rfl rfl (by kernel_rfl) (by simp) (Nat.le_of_ble_eq_true rfl) rfl (is' := [_, _, _]) rfl Taken.no) (S' := (105, _) :: _) rfl ?_
     refine SL.an rfl rfl (E.fo (W.rg (SL.mv rfl rfl ?_)))
     refine SL.val (O.det (fun _ => G.R.eql rfl rfl) rfl Taken.no) ?_
     refine SL.mv rfl rfl ?_
     refine SL.case (j := 2) (g := 101) (want := true) rfl rfl (fun hg9 => ?_) (fun hg9 => ?_)
     ·skip
      first | have hg9p := G.gA1 hg9 | have hg9p := G.gA2 hg9 | have hg9p := hg9
      have hrn := renewed (s := (doS s l[k]!)) (c := (doS s l[k]!).cps[j]!) (at_mem (by omega)) (by first | assumption | simp_all)
      refine SL.val (O.fld_ref (o' := 7) rfl Try.underlying43 rfl (m := 0) (by kernel_rfl) rfl rfl (Taken.yes rfl rfl hg9)) ?_
      refine SL.val (OpOk.rep (i' := vB false) (O.ld1 (PtI.ref rfl rfl) rfl Try.underlying4 rfl rfl (Taken.yes rfl rfl hg9)) (fun _ _ _ _ h => by rwa [hrn.1] at h)) ?_
      refine SL.val (O.move rfl rfl (Taken.yes rfl rfl hg9)) ?_
      have hg10 : false = false := by decide
      refine SL.val (O.ldN (m := 3) (PtI.ref rfl rfl) (js := [_, _, _]) rfl (Nat.le_of_ble_eq_true rfl) Try.underlying28 rfl (by kernel_rfl) rfl (Taken.yes rfl rfl hg10)) ?_
      refine SL.val (O.fld_ref (o' := 1) rfl Try.underlying43 rfl (m := 0) (by kernel_rfl) rfl rfl (Taken.yes rfl rfl hg10)) ?_
      refine SL.val (O.ld1 (PtI.ref rfl rfl) rfl Try.underlying3 rfl rfl (Taken.yes rfl rfl hg10)) ?_
      refine SL.val (O.callp rfl rfl rfl (queue_h (s := (doS s l[k]!)) (i := (doS s l[k]!).cps[j]!.work) (okV_len hV)) (.cons (ArgOk.aggU (.cons (ArgOk.same rfl) (.cons (ArgOk.same rfl) (.cons (ArgOk.same rfl) .nil)))) (.cons (ArgOk.same rfl) .nil)) hcallOk12 rfl (Taken.yes rfl rfl hg10)) ?_
      refine SL.val (O.lenE (SlOf.fz rfl (by decide)) (by first | exact List.length_map _ | rfl) Try.underlying40 rfl (Taken.yes rfl rfl hg10)) ?_
      refine SL.val (O.det (fun _ => G.R.mv (G.R.gtr rfl rfl) (congrArg Value.bool (decide_eq_false (by have := hrn.2; omega)))) rfl (Taken.yes rfl rfl hg10)) ?_
      refine SL.val (O.pick_f rfl rfl rfl rfl (Taken.yes rfl rfl hg9)) ?_
      refine SL.val (O.pick_t rfl hg9 rfl rfl Taken.no) ?_
      refine E.fo ?_
      refine W.pick (K:=[(3,_),(24,_),(25,_),(26,_),(85,_),(86,_),(87,_),(112,_)]) (Z:=[(101,_),(102,_),(103,_),(104,_),(105,_)]) ⟨rfl,rfl,rfl,rfl,rfl,rfl,rfl,rfl,trivial⟩ ⟨rfl,rfl,rfl,rfl,rfl,trivial⟩ ?_
      refine W.cond_f rfl ?_
      refine W.skip (E.inn (E.to (W.region ?_)))
      refine SL.val (O.det (fun _ => by first | exact G.R.add64 rfl rfl (by omega) | exact G.R.add rfl rfl) rfl Taken.no) ?_
      refine SL.mv rfl rfl (SL.nil ?_)
      refine E.again ((j + 1)) (rn []) ?_ ?_ rfl (fixL_spec rfl) ?_ ?_
      · exact (SubF.cons rfl (SubF.cons rfl (SubF.cons rfl (SubF.cons rfl (SubF.cons rfl (SubF.cons rfl (SubF.cons rfl SubF.nil)))))))
      · exact (SubS.cons rfl (SubS.cons rfl (SubS.cons rfl SubS.nil)))
      ·try dsimp only
       omega
      · (try dsimp only); omega
     first | have hg9p := G.gA5 hg9 | have hg9p := G.gA6 hg9 | have hg9p := hg9
     refine SL.sk rfl rfl rfl hg9 (SL.sk rfl rfl rfl hg9 (SL.sk rfl rfl rfl hg9 ?_))
     refine SL.skip (OpOk.not2 rfl rfl rfl) ?_
     refine SL.skip (OpOk.not2 rfl rfl rfl) ?_
     refine SL.skip (OpOk.not2 rfl rfl rfl) ?_
     refine SL.skip (OpOk.not2 rfl rfl rfl) ?_
     refine SL.skip (OpOk.not2 rfl rfl rfl) ?_
     refine SL.skip (OpOk.not2 rfl rfl rfl) ?_
     refine SL.sk rfl rfl rfl hg9 ?_
     refine SL.val (O.pick_f rfl (G.ne_t hg9) rfl rfl Taken.no) ?_
     refine E.fo ?_
     refine W.pick (K:=[(3,_),(24,_),(25,_),(26,_),(85,_),(86,_),(87,_),(112,_)]) (Z:=[(101,_),(102,_),(103,_),(104,_),(105,_)]) ⟨rfl,rfl,rfl,rfl,rfl,rfl,rfl,rfl,trivial⟩ ⟨rfl,rfl,rfl,rfl,rfl,trivial⟩ ?_
     refine W.cond_f rfl ?_
     refine W.skip (E.inn (E.to (W.region ?_)))
     refine SL.val (O.det (fun _ => by first | exact G.R.add64 rfl rfl (by omega) | exact G.R.add rfl rfl) rfl Taken.no) ?_
     refine SL.mv rfl rfl (SL.nil ?_)
     refine E.again ((j + 1)) (rn []) ?_ ?_ rfl (fixL_spec rfl) ?_ ?_
     · exact (SubF.cons rfl (SubF.cons rfl (SubF.cons rfl (SubF.cons rfl (SubF.cons rfl (SubF.cons rfl (SubF.cons rfl SubF.nil)))))))
     · exact (SubS.cons rfl (SubS.cons rfl (SubS.cons rfl SubS.nil)))
     ·try dsimp only
      omega
     · (try dsimp only); omega
    refine W.exit (E.th (E.th (E.hit (E.inn (E.to (W.region ?_))))))
    refine SL.val (O.det (fun _ => by first | exact G.R.add64 rfl rfl (by omega) | exact G.R.add rfl rfl) rfl Taken.no) ?_
    refine SL.mv rfl rfl (SL.nil ?_)
    refine E.again ((k + 1), ((doS s l[k]!))) (rn []) ?_ ?_ rfl (fixL_spec rfl) ?_ ?_
    · exact (SubF.cons rfl (SubF.cons rfl (SubF.cons rfl (SubF.cons rfl SubF.nil))))
    · exact (SubS.cons rfl SubS.nil)
    ·try dsimp only
     omega
    · (try dsimp only); omega
   refine W.skip (E.to (W.rg ?_))
   refine SL.val (O.ldN (m := 3) (PtI.ref rfl rfl) (js := [_, _, _]) rfl (Nat.le_of_ble_eq_true rfl) Try.underlying28 rfl (by kernel_rfl) rfl Taken.no) ?_
   refine SL.effS (O.st_ref (m := 3) rfl rfl rfl (js := [_, _, _]) rfl rfl (by kernel_rfl) (by simp) (Nat.le_of_ble_eq_true rfl) rfl (is' := [_, _, _]) rfl Taken.no) (S' := (101, _) :: _) rfl ?_
   refine E.fo (W.rg ?_)
   refine SL.val (O.fld_ref (o' := 1) rfl Try.underlying28 rfl (m := 0) (by kernel_rfl) rfl rfl Taken.no) ?_
   refine SL.val (O.ld1 (PtI.ref rfl rfl) rfl Try.underlying25 rfl rfl Taken.no) ?_
   refine SL.val (O.lenE (SlOf.fz rfl (by decide)) (by first | exact List.length_map _ | rfl) Try.underlying25 rfl Taken.no) ?_
   refine SL.mv rfl rfl (E.fo (W.block ?_))
   refine W.loopx1 (fun (j : Nat) => [(87, vI (j : Int))]) (fun (j : Nat) => []) (fun (j : Nat) => j ≤ (doS s l[k]!).cps.length) (fun (j : Nat) => (doS s l[k]!).cps.length - j) (0) (rn []) (.cons (t := 3) rfl (.cons (t := 24) rfl (.cons (t := 25) rfl (.cons (t := 26) rfl (.cons (t := 85) rfl (.cons (t := 86) rfl .nil)))))) (.cons (t := 101) rfl (.cons (t := 102) rfl (.cons (t := 103) rfl .nil))) rfl ?_ ?_ rfl rfl ?_ ?_
   · exact (SubF.cons rfl SubF.nil)
   · exact SubS.nil
   ·skip
    omega
   intro j hinv
   have hj := hinv
   refine W.rg ?_
   refine SL.val (O.det (fun _ => G.R.lss rfl rfl) rfl Taken.no) ?_
   refine E.fo (W.seq ?_)
   first | refine W.cond_d rfl (fun hc11 => ?_) (fun hc11 => ?_) | refine W.cond_nd rfl (fun hc11 => ?_) (fun hc11 => ?_) | refine W.cond rfl (fun hc11 => ?_) (fun hc11 => ?_)
   ·skip
    refine W.skip (E.to (W.seq (W.block (W.rg ?_))))
    refine SL.val (O.idx_fz (i := j) rfl rfl (rfl) (row_get (by omega)) Try.underlying25 hi43 hs43 rfl Taken.no) ?_
    refine SL.val (O.ldU (m := 8) (PtU.fz rfl) rfl Try.underlying43 rfl (by kernel_rfl) rfl Taken.no) ?_
    refine SL.memS (O.alloc (z := .agg #[.int .i64 0, .int .i64 0, .string ByteArray.empty, .int .i64 0, .int .i64 0, .int .i64 0, .int .i64 0, .bool false]) (is := [.u (.sc (.int .i64 0)), .u (.sc (.int .i64 0)), .u (.sc (.string ByteArray.empty)), .u (.sc (.int .i64 0)), .u (.sc (.int .i64 0)), .u (.sc (.int .i64 0)), .u (.sc (.int .i64 0)), .u (.sc (.bool false))]) 106 (by kernel_rfl) rfl rfl rfl Taken.no) rfl rfl (S' := (106, _) :: _) rfl ?_
    refine SL.effS (O.st_ref (m := 8) rfl rfl rfl (js := [_, _, _, _, _, _, _, _]) rfl rfl (by kernel_rfl) (by simp) (Nat.le_of_ble_eq_true rfl) rfl (is' := [_, _, _, _, _, _, _, _]) rfl Taken.no) (S' := (106, _) :: _) rfl ?_
    refine E.fo (W.rg ?_)
    refine SL.val (O.ldN (m := 3) (PtI.ref rfl rfl) (js := [_, _, _]) rfl (Nat.le_of_ble_eq_true rfl) Try.underlying28 rfl (by kernel_rfl) rfl Taken.no) ?_
    refine SL.val (O.fld_ref (o' := 0) rfl Try.underlying43 rfl (m := 0) (by kernel_rfl) rfl rfl Taken.no) ?_
    refine SL.val (O.ld1 (PtI.ref rfl rfl) rfl Try.underlying3 rfl rfl Taken.no) ?_
    refine SL.val (O.build (res := [_, _, _, _, _, _, _, _]) (z := .agg #[.int .i64 0, .int .i64 0, .int .i64 0, .int .i64 0, .int .i64 0, .int .i64 0, .int .i64 0, .string ByteArray.empty]) (places := [(0, 1), (1, 1), (2, 1), (3, 1), (4, 1), (5, 1), (6, 1), (7, 1)]) rfl rfl Try.underlying34 (by kernel_rfl) (fun _ => by kernel_rfl) rfl rfl Taken.no) ?_
    refine SL.memS (O.call (rn []) [] rfl rfl rfl (do_h (s := (doS s l[k]!)) (x := ⟨5, (doS s l[k]!).cps[j]!.id, 0, 0, 0, 0, 0, []⟩)) (.cons (ArgOk.aggU (.cons (ArgOk.same rfl) (.cons (ArgOk.same rfl) (.cons (ArgOk.same rfl) .nil)))) (.cons (ArgOk.aggU (.cons (ArgOk.same rfl) (.cons (ArgOk.same rfl) (.cons (ArgOk.same rfl) (.cons (ArgOk.same rfl) (.cons (ArgOk.same rfl) (.cons (ArgOk.same rfl) (.cons (ArgOk.same rfl) (.cons (ArgOk.same rfl) .nil))))))))) .nil)) SubS.nil rfl rfl rfl rfl rfl (.inl rfl) hcallOk9 (r' := .tup [.agg [.u _, .u _, .u _], .u _]) rfl rfl Taken.no) rfl rfl (S' := _) rfl ?_
    refine SL.mv rfl rfl ?_
    refine SL.val (O.extract rfl rfl rfl Taken.no) ?_
    refine SL.val (O.extract rfl rfl rfl Taken.no) ?_
    refine SL.memS (O.alloc (z := .agg #[.int .i64 0, .slice none 0 0, .slice none 0 0]) (is := [.u (.sc (.int .i64 0)), .u (.sc (.slice none 0 0)), .u (.sc (.slice none 0 0))]) 107 (by kernel_rfl) rfl rfl rfl Taken.no) rfl rfl (S' := (107, _) :: _) rfl ?_
    refine SL.effS (O.st_ref (m := 3) rfl rfl rfl (js := [_, _, _]) rfl rfl (by kernel_rfl) (by simp) (Nat.le_of_ble_eq_true rfl) rfl (is' := [_, _, _]) rfl Taken.no) (S' := (107, _) :: _) rfl ?_
    refine SL.an rfl rfl (E.fo (W.rg (SL.mv rfl rfl ?_)))
    refine SL.val (O.det (fun _ => G.R.eql rfl rfl) rfl Taken.no) ?_
    refine SL.mv rfl rfl ?_
    refine SL.case (j := 2) (g := 101) (want := true) rfl rfl (fun hg12 => ?_) (fun hg12 => ?_)
    ·skip
     first | have hg12p := G.gA1 hg12 | have hg12p := G.gA2 hg12 | have hg12p := hg12
     have hrn := renewed (s := (doS s l[k]!)) (c := (doS s l[k]!).cps[j]!) (at_mem (by omega)) (by first | assumption | simp_all)
     refine SL.val (O.fld_ref (o' := 7) rfl Try.underlying43 rfl (m := 0) (by kernel_rfl) rfl rfl (Taken.yes rfl rfl hg12)) ?_
     refine SL.val (OpOk.rep (i' := vB false) (O.ld1 (PtI.ref rfl rfl) rfl Try.underlying4 rfl rfl (Taken.yes rfl rfl hg12)) (fun _ _ _ _ h => by rwa [hrn.1] at h)) ?_
     refine SL.val (O.move rfl rfl (Taken.yes rfl rfl hg12)) ?_
     have hg13 : false = false := by decide
     refine SL.val (O.ldN (m := 3) (PtI.ref rfl rfl) (js := [_, _, _]) rfl (Nat.le_of_ble_eq_true rfl) Try.underlying28 rfl (by kernel_rfl) rfl (Taken.yes rfl rfl hg13)) ?_
     refine SL.val (O.fld_ref (o' := 1) rfl Try.underlying43 rfl (m := 0) (by kernel_rfl) rfl rfl (Taken.yes rfl rfl hg13)) ?_
     refine SL.val (O.ld1 (PtI.ref rfl rfl) rfl Try.underlying3 rfl rfl (Taken.yes rfl rfl hg13)) ?_
     refine SL.val (O.callp rfl rfl rfl (queue_h (s := (doS s l[k]!)) (i := (doS s l[k]!).cps[j]!.work) (okV_len hV)) (.cons (ArgOk.aggU (.cons (ArgOk.same rfl) (.cons (ArgOk.same rfl) (.cons (ArgOk.same rfl) .nil)))) (.cons (ArgOk.same rfl) .nil)) hcallOk12 rfl (Taken.yes rfl rfl hg13)) ?_
     refine SL.val (O.lenE (SlOf.fz rfl (by decide)) (by first | exact List.length_map _ | rfl) Try.underlying40 rfl (Taken.yes rfl rfl hg13)) ?_
     refine SL.val (O.det (fun _ => G.R.mv (G.R.gtr rfl rfl) (congrArg Value.bool (decide_eq_false (by have := hrn.2; omega)))) rfl (Taken.yes rfl rfl hg13)) ?_
     refine SL.val (O.pick_f rfl rfl rfl rfl (Taken.yes rfl rfl hg12)) ?_
     refine SL.val (O.pick_t rfl hg12 rfl rfl Taken.no) ?_
     refine E.fo ?_
     refine W.pick (K:=[(3,_),(24,_),(25,_),(26,_),(85,_),(86,_),(87,_),(112,_)]) (Z:=[(101,_),(102,_),(103,_),(106,_),(107,_)]) ⟨rfl,rfl,rfl,rfl,rfl,rfl,rfl,rfl,trivial⟩ ⟨rfl,rfl,rfl,rfl,rfl,trivial⟩ ?_
     refine W.cond_f rfl ?_
     refine W.skip (E.inn (E.to (W.region ?_)))
     refine SL.val (O.det (fun _ => by first | exact G.R.add64 rfl rfl (by omega) | exact G.R.add rfl rfl) rfl Taken.no) ?_
     refine SL.mv rfl rfl (SL.nil ?_)
     refine E.again ((j + 1)) (rn []) ?_ ?_ rfl (fixL_spec rfl) ?_ ?_
     · exact (SubF.cons rfl (SubF.cons rfl (SubF.cons rfl (SubF.cons rfl (SubF.cons rfl (SubF.cons rfl (SubF.cons rfl SubF.nil)))))))
     · exact (SubS.cons rfl (SubS.cons rfl (SubS.cons rfl SubS.nil)))
     ·try dsimp only
      omega
     · (try dsimp only); omega
    first | have hg12p := G.gA5 hg12 | have hg12p := G.gA6 hg12 | have hg12p := hg12
    refine SL.sk rfl rfl rfl hg12 (SL.sk rfl rfl rfl hg12 (SL.sk rfl rfl rfl hg12 ?_))
    refine SL.skip (OpOk.not2 rfl rfl rfl) ?_
    refine SL.skip (OpOk.not2 rfl rfl rfl) ?_
    refine SL.skip (OpOk.not2 rfl rfl rfl) ?_
    refine SL.skip (OpOk.not2 rfl rfl rfl) ?_
    refine SL.skip (OpOk.not2 rfl rfl rfl) ?_
    refine SL.skip (OpOk.not2 rfl rfl rfl) ?_
    refine SL.sk rfl rfl rfl hg12 ?_
    refine SL.val (O.pick_f rfl (G.ne_t hg12) rfl rfl Taken.no) ?_
    refine E.fo ?_
    refine W.pick (K:=[(3,_),(24,_),(25,_),(26,_),(85,_),(86,_),(87,_),(112,_)]) (Z:=[(101,_),(102,_),(103,_),(106,_),(107,_)]) ⟨rfl,rfl,rfl,rfl,rfl,rfl,rfl,rfl,trivial⟩ ⟨rfl,rfl,rfl,rfl,rfl,trivial⟩ ?_
    refine W.cond_f rfl ?_
    refine W.skip (E.inn (E.to (W.region ?_)))
    refine SL.val (O.det (fun _ => by first | exact G.R.add64 rfl rfl (by omega) | exact G.R.add rfl rfl) rfl Taken.no) ?_
    refine SL.mv rfl rfl (SL.nil ?_)
    refine E.again ((j + 1)) (rn []) ?_ ?_ rfl (fixL_spec rfl) ?_ ?_
    · exact (SubF.cons rfl (SubF.cons rfl (SubF.cons rfl (SubF.cons rfl (SubF.cons rfl (SubF.cons rfl (SubF.cons rfl SubF.nil)))))))
    · exact (SubS.cons rfl (SubS.cons rfl (SubS.cons rfl SubS.nil)))
    ·try dsimp only
     omega
    · (try dsimp only); omega
   refine W.exit (E.th (E.th (E.hit (E.inn (E.to (W.region ?_))))))
   refine SL.val (O.det (fun _ => by first | exact G.R.add64 rfl rfl (by omega) | exact G.R.add rfl rfl) rfl Taken.no) ?_
   refine SL.mv rfl rfl (SL.nil ?_)
   refine E.again ((k + 1), ((doS s l[k]!))) (rn []) ?_ ?_ rfl (fixL_spec rfl) ?_ ?_
   · exact (SubF.cons rfl (SubF.cons rfl (SubF.cons rfl (SubF.cons rfl SubF.nil))))
   · exact (SubS.cons rfl SubS.nil)
   ·try dsimp only
    omega
   · (try dsimp only); omega
  first | have hg5p := G.gA5 hg5 | have hg5p := G.gA6 hg5 | have hg5p := hg5
  refine SL.sk rfl rfl rfl hg5 (SL.sk rfl rfl rfl hg5 (SL.sk rfl rfl rfl hg5 (SL.sk rfl rfl rfl hg5 (SL.sk rfl rfl rfl hg5 (SL.sk rfl rfl rfl hg5 ?_)))))
  refine SL.val (O.pick_f rfl (G.ne_t hg5) rfl rfl Taken.no) ?_
  refine E.fo ?_
  refine W.pick (K:=[(3,_),(5,_),(6,_),(24,_),(25,_),(26,_),(48,_)]) (Z:=[(101,_),(102,_),(103,_)]) ⟨rfl,rfl,rfl,rfl,rfl,rfl,rfl,trivial⟩ ⟨rfl,rfl,rfl,trivial⟩ ?_
  refine W.cond_f rfl ?_
  refine W.skip (E.to (W.rg ?_))
  refine SL.val (O.ldN (m := 3) (PtI.ref rfl rfl) (js := [_, _, _]) rfl (Nat.le_of_ble_eq_true rfl) Try.underlying28 rfl (by kernel_rfl) rfl Taken.no) ?_
  refine SL.effS (O.st_ref (m := 3) rfl rfl rfl (js := [_, _, _]) rfl rfl (by kernel_rfl) (by simp) (Nat.le_of_ble_eq_true rfl) rfl (is' := [_, _, _]) rfl Taken.no) (S' := (101, _) :: _) rfl ?_
  refine E.fo (W.rg ?_)
  refine SL.val (O.fld_ref (o' := 1) rfl Try.underlying28 rfl (m := 0) (by kernel_rfl) rfl rfl Taken.no) ?_
  refine SL.val (O.ld1 (PtI.ref rfl rfl) rfl Try.underlying25 rfl rfl Taken.no) ?_
  refine SL.val (O.lenE (SlOf.fz rfl (by decide)) (by first | exact List.length_map _ | rfl) Try.underlying25 rfl Taken.no) ?_
  refine SL.mv rfl rfl (E.fo (W.block ?_))
  refine W.loopx1 (fun (j : Nat) => [(87, vI (j : Int))]) (fun (j : Nat) => []) (fun (j : Nat) => j ≤ (doS s l[k]!).cps.length) (fun (j : Nat) => (doS s l[k]!).cps.length - j) (0) (rn []) (.cons (t := 3) rfl (.cons (t := 24) rfl (.cons (t := 25) rfl (.cons (t := 26) rfl (.cons (t := 85) rfl (.cons (t := 86) rfl .nil)))))) (.cons (t := 101) rfl (.cons (t := 102) rfl (.cons (t := 103) rfl .nil))) rfl ?_ ?_ rfl rfl ?_ ?_
  · exact (SubF.cons rfl SubF.nil)
  · exact SubS.nil
  ·skip
   omega
  intro j hinv
  have hj := hinv
  refine W.rg ?_
  refine SL.val (O.det (fun _ => G.R.lss rfl rfl) rfl Taken.no) ?_
  refine E.fo (W.seq ?_)
  first | refine W.cond_d rfl (fun hc14 => ?_) (fun hc14 => ?_) | refine W.cond_nd rfl (fun hc14 => ?_) (fun hc14 => ?_) | refine W.cond rfl (fun hc14 => ?_) (fun hc14 => ?_)
  ·skip
   refine W.skip (E.to (W.seq (W.block (W.rg ?_))))
   refine SL.val (O.idx_fz (i := j) rfl rfl (rfl) (row_get (by omega)) Try.underlying25 hi43 hs43 rfl Taken.no) ?_
   refine SL.val (O.ldU (m := 8) (PtU.fz rfl) rfl Try.underlying43 rfl (by kernel_rfl) rfl Taken.no) ?_
   refine SL.memS (O.alloc (z := .agg #[.int .i64 0, .int .i64 0, .string ByteArray.empty, .int .i64 0, .int .i64 0, .int .i64 0, .int .i64 0, .bool false]) (is := [.u (.sc (.int .i64 0)), .u (.sc (.int .i64 0)), .u (.sc (.string ByteArray.empty)), .u (.sc (.int .i64 0)), .u (.sc (.int .i64 0)), .u (.sc (.int .i64 0)), .u (.sc (.int .i64 0)), .u (.sc (.bool false))]) 108 (by kernel_rfl) rfl rfl rfl Taken.no) rfl rfl (S' := (108, _) :: _) rfl ?_
   refine SL.effS (O.st_ref (m := 8) rfl rfl rfl (js := [_, _, _, _, _, _, _, _]) rfl rfl (by kernel_rfl) (by simp) (Nat.le_of_ble_eq_true rfl) rfl (is' := [_, _, _, _, _, _, _, _]) rfl Taken.no) (S' := (108, _) :: _) rfl ?_
   refine E.fo (W.rg ?_)
   refine SL.val (O.ldN (m := 3) (PtI.ref rfl rfl) (js := [_, _, _]) rfl (Nat.le_of_ble_eq_true rfl) Try.underlying28 rfl (by kernel_rfl) rfl Taken.no) ?_
   refine SL.val (O.fld_ref (o' := 0) rfl Try.underlying43 rfl (m := 0) (by kernel_rfl) rfl rfl Taken.no) ?_
   refine SL.val (O.ld1 (PtI.ref rfl rfl) rfl Try.underlying3 rfl rfl Taken.no) ?_
   refine SL.val (O.build (res := [_, _, _, _, _, _, _, _]) (z := .agg #[.int .i64 0, .int .i64 0, .int .i64 0, .int .i64 0, .int .i64 0, .int .i64 0, .int .i64 0, .string ByteArray.empty]) (places := [(0, 1), (1, 1), (2, 1), (3, 1), (4, 1), (5, 1), (6, 1), (7, 1)]) rfl rfl Try.underlying34 (by kernel_rfl) (fun _ => by kernel_rfl) rfl rfl Taken.no) ?_
   refine SL.memS (O.call (rn []) [] rfl rfl rfl (do_h (s := (doS s l[k]!)) (x := ⟨5, (doS s l[k]!).cps[j]!.id, 0, 0, 0, 0, 0, []⟩)) (.cons (ArgOk.aggU (.cons (ArgOk.same rfl) (.cons (ArgOk.same rfl) (.cons (ArgOk.same rfl) .nil)))) (.cons (ArgOk.aggU (.cons (ArgOk.same rfl) (.cons (ArgOk.same rfl) (.cons (ArgOk.same rfl) (.cons (ArgOk.same rfl) (.cons (ArgOk.same rfl) (.cons (ArgOk.same rfl) (.cons (ArgOk.same rfl) (.cons (ArgOk.same rfl) .nil))))))))) .nil)) SubS.nil rfl rfl rfl rfl rfl (.inl rfl) hcallOk9 (r' := .tup [.agg [.u _, .u _, .u _], .u _]) rfl rfl Taken.no) rfl rfl (S' := _) rfl ?_
   refine SL.mv rfl rfl ?_
   refine SL.val (O.extract rfl rfl rfl Taken.no) ?_
   refine SL.val (O.extract rfl rfl rfl Taken.no) ?_
   refine SL.memS (O.alloc (z := .agg #[.int .i64 0, .slice none 0 0, .slice none 0 0]) (is := [.u (.sc (.int .i64 0)), .u (.sc (.slice none 0 0)), .u (.sc (.slice none 0 0))]) 109 (by kernel_rfl) rfl rfl rfl Taken.no) rfl rfl (S' := (109, _) :: _) rfl ?_
   refine SL.effS (O.st_ref (m := 3) rfl rfl rfl (js := [_, _, _]) rfl rfl (by kernel_rfl) (by simp) (Nat.le_of_ble_eq_true rfl) rfl (is' := [_, _, _]) rfl Taken.no) (S' := (109, _) :: _) rfl ?_
   refine SL.an rfl rfl (E.fo (W.rg (SL.mv rfl rfl ?_)))
   refine SL.val (O.det (fun _ => G.R.eql rfl rfl) rfl Taken.no) ?_
   refine SL.mv rfl rfl ?_
   refine SL.case (j := 2) (g := 101) (want := true) rfl rfl (fun hg15 => ?_) (fun hg15 => ?_)
   ·skip
    first | have hg15p := G.gA1 hg15 | have hg15p := G.gA2 hg15 | have hg15p := hg15
    have hrn := renewed (s := (doS s l[k]!)) (c := (doS s l[k]!).cps[j]!) (at_mem (by omega)) (by first | assumption | simp_all)
    refine SL.val (O.fld_ref (o' := 7) rfl Try.underlying43 rfl (m := 0) (by kernel_rfl) rfl rfl (Taken.yes rfl rfl hg15)) ?_
    refine SL.val (OpOk.rep (i' := vB false) (O.ld1 (PtI.ref rfl rfl) rfl Try.underlying4 rfl rfl (Taken.yes rfl rfl hg15)) (fun _ _ _ _ h => by rwa [hrn.1] at h)) ?_
    refine SL.val (O.move rfl rfl (Taken.yes rfl rfl hg15)) ?_
    have hg16 : false = false := by decide
    refine SL.val (O.ldN (m := 3) (PtI.ref rfl rfl) (js := [_, _, _]) rfl (Nat.le_of_ble_eq_true rfl) Try.underlying28 rfl (by kernel_rfl) rfl (Taken.yes rfl rfl hg16)) ?_
    refine SL.val (O.fld_ref (o' := 1) rfl Try.underlying43 rfl (m := 0) (by kernel_rfl) rfl rfl (Taken.yes rfl rfl hg16)) ?_
    refine SL.val (O.ld1 (PtI.ref rfl rfl) rfl Try.underlying3 rfl rfl (Taken.yes rfl rfl hg16)) ?_
    refine SL.val (O.callp rfl rfl rfl (queue_h (s := (doS s l[k]!)) (i := (doS s l[k]!).cps[j]!.work) (okV_len hV)) (.cons (ArgOk.aggU (.cons (ArgOk.same rfl) (.cons (ArgOk.same rfl) (.cons (ArgOk.same rfl) .nil)))) (.cons (ArgOk.same rfl) .nil)) hcallOk12 rfl (Taken.yes rfl rfl hg16)) ?_
    refine SL.val (O.lenE (SlOf.fz rfl (by decide)) (by first | exact List.length_map _ | rfl) Try.underlying40 rfl (Taken.yes rfl rfl hg16)) ?_
    refine SL.val (O.det (fun _ => G.R.mv (G.R.gtr rfl rfl) (congrArg Value.bool (decide_eq_false (by have := hrn.2; omega)))) rfl (Taken.yes rfl rfl hg16)) ?_
    refine SL.val (O.pick_f rfl rfl rfl rfl (Taken.yes rfl rfl hg15)) ?_
    refine SL.val (O.pick_t rfl hg15 rfl rfl Taken.no) ?_
    refine E.fo ?_
    refine W.pick (K:=[(3,_),(24,_),(25,_),(26,_),(85,_),(86,_),(87,_),(112,_)]) (Z:=[(101,_),(102,_),(103,_),(108,_),(109,_)]) ⟨rfl,rfl,rfl,rfl,rfl,rfl,rfl,rfl,trivial⟩ ⟨rfl,rfl,rfl,rfl,rfl,trivial⟩ ?_
    refine W.cond_f rfl ?_
    refine W.skip (E.inn (E.to (W.region ?_)))
    refine SL.val (O.det (fun _ => by first | exact G.R.add64 rfl rfl (by omega) | exact G.R.add rfl rfl) rfl Taken.no) ?_
    refine SL.mv rfl rfl (SL.nil ?_)
    refine E.again ((j + 1)) (rn []) ?_ ?_ rfl (fixL_spec rfl) ?_ ?_
    · exact (SubF.cons rfl (SubF.cons rfl (SubF.cons rfl (SubF.cons rfl (SubF.cons rfl (SubF.cons rfl (SubF.cons rfl SubF.nil)))))))
    · exact (SubS.cons rfl (SubS.cons rfl (SubS.cons rfl SubS.nil)))
    ·try dsimp only
     omega
    · (try dsimp only); omega
   first | have hg15p := G.gA5 hg15 | have hg15p := G.gA6 hg15 | have hg15p := hg15
   refine SL.sk rfl rfl rfl hg15 (SL.sk rfl rfl rfl hg15 (SL.sk rfl rfl rfl hg15 ?_))
   refine SL.skip (OpOk.not2 rfl rfl rfl) ?_
   refine SL.skip (OpOk.not2 rfl rfl rfl) ?_
   refine SL.skip (OpOk.not2 rfl rfl rfl) ?_
   refine SL.skip (OpOk.not2 rfl rfl rfl) ?_
   refine SL.skip (OpOk.not2 rfl rfl rfl) ?_
   refine SL.skip (OpOk.not2 rfl rfl rfl) ?_
   refine SL.sk rfl rfl rfl hg15 ?_
   refine SL.val (O.pick_f rfl (G.ne_t hg15) rfl rfl Taken.no) ?_
   refine E.fo ?_
   refine W.pick (K:=[(3,_),(24,_),(25,_),(26,_),(85,_),(86,_),(87,_),(112,_)]) (Z:=[(101,_),(102,_),(103,_),(108,_),(109,_)]) ⟨rfl,rfl,rfl,rfl,rfl,rfl,rfl,rfl,trivial⟩ ⟨rfl,rfl,rfl,rfl,rfl,trivial⟩ ?_
   refine W.cond_f rfl ?_
   refine W.skip (E.inn (E.to (W.region ?_)))
   refine SL.val (O.det (fun _ => by first | exact G.R.add64 rfl rfl (by omega) | exact G.R.add rfl rfl) rfl Taken.no) ?_
   refine SL.mv rfl rfl (SL.nil ?_)
   refine E.again ((j + 1)) (rn []) ?_ ?_ rfl (fixL_spec rfl) ?_ ?_
   · exact (SubF.cons rfl (SubF.cons rfl (SubF.cons rfl (SubF.cons rfl (SubF.cons rfl (SubF.cons rfl (SubF.cons rfl SubF.nil)))))))
   · exact (SubS.cons rfl (SubS.cons rfl (SubS.cons rfl SubS.nil)))
   ·try dsimp only
    omega
   · (try dsimp only); omega
  refine W.exit (E.th (E.th (E.hit (E.inn (E.to (W.region ?_))))))
  refine SL.val (O.det (fun _ => by first | exact G.R.add64 rfl rfl (by omega) | exact G.R.add rfl rfl) rfl Taken.no) ?_
  refine SL.mv rfl rfl (SL.nil ?_)
  refine E.again ((k + 1), ((doS s l[k]!))) (rn []) ?_ ?_ rfl (fixL_spec rfl) ?_ ?_
  · exact (SubF.cons rfl (SubF.cons rfl (SubF.cons rfl (SubF.cons rfl SubF.nil))))
  · exact (SubS.cons rfl SubS.nil)
  ·try dsimp only
   omega
  · (try dsimp only); omega
 refine W.exit (E.th (E.th (E.hit (E.to (W.rg (SL.an rfl rfl (E.fo (W.ret ?_))))))))
 refine E.fin (rs := [_]) (rn []) (.inl rfl) rfl (.cons (ResOne.tmp rfl) .nil) ?_ ?_ rfl (fixL_spec rfl)
 ·skip
  rfl
 · exact SubS.nil

end Go.Proofs.Ytmekkjehkcjpdaa
end
