/-
  What the proof rests on: part 11 of 14.
-/
import Derived.Test.YtmekkjehkcjpdaaCirculateRecallsP10
section
namespace Go.Proofs.Ytmekkjehkcjpdaa
open Go Go.RowKit Go.H Go.D57 Go.D58

theorem hcallOk79 : G.callOk Try.prog 79 = true := by kernel_rfl
theorem hcallOk80 : G.callOk Try.prog 80 = true := by kernel_rfl
theorem hcallOk81 : G.callOk Try.prog 81 = true := by kernel_rfl
theorem hcallOk82 : G.callOk Try.prog 82 = true := by kernel_rfl

theorem or_f {a b : Bool} (h : a = false) : (a || b) = b := by rw [h]; rfl
theorem or_t {a b : Bool} (h : a = true) : (a || b) = true := by rw [h]; rfl

set_option maxRecDepth 8000 in
theorem used1_h {c : Cp} {h : Int} :
    Con Try.prog 79 [vA (eCp c), .u (.ptr [uI h])] [] (vB (decide (c.place = 3 ∧ c.hold = h))) [] := by
 refine Con.enterL (n := 13) Try.func79 rfl rfl rfl (fun τ w ok vs hin => ?_)
 clear hin
 refine W.rg ?_
 refine SL.memS (O.box (is := [_, _, _, _, _, _, _, _]) 101 rfl rfl (by simp) rfl rfl Taken.no) rfl rfl (S' := (101, _) :: _) rfl ?_
 refine SL.an rfl rfl (E.fo (W.rg ?_))
 refine SL.val (O.fld_ref (o' := 3) rfl Try.underlying43 rfl (m := 0) (by kernel_rfl) rfl rfl Taken.no) ?_
 refine SL.val (O.ld1 (PtI.ref rfl rfl) rfl Try.underlying3 rfl rfl Taken.no) ?_
 refine SL.val (O.det (fun _ => G.R.eql rfl rfl) rfl Taken.no) ?_
 refine SL.mv rfl rfl ?_
 refine SL.case (j := 3) (g := 7) (want := true) rfl rfl (fun hg1 => ?_) (fun hg1 => ?_)
 ·skip
  first | have hg1p := G.gA1 hg1 | have hg1p := G.gA2 hg1 | have hg1p := hg1
  refine SL.val (O.fld_ref (o' := 6) rfl Try.underlying43 rfl (m := 0) (by kernel_rfl) rfl rfl (Taken.yes rfl rfl hg1)) ?_
  refine SL.val (O.ld1 (PtI.ref rfl rfl) rfl Try.underlying3 rfl rfl (Taken.yes rfl rfl hg1)) ?_
  refine SL.val (O.ld1 (PtI.ofU (PtU.fz rfl)) rfl Try.underlying3 rfl rfl (Taken.yes rfl rfl hg1)) ?_
  refine SL.val (O.det (fun _ => G.R.eql rfl rfl) rfl (Taken.yes rfl rfl hg1)) ?_
  refine SL.val (O.pick_t rfl hg1 rfl rfl Taken.no) ?_
  refine SL.an rfl rfl (E.fo (W.ret ?_))
  refine E.fin (rs := [_]) (rn []) (.inl rfl) rfl (.cons (ResOne.tmp rfl) .nil) ?_ ?_ rfl (fixL_spec rfl)
  ·skip
   first | exact iv_bool (dec_iff (by omega)) | exact iv_bool (dec_t (by omega)) | exact iv_bool (dec_f (by omega))
  · exact SubS.nil
 first | have hg1p := G.gA5 hg1 | have hg1p := G.gA6 hg1 | have hg1p := hg1
 refine SL.sk rfl rfl rfl hg1 (SL.sk rfl rfl rfl hg1 (SL.sk rfl rfl rfl hg1 (SL.sk rfl rfl rfl hg1 ?_)))
 refine SL.val (O.pick_f rfl (G.ne_t hg1) rfl rfl Taken.no) ?_
 refine SL.an rfl rfl (E.fo (W.ret ?_))
 refine E.fin (rs := [_]) (rn []) (.inl rfl) rfl (.cons (ResOne.tmp rfl) .nil) ?_ ?_ rfl (fixL_spec rfl)
 ·skip
  first | exact iv_bool (dec_iff (by omega)) | exact iv_bool (dec_t (by omega)) | exact iv_bool (dec_f (by omega))
 · exact SubS.nil

set_option maxRecDepth 8000 in
theorem used21_h {x : Hd} {h : Int} :
    Con Try.prog 82 [vA (eH x), .u (.ptr [uI h])] [] (vB (decide (x.id = h))) [] := by
 refine Con.enterL (n := 8) Try.func82 rfl rfl rfl (fun τ w ok vs hin => ?_)
 clear hin
 refine W.rg ?_
 refine SL.memS (O.box (is := [_, _, _, _, _]) 101 rfl rfl (by simp) rfl rfl Taken.no) rfl rfl (S' := (101, _) :: _) rfl ?_
 refine SL.an rfl rfl (E.fo (W.rg ?_))
 refine SL.val (O.fld_ref (o' := 0) rfl Try.underlying47 rfl (m := 0) (by kernel_rfl) rfl rfl Taken.no) ?_
 refine SL.val (O.ld1 (PtI.ref rfl rfl) rfl Try.underlying3 rfl rfl Taken.no) ?_
 refine SL.val (O.ld1 (PtI.ofU (PtU.fz rfl)) rfl Try.underlying3 rfl rfl Taken.no) ?_
 refine SL.val (O.det (fun _ => G.R.eql rfl rfl) rfl Taken.no) ?_
 refine SL.an rfl rfl (E.fo (W.ret ?_))
 refine E.fin (rs := [_]) (rn []) (.inl rfl) rfl (.cons (ResOne.tmp rfl) .nil) ?_ ?_ rfl (fixL_spec rfl)
 ·skip
  rfl
 · exact SubS.nil

set_option maxRecDepth 8000 in
theorem used2_h {l : Ln} {h : Int} :
    Con Try.prog 81 [vA (eLn l), .u (.ptr [uI h])] [] (vB (decide (0 ≤ idxF (fun x : Hd => decide (x.id = h)) l.q))) [] := by
 refine Con.enterL (n := 8) Try.func81 rfl rfl rfl (fun τ w ok vs hin => ?_)
 clear hin
 refine W.rg ?_
 refine SL.memS (O.box (is := [_, _]) 101 rfl rfl (by simp) rfl rfl Taken.no) rfl rfl (S' := (101, _) :: _) rfl ?_
 refine SL.an rfl rfl (E.fo (W.rg ?_))
 refine SL.val (O.fld_ref (o' := 1) rfl Try.underlying51 rfl (m := 0) (by kernel_rfl) rfl rfl Taken.no) ?_
 refine SL.val (O.ld1 (PtI.ref rfl rfl) rfl Try.underlying40 rfl rfl Taken.no) ?_
 refine SL.val (O.makeFunc rfl rfl rfl Taken.no) ?_
 refine SL.val (O.callp rfl rfl rfl (containsFunc_h (q := l.q) (f := 82) (caps := [.ptr [uI h]]) (pr := fun x => decide (x.id = h)) hcallOk82 (fun x => used21_h)) (.cons (ArgOk.same rfl) (.cons (ArgOk.cloU .nil (.cons (ArgOk.same rfl) .nil)) .nil)) hcallOk54 rfl Taken.no) ?_
 refine SL.an rfl rfl (E.fo (W.ret ?_))
 refine E.fin (rs := [_]) (rn []) (.inl rfl) rfl (.cons (ResOne.tmp rfl) .nil) ?_ ?_ rfl (fixL_spec rfl)
 ·skip
  rfl
 · exact SubS.nil

set_option maxRecDepth 8000 in
theorem used_h {s : St} {h : Int} :
    Con Try.prog 53 [.ref 0 0, vI h] [(0, .cells 28 [.u (uI s.now), .own 1, .own 2]), (1, .data 43 8 ((s.cps).map eCp)), (2, .data 51 2 ((s.lns).map eLn))] (vB (decide (0 ≤ idxF (fun c : Cp => decide (c.place = 3 ∧ c.hold = h)) s.cps) || decide (0 ≤ idxF (fun l : Ln => decide (0 ≤ idxF (fun x : Hd => decide (x.id = h)) l.q)) s.lns))) [(0, .cells 28 [.u (uI s.now), .own 1, .own 2]), (1, .data 43 8 ((s.cps).map eCp)), (2, .data 51 2 ((s.lns).map eLn))] := by
 refine Con.enterL (n := 19) Try.func53 rfl rfl rfl (fun τ w ok vs hin => ?_)
 clear hin
 refine W.rg ?_
 refine SL.memS (O.box (is := [_]) 101 rfl rfl (by simp) rfl rfl Taken.no) rfl rfl (S' := (101, _) :: _) rfl ?_
 refine SL.an rfl rfl (E.fo (W.rg (SL.mv rfl rfl ?_)))
 refine SL.val (O.nilCheck rfl rfl rfl Taken.no) ?_
 refine SL.val (O.fld_ref (o' := 1) rfl Try.underlying28 rfl (m := 0) (by kernel_rfl) rfl rfl Taken.no) ?_
 refine SL.val (O.ld1 (PtI.ref rfl rfl) rfl Try.underlying25 rfl rfl Taken.no) ?_
 refine SL.val (O.makeFunc rfl rfl rfl Taken.no) ?_
 refine SL.memS (O.call (rn []) [1, 101] rfl rfl rfl (containsFuncCp (q := s.cps) (f := 79) (caps := [.ptr [uI h]]) (pr := fun c => decide (c.place = 3 ∧ c.hold = h)) hcallOk79 (fun x _ => used1_h)) (.cons (ArgOk.own rfl rfl) (.cons (ArgOk.cloU .nil (.cons (ArgOk.ref rfl rfl rfl) .nil)) .nil)) SubS.nil rfl rfl rfl rfl rfl (.inr ⟨rfl, fun x hx => by simp at hx⟩) hcallOk75 (r' := .u _) rfl rfl Taken.no) rfl rfl (S' := _) rfl ?_
 refine SL.mv rfl rfl ?_
 refine SL.case (j := 6) (g := 11) (want := false) rfl rfl (fun hg1 => ?_) (fun hg1 => ?_)
 ·skip
  first | have hg1p := G.gA3 hg1 | have hg1p := G.gA4 hg1 | have hg1p := hg1
  refine SL.val (O.move rfl rfl (Taken.yes rfl rfl hg1)) ?_
  refine SL.val (O.nilCheck rfl rfl rfl (Taken.yes rfl rfl hg1)) ?_
  refine SL.val (O.fld_ref (o' := 2) rfl Try.underlying28 rfl (m := 0) (by kernel_rfl) rfl rfl (Taken.yes rfl rfl hg1)) ?_
  refine SL.val (O.ld1 (PtI.ref rfl rfl) rfl Try.underlying26 rfl rfl (Taken.yes rfl rfl hg1)) ?_
  refine SL.val (O.makeFunc rfl rfl rfl (Taken.yes rfl rfl hg1)) ?_
  refine SL.memS (O.call (rn []) [2, 101] rfl rfl rfl (containsFuncLn (q := s.lns) (f := 81) (caps := [.ptr [uI h]]) (pr := fun l => decide (0 ≤ idxF (fun x : Hd => decide (x.id = h)) l.q)) hcallOk81 (fun x _ => used2_h)) (.cons (ArgOk.own rfl rfl) (.cons (ArgOk.cloU .nil (.cons (ArgOk.ref rfl rfl rfl) .nil)) .nil)) SubS.nil rfl rfl rfl rfl rfl (.inr ⟨rfl, fun x hx => by simp at hx⟩) hcallOk80 (r' := .u _) rfl rfl (Taken.yes rfl rfl hg1)) rfl rfl (S' := _) rfl ?_
  refine SL.val (O.pick_f rfl hg1 rfl rfl Taken.no) ?_
  refine SL.an rfl rfl (E.fo (W.ret ?_))
  refine E.fin (rs := [_]) (rn []) (.inl rfl) rfl (.cons (ResOne.tmp rfl) .nil) ?_ ?_ rfl (fixL_spec rfl)
  ·skip
   first | exact iv_bool (or_f (by assumption)) | exact iv_bool (or_t (by assumption)) | exact iv_bool (or_f (decide_eq_false (by omega))) | exact iv_bool (or_t (decide_eq_true (by omega)))
  · exact (SubS.cons rfl (SubS.cons rfl (SubS.cons rfl SubS.nil)))
 first | have hg1p := G.gA7 hg1 | have hg1p := G.gA8 hg1 | have hg1p := hg1
 refine SL.sk rfl rfl rfl hg1 (SL.sk rfl rfl rfl hg1 (SL.sk rfl rfl rfl hg1 (SL.sk rfl rfl rfl hg1 (SL.sk rfl rfl rfl hg1 (SL.sk rfl rfl rfl hg1 ?_)))))
 refine SL.val (O.pick_t rfl (G.ne_f hg1) rfl rfl Taken.no) ?_
 refine SL.an rfl rfl (E.fo (W.ret ?_))
 refine E.fin (rs := [_]) (rn []) (.inl rfl) rfl (.cons (ResOne.tmp rfl) .nil) ?_ ?_ rfl (fixL_spec rfl)
 ·skip
  first | exact iv_bool (or_f (by assumption)) | exact iv_bool (or_t (by assumption)) | exact iv_bool (or_f (decide_eq_false (by omega))) | exact iv_bool (or_t (decide_eq_true (by omega)))
 · exact (SubS.cons rfl (SubS.cons rfl (SubS.cons rfl SubS.nil)))

end Go.Proofs.Ytmekkjehkcjpdaa
end
section
namespace Go.Proofs.Ytmekkjehkcjpdaa
open Go Go.RowKit Go.H Go.D57 Go.D58



def ixC (s : St) (i : Int) : Nat := (idxF (fun c : Cp => decide (c.id = i)) s.cps).toNat

set_option maxRecDepth 8000 in
theorem copy_y {s : St} {i : Int} (hc : s.cps.length ≤ 1000000) (h0 : 0 ≤ (idxF (fun c : Cp => decide (c.id = i)) s.cps)) :
    Con Try.prog 44 [.ref 0 0, vI i] [(0, .cells 28 [.u (uI s.now), .own 1, .own 2]), (1, .data 43 8 ((s.cps).map eCp)), (2, .data 51 2 ((s.lns).map eLn))] (.el 1 8 (ixC s i) 0) [(0, .cells 28 [.u (uI s.now), .own 1, .own 2]), (1, .data 43 8 ((s.cps).map eCp)), (2, .data 51 2 ((s.lns).map eLn))] := by
 obtain ⟨i43, hi43, hz43, hs43, hb43⟩ := hinf43
 refine Con.enterL (n := 31) Try.func44 rfl rfl rfl (fun τ w ok vs hin => ?_)
 clear hin
 refine W.rg (SL.an rfl rfl (E.fo (W.seq (W.rg (SL.mv rfl rfl ?_)))))
 refine SL.val (O.nilCheck rfl rfl rfl Taken.no) ?_
 refine SL.val (O.fld_ref (o' := 1) rfl Try.underlying28 rfl (m := 0) (by kernel_rfl) rfl rfl Taken.no) ?_
 refine SL.val (O.ld1 (PtI.ref rfl rfl) rfl Try.underlying25 rfl rfl Taken.no) ?_
 refine SL.val (O.lenE (SlOf.own rfl rfl) (by first | exact List.length_map _ | rfl) Try.underlying25 rfl Taken.no) ?_
 refine SL.mv rfl rfl (E.fo (W.block ?_))
 refine W.loopx1 (fun (k : Nat) => [(11, vI (k : Int))]) (fun (k : Nat) => []) (fun (k : Nat) => k ≤ s.cps.length ∧ ∀ j, j < k → (fun c : Cp => decide (c.id = i)) s.cps[j]! = false) (fun (k : Nat) => s.cps.length - k) (0) (rn []) (.cons (t := 0) rfl (.cons (t := 1) rfl (.cons (t := 10) rfl .nil))) (.cons (t := 0) rfl (.cons (t := 1) rfl (.cons (t := 2) rfl .nil))) rfl ?_ ?_ rfl rfl ?_ ?_
 · exact (SubF.cons rfl SubF.nil)
 · exact SubS.nil
 ·skip
  exact ⟨by omega, fun j h => by omega⟩
 intro k hinv
 obtain ⟨hk, hp⟩ := hinv
 refine W.rg ?_
 refine SL.val (O.det (fun _ => G.R.lss rfl rfl) rfl Taken.no) ?_
 refine E.fo (W.seq ?_)
 first | refine W.cond_d rfl (fun hc1 => ?_) (fun hc1 => ?_) | refine W.cond_nd rfl (fun hc1 => ?_) (fun hc1 => ?_) | refine W.cond rfl (fun hc1 => ?_) (fun hc1 => ?_)
 ·skip
  refine W.skip (E.to (W.seq (W.block (W.rg (SL.mv rfl rfl (SL.an rfl rfl (E.fo (W.rg (SL.mv rfl rfl ?_)))))))))
  refine SL.val (O.nilCheck rfl rfl rfl Taken.no) ?_
  refine SL.val (O.fld_ref (o' := 1) rfl Try.underlying28 rfl (m := 0) (by kernel_rfl) rfl rfl Taken.no) ?_
  refine SL.val (O.ld1 (PtI.ref rfl rfl) rfl Try.underlying25 rfl rfl Taken.no) ?_
  refine SL.mv rfl rfl ?_
  refine SL.val (O.idx_own (i := k) rfl rfl rfl (rfl) (by rw [List.length_map]; omega) Try.underlying25 hi43 hs43 rfl Taken.no) ?_
  refine SL.val (O.fld_el (o' := 0) rfl Try.underlying43 rfl (m := 0) (by kernel_rfl) rfl rfl Taken.no) ?_
  refine SL.val (O.ld1 (PtI.ofU (PtU.el rfl rfl (row_get (by omega)))) rfl Try.underlying3 rfl rfl Taken.no) ?_
  refine SL.mv rfl rfl ?_
  refine SL.val (O.det (fun _ => G.R.eql rfl rfl) rfl Taken.no) ?_
  refine E.fo ?_
  first | refine W.cond_d rfl (fun hc2 => ?_) (fun hc2 => ?_) | refine W.cond_nd rfl (fun hc2 => ?_) (fun hc2 => ?_) | refine W.cond rfl (fun hc2 => ?_) (fun hc2 => ?_)
  ·skip
   refine W.rg (SL.mv rfl rfl ?_)
   refine SL.val (O.nilCheck rfl rfl rfl Taken.no) ?_
   refine SL.val (O.fld_ref (o' := 1) rfl Try.underlying28 rfl (m := 0) (by kernel_rfl) rfl rfl Taken.no) ?_
   refine SL.val (O.ld1 (PtI.ref rfl rfl) rfl Try.underlying25 rfl rfl Taken.no) ?_
   refine SL.mv rfl rfl ?_
   refine SL.val (O.idx_own (i := k) rfl rfl rfl (rfl) (by rw [List.length_map]; omega) Try.underlying25 hi43 hs43 rfl Taken.no) ?_
   refine SL.an rfl rfl (E.fo (W.ret ?_))
   refine E.inr ?_
   refine E.thr (E.thr ?_)
   refine E.inr ?_
   refine E.thr ?_
   refine E.fin (rs := [_]) (rn []) (.inl rfl) rfl (.cons (ResOne.tmp rfl) .nil) ?_ ?_ rfl (fixL_spec rfl)
   ·skip
    unfold ixC; rw [idxF_here (p := fun c : Cp => decide (c.id = i)) (k := k) (by omega) hp (decide_eq_true (by omega))]; rfl
   · exact (SubS.cons rfl (SubS.cons rfl (SubS.cons rfl SubS.nil)))
  refine W.skip (E.inn (E.to (W.region ?_)))
  refine SL.val (O.det (fun _ => by first | exact G.R.add64 rfl rfl (by omega) | exact G.R.add rfl rfl) rfl Taken.no) ?_
  refine SL.mv rfl rfl (SL.nil ?_)
  refine E.again ((k + 1)) (rn []) ?_ ?_ rfl (fixL_spec rfl) ?_ ?_
  · exact (SubF.cons rfl (SubF.cons rfl (SubF.cons rfl (SubF.cons rfl SubF.nil))))
  · exact (SubS.cons rfl (SubS.cons rfl (SubS.cons rfl SubS.nil)))
  ·try dsimp only
   exact ⟨by omega, upto_s hp (decide_eq_false (by omega))⟩
  · (try dsimp only); omega
 exfalso; (have hz := idxF_none (p := fun c : Cp => decide (c.id = i)) (k := k) (l := s.cps) (by omega) hp); omega

set_option maxRecDepth 8000 in
theorem copy_n {s : St} {i : Int} (hc : s.cps.length ≤ 1000000) (h0 : ¬ 0 ≤ (idxF (fun c : Cp => decide (c.id = i)) s.cps)) :
    Con Try.prog 44 [.ref 0 0, vI i] [(0, .cells 28 [.u (uI s.now), .own 1, .own 2]), (1, .data 43 8 ((s.cps).map eCp)), (2, .data 51 2 ((s.lns).map eLn))] (.u (.sc (.pointer none))) [(0, .cells 28 [.u (uI s.now), .own 1, .own 2]), (1, .data 43 8 ((s.cps).map eCp)), (2, .data 51 2 ((s.lns).map eLn))] := by
 obtain ⟨i43, hi43, hz43, hs43, hb43⟩ := hinf43
 refine Con.enterL (n := 31) Try.func44 rfl rfl rfl (fun τ w ok vs hin => ?_)
 clear hin
 refine W.rg (SL.an rfl rfl (E.fo (W.seq (W.rg (SL.mv rfl rfl ?_)))))
 refine SL.val (O.nilCheck rfl rfl rfl Taken.no) ?_
 refine SL.val (O.fld_ref (o' := 1) rfl Try.underlying28 rfl (m := 0) (by kernel_rfl) rfl rfl Taken.no) ?_
 refine SL.val (O.ld1 (PtI.ref rfl rfl) rfl Try.underlying25 rfl rfl Taken.no) ?_
 refine SL.val (O.lenE (SlOf.own rfl rfl) (by first | exact List.length_map _ | rfl) Try.underlying25 rfl Taken.no) ?_
 refine SL.mv rfl rfl (E.fo (W.block ?_))
 refine W.loopx1 (fun (k : Nat) => [(11, vI (k : Int))]) (fun (k : Nat) => []) (fun (k : Nat) => k ≤ s.cps.length ∧ ∀ j, j < k → (fun c : Cp => decide (c.id = i)) s.cps[j]! = false) (fun (k : Nat) => s.cps.length - k) (0) (rn []) (.cons (t := 0) rfl (.cons (t := 1) rfl (.cons (t := 10) rfl .nil))) (.cons (t := 0) rfl (.cons (t := 1) rfl (.cons (t := 2) rfl .nil))) rfl ?_ ?_ rfl rfl ?_ ?_
 · exact (SubF.cons rfl SubF.nil)
 · exact SubS.nil
 ·skip
  exact ⟨by omega, fun j h => by omega⟩
 intro k hinv
 obtain ⟨hk, hp⟩ := hinv
 refine W.rg ?_
 refine SL.val (O.det (fun _ => G.R.lss rfl rfl) rfl Taken.no) ?_
 refine E.fo (W.seq ?_)
 first | refine W.cond_d rfl (fun hc1 => ?_) (fun hc1 => ?_) | refine W.cond_nd rfl (fun hc1 => ?_) (fun hc1 => ?_) | refine W.cond rfl (fun hc1 => ?_) (fun hc1 => ?_)
 ·skip
  refine W.skip (E.to (W.seq (W.block (W.rg (SL.mv rfl rfl (SL.an rfl rfl (E.fo (W.rg (SL.mv rfl rfl ?_)))))))))
  refine SL.val (O.nilCheck rfl rfl rfl Taken.no) ?_
  refine SL.val (O.fld_ref (o' := 1) rfl Try.underlying28 rfl (m := 0) (by kernel_rfl) rfl rfl Taken.no) ?_
  refine SL.val (O.ld1 (PtI.ref rfl rfl) rfl Try.underlying25 rfl rfl Taken.no) ?_
  refine SL.mv rfl rfl ?_
  refine SL.val (O.idx_own (i := k) rfl rfl rfl (rfl) (by rw [List.length_map]; omega) Try.underlying25 hi43 hs43 rfl Taken.no) ?_
  refine SL.val (O.fld_el (o' := 0) rfl Try.underlying43 rfl (m := 0) (by kernel_rfl) rfl rfl Taken.no) ?_
  refine SL.val (O.ld1 (PtI.ofU (PtU.el rfl rfl (row_get (by omega)))) rfl Try.underlying3 rfl rfl Taken.no) ?_
  refine SL.mv rfl rfl ?_
  refine SL.val (O.det (fun _ => G.R.eql rfl rfl) rfl Taken.no) ?_
  refine E.fo ?_
  first | refine W.cond_d rfl (fun hc2 => ?_) (fun hc2 => ?_) | refine W.cond_nd rfl (fun hc2 => ?_) (fun hc2 => ?_) | refine W.cond rfl (fun hc2 => ?_) (fun hc2 => ?_)
  ·skip
   exfalso; (have hz := idxF_here (p := fun c : Cp => decide (c.id = i)) (k := k) (l := s.cps) (by omega) hp (decide_eq_true (by omega))); omega
  refine W.skip (E.inn (E.to (W.region ?_)))
  refine SL.val (O.det (fun _ => by first | exact G.R.add64 rfl rfl (by omega) | exact G.R.add rfl rfl) rfl Taken.no) ?_
  refine SL.mv rfl rfl (SL.nil ?_)
  refine E.again ((k + 1)) (rn []) ?_ ?_ rfl (fixL_spec rfl) ?_ ?_
  · exact (SubF.cons rfl (SubF.cons rfl (SubF.cons rfl (SubF.cons rfl SubF.nil))))
  · exact (SubS.cons rfl (SubS.cons rfl (SubS.cons rfl SubS.nil)))
  ·try dsimp only
   exact ⟨by omega, upto_s hp (decide_eq_false (by omega))⟩
  · (try dsimp only); omega
 refine W.exit (E.th (E.th (E.hit (E.to (W.rg (SL.an rfl rfl (E.fo (W.ret ?_))))))))
 refine E.fin (rs := [_]) (rn []) (.inl rfl) rfl (.cons (ResOne.tmp rfl) .nil) ?_ ?_ rfl (fixL_spec rfl)
 ·skip
  rfl
 · exact (SubS.cons rfl (SubS.cons rfl (SubS.cons rfl SubS.nil)))

end Go.Proofs.Ytmekkjehkcjpdaa
end
section
namespace Go.D58
open Go Go.RowKit Go.H Go.D57
section
variable {α : Type} [Inhabited α] (key : α → Int)
def kpR (l : List α) (n : Int) : Nat → Nat
  | 0 => 0
  | k + 1 => if key l[k]! < n then k + 1 else kpR l n k
def kpos (l : List α) (n : Int) : Nat := kpR key l n l.length
def asc (l : List α) : Prop := ∀ i j, i < j → j < l.length → key l[i]! < key l[j]!
def kfnd (l : List α) (n : Int) : Bool := decide ((kpos key l n : Int) < l.length) && decide (cmpI (key l[kpos key l n]!) n = 0)
variable {key} {l : List α} {n : Int}
theorem kpR_le (l : List α) (n : Int) : ∀ k, kpR key l n k ≤ k
  | 0 => Nat.le_refl _
  | k + 1 => by
    rw [kpR]
    split
    · exact Nat.le_refl _
    · have := kpR_le l n k; omega
theorem kpR_spec (hv : asc key l) (n : Int) : ∀ k, k ≤ l.length → (∀ j, j < kpR key l n k → key l[j]! < n) ∧ (∀ j, kpR key l n k ≤ j → j < k → ¬ key l[j]! < n)
  | 0, _ => ⟨fun j hj => by simp [kpR] at hj, fun j _ hj => by omega⟩
  | k + 1, hk => by
    obtain ⟨h1, h2⟩ := kpR_spec hv n k (by omega)
    by_cases e : key l[k]! < n
    · rw [kpR, if_pos e]
      refine ⟨fun j hj => ?_, fun j hj hj2 => by omega⟩
      by_cases ej : j = k
      · subst ej; exact e
      · have := hv j k (by omega) (by omega); omega
    · rw [kpR, if_neg e]
      refine ⟨h1, fun j hj hj2 => ?_⟩
      by_cases ej : j = k
      · subst ej; exact e
      · exact h2 j hj (by omega)
theorem kpos_le (l : List α) (n : Int) : kpos key l n ≤ l.length := kpR_le l n _
theorem kpos_lo (hv : asc key l) {j : Nat} (hj : j < kpos key l n) : key l[j]! < n := (kpR_spec hv n _ (Nat.le_refl _)).1 j hj
theorem kpos_hi (hv : asc key l) {j : Nat} (hj : kpos key l n ≤ j) (hl : j < l.length) : ¬ key l[j]! < n := (kpR_spec hv n _ (Nat.le_refl _)).2 j hj hl
theorem kpos_eq (hv : asc key l) {i : Nat} (hi : i ≤ l.length) (h1 : ∀ j, j < i → key l[j]! < n) (h2 : ∀ j, i ≤ j → j < l.length → ¬ key l[j]! < n) : i = kpos key l n := by
  have hl := kpos_le (key := key) l n
  rcases Nat.lt_trichotomy i (kpos key l n) with e | e | e
  · exact absurd (kpos_lo hv e) (h2 i (Nat.le_refl _) (by omega))
  · exact e
  · exact absurd (h1 _ e) (kpos_hi hv (Nat.le_refl _) (by omega))
theorem kbs_lo (hv : asc key l) {m : Nat} (hm : m < l.length) (e : key l[m]! < n) : ∀ j, j < m + 1 → key l[j]! < n := fun j hj => by
  by_cases ej : j = m
  · subst ej; exact e
  · have := hv j m (by omega) hm; omega
theorem kbs_hi (hv : asc key l) {m : Nat} (e : ¬ key l[m]! < n) : ∀ j, m ≤ j → j < l.length → ¬ key l[j]! < n := fun j hj hl k => by
  by_cases ej : j = m
  · subst ej; exact e k
  · have := hv m j (by omega) hl; omega
theorem kfnd_iff (_ : asc key l) : kfnd key l n = true ↔ kpos key l n < l.length ∧ key l[kpos key l n]! = n := by
  unfold kfnd
  rw [Bool.and_eq_true, decide_eq_true_eq, decide_eq_true_eq]
  constructor
  · rintro ⟨h1, h2⟩
    refine ⟨by omega, ?_⟩
    unfold cmpI at h2
    split at h2
    · cases h2
    · split at h2
      · cases h2
      · omega
  · rintro ⟨h1, h2⟩
    exact ⟨by omega, by rw [cmpI_eq (by omega) (by omega)]⟩
theorem kfnd_no (hv : asc key l) (h : kfnd key l n = false) {i : Nat} (hi : i < l.length) : key l[i]! ≠ n := fun e => by
  have hp : kpos key l n = i := (kpos_eq hv (by omega) (fun j hj => by have := hv j i hj hi; omega) (fun j hj hl => by
    rcases Nat.lt_or_eq_of_le hj with q | q
    · have := hv i j q hl; omega
    · subst q; omega)).symm
  have := (kfnd_iff (n := n) hv).2 ⟨by omega, by rw [hp]; exact e⟩
  rw [h] at this; cases this
end
theorem asc_of {α : Type} [Inhabited α] {key : α → Int} {l : List α} (h : ∀ k, k < l.length → 0 < k → key l[k - 1]! < key l[k]!) : asc key l := fun i j hij hj => by
  induction j with
  | zero => omega
  | succ j ih =>
    have h1 := h (j + 1) hj (by omega)
    rw [Nat.add_sub_cancel] at h1
    by_cases e : i = j
    · subst e; exact h1
    · have := ih (by omega) (by omega); omega
def setQ (ls : List Ln) (w : Int) (q : List Hd) : List Ln :=
  if kfnd (·.work) ls w = true then (if q.length = 0 then ls.take (kpos (·.work) ls w) ++ ls.drop (kpos (·.work) ls w + 1) else ls.set (kpos (·.work) ls w) ⟨ls[kpos (·.work) ls w]!.work, q⟩)
  else if q.length = 0 then ls else ls.take (kpos (·.work) ls w) ++ ⟨w, q⟩ :: ls.drop (kpos (·.work) ls w)
theorem setQ_del {ls : List Ln} {w : Int} {q : List Hd} (h : kfnd (·.work) ls w = true) (h0 : q.length = 0) : setQ ls w q = ls.take (kpos (·.work) ls w) ++ ls.drop (kpos (·.work) ls w + 1) := by unfold setQ; rw [if_pos h, if_pos h0]
theorem setQ_set {ls : List Ln} {w : Int} {q : List Hd} (h : kfnd (·.work) ls w = true) (h0 : ¬ q.length = 0) : setQ ls w q = ls.set (kpos (·.work) ls w) ⟨ls[kpos (·.work) ls w]!.work, q⟩ := by unfold setQ; rw [if_pos h, if_neg h0]
theorem setQ_no {ls : List Ln} {w : Int} {q : List Hd} (h : kfnd (·.work) ls w = false) (h0 : q.length = 0) : setQ ls w q = ls := by unfold setQ; rw [if_neg (by rw [h]; decide), if_pos h0]
theorem setQ_ins {ls : List Ln} {w : Int} {q : List Hd} (h : kfnd (·.work) ls w = false) (h0 : ¬ q.length = 0) : setQ ls w q = ls.take (kpos (·.work) ls w) ++ ⟨w, q⟩ :: ls.drop (kpos (·.work) ls w) := by unfold setQ; rw [if_neg (by rw [h]; decide), if_neg h0]
theorem get_cut {α : Type} [Inhabited α] {l : List α} {k i : Nat} (hk : k < l.length) (hi : i < l.length - 1) : (l.take k ++ l.drop (k + 1))[i]! = l[if i < k then i else i + 1]! := by
  have hl : (l.take k ++ l.drop (k + 1)).length = l.length - 1 := by simp; omega
  rw [getElem!_pos _ i (by omega), getElem!_pos l _ (by split <;> omega)]
  by_cases e : i < k
  · rw [List.getElem_append_left (by rw [List.length_take]; omega), List.getElem_take]
    simp only [e, if_true]
  · rw [List.getElem_append_right (by rw [List.length_take]; omega), List.getElem_drop]
    simp only [e, if_false, List.length_take]
    congr 1
    omega
theorem get_ins {α : Type} [Inhabited α] {l : List α} {k i : Nat} {x : α} (hk : k ≤ l.length) (hi : i < l.length + 1) : (l.take k ++ x :: l.drop k)[i]! = if i < k then l[i]! else if i = k then x else l[i - 1]! := by
  have hl : (l.take k ++ x :: l.drop k).length = l.length + 1 := by simp; omega
  rw [getElem!_pos _ i (by omega)]
  have h1 : (l.take k).length = k := by simp; omega
  by_cases e : i < k
  · rw [if_pos e, List.getElem_append_left (by omega), List.getElem_take, getElem!_pos l i (by omega)]
  · rw [if_neg e, List.getElem_append_right (by omega)]
    by_cases e2 : i = k
    · rw [if_pos e2]
      simp [h1, e2]
    · rw [if_neg e2]
      obtain ⟨d, hd⟩ : ∃ d, i - k = d + 1 := ⟨i - k - 1, by omega⟩
      simp only [h1, hd, List.getElem_cons_succ, List.getElem_drop]
      rw [getElem!_pos l (i - 1) (by omega)]
      congr 1
      omega
theorem get_set {α : Type} [Inhabited α] {l : List α} {k i : Nat} {x : α} (hi : i < l.length) : (l.set k x)[i]! = if k = i then x else l[i]! := by
  rw [getElem!_pos _ i (by rw [List.length_set]; omega), List.getElem_set]
  split
  · rfl
  · rw [getElem!_pos l i hi]
theorem asc_cut {α : Type} [Inhabited α] {key : α → Int} {l : List α} {k : Nat} (h : asc key l) (hk : k < l.length) : asc key (l.take k ++ l.drop (k + 1)) := fun i j hij hj => by
  have hl : (l.take k ++ l.drop (k + 1)).length = l.length - 1 := by simp; omega
  rw [get_cut hk (by omega), get_cut hk (by omega)]
  exact h _ _ (by split <;> split <;> omega) (by split <;> omega)
theorem asc_ins {α : Type} [Inhabited α] {key : α → Int} {l : List α} {x : α} (h : asc key l) (hn : kfnd key l (key x) = false) : asc key (l.take (kpos key l (key x)) ++ x :: l.drop (kpos key l (key x))) := fun i j hij hj => by
  have hk := kpos_le (key := key) l (key x)
  have hl : (l.take (kpos key l (key x)) ++ x :: l.drop (kpos key l (key x))).length = l.length + 1 := by simp; omega
  rw [get_ins hk (by omega), get_ins hk (by omega)]
  by_cases e1 : i < kpos key l (key x)
  · rw [if_pos e1]
    by_cases e2 : j < kpos key l (key x)
    · rw [if_pos e2]; exact h _ _ hij (by omega)
    · rw [if_neg e2]
      by_cases e3 : j = kpos key l (key x)
      · rw [if_pos e3]; exact kpos_lo h e1
      · rw [if_neg e3]; exact h _ _ (by omega) (by omega)
  · rw [if_neg e1, if_neg (show ¬ j < kpos key l (key x) by omega), if_neg (show ¬ j = kpos key l (key x) by omega)]
    by_cases e3 : i = kpos key l (key x)
    · rw [if_pos e3]
      have h1 := kpos_hi (n := key x) h (j := j - 1) (by omega) (by omega)
      have h2 := kfnd_no h hn (i := j - 1) (by omega)
      omega
    · rw [if_neg e3]; exact h _ _ (by omega) (by omega)
theorem asc_set {α : Type} [Inhabited α] {key : α → Int} {l : List α} {k : Nat} {x : α} (h : asc key l) (hx : key x = key l[k]!) : asc key (l.set k x) := fun i j hij hj => by
  rw [List.length_set] at hj
  rw [get_set (by omega), get_set hj]
  have := h i j hij hj
  by_cases e1 : k = i
  · subst e1; rw [if_pos rfl, if_neg (by omega)]; omega
  · rw [if_neg e1]
    by_cases e2 : k = j
    · subst e2; rw [if_pos rfl]; omega
    · rw [if_neg e2]; exact this
def okL (ls : List Ln) (n : Nat) : Prop := asc (·.work) ls ∧ ls.length ≤ n ∧ ∀ l ∈ ls, l.q.length ≤ 60
theorem setQ_ok {ls : List Ln} {n : Nat} (h : okL ls n) (w : Int) {q : List Hd} (hq : q.length ≤ 60) : okL (setQ ls w q) (n + 1) := by
  obtain ⟨h1, h2, h3⟩ := h
  have hk := kpos_le (key := fun l : Ln => l.work) ls w
  cases hf : kfnd (·.work) ls w with
  | true =>
    have hlt := ((kfnd_iff h1).1 hf).1
    by_cases h0 : q.length = 0
    · rw [setQ_del hf h0]
      exact ⟨asc_cut h1 hlt, by simp; omega, fun l hl => (List.mem_append.1 hl).elim (fun m => h3 l (List.mem_of_mem_take m)) (fun m => h3 l (List.mem_of_mem_drop m))⟩
    · rw [setQ_set hf h0]
      exact ⟨asc_set h1 rfl, by simp; omega, fun l hl => (List.mem_or_eq_of_mem_set hl).elim (h3 l) (fun e => by rw [e]; exact hq)⟩
  | false =>
    by_cases h0 : q.length = 0
    · rw [setQ_no hf h0]; exact ⟨h1, by omega, h3⟩
    · rw [setQ_ins hf h0]
      refine ⟨asc_ins (x := (⟨w, q⟩ : Ln)) h1 hf, by simp; omega, fun l hl => (List.mem_append.1 hl).elim (fun m => h3 l (List.mem_of_mem_take m)) (fun m => ?_)⟩
      rcases List.mem_cons.1 m with e | m
      · rw [e]; exact hq
      · exact h3 l (List.mem_of_mem_drop m)
theorem okL.mono {ls : List Ln} {n m : Nat} (h : okL ls n) (hm : n ≤ m) : okL ls m := ⟨h.1, by have := h.2.1; omega, h.2.2⟩
theorem queS_len {s : St} {n : Nat} (h : okL s.lns n) (w : Int) : (queS s w).length ≤ 60 := by
  unfold queS
  split
  · rename_i e; exact h.2.2 _ (at_mem (idxF_lt e).1)
  · simp
def shC (c : Cp) : Cp := { c with place := 1, pat := 0, due := 0, hold := 0, rc := false }
def freeS (s : St) (i : Nat) : St :=
  if (queS s s.cps[i]!.work).length = 0 then ⟨s.now, s.cps.set i (shC s.cps[i]!), s.lns⟩
  else ⟨s.now, s.cps.set i (wtC s.cps[i]! (nextH (queS s s.cps[i]!.work)) s.now), setQ s.lns s.cps[i]!.work (srvQ (queS s s.cps[i]!.work))⟩
theorem free_0 {s : St} {i : Nat} (h : (queS s s.cps[i]!.work).length = 0) : freeS s i = ⟨s.now, s.cps.set i (shC s.cps[i]!), s.lns⟩ := if_pos h
theorem free_1 {s : St} {i : Nat} (h : ¬ (queS s s.cps[i]!.work).length = 0) : freeS s i = ⟨s.now, s.cps.set i (wtC s.cps[i]! (nextH (queS s s.cps[i]!.work)) s.now), setQ s.lns s.cps[i]!.work (srvQ (queS s s.cps[i]!.work))⟩ := if_neg h
theorem free_now (s : St) (i : Nat) : (freeS s i).now = s.now := by unfold freeS; split <;> rfl
theorem free_len (s : St) (i : Nat) : (freeS s i).cps.length = s.cps.length := by unfold freeS; split <;> exact List.length_set
theorem free_ok {s : St} {n : Nat} (h : okL s.lns n) (i : Nat) : okL (freeS s i).lns (n + 1) := by
  by_cases e : (queS s s.cps[i]!.work).length = 0
  · rw [free_0 e]; exact h.mono (by omega)
  · rw [free_1 e]
    have h1 := queS_len h s.cps[i]!.work
    have h2 := srvQ_len (queS s s.cps[i]!.work)
    exact setQ_ok h _ (by omega)
def recOk (cs : List Cp) (w : Int) (b : Option Nat) (k : Nat) : Prop := cs[k]!.work = w ∧ cs[k]!.place = 2 ∧ cs[k]!.rc = false ∧ ∀ i, b = some i → cs[k]!.due < cs[i]!.due
def recC (cs : List Cp) (w : Int) (b : Option Nat) (k : Nat) : Bool := decide (cs[k]!.work = w) && decide (cs[k]!.place = 2) && !cs[k]!.rc && (match b with | none => true | some i => decide (cs[k]!.due < cs[i]!.due))
def recB (cs : List Cp) (w : Int) : Nat → Option Nat
  | 0 => none
  | k + 1 => if recC cs w (recB cs w k) k = true then some k else recB cs w k
theorem rec_y {cs : List Cp} {w : Int} {k : Nat} (h : recC cs w (recB cs w k) k = true) : recB cs w (k + 1) = some k := if_pos h
theorem rec_n {cs : List Cp} {w : Int} {k : Nat} (h : recC cs w (recB cs w k) k = false) : recB cs w (k + 1) = recB cs w k := if_neg (by rw [h]; decide)
theorem rec_lt {cs : List Cp} {w : Int} : ∀ {k i : Nat}, recB cs w k = some i → i < k ∧ cs[i]!.work = w ∧ cs[i]!.place = 2 ∧ cs[i]!.rc = false
  | k + 1, i, h => by
    rw [recB] at h
    split at h
    · rename_i e
      cases h
      unfold recC at e
      simp only [Bool.and_eq_true, decide_eq_true_eq] at e
      exact ⟨by omega, e.1.1.1, e.1.1.2, nt_f e.1.2⟩
    · have := rec_lt h
      exact ⟨by omega, this.2⟩
def min3 (a b c : Int) : Int := if (if a ≤ b then a else b) ≤ c then (if a ≤ b then a else b) else c
def rclC (c : Cp) (now : Int) : Cp := { c with due := min (min c.due (now + 7)) 1000000, rc := true }
def recS (s : St) (w : Int) : St := match recB s.cps w s.cps.length with
  | none => s
  | some i => ⟨s.now, s.cps.set i (rclC s.cps[i]! s.now), s.lns⟩
def ownI (s : St) (p w : Int) : Int := idxF (fun c : Cp => decide (c.place ≠ 1 ∧ c.work = w ∧ c.pat = p)) s.cps
def useB (s : St) (h : Int) : Bool := decide (0 ≤ idxF (fun c : Cp => decide (c.place = 3 ∧ c.hold = h)) s.cps) || decide (0 ≤ idxF (fun l : Ln => decide (0 ≤ idxF (fun x : Hd => decide (x.id = h)) l.q)) s.lns)
def cpI (s : St) (i : Int) : Int := idxF (fun c : Cp => decide (c.id = i)) s.cps
def atC (s : St) (i : Int) : Cp := s.cps[(cpI s i).toNat]!
def newC (x : Sp) : Cp := ⟨x.copy, x.work, x.lib, 1, 0, 0, 0, false⟩
def addE (s : St) (x : Sp) : Int := if ¬ (idB x.copy ∧ idB x.work) then 2 else if ¬ nmOk x.lib then 8 else if 0 ≤ cpI s x.copy then 10 else if s.cps.length = 60 then 20 else 0
def insC (s : St) (x : Sp) : St := ⟨s.now, s.cps.take (kpos (·.id) s.cps x.copy) ++ newC x :: s.cps.drop (kpos (·.id) s.cps x.copy), s.lns⟩
def addS (s : St) (x : Sp) : St := if addE s x = 0 then freeS (insC s x) (kpos (·.id) s.cps x.copy) else s
def remE (s : St) (x : Sp) : Int := if ¬ 0 ≤ cpI s x.copy then 9 else if (atC s x.copy).place ≠ 1 then 26 else 0
def remS (s : St) (x : Sp) : St := if remE s x = 0 then ⟨s.now, s.cps.filter (fun c => !decide (c.id = x.copy)), s.lns⟩ else s
def lenE (s : St) (x : Sp) : Int :=
  if ¬ idB x.pat then 2 else if ¬ 0 ≤ cpI s x.copy then 9 else
  if (atC s x.copy).place = 2 ∨ ((atC s x.copy).place = 3 ∧ (atC s x.copy).pat ≠ x.pat) then 26 else
  if (atC s x.copy).place = 1 ∧ 0 ≤ ownI s x.pat (atC s x.copy).work then 10 else
  if 5 ≤ (idsF (fun c => decide (c.place = 2 ∧ c.pat = x.pat)) s.cps).length then 3 else if 1000000 < s.now + 28 then 25 else 0
def lentC (c : Cp) (p now : Int) : Cp := { c with place := 2, pat := p, due := now + 28, hold := 0, rc := false }
def lenS (s : St) (x : Sp) : St := if lenE s x = 0 then ⟨s.now, s.cps.set (cpI s x.copy).toNat (lentC (atC s x.copy) x.pat s.now), s.lns⟩ else s
def bakE (s : St) (x : Sp) : Int := if ¬ 0 ≤ cpI s x.copy then 9 else if (atC s x.copy).place ≠ 2 then 11 else 0
def bakS (s : St) (x : Sp) : St := if bakE s x = 0 then freeS s (cpI s x.copy).toNat else s
def renE (s : St) (x : Sp) : Int := if ¬ 0 ≤ cpI s x.copy then 9 else if (atC s x.copy).place ≠ 2 then 11 else if (atC s x.copy).rc = true ∨ 0 < (queS s (atC s x.copy).work).length then 26 else if 1000000 < s.now + 28 then 25 else 0
def rnwC (c : Cp) (now : Int) : Cp := { c with due := now + 28 }
def renS (s : St) (x : Sp) : St := if renE s x = 0 then ⟨s.now, s.cps.set (cpI s x.copy).toNat (rnwC (atC s x.copy) s.now), s.lns⟩ else s
def patI (q : List Hd) (p : Int) : Int := idxF (fun h : Hd => decide (h.pat = p)) q
def askE (s : St) (x : Sp) : Int :=
  if ¬ (idB x.work ∧ idB x.pat ∧ idB x.hold ∧ inB x.cls 1 3) then 2 else if cntP s.cps x.work 1 = 0 ∧ cntP s.cps x.work 2 = 0 ∧ cntP s.cps x.work 3 = 0 then 9 else
  if useB s x.hold = true ∨ 0 ≤ ownI s x.pat x.work ∨ 0 ≤ patI (queS s x.work) x.pat then 10 else if (queS s x.work).length = 60 then 20 else 0
def hldX (s : St) (x : Sp) : Hd := ⟨x.hold, x.pat, x.cls, s.now, 0⟩
def shlI (s : St) (w : Int) : Int := idxF (fun c : Cp => decide (c.work = w ∧ c.place = 1)) s.cps
def putS (s : St) (x : Sp) : St := ⟨s.now, s.cps, setQ s.lns x.work (putQ (queS s x.work) (hldX s x))⟩
def askS (s : St) (x : Sp) : St :=
  if askE s x = 0 then (if 0 ≤ shlI s x.work then ⟨s.now, s.cps.set (shlI s x.work).toNat (wtC s.cps[(shlI s x.work).toNat]! (hldX s x) s.now), s.lns⟩ else recS (putS s x) x.work) else s
def wtI (s : St) (h : Int) : Int := idxF (fun c : Cp => decide (c.place = 3 ∧ c.hold = h)) s.cps
def lnI (s : St) (h : Int) : Int := idxF (fun l : Ln => decide (canE l.q h = 0)) s.lns
def clcE (s : St) (x : Sp) : Int := if 0 ≤ wtI s x.hold then 0 else if 0 ≤ lnI s x.hold then 0 else 9
def clcS (s : St) (x : Sp) : St :=
  if 0 ≤ wtI s x.hold then freeS s (wtI s x.hold).toNat else if 0 ≤ lnI s x.hold then ⟨s.now, s.cps, setQ s.lns s.lns[(lnI s x.hold).toNat]!.work (canQ s.lns[(lnI s x.hold).toNat]!.q x.hold)⟩ else s
def lateC (s : St) (k : Nat) : Bool := decide (s.cps[k]!.place = 3 ∧ s.cps[k]!.due < s.now)
def lateS (s : St) : Nat → St
  | 0 => s
  | k + 1 => if lateC (lateS s k) k = true then freeS (lateS s k) k else lateS s k
theorem late_now (s : St) : ∀ k, (lateS s k).now = s.now
  | 0 => rfl
  | k + 1 => by
    rw [lateS]
    split
    · rw [free_now, late_now s k]
    · exact late_now s k
theorem late_len (s : St) : ∀ k, (lateS s k).cps.length = s.cps.length
  | 0 => rfl
  | k + 1 => by
    rw [lateS]
    split
    · rw [free_len, late_len s k]
    · exact late_len s k
theorem late_ok {s : St} {n : Nat} (h : okL s.lns n) : ∀ k, okL (lateS s k).lns (n + k)
  | 0 => h
  | k + 1 => by
    rw [lateS]
    split
    · exact free_ok (late_ok h k) k
    · exact (late_ok h k).mono (by omega)
theorem late_y {s : St} {k : Nat} (h : lateC (lateS s k) k = true) : lateS s (k + 1) = freeS (lateS s k) k := if_pos h
theorem late_n {s : St} {k : Nat} (h : ¬ lateC (lateS s k) k = true) : lateS s (k + 1) = lateS s k := if_neg h
def waiE (s : St) (x : Sp) : Int := if ¬ inB x.days 1 1000 then 2 else if 1000000 < s.now + x.days then 25 else 0
def waiS (s : St) (x : Sp) : St := if waiE s x = 0 then lateS ⟨s.now + x.days, s.cps, s.lns⟩ s.cps.length else s
def zeroS : St := ⟨0, [], []⟩
def stE (s : St) (x : Sp) : Int := if x.kind = 1 then addE s x else if x.kind = 2 then remE s x else if x.kind = 3 then lenE s x else if x.kind = 4 then bakE s x else if x.kind = 5 then renE s x else if x.kind = 6 then askE s x else if x.kind = 7 then clcE s x else waiE s x
def stS (s : St) (x : Sp) : St := if x.kind = 1 then addS s x else if x.kind = 2 then remS s x else if x.kind = 3 then lenS s x else if x.kind = 4 then bakS s x else if x.kind = 5 then renS s x else if x.kind = 6 then askS s x else if x.kind = 7 then clcS s x else waiS s x
def doOk (s : St) (x : Sp) : Prop := validS s ∧ inB x.kind 1 8 ∧ fldS x = x
instance (s : St) (x : Sp) : Decidable (doOk s x) := by unfold doOk; infer_instance
def doE (s : St) (x : Sp) : Int := if doOk s x then stE s x else 1
def doS (s : St) (x : Sp) : St := if doE s x = 0 then stS s x else zeroS
theorem valid_ok {s : St} (h : validS s) : okL s.lns 60 := ⟨asc_of fun k hk k0 => (h.2.2.2.2.1 k hk).2.1 k0, h.2.2.1, fun l hl => by
  obtain ⟨i, hi, rfl⟩ := List.getElem_of_mem hl
  have := (h.2.2.2.2.1 i hi).1.2.1.2
  rwa [getElem!_pos s.lns i hi] at this⟩
theorem valid_asc {s : St} (h : validS s) : asc (·.id) s.cps := asc_of fun k hk k0 => (h.2.2.2.1 k hk).2 k0
end Go.D58
end
section
namespace Go.Proofs.Ytmekkjehkcjpdaa
open Go Go.RowKit Go.H Go.D57 Go.D58



set_option maxRecDepth 8000 in
theorem setQueue1_h {l : Ln} {n : Int} :
    Con Try.prog 86 [vA (eLn l), vI n] [] (vI (cmpI l.work n)) [] := by
 refine Con.enterL (n := 9) Try.func86 rfl rfl rfl (fun τ w ok vs hin => ?_)
 clear hin
 refine W.rg ?_
 refine SL.memS (O.box (is := [_, _]) 101 rfl rfl (by simp) rfl rfl Taken.no) rfl rfl (S' := (101, _) :: _) rfl ?_
 refine SL.an rfl rfl (E.fo (W.rg ?_))
 refine SL.val (O.fld_ref (o' := 0) rfl Try.underlying51 rfl (m := 0) (by kernel_rfl) rfl rfl Taken.no) ?_
 refine SL.val (O.ld1 (PtI.ref rfl rfl) rfl Try.underlying3 rfl rfl Taken.no) ?_
 refine SL.mv rfl rfl ?_
 refine SL.val (O.callp rfl rfl rfl (cmpCompare_h (a := l.work) (b := n)) (.cons (ArgOk.same rfl) (.cons (ArgOk.same rfl) .nil)) hcallOk38 rfl Taken.no) ?_
 refine SL.an rfl rfl (E.fo (W.ret ?_))
 refine E.fin (rs := [_]) (rn []) (.inl rfl) rfl (.cons (ResOne.tmp rfl) .nil) ?_ ?_ rfl (fixL_spec rfl)
 ·skip
  rfl
 · exact SubS.nil

set_option maxRecDepth 8000 in
theorem add1_h {c : Cp} {n : Int} :
    Con Try.prog 46 [vA (eCp c), vI n] [] (vI (cmpI c.id n)) [] := by
 refine Con.enterL (n := 9) Try.func46 rfl rfl rfl (fun τ w ok vs hin => ?_)
 clear hin
 refine W.rg ?_
 refine SL.memS (O.box (is := [_, _, _, _, _, _, _, _]) 101 rfl rfl (by simp) rfl rfl Taken.no) rfl rfl (S' := (101, _) :: _) rfl ?_
 refine SL.an rfl rfl (E.fo (W.rg ?_))
 refine SL.val (O.fld_ref (o' := 0) rfl Try.underlying43 rfl (m := 0) (by kernel_rfl) rfl rfl Taken.no) ?_
 refine SL.val (O.ld1 (PtI.ref rfl rfl) rfl Try.underlying3 rfl rfl Taken.no) ?_
 refine SL.mv rfl rfl ?_
 refine SL.val (O.callp rfl rfl rfl (cmpCompare_h (a := c.id) (b := n)) (.cons (ArgOk.same rfl) (.cons (ArgOk.same rfl) .nil)) hcallOk38 rfl Taken.no) ?_
 refine SL.an rfl rfl (E.fo (W.ret ?_))
 refine E.fin (rs := [_]) (rn []) (.inl rfl) rfl (.cons (ResOne.tmp rfl) .nil) ?_ ?_ rfl (fixL_spec rfl)
 ·skip
  rfl
 · exact SubS.nil

set_option maxRecDepth 8000 in
theorem bsLine_h {f : Nat} {caps : List UV} {q : List Ln} {h : Int} (hok : G.callOk Try.prog f = true) (hpr : ∀ x, Con Try.prog f ([vA (eLn x), vI h] ++ caps.map .u) [] (vI (cmpI x.work h)) []) (hv : asc (fun c : Ln => c.work) q) (hql : q.length ≤ 1000000) :
    Con Try.prog 85 [vL 2 (q.map eLn), vI h, .u (.clo (.func f) [] caps)] [] (.tup [vI ((kpos (fun c : Ln => c.work) q h) : Nat), vB (kfnd (fun c : Ln => c.work) q h)]) [] := by
 obtain ⟨i51, hi51, hz51, hs51, hb51⟩ := hinf51
 refine Con.enterL (n := 49) Try.func85 rfl rfl rfl (fun τ w ok vs hin => ?_)
 have hl0 := hin.len (i := 0) rfl
 try rw [List.length_map] at hl0
 clear hin
 refine W.rg (SL.an rfl rfl (SL.an rfl rfl (E.fo (W.rg (SL.mv rfl rfl ?_)))))
 refine SL.val (O.lenE (SlOf.fz rfl (by decide)) (by first | exact List.length_map _ | rfl) Try.underlying26 rfl Taken.no) ?_
 refine SL.an rfl rfl (E.fo (W.rg (SL.mv rfl rfl (SL.an rfl rfl (SL.an rfl rfl (E.fo (W.seq (W.block ?_))))))))
 refine W.loopx2 (fun (i : Nat) (j : Nat) => [(9, vI (i : Int)), (10, vI (j : Int))]) (fun (i : Nat) (j : Nat) => []) (fun (i : Nat) (j : Nat) => i ≤ j ∧ j ≤ q.length ∧ (∀ m, m < i → (fun c : Ln => c.work) q[m]! < h) ∧ (∀ m, j ≤ m → m < q.length → ¬ (fun c : Ln => c.work) q[m]! < h)) (fun (i : Nat) (j : Nat) => j - i) (0) (q.length) (rn []) (.cons (t := 0) rfl (.cons (t := 1) rfl (.cons (t := 2) rfl (.cons (t := 6) rfl (.cons (t := 7) rfl (.cons (t := 8) rfl .nil)))))) .nil rfl ?_ ?_ rfl rfl ?_ ?_
 · exact (SubF.cons rfl (SubF.cons rfl SubF.nil))
 · exact SubS.nil
 ·skip
  exact ⟨by omega, by omega, fun m h => by omega, fun m h1 h2 => by omega⟩
 intro i j hinv
 obtain ⟨hij, hj, hlo, hhi⟩ := hinv
 have hm : i < j → (i + j) / 2 < j ∧ i ≤ (i + j) / 2 := fun h => by omega
 refine W.seq (W.rg (SL.mv rfl rfl (SL.mv rfl rfl ?_)))
 refine SL.val (O.det (fun _ => G.R.lss rfl rfl) rfl Taken.no) ?_
 refine E.fo ?_
 first | refine W.cond_d rfl (fun hc1 => ?_) (fun hc1 => ?_) | refine W.cond_nd rfl (fun hc1 => ?_) (fun hc1 => ?_) | refine W.cond rfl (fun hc1 => ?_) (fun hc1 => ?_)
 ·skip
  refine W.skip (E.to (W.block (W.rg (SL.mv rfl rfl (SL.mv rfl rfl ?_)))))
  refine SL.val (O.det (fun _ => by first | exact G.R.add64 rfl rfl (by omega) | exact G.R.add rfl rfl) rfl Taken.no) ?_
  refine SL.val (O.det (fun _ => by first | exact G.R.conv_in rfl Try.underlying3 Try.underlying106 (IntWalk.u64_in _ (by omega)) | exact G.R.conv rfl Try.underlying3 Try.underlying106) rfl Taken.no) ?_
  refine SL.val (O.det (fun _ => G.R.shr_c (q := 2) rfl rfl (by decide) (by decide)) rfl Taken.no) ?_
  refine SL.val (O.det (fun _ => by first | exact G.R.conv64 rfl Try.underlying106 Try.underlying3 (by omega) | exact G.R.conv rfl Try.underlying106 Try.underlying3) rfl Taken.no) ?_
  refine SL.an rfl rfl (E.fo (W.rg (SL.mv rfl rfl (SL.mv rfl rfl (SL.mv rfl rfl ?_)))))
  refine SL.val (O.idx_fz (i := (i + j) / 2) rfl rfl (by omega) (row_get (by omega)) Try.underlying26 hi51 hs51 rfl Taken.no) ?_
  refine SL.val (O.ldU (m := 2) (PtU.fz rfl) rfl Try.underlying51 rfl (by kernel_rfl) rfl Taken.no) ?_
  refine SL.mv rfl rfl ?_
  refine SL.val (O.callp rfl rfl rfl (hpr q[(i + j) / 2]!) (.cons (ArgOk.same rfl) (.cons (ArgOk.same rfl) (ArgsOk.caps caps))) hok rfl Taken.no) ?_
  refine SL.val (O.det (fun _ => G.R.lss rfl rfl) rfl Taken.no) ?_
  refine E.fo ?_
  refine W.pick (K:=[(0,_),(1,_),(2,_),(6,_),(7,_),(8,_),(9,_),(10,_),(11,_),(31,_)]) (Z:=[]) ⟨rfl,rfl,rfl,rfl,rfl,rfl,rfl,rfl,rfl,rfl,trivial⟩ trivial ?_
  first | refine W.cond_d rfl (fun hc2 => ?_) (fun hc2 => ?_) | refine W.cond_nd rfl (fun hc2 => ?_) (fun hc2 => ?_) | refine W.cond rfl (fun hc2 => ?_) (fun hc2 => ?_)
  ·skip
   refine W.region (SL.mv rfl rfl ?_)
   refine SL.val (O.det (fun _ => by first | exact G.R.add64 rfl rfl (by omega) | exact G.R.add rfl rfl) rfl Taken.no) ?_
   refine SL.an rfl rfl (SL.nil (E.inn ?_))
   refine E.again (((i + j) / 2 + 1), (j)) (rn []) ?_ ?_ rfl (fixL_spec rfl) ?_ ?_
   · exact (SubF.cons rfl (SubF.cons rfl (SubF.cons rfl (SubF.cons rfl (SubF.cons rfl (SubF.cons rfl (SubF.cons rfl (SubF.cons rfl SubF.nil))))))))
   · exact SubS.nil
   ·try dsimp only
    exact ⟨by omega, by omega, kbs_lo hv (by omega) (cmpI_neg.1 (by assumption)), hhi⟩
   · (try dsimp only); omega
  refine W.region (SL.mv rfl rfl (SL.an rfl rfl (SL.nil (E.inn ?_))))
  refine E.again ((i), ((i + j) / 2)) (rn []) ?_ ?_ rfl (fixL_spec rfl) ?_ ?_
  · exact (SubF.cons rfl (SubF.cons rfl (SubF.cons rfl (SubF.cons rfl (SubF.cons rfl (SubF.cons rfl (SubF.cons rfl (SubF.cons rfl SubF.nil))))))))
  · exact SubS.nil
  ·try dsimp only
   exact ⟨by omega, by omega, hlo, kbs_hi hv (fun e => absurd (cmpI_neg.2 e) (by assumption))⟩
  · (try dsimp only); omega
 refine W.exit (E.th (E.th (E.hit (E.to (W.rg ?_)))))
 obtain rfl : i = j := by omega
 have hpi := kpos_eq hv hj hlo hhi
 refine SL.mv rfl rfl (SL.mv rfl rfl (SL.mv rfl rfl ?_))
 refine SL.val (O.det (fun _ => G.R.lss rfl rfl) rfl Taken.no) ?_
 refine SL.mv rfl rfl ?_
 refine SL.case (j := 4) (g := 39) (want := true) rfl rfl (fun hg3 => ?_) (fun hg3 => ?_)
 ·skip
  first | have hg3p := G.gA1 hg3 | have hg3p := G.gA2 hg3 | have hg3p := hg3
  refine SL.val (O.move rfl rfl (Taken.yes rfl rfl hg3)) ?_
  refine SL.val (O.move rfl rfl (Taken.yes rfl rfl hg3)) ?_
  refine SL.val (O.move rfl rfl (Taken.yes rfl rfl hg3)) ?_
  refine SL.val (O.idx_fz rfl rfl (rfl) (row_get (by omega)) Try.underlying26 hi51 hs51 rfl (Taken.yes rfl rfl hg3)) ?_
  refine SL.val (O.ldU (m := 2) (PtU.fz rfl) rfl Try.underlying51 rfl (by kernel_rfl) rfl (Taken.yes rfl rfl hg3)) ?_
  refine SL.val (O.move rfl rfl (Taken.yes rfl rfl hg3)) ?_
  refine SL.val (O.callp rfl rfl rfl (hpr q[i]!) (.cons (ArgOk.same rfl) (.cons (ArgOk.same rfl) (ArgsOk.caps caps))) hok rfl (Taken.yes rfl rfl hg3)) ?_
  refine SL.val (O.det (fun _ => G.R.eql rfl rfl) rfl (Taken.yes rfl rfl hg3)) ?_
  refine SL.val (O.pick_t rfl hg3 rfl rfl Taken.no) ?_
  refine SL.an rfl rfl (SL.an rfl rfl (E.fo ?_))
  refine W.pick (K:=[(6,_),(7,_)]) (Z:=[]) ⟨rfl,rfl,trivial⟩ trivial ?_
  refine W.ret ?_
  refine E.fin (rs := [_, _]) (rn []) (.inl rfl) rfl (.cons (ResOne.tmp rfl) (.cons (ResOne.tmp rfl) .nil)) ?_ ?_ rfl (fixL_spec rfl)
  ·skip
   rw [← hpi, kfnd, ← hpi]
   first | rw [decide_eq_true (by assumption)] | rw [decide_eq_false (by assumption)]
   rfl
  · exact SubS.nil
 first | have hg3p := G.gA5 hg3 | have hg3p := G.gA6 hg3 | have hg3p := hg3
 refine SL.sk rfl rfl rfl hg3 (SL.sk rfl rfl rfl hg3 (SL.sk rfl rfl rfl hg3 (SL.sk rfl rfl rfl hg3 (SL.sk rfl rfl rfl hg3 (SL.sk rfl rfl rfl hg3 (SL.sk rfl rfl rfl hg3 (SL.sk rfl rfl rfl hg3 ?_)))))))
 refine SL.val (O.pick_f rfl (G.ne_t hg3) rfl rfl Taken.no) ?_
 refine SL.an rfl rfl (SL.an rfl rfl (E.fo ?_))
 refine W.pick (K:=[(6,_),(7,_)]) (Z:=[]) ⟨rfl,rfl,trivial⟩ trivial ?_
 refine W.ret ?_
 refine E.fin (rs := [_, _]) (rn []) (.inl rfl) rfl (.cons (ResOne.tmp rfl) (.cons (ResOne.tmp rfl) .nil)) ?_ ?_ rfl (fixL_spec rfl)
 ·skip
  rw [← hpi, kfnd, ← hpi]
  first | rw [decide_eq_true (by assumption)] | rw [decide_eq_false (by assumption)]
  rfl
 · exact SubS.nil

set_option maxRecDepth 8000 in
theorem bsCopy_h {f : Nat} {caps : List UV} {q : List Cp} {h : Int} (hok : G.callOk Try.prog f = true) (hpr : ∀ x, Con Try.prog f ([vA (eCp x), vI h] ++ caps.map .u) [] (vI (cmpI x.id h)) []) (hv : asc (fun c : Cp => c.id) q) (hql : q.length ≤ 1000000) :
    Con Try.prog 45 [vL 8 (q.map eCp), vI h, .u (.clo (.func f) [] caps)] [] (.tup [vI ((kpos (fun c : Cp => c.id) q h) : Nat), vB (kfnd (fun c : Cp => c.id) q h)]) [] := by
 obtain ⟨i43, hi43, hz43, hs43, hb43⟩ := hinf43
 refine Con.enterL (n := 49) Try.func45 rfl rfl rfl (fun τ w ok vs hin => ?_)
 have hl0 := hin.len (i := 0) rfl
 try rw [List.length_map] at hl0
 clear hin
 refine W.rg (SL.an rfl rfl (SL.an rfl rfl (E.fo (W.rg (SL.mv rfl rfl ?_)))))
 refine SL.val (O.lenE (SlOf.fz rfl (by decide)) (by first | exact List.length_map _ | rfl) Try.underlying25 rfl Taken.no) ?_
 refine SL.an rfl rfl (E.fo (W.rg (SL.mv rfl rfl (SL.an rfl rfl (SL.an rfl rfl (E.fo (W.seq (W.block ?_))))))))
 refine W.loopx2 (fun (i : Nat) (j : Nat) => [(9, vI (i : Int)), (10, vI (j : Int))]) (fun (i : Nat) (j : Nat) => []) (fun (i : Nat) (j : Nat) => i ≤ j ∧ j ≤ q.length ∧ (∀ m, m < i → (fun c : Cp => c.id) q[m]! < h) ∧ (∀ m, j ≤ m → m < q.length → ¬ (fun c : Cp => c.id) q[m]! < h)) (fun (i : Nat) (j : Nat) => j - i) (0) (q.length) (rn []) (.cons (t := 0) rfl (.cons (t := 1) rfl (.cons (t := 2) rfl (.cons (t := 6) rfl (.cons (t := 7) rfl (.cons (t := 8) rfl .nil)))))) .nil rfl ?_ ?_ rfl rfl ?_ ?_
 · exact (SubF.cons rfl (SubF.cons rfl SubF.nil))
 · exact SubS.nil
 ·skip
  exact ⟨by omega, by omega, fun m h => by omega, fun m h1 h2 => by omega⟩
 intro i j hinv
 obtain ⟨hij, hj, hlo, hhi⟩ := hinv
 have hm : i < j → (i + j) / 2 < j ∧ i ≤ (i + j) / 2 := fun h => by omega
 refine W.seq (W.rg (SL.mv rfl rfl (SL.mv rfl rfl ?_)))
 refine SL.val (O.det (fun _ => G.R.lss rfl rfl) rfl Taken.no) ?_
 refine E.fo ?_
 first | refine W.cond_d rfl (fun hc1 => ?_) (fun hc1 => ?_) | refine W.cond_nd rfl (fun hc1 => ?_) (fun hc1 => ?_) | refine W.cond rfl (fun hc1 => ?_) (fun hc1 => ?_)
 ·skip
  refine W.skip (E.to (W.block (W.rg (SL.mv rfl rfl (SL.mv rfl rfl ?_)))))
  refine SL.val (O.det (fun _ => by first | exact G.R.add64 rfl rfl (by omega) | exact G.R.add rfl rfl) rfl Taken.no) ?_
  refine SL.val (O.det (fun _ => by first | exact G.R.conv_in rfl Try.underlying3 Try.underlying106 (IntWalk.u64_in _ (by omega)) | exact G.R.conv rfl Try.underlying3 Try.underlying106) rfl Taken.no) ?_
  refine SL.val (O.det (fun _ => G.R.shr_c (q := 2) rfl rfl (by decide) (by decide)) rfl Taken.no) ?_
  refine SL.val (O.det (fun _ => by first | exact G.R.conv64 rfl Try.underlying106 Try.underlying3 (by omega) | exact G.R.conv rfl Try.underlying106 Try.underlying3) rfl Taken.no) ?_
  refine SL.an rfl rfl (E.fo (W.rg (SL.mv rfl rfl (SL.mv rfl rfl (SL.mv rfl rfl ?_)))))
  refine SL.val (O.idx_fz (i := (i + j) / 2) rfl rfl (by omega) (row_get (by omega)) Try.underlying25 hi43 hs43 rfl Taken.no) ?_
  refine SL.val (O.ldU (m := 8) (PtU.fz rfl) rfl Try.underlying43 rfl (by kernel_rfl) rfl Taken.no) ?_
  refine SL.mv rfl rfl ?_
  refine SL.val (O.callp rfl rfl rfl (hpr q[(i + j) / 2]!) (.cons (ArgOk.same rfl) (.cons (ArgOk.same rfl) (ArgsOk.caps caps))) hok rfl Taken.no) ?_
  refine SL.val (O.det (fun _ => G.R.lss rfl rfl) rfl Taken.no) ?_
  refine E.fo ?_
  refine W.pick (K:=[(0,_),(1,_),(2,_),(6,_),(7,_),(8,_),(9,_),(10,_),(11,_),(31,_)]) (Z:=[]) ⟨rfl,rfl,rfl,rfl,rfl,rfl,rfl,rfl,rfl,rfl,trivial⟩ trivial ?_
  first | refine W.cond_d rfl (fun hc2 => ?_) (fun hc2 => ?_) | refine W.cond_nd rfl (fun hc2 => ?_) (fun hc2 => ?_) | refine W.cond rfl (fun hc2 => ?_) (fun hc2 => ?_)
  ·skip
   refine W.region (SL.mv rfl rfl ?_)
   refine SL.val (O.det (fun _ => by first | exact G.R.add64 rfl rfl (by omega) | exact G.R.add rfl rfl) rfl Taken.no) ?_
   refine SL.an rfl rfl (SL.nil (E.inn ?_))
   refine E.again (((i + j) / 2 + 1), (j)) (rn []) ?_ ?_ rfl (fixL_spec rfl) ?_ ?_
   · exact (SubF.cons rfl (SubF.cons rfl (SubF.cons rfl (SubF.cons rfl (SubF.cons rfl (SubF.cons rfl (SubF.cons rfl (SubF.cons rfl SubF.nil))))))))
   · exact SubS.nil
   ·try dsimp only
    exact ⟨by omega, by omega, kbs_lo hv (by omega) (cmpI_neg.1 (by assumption)), hhi⟩
   · (try dsimp only); omega
  refine W.region (SL.mv rfl rfl (SL.an rfl rfl (SL.nil (E.inn ?_))))
  refine E.again ((i), ((i + j) / 2)) (rn []) ?_ ?_ rfl (fixL_spec rfl) ?_ ?_
  · exact (SubF.cons rfl (SubF.cons rfl (SubF.cons rfl (SubF.cons rfl (SubF.cons rfl (SubF.cons rfl (SubF.cons rfl (SubF.cons rfl SubF.nil))))))))
  · exact SubS.nil
  ·try dsimp only
   exact ⟨by omega, by omega, hlo, kbs_hi hv (fun e => absurd (cmpI_neg.2 e) (by assumption))⟩
  · (try dsimp only); omega
 refine W.exit (E.th (E.th (E.hit (E.to (W.rg ?_)))))
 obtain rfl : i = j := by omega
 have hpi := kpos_eq hv hj hlo hhi
 refine SL.mv rfl rfl (SL.mv rfl rfl (SL.mv rfl rfl ?_))
 refine SL.val (O.det (fun _ => G.R.lss rfl rfl) rfl Taken.no) ?_
 refine SL.mv rfl rfl ?_
 refine SL.case (j := 4) (g := 39) (want := true) rfl rfl (fun hg3 => ?_) (fun hg3 => ?_)
 ·skip
  first | have hg3p := G.gA1 hg3 | have hg3p := G.gA2 hg3 | have hg3p := hg3
  refine SL.val (O.move rfl rfl (Taken.yes rfl rfl hg3)) ?_
  refine SL.val (O.move rfl rfl (Taken.yes rfl rfl hg3)) ?_
  refine SL.val (O.move rfl rfl (Taken.yes rfl rfl hg3)) ?_
  refine SL.val (O.idx_fz rfl rfl (rfl) (row_get (by omega)) Try.underlying25 hi43 hs43 rfl (Taken.yes rfl rfl hg3)) ?_
  refine SL.val (O.ldU (m := 8) (PtU.fz rfl) rfl Try.underlying43 rfl (by kernel_rfl) rfl (Taken.yes rfl rfl hg3)) ?_
  refine SL.val (O.move rfl rfl (Taken.yes rfl rfl hg3)) ?_
  refine SL.val (O.callp rfl rfl rfl (hpr q[i]!) (.cons (ArgOk.same rfl) (.cons (ArgOk.same rfl) (ArgsOk.caps caps))) hok rfl (Taken.yes rfl rfl hg3)) ?_
  refine SL.val (O.det (fun _ => G.R.eql rfl rfl) rfl (Taken.yes rfl rfl hg3)) ?_
  refine SL.val (O.pick_t rfl hg3 rfl rfl Taken.no) ?_
  refine SL.an rfl rfl (SL.an rfl rfl (E.fo ?_))
  refine W.pick (K:=[(6,_),(7,_)]) (Z:=[]) ⟨rfl,rfl,trivial⟩ trivial ?_
  refine W.ret ?_
  refine E.fin (rs := [_, _]) (rn []) (.inl rfl) rfl (.cons (ResOne.tmp rfl) (.cons (ResOne.tmp rfl) .nil)) ?_ ?_ rfl (fixL_spec rfl)
  ·skip
   rw [← hpi, kfnd, ← hpi]
   first | rw [decide_eq_true (by assumption)] | rw [decide_eq_false (by assumption)]
   rfl
  · exact SubS.nil
 first | have hg3p := G.gA5 hg3 | have hg3p := G.gA6 hg3 | have hg3p := hg3
 refine SL.sk rfl rfl rfl hg3 (SL.sk rfl rfl rfl hg3 (SL.sk rfl rfl rfl hg3 (SL.sk rfl rfl rfl hg3 (SL.sk rfl rfl rfl hg3 (SL.sk rfl rfl rfl hg3 (SL.sk rfl rfl rfl hg3 (SL.sk rfl rfl rfl hg3 ?_)))))))
 refine SL.val (O.pick_f rfl (G.ne_t hg3) rfl rfl Taken.no) ?_
 refine SL.an rfl rfl (SL.an rfl rfl (E.fo ?_))
 refine W.pick (K:=[(6,_),(7,_)]) (Z:=[]) ⟨rfl,rfl,trivial⟩ trivial ?_
 refine W.ret ?_
 refine E.fin (rs := [_, _]) (rn []) (.inl rfl) rfl (.cons (ResOne.tmp rfl) (.cons (ResOne.tmp rfl) .nil)) ?_ ?_ rfl (fixL_spec rfl)
 ·skip
  rw [← hpi, kfnd, ← hpi]
  first | rw [decide_eq_true (by assumption)] | rw [decide_eq_false (by assumption)]
  rfl
 · exact SubS.nil

end Go.Proofs.Ytmekkjehkcjpdaa
end
section
namespace Go.Proofs.Ytmekkjehkcjpdaa
open Go Go.RowKit Go.H Go.D57 Go.D58

theorem hcallOk85 : G.callOk Try.prog 85 = true := by kernel_rfl
theorem hcallOk86 : G.callOk Try.prog 86 = true := by kernel_rfl
theorem hcallOk87 : G.callOk Try.prog 87 = true := by kernel_rfl

theorem delete_clr {α β : Type} {q : List α} {i j : Nat} {f : α → β} {z : β} (hij : i < j) (hj : j ≤ q.length) :
    ((q.take i ++ q.drop j ++ q.drop (i + (q.length - j))).map f).take (i + (q.length - j)) ++ List.replicate (q.length - (i + (q.length - j))) z ++ ((q.take i ++ q.drop j ++ q.drop (i + (q.length - j))).map f).drop q.length = (q.take i ++ q.drop j).map f ++ List.replicate (j - i) z := by
  have h1 : (q.take i ++ q.drop j).length = i + (q.length - j) := by simp; omega
  have h2 : (q.take i ++ q.drop j ++ q.drop (i + (q.length - j))).length ≤ q.length := by rw [List.length_append, h1, List.length_drop]; omega
  rw [← List.map_take, ← List.map_drop, List.take_left' h1, List.drop_eq_nil_of_le h2, show q.length - (i + (q.length - j)) = j - i by omega]
  simp
theorem flat_H (l : List Hd) {t : TypeId} : (SB.data t 5 (l.map eH)).flatP := fun u hu => by
  obtain ⟨r, hr, hu⟩ := List.mem_flatten.1 hu
  obtain ⟨x, _, rfl⟩ := List.mem_map.1 hr
  simp [eH] at hu
  rcases hu with rfl | rfl | rfl | rfl | rfl <;> rfl
theorem set_lnR {ls : List Ln} {k : Nat} {q : List Hd} : (ls.map eLn).set k [uI ls[k]!.work, .sl 5 (q.map eH)] = (ls.set k ⟨ls[k]!.work, q⟩).map eLn := by rw [List.map_set]
theorem tr_row {ls : List Ln} {p : Nat} (hp : p ≤ ls.length) {z : List UV} : ((ls.take p).map eLn ++ List.replicate (ls.length + 1 - p) z)[p]? = some z := by
  have h1 : ((ls.take p).map eLn).length = p := by simp; omega
  rw [List.getElem?_append_right (by omega), h1, Nat.sub_self, List.getElem?_replicate, if_pos (by omega)]
theorem ins_ln {ls : List Ln} {p : Nat} {w : Int} {q : List Hd} (hp : p ≤ ls.length) {z : List UV} :
    ((((ls.take p).map eLn ++ List.replicate (ls.length + 1 - p) z).set p [uI w, .sl 5 (q.map eH)]).take (p + 1) ++ ((ls.drop p).map eLn) ++ (((ls.take p).map eLn ++ List.replicate (ls.length + 1 - p) z).set p [uI w, .sl 5 (q.map eH)]).drop (p + 1 + ((ls.drop p).map eLn).length)) = (ls.take p ++ ⟨w, q⟩ :: ls.drop p).map eLn := by
  have h1 : ((ls.take p).map eLn).length = p := by simp; omega
  have h2 : ((ls.take p).map eLn ++ List.replicate (ls.length + 1 - p) z).set p [uI w, .sl 5 (q.map eH)] = ((ls.take p).map eLn ++ [[uI w, .sl 5 (q.map eH)]]) ++ List.replicate (ls.length - p) z := by
    rw [List.set_append_right _ _ (by omega), h1, Nat.sub_self, show ls.length + 1 - p = (ls.length - p) + 1 by omega, List.replicate_succ, List.set_cons_zero]; simp
  have h3 : ((ls.take p).map eLn ++ [[uI w, UV.sl 5 (q.map eH)]]).length = p + 1 := by rw [List.length_append, h1]; rfl
  have h4 : (((ls.take p).map eLn ++ [[uI w, UV.sl 5 (q.map eH)]]) ++ List.replicate (ls.length - p) z).drop (p + 1 + ((ls.drop p).map eLn).length) = [] := List.drop_eq_nil_of_le (by rw [List.length_append, h3]; simp)
  rw [h2, List.take_left' h3, h4]; simp

set_option maxRecDepth 8000 in
theorem deleteLn {q : List Ln} (i j : Nat) (hij : i < j) (hj : j ≤ q.length) (_ : q.length ≤ 1000000) :
    Con Try.prog 87 [.own 0, vI (i : Int), vI (j : Int)] [(0, .data 51 2 (q.map eLn))] (.own 1) [(1, .data 51 2 ((q.take i ++ q.drop j).map eLn))] := by
 have hdl : (q.take i ++ q.drop j).length = i + (q.length - j) := by simp; omega
 have hdm : ((q.take i ++ q.drop j).map eLn).length = i + (q.length - j) := by rw [List.length_map, hdl]
 obtain ⟨i51, hi51, hz51, hs51, hb51⟩ := hinf51
 refine Con.enterL (n := 33) Try.func87 rfl rfl rfl (fun τ w ok vs hin => ?_)
 clear hin
 refine W.rg (SL.an rfl rfl (E.fo (W.rg (SL.mv rfl rfl (SL.mv rfl rfl (SL.mv rfl rfl (SL.mv rfl rfl ?_)))))))
 refine SL.val (O.lenE (SlOf.own rfl rfl) (by first | exact List.length_map _ | rfl) Try.underlying26 rfl Taken.no) ?_
 refine SL.val (O.sub3_own (i := i) (j := j) (q := q.length) rfl rfl rfl (by first | rfl | omega) rfl (by first | rfl | omega) rfl (by first | rfl | omega) (by omega) (by omega) (by first | omega | (rw [List.length_map]; omega)) Try.underlying26 hi51 rfl Taken.no) ?_
 refine E.fo (W.seq (W.rg (SL.mv rfl rfl (SL.mv rfl rfl ?_))))
 refine SL.val (O.det (fun _ => G.R.mv (G.R.eql rfl rfl) (congrArg Value.bool (decide_eq_false (by omega)))) rfl Taken.no) ?_
 refine E.fo ?_
 refine W.cond_f rfl ?_
 refine W.skip (E.to (W.rg (SL.mv rfl rfl ?_)))
 refine SL.val (O.lenE (SlOf.own rfl rfl) (by first | exact List.length_map _ | rfl) Try.underlying26 rfl Taken.no) ?_
 refine SL.an rfl rfl (E.fo (W.seq ?_))
 refine W.draw [⟨[], [], [], [0]⟩, ⟨[], [], [], []⟩, ⟨[0], [], [], []⟩, ⟨[], [], [], [0]⟩, ⟨[], [], [], []⟩, ⟨[0], [], [], []⟩, ⟨[0], [0], [], []⟩, ⟨[], [], [], [0]⟩] rfl (by kernel_rfl) (by kernel_rfl) rfl rfl ?_
 refine WH.mv rfl rfl rfl (WH.mv rfl rfl rfl ?_)
 refine WH.val (O.sub_own (j := i) rfl rfl Bnd.no (Bnd.at rfl (by first | rfl | omega)) (by omega) (by rw [List.length_map]; omega) Try.underlying26 hi51 hs51 rfl Taken.no) rfl rfl ?_
 refine WH.mv rfl rfl rfl (WH.mv rfl rfl rfl ?_)
 refine WH.val (O.sub_own (i := j) rfl rfl (Bnd.at rfl (by first | rfl | omega)) Bnd.no (by rw [List.length_map]; omega) (by exact Nat.le_refl _) Try.underlying26 hi51 hs51 rfl Taken.no) rfl rfl ?_
 refine WH.memS (O.appIn (m := i + (q.length - j)) rfl rfl (SlOf.osl rfl rfl) Try.underlying26 hi51 hs51 (by simp; omega) (by simp) (rows' := ((q.take i ++ q.drop j) ++ q.drop (i + (q.length - j))).map eLn) (by simp [List.take_of_length_le]) rfl Taken.no) rfl rfl rfl rfl rfl (S' := (0, _) :: _) rfl ?_
 refine WH.val (O.assign rfl rfl Taken.no) rfl rfl ?_
 refine WH.nil (E.to (W.rg (SL.mv rfl rfl (SL.mv rfl rfl ?_))))
 refine SL.val (O.lenE (n := i + (q.length - j)) (SlOf.osl rfl rfl) (by rw [List.drop_zero, List.length_take, List.length_map, List.length_append, hdl]; omega) Try.underlying26 rfl Taken.no) ?_
 refine SL.mv rfl rfl ?_
 refine SL.val (O.sub_osl (i := (i + (q.length - j))) (j := q.length) rfl rfl (Bnd.at rfl (by first | rfl | omega)) (Bnd.at rfl (by first | rfl | omega)) (by omega) (by rw [List.length_map, List.length_append, hdl, List.length_drop]; omega) Try.underlying26 hi51 hs51 rfl Taken.no) ?_
 refine SL.effS (O.clear (PartOf.osl rfl (by omega) (by rw [List.length_map, List.length_append, hdl, List.length_drop]; omega)) rfl Try.underlying26 hi51 hz51 rfl rfl rfl (rows' := (q.take i ++ q.drop j).map eLn ++ List.replicate (j - i) [uI 0, .sc (.slice none 0 0)]) (by exact delete_clr (f := eLn) hij hj) Taken.no) (S' := (0, _) :: _) rfl ?_
 refine E.fo ?_
 refine W.pick (K:=[(0,_),(6,_)]) (Z:=[(0,_)]) ⟨rfl,rfl,trivial⟩ ⟨rfl,trivial⟩ ?_
 refine W.rg (SL.mv rfl rfl ?_)
 refine SL.trunc 32 102 rfl rfl (rows' := (q.take i ++ q.drop j).map eLn) (by rw [List.take_left' hdm]) rfl rfl ?_
 refine SL.an rfl rfl (E.fo (W.ret ?_))
 refine E.fin (rs := [_]) (rn [(1, 102)]) (.inl rfl) rfl (.cons (ResOne.tmp rfl) .nil) ?_ ?_ rfl (fixL_spec rfl)
 ·skip
  rfl
 · exact (SubS.cons rfl SubS.nil)

set_option maxRecDepth 8000 in
theorem setQueue_h {s : St} {wk : Int} {q : List Hd} (ha : asc (fun l : Ln => l.work) s.lns) (hb : s.lns.length ≤ 1000) :
    Con Try.prog 58 [.ref 0 0, vI wk, vL 5 (q.map eH)] [(0, .cells 28 [.u (uI s.now), .own 1, .own 2]), (1, .data 43 8 ((s.cps).map eCp)), (2, .data 51 2 ((s.lns).map eLn))] (.tup []) [(0, .cells 28 [.u (uI s.now), .own 1, .own 3]), (1, .data 43 8 ((s.cps).map eCp)), (3, .data 51 2 (((setQ s.lns wk q)).map eLn))] := by
 have hpl := kpos_le (key := fun l : Ln => l.work) s.lns wk
 obtain ⟨i51, hi51, hz51, hs51, hb51⟩ := hinf51
 refine Con.enterL (n := 86) Try.func58 rfl rfl rfl (fun τ w ok vs hin => ?_)
 have hl2 := hin.len (i := 2) rfl
 try rw [List.length_map] at hl2
 clear hin
 refine W.rg (SL.mv rfl rfl ?_)
 refine SL.val (O.nilCheck rfl rfl rfl Taken.no) ?_
 refine SL.val (O.fld_ref (o' := 2) rfl Try.underlying28 rfl (m := 0) (by kernel_rfl) rfl rfl Taken.no) ?_
 refine SL.val (O.ld1 (PtI.ref rfl rfl) rfl Try.underlying26 rfl rfl Taken.no) ?_
 refine SL.mv rfl rfl ?_
 refine SL.memS (O.call (rn []) [2] rfl rfl rfl (bsLine_h (f := 86) (caps := []) (q := s.lns) (h := wk) hcallOk86 (fun x => setQueue1_h) ha (by omega)) (.cons (ArgOk.own rfl rfl) (.cons (ArgOk.same rfl) (.cons ArgOk.fnc .nil))) SubS.nil rfl rfl rfl rfl rfl (.inr ⟨rfl, fun x hx => by simp at hx⟩) hcallOk85 (r' := .tup [.u _, .u _]) rfl rfl Taken.no) rfl rfl (S' := _) rfl ?_
 refine SL.mv rfl rfl ?_
 refine SL.val (O.extract rfl rfl rfl Taken.no) ?_
 refine SL.val (O.extract rfl rfl rfl Taken.no) ?_
 refine SL.an rfl rfl (SL.an rfl rfl (E.fo (W.block (W.rg (SL.mv rfl rfl ?_)))))
 refine SL.val (O.lenE (SlOf.fz rfl (by decide)) (by first | exact List.length_map _ | rfl) Try.underlying40 rfl Taken.no) ?_
 refine SL.val (O.det (fun _ => G.R.eql rfl rfl) rfl Taken.no) ?_
 refine SL.mv rfl rfl ?_
 refine SL.case (j := 3) (g := 58) (want := true) rfl rfl (fun hg1 => ?_) (fun hg1 => ?_)
 ·skip
  first | have hg1p := G.gA1 hg1 | have hg1p := G.gA2 hg1 | have hg1p := hg1
  refine SL.val (O.move rfl rfl (Taken.yes rfl rfl hg1)) ?_
  refine SL.val (O.pick_t rfl hg1 rfl rfl Taken.no) ?_
  refine SL.an rfl rfl (E.fo ?_)
  first | refine W.cond_d rfl (fun hc2 => ?_) (fun hc2 => ?_) | refine W.cond_nd rfl (fun hc2 => ?_) (fun hc2 => ?_) | refine W.cond rfl (fun hc2 => ?_) (fun hc2 => ?_)
  ·skip
   have hfd : kfnd (fun l : Ln => l.work) s.lns wk = true := by first | assumption | simp_all
   have hq0 : q.length = 0 := by first | omega | simp_all
   have hlt := ((kfnd_iff ha).1 hfd).1
   refine W.region (SL.mv rfl rfl (SL.mv rfl rfl ?_))
   refine SL.val (O.nilCheck rfl rfl rfl Taken.no) ?_
   refine SL.val (O.fld_ref (o' := 2) rfl Try.underlying28 rfl (m := 0) (by kernel_rfl) rfl rfl Taken.no) ?_
   refine SL.val (O.ld1 (PtI.ref rfl rfl) rfl Try.underlying26 rfl rfl Taken.no) ?_
   refine SL.mv rfl rfl (SL.mv rfl rfl ?_)
   refine SL.val (O.det (fun _ => by first | exact G.R.add64 rfl rfl (by omega) | exact G.R.add rfl rfl) rfl Taken.no) ?_
   refine SL.memS (O.call (rn [(0, 2), (1, 101)]) [] rfl rfl rfl (deleteLn (q := s.lns) (kpos (fun l : Ln => l.work) s.lns wk) ((kpos (fun l : Ln => l.work) s.lns wk) + 1) (by omega) (by omega) (by omega)) (.cons (ArgOk.same rfl) (.cons (ArgOk.same rfl) (.cons (ArgOk.same rfl) .nil))) (SubS.cons rfl SubS.nil) rfl rfl rfl rfl rfl (.inl rfl) hcallOk87 (r' := .own 101) rfl rfl Taken.no) rfl rfl (S' := (101, .data _ _ _) :: (2, .dead) :: _) rfl ?_
   refine SL.val (O.nilCheck rfl rfl rfl Taken.no) ?_
   refine SL.val (O.fld_ref (o' := 2) rfl Try.underlying28 rfl (m := 0) (by kernel_rfl) rfl rfl Taken.no) ?_
   refine SL.effS (O.st_ref (m := 1) rfl rfl rfl (js := [_]) rfl rfl (by kernel_rfl) (by simp) (Nat.le_of_ble_eq_true rfl) rfl (is' := [_, _, _]) rfl Taken.no) (S' := (0, _) :: _) rfl ?_
   refine SL.nil (E.inn ?_)
   refine E.fin (rs := []) (rn [(3, 101)]) (.inr rfl) rfl .nil ?_ ?_ rfl (fixL_spec rfl)
   ·skip
    rfl
   · exact (SubS.cons rfl (SubS.cons rfl (SubS.val rfl (by exact sb_data (by rw [setQ_del hfd hq0])) SubS.nil)))
  have hnb : ¬ (q.length = 0 ∧ kfnd (fun l : Ln => l.work) s.lns wk = true) := by first | (rintro ⟨z1, z2⟩; simp_all; done) | (intro z; omega)
  refine W.rg (SL.mv rfl rfl ?_)
  refine SL.val (O.lenE (SlOf.fz rfl (by decide)) (by first | exact List.length_map _ | rfl) Try.underlying40 rfl Taken.no) ?_
  refine SL.val (O.det (fun _ => G.R.eql rfl rfl) rfl Taken.no) ?_
  refine SL.an rfl rfl (E.fo ?_)
  refine W.pick (K:=[(0,_),(1,_),(2,_),(6,_),(7,_),(72,_)]) (Z:=[(0,_),(1,_),(2,_)]) ⟨rfl,rfl,rfl,rfl,rfl,rfl,trivial⟩ ⟨rfl,rfl,rfl,trivial⟩ ?_
  first | refine W.cond_d rfl (fun hc3 => ?_) (fun hc3 => ?_) | refine W.cond_nd rfl (fun hc3 => ?_) (fun hc3 => ?_) | refine W.cond rfl (fun hc3 => ?_) (fun hc3 => ?_)
  ·skip
   refine W.skip (E.inn ?_)
   refine E.fin (rs := []) (rn [(3, 2)]) (.inr rfl) rfl .nil ?_ ?_ rfl (fixL_spec rfl)
   ·skip
    rfl
   · exact (SubS.cons rfl (SubS.cons rfl (SubS.val rfl (by exact sb_data (by rw [setQ_no (by simp_all) (by omega)])) SubS.nil)))
  refine W.rg (SL.mv rfl rfl (SL.an rfl rfl (E.fo ?_)))
  first | refine W.cond_d rfl (fun hc4 => ?_) (fun hc4 => ?_) | refine W.cond_nd rfl (fun hc4 => ?_) (fun hc4 => ?_) | refine W.cond rfl (fun hc4 => ?_) (fun hc4 => ?_)
  ·skip
   have hfd : kfnd (fun l : Ln => l.work) s.lns wk = true := by first | assumption | simp_all
   have hlt := ((kfnd_iff ha).1 hfd).1
   refine W.region (SL.mv rfl rfl ?_)
   refine SL.val (O.nilCheck rfl rfl rfl Taken.no) ?_
   refine SL.val (O.fld_ref (o' := 2) rfl Try.underlying28 rfl (m := 0) (by kernel_rfl) rfl rfl Taken.no) ?_
   refine SL.val (O.ld1 (PtI.ref rfl rfl) rfl Try.underlying26 rfl rfl Taken.no) ?_
   refine SL.mv rfl rfl (SL.mv rfl rfl ?_)
   refine SL.val (O.idx_own (i := (kpos (fun l : Ln => l.work) s.lns wk)) rfl rfl rfl (rfl) (by rw [List.length_map]; omega) Try.underlying26 hi51 hs51 rfl Taken.no) ?_
   refine SL.val (O.fld_el (o' := 1) rfl Try.underlying51 rfl (m := 0) (by kernel_rfl) rfl rfl Taken.no) ?_
   refine SL.effS (O.st_els (m := 1) rfl rfl rfl (us := [_]) rfl rfl (by kernel_rfl) (by simp) (row_get (by omega)) (by exact Nat.le_of_ble_eq_true rfl) rfl rfl (rows' := (s.lns.set (kpos (fun l : Ln => l.work) s.lns wk) ⟨s.lns[(kpos (fun l : Ln => l.work) s.lns wk)]!.work, q⟩).map eLn) (by exact set_lnR) Taken.no) (S' := (2, _) :: _) rfl ?_
   refine SL.nil (E.inn ?_)
   refine E.fin (rs := []) (rn [(3, 2)]) (.inr rfl) rfl .nil ?_ ?_ rfl (fixL_spec rfl)
   ·skip
    rfl
   · exact (SubS.cons rfl (SubS.cons rfl (SubS.val rfl (by exact sb_data (by rw [setQ_set hfd (by omega)])) SubS.nil)))
  have hfd : kfnd (fun l : Ln => l.work) s.lns wk = false := by first | assumption | simp_all
  refine W.rg (SL.mv rfl rfl ?_)
  refine SL.val (O.nilCheck rfl rfl rfl Taken.no) ?_
  refine SL.val (O.fld_ref (o' := 2) rfl Try.underlying28 rfl (m := 0) (by kernel_rfl) rfl rfl Taken.no) ?_
  refine SL.val (O.ld1 (PtI.ref rfl rfl) rfl Try.underlying26 rfl rfl Taken.no) ?_
  refine SL.val (O.lenE (SlOf.own rfl rfl) (by first | exact List.length_map _ | rfl) Try.underlying26 rfl Taken.no) ?_
  refine SL.val (O.det (fun _ => by first | exact G.R.add64 rfl rfl (by omega) | exact G.R.add rfl rfl) rfl Taken.no) ?_
  refine SL.memS (O.make (m := s.lns.length + 1) (kk := 102) rfl rfl (by omega) (by omega) Try.underlying26 hi51 hz51 hs51 rfl rfl (by decide) rfl (by rw [hb51]; omega) (by omega) rfl Taken.no) rfl rfl (S' := (102, _) :: _) rfl ?_
  refine SL.an rfl rfl (E.fo (W.rg (SL.mv rfl rfl (SL.mv rfl rfl ?_))))
  refine SL.val (O.nilCheck rfl rfl rfl Taken.no) ?_
  refine SL.val (O.fld_ref (o' := 2) rfl Try.underlying28 rfl (m := 0) (by kernel_rfl) rfl rfl Taken.no) ?_
  refine SL.val (O.ld1 (PtI.ref rfl rfl) rfl Try.underlying26 rfl rfl Taken.no) ?_
  refine SL.mv rfl rfl ?_
  refine SL.val (O.sub_own (j := (kpos (fun l : Ln => l.work) s.lns wk)) rfl rfl Bnd.no (Bnd.at rfl (by first | rfl | omega)) (by omega) (by rw [List.length_map]; omega) Try.underlying26 hi51 hs51 rfl Taken.no) ?_
  refine SL.memS (O.copy (PartOf.own rfl) rfl (SlOf.osl rfl rfl) Try.underlying26 hi51 hs51 (by simp; omega) (rows' := ((s.lns.take (kpos (fun l : Ln => l.work) s.lns wk)).map eLn ++ List.replicate (s.lns.length + 1 - (kpos (fun l : Ln => l.work) s.lns wk)) [uI 0, .sc (.slice none 0 0)])) (by rw [List.take_zero, List.nil_append, Nat.zero_add, ← List.map_take, List.drop_zero, List.length_map, List.length_take, List.drop_replicate, Nat.min_eq_left hpl]; rfl) rfl Taken.no) rfl rfl (S' := (102, _) :: _) rfl ?_
  refine E.fo (W.rg (SL.mv rfl rfl (SL.mv rfl rfl (SL.mv rfl rfl (SL.mv rfl rfl ?_)))))
  refine SL.val (O.build (res := [_, _]) (z := .agg #[.int .i64 0, .slice none 0 0]) (places := [(0, 1), (1, 1)]) rfl rfl Try.underlying51 (by kernel_rfl) (fun _ => by kernel_rfl) rfl rfl Taken.no) ?_
  refine SL.val (O.idx_own (i := (kpos (fun l : Ln => l.work) s.lns wk)) rfl rfl rfl (rfl) (by simp; omega) Try.underlying26 hi51 hs51 rfl Taken.no) ?_
  refine SL.effS (O.st_els (m := 2) rfl rfl rfl (us := [_, _]) rfl rfl (by kernel_rfl) (by simp) (tr_row hpl) (by exact Nat.le_of_ble_eq_true rfl) rfl rfl (rows' := ((s.lns.take (kpos (fun l : Ln => l.work) s.lns wk)).map eLn ++ List.replicate (s.lns.length + 1 - (kpos (fun l : Ln => l.work) s.lns wk)) [uI 0, .sc (.slice none 0 0)]).set (kpos (fun l : Ln => l.work) s.lns wk) [uI wk, .sl 5 (q.map eH)]) (by rfl) Taken.no) (S' := (102, _) :: _) rfl ?_
  refine E.fo ?_
  refine W.pick (K:=[(0,_),(6,_),(8,_)]) (Z:=[(0,_),(1,_),(2,_),(102,_)]) ⟨rfl,rfl,rfl,trivial⟩ ⟨rfl,rfl,rfl,rfl,trivial⟩ ?_
  refine W.seq ?_
  refine W.draw [⟨[], [], [], [102]⟩, ⟨[], [], [], []⟩, ⟨[], [], [], []⟩, ⟨[102], [], [], []⟩, ⟨[], [], [], [0]⟩, ⟨[], [], [], [0]⟩, ⟨[], [], [], [0]⟩, ⟨[0], [], [], [2]⟩, ⟨[], [], [], []⟩, ⟨[2], [], [], []⟩, ⟨[2, 102], [102], [], []⟩] rfl (by kernel_rfl) (by kernel_rfl) rfl rfl ?_
  refine WH.mv rfl rfl rfl (WH.mv rfl rfl rfl ?_)
  refine WH.val (O.det (fun _ => by first | exact G.R.add64 rfl rfl (by omega) | exact G.R.add rfl rfl) rfl Taken.no) rfl rfl ?_
  refine WH.val (O.sub_own (i := ((kpos (fun l : Ln => l.work) s.lns wk) + 1)) rfl rfl (Bnd.at rfl (by first | rfl | omega)) Bnd.no (by simp; omega) (by exact Nat.le_refl _) Try.underlying26 hi51 hs51 rfl Taken.no) rfl rfl ?_
  refine WH.mv rfl rfl rfl ?_
  refine WH.val (O.nilCheck rfl rfl rfl Taken.no) rfl rfl ?_
  refine WH.val (O.fld_ref (o' := 2) rfl Try.underlying28 rfl (m := 0) (by kernel_rfl) rfl rfl Taken.no) rfl rfl ?_
  refine WH.val (O.ld1 (PtI.ref rfl rfl) rfl Try.underlying26 rfl rfl Taken.no) rfl rfl ?_
  refine WH.mv rfl rfl rfl ?_
  refine WH.val (O.sub_own (i := (kpos (fun l : Ln => l.work) s.lns wk)) rfl rfl (Bnd.at rfl (by first | rfl | omega)) Bnd.no (by rw [List.length_map]; omega) (by exact Nat.le_refl _) Try.underlying26 hi51 hs51 rfl Taken.no) rfl rfl ?_
  refine WH.memS (O.copy (PartOf.osl rfl (by simp; omega) (by exact Nat.le_refl _)) rfl (SlOf.osl rfl rfl) Try.underlying26 hi51 hs51 (by simp; omega) (rows' := (s.lns.take (kpos (fun l : Ln => l.work) s.lns wk) ++ ⟨wk, q⟩ :: s.lns.drop (kpos (fun l : Ln => l.work) s.lns wk)).map eLn) (by rw [List.take_of_length_le (Nat.le_refl _), ← List.map_drop]; exact ins_ln hpl) rfl Taken.no) rfl rfl rfl rfl rfl (S' := (102, _) :: _) rfl ?_
  refine WH.nil (E.to (W.region (SL.mv rfl rfl (SL.mv rfl rfl ?_))))
  refine SL.val (O.nilCheck rfl rfl rfl Taken.no) ?_
  refine SL.val (O.fld_ref (o' := 2) rfl Try.underlying28 rfl (m := 0) (by kernel_rfl) rfl rfl Taken.no) ?_
  refine SL.effS (O.st_ref (m := 1) rfl rfl rfl (js := [_]) rfl rfl (by kernel_rfl) (by simp) (Nat.le_of_ble_eq_true rfl) rfl (is' := [_, _, _]) rfl Taken.no) (S' := (0, _) :: _) rfl ?_
  refine SL.nil (E.inn ?_)
  refine E.fin (rs := []) (rn [(3, 102)]) (.inr rfl) rfl .nil ?_ ?_ rfl (fixL_spec rfl)
  ·skip
   rfl
  · exact (SubS.cons rfl (SubS.cons rfl (SubS.val rfl (by exact sb_data (by rw [setQ_ins hfd (by omega)])) SubS.nil)))
 first | have hg1p := G.gA5 hg1 | have hg1p := G.gA6 hg1 | have hg1p := hg1
 refine SL.sk rfl rfl rfl hg1 ?_
 refine SL.val (O.pick_f rfl (G.ne_t hg1) rfl rfl Taken.no) ?_
 refine SL.an rfl rfl (E.fo ?_)
 refine W.cond_f rfl ?_
 refine W.rg (SL.mv rfl rfl ?_)
 refine SL.val (O.lenE (SlOf.fz rfl (by decide)) (by first | exact List.length_map _ | rfl) Try.underlying40 rfl Taken.no) ?_
 refine SL.val (O.det (fun _ => G.R.eql rfl rfl) rfl Taken.no) ?_
 refine SL.an rfl rfl (E.fo ?_)
 refine W.pick (K:=[(0,_),(1,_),(2,_),(6,_),(7,_),(72,_)]) (Z:=[(0,_),(1,_),(2,_)]) ⟨rfl,rfl,rfl,rfl,rfl,rfl,trivial⟩ ⟨rfl,rfl,rfl,trivial⟩ ?_
 first | refine W.cond_d rfl (fun hc5 => ?_) (fun hc5 => ?_) | refine W.cond_nd rfl (fun hc5 => ?_) (fun hc5 => ?_) | refine W.cond rfl (fun hc5 => ?_) (fun hc5 => ?_)
 ·skip
  refine W.skip (E.inn ?_)
  refine E.fin (rs := []) (rn [(3, 2)]) (.inr rfl) rfl .nil ?_ ?_ rfl (fixL_spec rfl)
  ·skip
   rfl
  · exact (SubS.cons rfl (SubS.cons rfl (SubS.val rfl (by exact sb_data (by rw [setQ_no (by simp_all) (by omega)])) SubS.nil)))
 refine W.rg (SL.mv rfl rfl (SL.an rfl rfl (E.fo ?_)))
 first | refine W.cond_d rfl (fun hc6 => ?_) (fun hc6 => ?_) | refine W.cond_nd rfl (fun hc6 => ?_) (fun hc6 => ?_) | refine W.cond rfl (fun hc6 => ?_) (fun hc6 => ?_)
 ·skip
  have hfd : kfnd (fun l : Ln => l.work) s.lns wk = true := by first | assumption | simp_all
  have hlt := ((kfnd_iff ha).1 hfd).1
  refine W.region (SL.mv rfl rfl ?_)
  refine SL.val (O.nilCheck rfl rfl rfl Taken.no) ?_
  refine SL.val (O.fld_ref (o' := 2) rfl Try.underlying28 rfl (m := 0) (by kernel_rfl) rfl rfl Taken.no) ?_
  refine SL.val (O.ld1 (PtI.ref rfl rfl) rfl Try.underlying26 rfl rfl Taken.no) ?_
  refine SL.mv rfl rfl (SL.mv rfl rfl ?_)
  refine SL.val (O.idx_own (i := (kpos (fun l : Ln => l.work) s.lns wk)) rfl rfl rfl (rfl) (by rw [List.length_map]; omega) Try.underlying26 hi51 hs51 rfl Taken.no) ?_
  refine SL.val (O.fld_el (o' := 1) rfl Try.underlying51 rfl (m := 0) (by kernel_rfl) rfl rfl Taken.no) ?_
  refine SL.effS (O.st_els (m := 1) rfl rfl rfl (us := [_]) rfl rfl (by kernel_rfl) (by simp) (row_get (by omega)) (by exact Nat.le_of_ble_eq_true rfl) rfl rfl (rows' := (s.lns.set (kpos (fun l : Ln => l.work) s.lns wk) ⟨s.lns[(kpos (fun l : Ln => l.work) s.lns wk)]!.work, q⟩).map eLn) (by exact set_lnR) Taken.no) (S' := (2, _) :: _) rfl ?_
  refine SL.nil (E.inn ?_)
  refine E.fin (rs := []) (rn [(3, 2)]) (.inr rfl) rfl .nil ?_ ?_ rfl (fixL_spec rfl)
  ·skip
   rfl
  · exact (SubS.cons rfl (SubS.cons rfl (SubS.val rfl (by exact sb_data (by rw [setQ_set hfd (by omega)])) SubS.nil)))
 have hfd : kfnd (fun l : Ln => l.work) s.lns wk = false := by first | assumption | simp_all
 refine W.rg (SL.mv rfl rfl ?_)
 refine SL.val (O.nilCheck rfl rfl rfl Taken.no) ?_
 refine SL.val (O.fld_ref (o' := 2) rfl Try.underlying28 rfl (m := 0) (by kernel_rfl) rfl rfl Taken.no) ?_
 refine SL.val (O.ld1 (PtI.ref rfl rfl) rfl Try.underlying26 rfl rfl Taken.no) ?_
 refine SL.val (O.lenE (SlOf.own rfl rfl) (by first | exact List.length_map _ | rfl) Try.underlying26 rfl Taken.no) ?_
 refine SL.val (O.det (fun _ => by first | exact G.R.add64 rfl rfl (by omega) | exact G.R.add rfl rfl) rfl Taken.no) ?_
 refine SL.memS (O.make (m := s.lns.length + 1) (kk := 103) rfl rfl (by omega) (by omega) Try.underlying26 hi51 hz51 hs51 rfl rfl (by decide) rfl (by rw [hb51]; omega) (by omega) rfl Taken.no) rfl rfl (S' := (103, _) :: _) rfl ?_
 refine SL.an rfl rfl (E.fo (W.rg (SL.mv rfl rfl (SL.mv rfl rfl ?_))))
 refine SL.val (O.nilCheck rfl rfl rfl Taken.no) ?_
 refine SL.val (O.fld_ref (o' := 2) rfl Try.underlying28 rfl (m := 0) (by kernel_rfl) rfl rfl Taken.no) ?_
 refine SL.val (O.ld1 (PtI.ref rfl rfl) rfl Try.underlying26 rfl rfl Taken.no) ?_
 refine SL.mv rfl rfl ?_
 refine SL.val (O.sub_own (j := (kpos (fun l : Ln => l.work) s.lns wk)) rfl rfl Bnd.no (Bnd.at rfl (by first | rfl | omega)) (by omega) (by rw [List.length_map]; omega) Try.underlying26 hi51 hs51 rfl Taken.no) ?_
 refine SL.memS (O.copy (PartOf.own rfl) rfl (SlOf.osl rfl rfl) Try.underlying26 hi51 hs51 (by simp; omega) (rows' := ((s.lns.take (kpos (fun l : Ln => l.work) s.lns wk)).map eLn ++ List.replicate (s.lns.length + 1 - (kpos (fun l : Ln => l.work) s.lns wk)) [uI 0, .sc (.slice none 0 0)])) (by rw [List.take_zero, List.nil_append, Nat.zero_add, ← List.map_take, List.drop_zero, List.length_map, List.length_take, List.drop_replicate, Nat.min_eq_left hpl]; rfl) rfl Taken.no) rfl rfl (S' := (103, _) :: _) rfl ?_
 refine E.fo (W.rg (SL.mv rfl rfl (SL.mv rfl rfl (SL.mv rfl rfl (SL.mv rfl rfl ?_)))))
 refine SL.val (O.build (res := [_, _]) (z := .agg #[.int .i64 0, .slice none 0 0]) (places := [(0, 1), (1, 1)]) rfl rfl Try.underlying51 (by kernel_rfl) (fun _ => by kernel_rfl) rfl rfl Taken.no) ?_
 refine SL.val (O.idx_own (i := (kpos (fun l : Ln => l.work) s.lns wk)) rfl rfl rfl (rfl) (by simp; omega) Try.underlying26 hi51 hs51 rfl Taken.no) ?_
 refine SL.effS (O.st_els (m := 2) rfl rfl rfl (us := [_, _]) rfl rfl (by kernel_rfl) (by simp) (tr_row hpl) (by exact Nat.le_of_ble_eq_true rfl) rfl rfl (rows' := ((s.lns.take (kpos (fun l : Ln => l.work) s.lns wk)).map eLn ++ List.replicate (s.lns.length + 1 - (kpos (fun l : Ln => l.work) s.lns wk)) [uI 0, .sc (.slice none 0 0)]).set (kpos (fun l : Ln => l.work) s.lns wk) [uI wk, .sl 5 (q.map eH)]) (by rfl) Taken.no) (S' := (103, _) :: _) rfl ?_
 refine E.fo ?_
 refine W.pick (K:=[(0,_),(6,_),(8,_)]) (Z:=[(0,_),(1,_),(2,_),(103,_)]) ⟨rfl,rfl,rfl,trivial⟩ ⟨rfl,rfl,rfl,rfl,trivial⟩ ?_
 refine W.seq ?_
 refine W.draw [⟨[], [], [], [103]⟩, ⟨[], [], [], []⟩, ⟨[], [], [], []⟩, ⟨[103], [], [], []⟩, ⟨[], [], [], [0]⟩, ⟨[], [], [], [0]⟩, ⟨[], [], [], [0]⟩, ⟨[0], [], [], [2]⟩, ⟨[], [], [], []⟩, ⟨[2], [], [], []⟩, ⟨[2, 103], [103], [], []⟩] rfl (by kernel_rfl) (by kernel_rfl) rfl rfl ?_
 refine WH.mv rfl rfl rfl (WH.mv rfl rfl rfl ?_)
 refine WH.val (O.det (fun _ => by first | exact G.R.add64 rfl rfl (by omega) | exact G.R.add rfl rfl) rfl Taken.no) rfl rfl ?_
 refine WH.val (O.sub_own (i := ((kpos (fun l : Ln => l.work) s.lns wk) + 1)) rfl rfl (Bnd.at rfl (by first | rfl | omega)) Bnd.no (by simp; omega) (by exact Nat.le_refl _) Try.underlying26 hi51 hs51 rfl Taken.no) rfl rfl ?_
 refine WH.mv rfl rfl rfl ?_
 refine WH.val (O.nilCheck rfl rfl rfl Taken.no) rfl rfl ?_
 refine WH.val (O.fld_ref (o' := 2) rfl Try.underlying28 rfl (m := 0) (by kernel_rfl) rfl rfl Taken.no) rfl rfl ?_
 refine WH.val (O.ld1 (PtI.ref rfl rfl) rfl Try.underlying26 rfl rfl Taken.no) rfl rfl ?_
 refine WH.mv rfl rfl rfl ?_
 refine WH.val (O.sub_own (i := (kpos (fun l : Ln => l.work) s.lns wk)) rfl rfl (Bnd.at rfl (by first | rfl | omega)) Bnd.no (by rw [List.length_map]; omega) (by exact Nat.le_refl _) Try.underlying26 hi51 hs51 rfl Taken.no) rfl rfl ?_
 refine WH.memS (O.copy (PartOf.osl rfl (by simp; omega) (by exact Nat.le_refl _)) rfl (SlOf.osl rfl rfl) Try.underlying26 hi51 hs51 (by simp; omega) (rows' := (s.lns.take (kpos (fun l : Ln => l.work) s.lns wk) ++ ⟨wk, q⟩ :: s.lns.drop (kpos (fun l : Ln => l.work) s.lns wk)).map eLn) (by rw [List.take_of_length_le (Nat.le_refl _), ← List.map_drop]; exact ins_ln hpl) rfl Taken.no) rfl rfl rfl rfl rfl (S' := (103, _) :: _) rfl ?_
 refine WH.nil (E.to (W.region (SL.mv rfl rfl (SL.mv rfl rfl ?_))))
 refine SL.val (O.nilCheck rfl rfl rfl Taken.no) ?_
 refine SL.val (O.fld_ref (o' := 2) rfl Try.underlying28 rfl (m := 0) (by kernel_rfl) rfl rfl Taken.no) ?_
 refine SL.effS (O.st_ref (m := 1) rfl rfl rfl (js := [_]) rfl rfl (by kernel_rfl) (by simp) (Nat.le_of_ble_eq_true rfl) rfl (is' := [_, _, _]) rfl Taken.no) (S' := (0, _) :: _) rfl ?_
 refine SL.nil (E.inn ?_)
 refine E.fin (rs := []) (rn [(3, 103)]) (.inr rfl) rfl .nil ?_ ?_ rfl (fixL_spec rfl)
 ·skip
  rfl
 · exact (SubS.cons rfl (SubS.cons rfl (SubS.val rfl (by exact sb_data (by rw [setQ_ins hfd (by omega)])) SubS.nil)))

end Go.Proofs.Ytmekkjehkcjpdaa
end
section
namespace Go.G
open Go Go.RowKit
variable {P : Program} {w : World} {F : Frm} {ty : TypeId}
end Go.G
end
section
namespace Go.G
open Go Go.RowKit
variable {P : Program} {w : World} {F : Frm} {ty : TypeId}
theorem R.min3 {x y z : Operand} {ts : Array TypeId} {k : IntKind} {a b c : Int} (hx : ev F x = some (.int k a)) (hy : ev F y = some (.int k b)) (hz : ev F z = some (.int k c)) :
    Runs P w F (.call { callee := .builtin .min, args := #[x, y, z], argTypes := ts }) ty (.int k (min (min a b) c)) := fun o ρ ho hty hρ => by
  have hm : ∀ q, q = x ∨ q = y ∨ q = z → q ∈ (Op.call { callee := .builtin .min, args := #[x, y, z], argTypes := ts }).operands := by intro q hq; simp [Op.operands, Call.operands]; exact hq
  simp only [execOp, ho, resolve, Sem.run_bind, Sem.run_pure, Result.andThen_ok, invoke, List.map_toArray, List.map_cons, List.map_nil, hρ x (hm x (by simp)) _ hx, hρ y (hm y (by simp)) _ hy, hρ z (hm z (by simp)) _ hz]
  have e1 : ∀ p q : Int, (if q < p then q else p) = min p q := fun p q => by rw [Int.min_def]; split <;> split <;> omega
  simp [builtin, Builtin.min_, Builtin.min2, e1]
end Go.G
end
