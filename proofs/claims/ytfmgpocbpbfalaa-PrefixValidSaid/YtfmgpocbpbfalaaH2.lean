/-
  The walks.
-/
import Derived.Test.YtfmgpocbpbfalaaH1
namespace Go.Proofs.Ytfmgpocbpbfalaa
open Go Go.RowKit Go.H Go.D41

theorem hinf9 : ∃ i, Try.prog.info? 9 = some i ∧ i.zero = some (.string (Go.G.bs [])) ∧ i.size = 1 ∧ i.bytes = 16 := G.info_of (by kernel_rfl)
theorem hcallOk42 : G.callOk Try.prog 42 = true := by kernel_rfl
theorem hcallOk58 : G.callOk Try.prog 58 = true := by kernel_rfl
theorem hcallOk63 : G.callOk Try.prog 63 = true := by kernel_rfl

set_option maxRecDepth 8000 in
/-- slices.IndexFunc[[]string,string]. -/
theorem indexFuncS {f : Nat} {caps : List UV} {pr : Str → Bool} {q : List Str} (hok : G.callOk Try.prog f = true) (hpr : ∀ x, Con Try.prog f ([vT x] ++ caps.map .u) [] (vB (pr x)) []) :
    Con Try.prog 58 [vL 1 (q.map eStr), .u (.clo (.func f) [] caps)] [] (vI (idxF pr q)) [] := by
 obtain ⟨i9, hi9, hz9, hs9, hb9⟩ := hinf9
 refine Con.enterL (n := 19) Try.func58 rfl rfl rfl (fun τ w ok vs hin => ?_)
 have hl0 := hin.len (i := 0) rfl
 try rw [List.length_map] at hl0
 clear hin
 refine W.seq ?_
 refine W.region ?_
 refine SL.val (O.assign rfl rfl Taken.no) ?_
 refine SL.nil ?_
 refine E.to ?_
 refine W.seq ?_
 refine W.seq ?_
 refine W.region ?_
 refine SL.val (O.move rfl rfl Taken.no) ?_
 refine SL.val (O.lenE (SlOf.fz rfl (by decide)) (by first | exact List.length_map _ | rfl) Try.underlying22 rfl Taken.no) ?_
 refine SL.val (O.move rfl rfl Taken.no) ?_
 refine SL.nil ?_
 refine E.to ?_
 refine W.block ?_
 refine W.loopx1 (fun (k : Nat) => [(8, vI (k : Int))]) (fun (k : Nat) => []) (fun (k : Nat) => k ≤ q.length ∧ ∀ j, j < k → pr q[j]! = false) (fun (k : Nat) => q.length - k) (0) (rn []) (.cons (t := 0) rfl (.cons (t := 1) rfl (.cons (t := 7) rfl .nil))) .nil rfl ?_ ?_ rfl rfl ?_ ?_
 · exact (SubF.cons rfl SubF.nil)
 · exact SubS.nil
 ·skip
  exact ⟨by omega, fun j h => by omega⟩
 intro k hinv
 obtain ⟨hk, hp⟩ := hinv
 refine W.seq ?_
 refine W.region ?_
 refine SL.val (O.det (fun _ => G.R.lss rfl rfl) rfl Taken.no) ?_
 refine SL.nil ?_
 refine E.to ?_
 refine W.seq ?_
 first | refine W.cond_d rfl (fun hc1 => ?_) (fun hc1 => ?_) | refine W.cond_nd rfl (fun hc1 => ?_) (fun hc1 => ?_) | refine W.cond rfl (fun hc1 => ?_) (fun hc1 => ?_)
 ·skip
  refine W.skip ?_
  refine E.to ?_
  refine W.seq ?_
  refine W.block ?_
  refine W.seq ?_
  refine W.region ?_
  refine SL.val (O.move rfl rfl Taken.no) ?_
  refine SL.val (O.assign rfl rfl Taken.no) ?_
  refine SL.nil ?_
  refine E.to ?_
  refine W.seq ?_
  refine W.region ?_
  refine SL.val (O.move rfl rfl Taken.no) ?_
  refine SL.val (O.move rfl rfl Taken.no) ?_
  refine SL.val (O.move rfl rfl Taken.no) ?_
  refine SL.val (O.idx_fz rfl rfl (rfl) (row_get (by omega)) Try.underlying22 hi9 hs9 rfl Taken.no) ?_
  refine SL.val (O.ld1 (PtI.ofU (PtU.fz rfl)) rfl Try.underlying9 rfl rfl Taken.no) ?_
  refine SL.val (O.callp rfl rfl rfl (hpr q[k]!) (.cons (ArgOk.same rfl) (ArgsOk.caps caps)) hok rfl Taken.no) ?_
  refine SL.nil ?_
  refine E.to ?_
  first | refine W.cond_d rfl (fun hc2 => ?_) (fun hc2 => ?_) | refine W.cond_nd rfl (fun hc2 => ?_) (fun hc2 => ?_) | refine W.cond rfl (fun hc2 => ?_) (fun hc2 => ?_)
  ·skip
   refine W.seq ?_
   refine W.region ?_
   refine SL.val (O.move rfl rfl Taken.no) ?_
   refine SL.val (O.assign rfl rfl Taken.no) ?_
   refine SL.nil ?_
   refine E.to ?_
   refine W.ret ?_
   refine E.inr ?_
   refine E.thr ?_
   refine E.thr ?_
   refine E.inr ?_
   refine E.thr ?_
   refine E.fin (rs := [_]) (rn []) (.inl rfl) rfl (.cons (ResOne.tmp rfl) .nil) ?_ ?_ rfl (fixL_spec rfl)
   ·skip
    exact iv_int (idxF_here (by omega) hp (by assumption))
   · exact SubS.nil
  ·skip
   refine W.skip ?_
   refine E.inn ?_
   refine E.to ?_
   refine W.region ?_
   refine SL.val (O.det (fun _ => by first | exact G.R.add64 rfl rfl (by omega) | exact G.R.add rfl rfl) rfl Taken.no) ?_
   refine SL.val (O.move rfl rfl Taken.no) ?_
   refine SL.nil ?_
   refine E.again ((k + 1)) (rn []) ?_ ?_ rfl (fixL_spec rfl) ?_ ?_
   · exact (SubF.cons rfl (SubF.cons rfl (SubF.cons rfl (SubF.cons rfl SubF.nil))))
   · exact SubS.nil
   ·try dsimp only
    exact ⟨by omega, fun j hj => by rcases Nat.lt_succ_iff_lt_or_eq.1 hj with h | h; exact hp j h; subst h; simp_all⟩
   · (try dsimp only); omega
 ·skip
  refine W.exit ?_
  refine E.th ?_
  refine E.th ?_
  refine E.hit ?_
  refine E.to ?_
  refine W.seq ?_
  refine W.region ?_
  refine SL.val (O.assign rfl rfl Taken.no) ?_
  refine SL.nil ?_
  refine E.to ?_
  refine W.ret ?_
  refine E.fin (rs := [_]) (rn []) (.inl rfl) rfl (.cons (ResOne.tmp rfl) .nil) ?_ ?_ rfl (fixL_spec rfl)
  ·skip
   exact iv_int (idxF_none (by omega) hp)
  · exact SubS.nil

set_option maxRecDepth 8000 in
/-- slices.ContainsFunc[[]string,string]. -/
theorem containsFuncS {f : Nat} {caps : List UV} {pr : Str → Bool} {q : List Str} (hok : G.callOk Try.prog f = true) (hpr : ∀ x, Con Try.prog f ([vT x] ++ caps.map .u) [] (vB (pr x)) []) :
    Con Try.prog 40 [vL 1 (q.map eStr), .u (.clo (.func f) [] caps)] [] (vB (decide (∃ x ∈ q, pr x = true))) [] := by
 refine Con.enterL (n := 9) Try.func40 rfl rfl rfl (fun τ w ok vs hin => ?_)
 have hl0 := hin.len (i := 0) rfl
 try rw [List.length_map] at hl0
 clear hin
 refine W.seq ?_
 refine W.region ?_
 refine SL.val (O.assign rfl rfl Taken.no) ?_
 refine SL.nil ?_
 refine E.to ?_
 refine W.seq ?_
 refine W.region ?_
 refine SL.val (O.move rfl rfl Taken.no) ?_
 refine SL.val (O.move rfl rfl Taken.no) ?_
 refine SL.val (O.callp rfl rfl rfl (indexFuncS (q := q) hok hpr) (.cons (ArgOk.same rfl) (.cons (ArgOk.same rfl) .nil)) hcallOk58 rfl Taken.no) ?_
 refine SL.val (O.det (fun _ => G.R.geq rfl rfl) rfl Taken.no) ?_
 refine SL.val (O.assign rfl rfl Taken.no) ?_
 refine SL.nil ?_
 refine E.to ?_
 refine W.ret ?_
 refine E.fin (rs := [_]) (rn []) (.inl rfl) rfl (.cons (ResOne.tmp rfl) .nil) ?_ ?_ rfl (fixL_spec rfl)
 ·skip
  exact iv_bool (dec_iff any_iff)
 · exact SubS.nil

set_option maxRecDepth 8000 in
/-- bookplate/prefix.Of$1. -/
theorem of1_h {s : Str} :
    Con Try.prog 41 [vT s] [] (vB (!decide (wrd s))) [] := by
 refine Con.enterL (n := 6) Try.func41 rfl rfl rfl (fun τ w ok vs hin => ?_)
 clear hin
 refine W.seq ?_
 refine W.region ?_
 refine SL.val (O.assign rfl rfl Taken.no) ?_
 refine SL.nil ?_
 refine E.to ?_
 refine W.seq ?_
 refine W.region ?_
 refine SL.val (O.move rfl rfl Taken.no) ?_
 refine SL.val (O.callp rfl rfl rfl (word_h (w := s)) (.cons (ArgOk.same rfl) .nil) hcallOk42 rfl Taken.no) ?_
 refine SL.val (O.det (fun _ => G.R.not rfl) rfl Taken.no) ?_
 refine SL.val (O.assign rfl rfl Taken.no) ?_
 refine SL.nil ?_
 refine E.to ?_
 refine W.ret ?_
 refine E.fin (rs := [_]) (rn []) (.inl rfl) rfl (.cons (ResOne.tmp rfl) .nil) ?_ ?_ rfl (fixL_spec rfl)
 ·skip
  rfl
 · exact SubS.nil

set_option maxRecDepth 8000 in
/-- slices.Clone[[]bookplate/prefix.Node,bookplate/prefix.Node]. -/
theorem cloneN {l : List Tr} (hb : l.length ≤ 1000000) :
    Con Try.prog 63 [vL 3 (l.map eTr)] [] (.own 0) [(0, .data 27 3 (l.map eTr))] := by
 obtain ⟨i27, hi27, hz27, hs27, hb27⟩ := hinf27
 refine Con.enterL (n := 8) Try.func63 rfl rfl rfl (fun τ w ok vs hin => ?_)
 have hl0 := hin.len (i := 0) rfl
 try rw [List.length_map] at hl0
 clear hin
 refine W.seq ?_
 refine W.region ?_
 refine SL.val (O.assign rfl rfl Taken.no) ?_
 refine SL.nil ?_
 refine E.to ?_
 refine W.seq ?_
 refine W.seq ?_
 refine W.region ?_
 refine SL.val (O.move rfl rfl Taken.no) ?_
 refine SL.isnil (SlOf.fz rfl (by decide)) Try.underlying25 rfl Taken.no (fun bn1 hbn1 => ?_)
 refine SL.nil ?_
 refine E.to ?_
 first | refine W.cond_d rfl (fun hc2 => ?_) (fun hc2 => ?_) | refine W.cond_nd rfl (fun hc2 => ?_) (fun hc2 => ?_) | refine W.cond rfl (fun hc2 => ?_) (fun hc2 => ?_)
 ·skip
  refine W.seq ?_
  refine W.region ?_
  refine SL.val (O.assign rfl rfl Taken.no) ?_
  refine SL.nil ?_
  refine E.to ?_
  refine W.ret ?_
  refine E.thr ?_
  refine E.adopt 2 101 27 3 (by decide) rfl rfl rfl ?_
  refine E.fin (rs := [_]) (rn [(0, 101)]) (.inl rfl) rfl (.cons (ResOne.tmp rfl) .nil) ?_ ?_ rfl (fixL_spec rfl)
  ·skip
   rfl
  · exact (SubS.val rfl (by rw [List.length_map] at hbn1; rw [List.eq_nil_of_length_eq_zero (hbn1 (by assumption))]; rfl) SubS.nil)
 ·skip
  refine W.skip ?_
  refine E.to ?_
  refine W.seq ?_
  refine W.region ?_
  refine SL.memS (O.buildSlice 102 rfl rfl Try.underlying25 hi27 hz27 hs27 (by decide) rfl (by decide) rfl rfl rfl Taken.no) rfl rfl (S' := (102, _) :: _) rfl ?_
  refine SL.val (O.move rfl rfl Taken.no) ?_
  refine SL.memS (O.app (k' := 103) rfl rfl (SlOf.fz rfl (by decide)) Try.underlying25 hi27 hz27 hs27 rfl rfl (by first | exact map_snoc rfl | exact app_map | exact List.nil_append _ | rfl) (by rw [hb27]; first | omega | (simp only [List.length_map]; omega) | (simp <;> omega)) (by first | omega | (simp only [List.length_map]; omega) | (simp <;> omega)) rfl Taken.no) rfl rfl (S' := (103, _) :: (102, .dead) :: _) rfl ?_
  refine SL.val (O.assign rfl rfl Taken.no) ?_
  refine SL.nil ?_
  refine E.to ?_
  refine W.ret ?_
  refine E.fin (rs := [_]) (rn [(0, 103)]) (.inl rfl) rfl (.cons (ResOne.tmp rfl) .nil) ?_ ?_ rfl (fixL_spec rfl)
  ·skip
   rfl
  · exact (SubS.val rfl (by rfl) SubS.nil)

set_option maxRecDepth 8000 in
/-- slices.Delete[[]bookplate/prefix.Node,bookplate/prefix.Node]. -/
theorem deleteN {q : List Tr} (i j : Nat) (hij : i < j) (hj : j ≤ q.length) (_ : q.length ≤ 1000000) :
    Con Try.prog 65 [.own 0, vI (i : Int), vI (j : Int)] [(0, .data 27 3 (q.map eTr))] (.own 1) [(1, .data 27 3 ((q.take i ++ q.drop j).map eTr))] := by
 have hdl : (q.take i ++ q.drop j).length = i + (q.length - j) := by simp; omega
 have hdm : ((q.take i ++ q.drop j).map eTr).length = i + (q.length - j) := by rw [List.length_map, hdl]
 obtain ⟨i27, hi27, hz27, hs27, hb27⟩ := hinf27
 refine Con.enterL (n := 33) Try.func65 rfl rfl rfl (fun τ w ok vs hin => ?_)
 clear hin
 refine W.seq ?_
 refine W.region ?_
 refine SL.val (O.assign rfl rfl Taken.no) ?_
 refine SL.nil ?_
 refine E.to ?_
 refine W.seq ?_
 refine W.region ?_
 refine SL.val (O.move rfl rfl Taken.no) ?_
 refine SL.val (O.move rfl rfl Taken.no) ?_
 refine SL.val (O.move rfl rfl Taken.no) ?_
 refine SL.val (O.move rfl rfl Taken.no) ?_
 refine SL.val (O.lenE (SlOf.own rfl rfl) (by first | exact List.length_map _ | rfl) Try.underlying25 rfl Taken.no) ?_
 refine SL.val (O.sub3_own (i := i) (j := j) (q := q.length) rfl rfl rfl (by first | rfl | omega) rfl (by first | rfl | omega) rfl (by first | rfl | omega) (by omega) (by omega) (by first | omega | (rw [List.length_map]; omega)) Try.underlying25 hi27 rfl Taken.no) ?_
 refine SL.nil ?_
 refine E.to ?_
 refine W.seq ?_
 refine W.seq ?_
 refine W.region ?_
 refine SL.val (O.move rfl rfl Taken.no) ?_
 refine SL.val (O.move rfl rfl Taken.no) ?_
 refine SL.val (O.det (fun _ => G.R.mv (G.R.eql rfl rfl) (congrArg Value.bool (decide_eq_false (by omega)))) rfl Taken.no) ?_
 refine SL.nil ?_
 refine E.to ?_
 refine W.cond_f rfl ?_
 refine W.skip ?_
 refine E.to ?_
 refine W.seq ?_
 refine W.region ?_
 refine SL.val (O.move rfl rfl Taken.no) ?_
 refine SL.val (O.lenE (SlOf.own rfl rfl) (by first | exact List.length_map _ | rfl) Try.underlying25 rfl Taken.no) ?_
 refine SL.val (O.assign rfl rfl Taken.no) ?_
 refine SL.nil ?_
 refine E.to ?_
 refine W.seq ?_
 refine W.draw [⟨[0], [], []⟩, ⟨[], [], []⟩, ⟨[0], [], []⟩, ⟨[0], [], []⟩, ⟨[], [], []⟩, ⟨[0], [], []⟩, ⟨[0], [0], []⟩, ⟨[0], [], []⟩] rfl (by kernel_rfl) (by kernel_rfl) rfl rfl ?_
 refine WH.val (O.move rfl rfl Taken.no) rfl rfl ?_
 refine WH.val (O.move rfl rfl Taken.no) rfl rfl ?_
 refine WH.val (O.sub_own (j := i) rfl rfl Bnd.no (Bnd.at rfl (by first | rfl | omega)) (by omega) (by rw [List.length_map]; omega) Try.underlying25 hi27 hs27 rfl Taken.no) rfl rfl ?_
 refine WH.val (O.move rfl rfl Taken.no) rfl rfl ?_
 refine WH.val (O.move rfl rfl Taken.no) rfl rfl ?_
 refine WH.val (O.sub_own (i := j) rfl rfl (Bnd.at rfl (by first | rfl | omega)) Bnd.no (by rw [List.length_map]; omega) (by exact Nat.le_refl _) Try.underlying25 hi27 hs27 rfl Taken.no) rfl rfl ?_
 refine WH.memS (O.appIn (m := i + (q.length - j)) rfl rfl (SlOf.osl rfl rfl) Try.underlying25 hi27 hs27 (by simp; omega) (by simp) (rows' := ((q.take i ++ q.drop j) ++ q.drop (i + (q.length - j))).map eTr) (by simp [List.take_of_length_le]) rfl Taken.no) rfl rfl rfl rfl rfl (S' := (0, _) :: _) rfl ?_
 refine WH.val (O.assign rfl rfl Taken.no) rfl rfl ?_
 refine WH.nil ?_
 refine E.to ?_
 refine W.seq ?_
 refine W.region ?_
 refine SL.val (O.move rfl rfl Taken.no) ?_
 refine SL.val (O.move rfl rfl Taken.no) ?_
 refine SL.val (O.lenE (n := i + (q.length - j)) (SlOf.osl rfl rfl) (by rw [List.drop_zero, List.length_take, List.length_map, List.length_append, hdl]; omega) Try.underlying25 rfl Taken.no) ?_
 refine SL.val (O.move rfl rfl Taken.no) ?_
 refine SL.val (O.sub_osl (i := (i + (q.length - j))) (j := q.length) rfl rfl (Bnd.at rfl (by first | rfl | omega)) (Bnd.at rfl (by first | rfl | omega)) (by omega) (by rw [List.length_map, List.length_append, hdl, List.length_drop]; omega) Try.underlying25 hi27 hs27 rfl Taken.no) ?_
 refine SL.effS (O.clear (PartOf.osl rfl (by omega) (by rw [List.length_map, List.length_append, hdl, List.length_drop]; omega)) rfl Try.underlying25 hi27 hz27 rfl rfl rfl (rows' := (q.take i ++ q.drop j).map eTr ++ List.replicate (j - i) [uT [], uB false, .sc (.slice none 0 0)]) (by exact delete_clear (f := eTr) hij hj) Taken.no) (S' := (0, _) :: _) rfl ?_
 refine SL.nil ?_
 refine E.to ?_
 refine W.pick (.cons (t := 0) rfl (.cons (t := 6) rfl .nil)) (.cons (t := 0) rfl .nil) ?_
 refine W.seq ?_
 refine W.region ?_
 refine SL.val (O.move rfl rfl Taken.no) ?_
 refine SL.trunc 32 102 rfl rfl (rows' := (q.take i ++ q.drop j).map eTr) (by rw [List.take_left' hdm]) rfl rfl ?_
 refine SL.val (O.assign rfl rfl Taken.no) ?_
 refine SL.nil ?_
 refine E.to ?_
 refine W.ret ?_
 refine E.fin (rs := [_]) (rn [(1, 102)]) (.inl rfl) rfl (.cons (ResOne.tmp rfl) .nil) ?_ ?_ rfl (fixL_spec rfl)
 ·skip
  rfl
 · exact (SubS.cons rfl SubS.nil)

set_option maxRecDepth 8000 in
/-- slices.Insert[[]bookplate/prefix.Node,bookplate/prefix.Node]. -/
theorem insertEnd {rows : List (List UV)} {row : List UV} (hl : rows.length ≤ 1000000) :
    Con Try.prog 62 [.own 0, vI (rows.length : Int), .own 1] [(0, .data 27 3 (rows)), (1, .data 27 3 ([row]))] (.own 2) [(2, .data 27 3 (rows ++ [row]))] := by
 obtain ⟨i27, hi27, hz27, hs27, hb27⟩ := hinf27
 refine Con.enterL (n := 95) Try.func62 rfl rfl rfl (fun τ w ok vs hin => ?_)
 clear hin
 refine W.seq ?_
 refine W.region ?_
 refine SL.val (O.assign rfl rfl Taken.no) ?_
 refine SL.nil ?_
 refine E.to ?_
 refine W.seq ?_
 refine W.region ?_
 refine SL.val (O.move rfl rfl Taken.no) ?_
 refine SL.val (O.move rfl rfl Taken.no) ?_
 refine SL.val (O.sub_own (i := rows.length) rfl rfl (Bnd.at rfl (by first | rfl | omega)) Bnd.no (by exact Nat.le_refl _) (by exact Nat.le_refl _) Try.underlying25 hi27 hs27 rfl Taken.no) ?_
 refine SL.nil ?_
 refine E.to ?_
 refine W.seq ?_
 refine W.region ?_
 refine SL.val (O.move rfl rfl Taken.no) ?_
 refine SL.val (O.lenE (n := 1) (SlOf.own rfl rfl) (by rfl) Try.underlying25 rfl Taken.no) ?_
 refine SL.val (O.assign rfl rfl Taken.no) ?_
 refine SL.nil ?_
 refine E.to ?_
 refine W.seq ?_
 refine W.seq ?_
 refine W.region ?_
 refine SL.val (O.move rfl rfl Taken.no) ?_
 refine SL.val (O.det (fun _ => G.R.mv (G.R.eql rfl rfl) (congrArg Value.bool (decide_eq_false (by decide)))) rfl Taken.no) ?_
 refine SL.nil ?_
 refine E.to ?_
 refine W.cond_f rfl ?_
 refine W.skip ?_
 refine E.to ?_
 refine W.seq ?_
 refine W.region ?_
 refine SL.val (O.move rfl rfl Taken.no) ?_
 refine SL.val (O.lenE (SlOf.own rfl rfl) (by first | exact List.length_map _ | rfl) Try.underlying25 rfl Taken.no) ?_
 refine SL.val (O.assign rfl rfl Taken.no) ?_
 refine SL.nil ?_
 refine E.to ?_
 refine W.seq ?_
 refine W.seq ?_
 refine W.region ?_
 refine SL.val (O.move rfl rfl Taken.no) ?_
 refine SL.val (O.move rfl rfl Taken.no) ?_
 refine SL.val (O.det (fun _ => G.R.mv (G.R.eql rfl rfl) (congrArg Value.bool (decide_eq_true (by rfl)))) rfl Taken.no) ?_
 refine SL.nil ?_
 refine E.to ?_
 refine W.cond_t rfl ?_
 refine W.seq ?_
 refine W.region ?_
 refine SL.val (O.move rfl rfl Taken.no) ?_
 refine SL.val (O.move rfl rfl Taken.no) ?_
 refine SL.memS (O.app (k' := 101) rfl rfl (SlOf.own rfl rfl) Try.underlying25 hi27 hz27 hs27 rfl rfl (rfl) (by rw [hb27]; rw [List.length_singleton]; omega) (by rw [List.length_singleton]; omega) rfl Taken.no) rfl rfl (S' := (101, _) :: (0, .dead) :: _) rfl ?_
 refine SL.val (O.assign rfl rfl Taken.no) ?_
 refine SL.nil ?_
 refine E.to ?_
 refine W.ret ?_
 refine E.thr ?_
 refine E.fin (rs := [_]) (rn [(2, 101)]) (.inl rfl) rfl (.cons (ResOne.tmp rfl) .nil) ?_ ?_ rfl (fixL_spec rfl)
 ·skip
  rfl
 · exact (SubS.cons rfl SubS.nil)

theorem insertN {ks : List Tr} {k : Tr} {row : List UV} (hr : row = eTr k) {i : Nat} (hi : i ≤ ks.length) (hl : ks.length ≤ 1000000) :
    Con Try.prog 62 [.own 0, vI (i : Int), .own 1] [(0, .data 27 3 (ks.map eTr)), (1, .data 27 3 [row])] (.own 2) [(2, .data 27 3 ((ks.take i ++ k :: ks.drop i).map eTr))] := by
  subst hr
  rcases Nat.lt_or_eq_of_le hi with h | h
  · have := insMid_con (rows := ks.map eTr) (row := eTr k) (i := i) (by rw [List.length_map]; exact h) (by rw [List.length_map]; exact hl)
    rw [List.map_append, List.map_cons, List.map_take, List.map_drop]; exact this
  · subst h
    have := insertEnd (rows := ks.map eTr) (row := eTr k) (by rw [List.length_map]; exact hl)
    rw [List.length_map] at this
    rw [List.take_length, List.drop_length, List.map_append]; exact this

set_option maxRecDepth 8000 in
/-- bookplate/prefix.with. -/
theorem with_h {t : Tr} (i : Nat) {k : Tr} (hi : i < t.kids.length) (hl : t.kids.length ≤ 1000000) :
    Con Try.prog 64 [vA [uT t.lab, uB t.wd, .sl 3 (t.kids.map eTr)], vI (i : Int), vA [uT k.lab, uB k.wd, .sl 3 (k.kids.map eTr)]] [] (.agg [vT (Tr.nd t.lab t.wd (t.kids.set i k)).lab, vB (Tr.nd t.lab t.wd (t.kids.set i k)).wd, vL 3 ((Tr.nd t.lab t.wd (t.kids.set i k)).kids.map eTr)]) [] := by
 obtain ⟨i27, hi27, hz27, hs27, hb27⟩ := hinf27
 refine Con.enterL (n := 17) Try.func64 rfl rfl rfl (fun τ w ok vs hin => ?_)
 have hl0_2 := hin.lenA (i := 0) (j := 2) rfl rfl
 try rw [List.length_map] at hl0_2
 have hl2_2 := hin.lenA (i := 2) (j := 2) rfl rfl
 try rw [List.length_map] at hl2_2
 clear hin
 refine W.seq ?_
 refine W.region ?_
 refine SL.memS (O.box (is := [_, _, _]) 101 rfl rfl (by simp) rfl rfl Taken.no) rfl rfl (S' := (101, _) :: _) rfl ?_
 refine SL.memS (O.box (is := [_, _, _]) 102 rfl rfl (by simp) rfl rfl Taken.no) rfl rfl (S' := (102, _) :: _) rfl ?_
 refine SL.memS (O.alloc (z := .agg #[.string (Go.G.bs []), .bool false, .slice none 0 0]) (is := [.u (.sc (.string (Go.G.bs []))), .u (.sc (.bool false)), .u (.sc (.slice none 0 0))]) 103 (by kernel_rfl) rfl rfl rfl Taken.no) rfl rfl (S' := (103, _) :: _) rfl ?_
 refine SL.nil ?_
 refine E.to ?_
 refine W.seq ?_
 refine W.region ?_
 refine SL.val (O.fld_ref (o' := 2) rfl Try.underlying27 rfl (m := 0) (by kernel_rfl) rfl rfl Taken.no) ?_
 refine SL.val (O.ld1 (PtI.ref rfl rfl) rfl Try.underlying25 rfl rfl Taken.no) ?_
 refine SL.memS (O.call (rn [(0, 104)]) [] rfl rfl rfl (cloneN (l := t.kids) (by omega)) (.cons (ArgOk.same rfl) .nil) SubS.nil rfl rfl rfl rfl rfl (.inl rfl) hcallOk63 (r' := .own 104) rfl rfl Taken.no) rfl rfl (S' := (104, .data _ _ _) :: _) rfl ?_
 refine SL.val (O.fld_ref (o' := 2) rfl Try.underlying27 rfl (m := 0) (by kernel_rfl) rfl rfl Taken.no) ?_
 refine SL.effS (O.st_ref (m := 1) rfl rfl rfl (js := [_]) rfl rfl (by kernel_rfl) (by simp) (Nat.le_of_ble_eq_true rfl) rfl (is' := [_, _, _]) rfl Taken.no) (S' := (101, _) :: _) rfl ?_
 refine SL.nil ?_
 refine E.to ?_
 refine W.seq ?_
 refine W.region ?_
 refine SL.val (O.fld_ref (o' := 2) rfl Try.underlying27 rfl (m := 0) (by kernel_rfl) rfl rfl Taken.no) ?_
 refine SL.val (O.ld1 (PtI.ref rfl rfl) rfl Try.underlying25 rfl rfl Taken.no) ?_
 refine SL.val (O.move rfl rfl Taken.no) ?_
 refine SL.val (O.ldN (m := 3) (PtI.ref rfl rfl) (js := [_, _, _]) rfl (Nat.le_of_ble_eq_true rfl) Try.underlying27 rfl (by kernel_rfl) rfl Taken.no) ?_
 refine SL.val (O.idx_own (i := i) rfl rfl rfl (rfl) (by rw [List.length_map]; omega) Try.underlying25 hi27 hs27 rfl Taken.no) ?_
 refine SL.effS (O.st_els (m := 3) rfl rfl rfl (us := [_, _, _]) rfl rfl (by kernel_rfl) (by simp) (row_tr (by omega)) (by exact Nat.le_of_ble_eq_true rfl) rfl rfl (rows' := (t.kids.set i k).map eTr) (by exact set_map (eTr_eq k).symm) Taken.no) (S' := (104, _) :: _) rfl ?_
 refine SL.nil ?_
 refine E.to ?_
 refine W.seq ?_
 refine W.region ?_
 refine SL.val (O.ldN (m := 3) (PtI.ref rfl rfl) (js := [_, _, _]) rfl (Nat.le_of_ble_eq_true rfl) Try.underlying27 rfl (by kernel_rfl) rfl Taken.no) ?_
 refine SL.effS (O.st_ref (m := 3) rfl rfl rfl (js := [_, _, _]) rfl rfl (by kernel_rfl) (by simp) (Nat.le_of_ble_eq_true rfl) rfl (is' := [_, _, _]) rfl Taken.no) (S' := (103, _) :: _) rfl ?_
 refine SL.nil ?_
 refine E.to ?_
 refine W.ret ?_
 refine E.freezeC 103 2 104 (is' := [_, _, _]) rfl rfl rfl rfl ?_
 refine E.fin (rs := [_]) (rn []) (.inl rfl) rfl (.cons (ResOne.cellN (m := 3) (PtI.ref rfl rfl) (js := [_, _, _]) rfl (Nat.le_of_ble_eq_true rfl) Try.underlying27 rfl (by kernel_rfl)) .nil) ?_ ?_ rfl (fixL_spec rfl)
 ·skip
  rfl
 · exact SubS.nil

end Go.Proofs.Ytfmgpocbpbfalaa
