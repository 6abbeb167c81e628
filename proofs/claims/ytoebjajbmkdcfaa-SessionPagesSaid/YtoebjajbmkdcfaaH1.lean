/-
  The walks.
-/
import Derived.Test.YtoebjajbmkdcfaaHMap
import Derived.Test.YtoebjajbmkdcfaaHEq
import Derived.Test.YtoebjajbmkdcfaaRows
import Derived.Test.YtoebjajbmkdcfaaM51
import Derived.Test.YtoebjajbmkdcfaaP51
namespace Go.Proofs.Ytoebjajbmkdcfaa
open Go Go.RowKit Go.H Go.D51

theorem hinf63 : ∃ i, Try.prog.info? 63 = some i ∧ i.zero = some (.agg #[.int .i64 0, .int .i64 0]) ∧ i.size = 2 ∧ i.bytes = 16 := G.info_of (by kernel_rfl)
theorem hinf119 : ∃ i, Try.prog.info? 119 = some i ∧ i.zero = some (.agg #[.int .i64 0, .int .i64 0, .int .i64 0, .slice none 0 0]) ∧ i.size = 4 ∧ i.bytes = 48 := G.info_of (by kernel_rfl)

abbrev eT (h : Hit) : List UV := [uI h.id, uI h.sc]
abbrev eSs (s : Sess) : List UV := [uI s.size, .sl 2 (s.items.map eT)]
abbrev eO (o : Opn) : List UV := [uI o.num, uI o.used, uI o.s.size, .sl 2 (o.s.items.map eT)]
abbrev eLd (l : Lead) : List UV := [uI l.fr, uI l.to]
abbrev eEn (e : Entry) : List UV := [uI e.id, uI e.sc, uI e.now, uB e.again]

set_option maxRecDepth 8000 in
/-- slices.IndexFunc[[]bookplate/api.Hit,bookplate/api.Hit]. -/
theorem indexFuncH {f : Nat} {caps : List UV} {pr : Hit → Bool} {q : List Hit} (hok : G.callOk Try.prog f = true) (hpr : ∀ x, Con Try.prog f ([vA (eT x)] ++ caps.map .u) [] (vB (pr x)) []) :
    Con Try.prog 52 [vL 2 (q.map eT), .u (.clo (.func f) [] caps)] [] (vI (idxF pr q)) [] := by
 obtain ⟨i63, hi63, hz63, hs63, hb63⟩ := hinf63
 refine Con.enterL (n := 19) Try.func52 rfl rfl rfl (fun τ w ok vs hin => ?_)
 have hl0 := hin.len (i := 0) rfl
 try rw [List.length_map] at hl0
 clear hin
 refine W.seq ?_
 refine W.region ?_
 refine SL.val (O.assign rfl rfl Taken.no) ?_
 refine SL.nil ?_
 refine E.to ?_
 refine W.seq ?_
 refine W.seq ?_
 refine W.region ?_
 refine SL.val (O.move rfl rfl Taken.no) ?_
 refine SL.val (O.lenE (SlOf.fz rfl (by decide)) (by first | exact List.length_map _ | rfl) Try.underlying22 rfl Taken.no) ?_
 refine SL.val (O.move rfl rfl Taken.no) ?_
 refine SL.nil ?_
 refine E.to ?_
 refine W.block ?_
 refine W.loopx1 (fun (k : Nat) => [(8, vI (k : Int))]) (fun (k : Nat) => []) (fun (k : Nat) => k ≤ q.length ∧ ∀ j, j < k → pr q[j]! = false) (fun (k : Nat) => q.length - k) (0) (rn []) (.cons (t := 0) rfl (.cons (t := 1) rfl (.cons (t := 7) rfl .nil))) .nil rfl ?_ ?_ rfl rfl ?_ ?_
 · exact (SubF.cons rfl SubF.nil)
 · exact SubS.nil
 ·skip
  exact ⟨by omega, fun j h => by omega⟩
 intro k hinv
 obtain ⟨hk, hp⟩ := hinv
 refine W.seq ?_
 refine W.region ?_
 refine SL.val (O.det (fun _ => G.R.lss rfl rfl) rfl Taken.no) ?_
 refine SL.nil ?_
 refine E.to ?_
 refine W.seq ?_
 first | refine W.cond_d rfl (fun hc1 => ?_) (fun hc1 => ?_) | refine W.cond_nd rfl (fun hc1 => ?_) (fun hc1 => ?_) | refine W.cond rfl (fun hc1 => ?_) (fun hc1 => ?_)
 ·skip
  refine W.skip ?_
  refine E.to ?_
  refine W.seq ?_
  refine W.block ?_
  refine W.seq ?_
  refine W.region ?_
  refine SL.val (O.move rfl rfl Taken.no) ?_
  refine SL.val (O.assign rfl rfl Taken.no) ?_
  refine SL.nil ?_
  refine E.to ?_
  refine W.seq ?_
  refine W.region ?_
  refine SL.val (O.move rfl rfl Taken.no) ?_
  refine SL.val (O.move rfl rfl Taken.no) ?_
  refine SL.val (O.move rfl rfl Taken.no) ?_
  refine SL.val (O.idx_fz rfl rfl (rfl) (row_get (by omega)) Try.underlying22 hi63 hs63 rfl Taken.no) ?_
  refine SL.val (O.ldU (m := 2) (PtU.fz rfl) rfl Try.underlying63 rfl (by kernel_rfl) rfl Taken.no) ?_
  refine SL.val (O.callp rfl rfl rfl (hpr q[k]!) (.cons (ArgOk.same rfl) (ArgsOk.caps caps)) hok rfl Taken.no) ?_
  refine SL.nil ?_
  refine E.to ?_
  first | refine W.cond_d rfl (fun hc2 => ?_) (fun hc2 => ?_) | refine W.cond_nd rfl (fun hc2 => ?_) (fun hc2 => ?_) | refine W.cond rfl (fun hc2 => ?_) (fun hc2 => ?_)
  ·skip
   refine W.seq ?_
   refine W.region ?_
   refine SL.val (O.move rfl rfl Taken.no) ?_
   refine SL.val (O.assign rfl rfl Taken.no) ?_
   refine SL.nil ?_
   refine E.to ?_
   refine W.ret ?_
   refine E.inr ?_
   refine E.thr ?_
   refine E.thr ?_
   refine E.inr ?_
   refine E.thr ?_
   refine E.fin (rs := [_]) (rn []) (.inl rfl) rfl (.cons (ResOne.tmp rfl) .nil) ?_ ?_ rfl (fixL_spec rfl)
   ·skip
    exact iv_int (idxF_here (by omega) hp (by assumption))
   · exact SubS.nil
  ·skip
   refine W.skip ?_
   refine E.inn ?_
   refine E.to ?_
   refine W.region ?_
   refine SL.val (O.det (fun _ => by first | exact G.R.add64 rfl rfl (by omega) | exact G.R.add rfl rfl) rfl Taken.no) ?_
   refine SL.val (O.move rfl rfl Taken.no) ?_
   refine SL.nil ?_
   refine E.again ((k + 1)) (rn []) ?_ ?_ rfl (fixL_spec rfl) ?_ ?_
   · exact (SubF.cons rfl (SubF.cons rfl (SubF.cons rfl (SubF.cons rfl SubF.nil))))
   · exact SubS.nil
   ·try dsimp only
    exact ⟨by omega, fun j hj => by rcases Nat.lt_succ_iff_lt_or_eq.1 hj with h | h; exact hp j h; subst h; simp_all⟩
   · (try dsimp only); omega
 ·skip
  refine W.exit ?_
  refine E.th ?_
  refine E.th ?_
  refine E.hit ?_
  refine E.to ?_
  refine W.seq ?_
  refine W.region ?_
  refine SL.val (O.assign rfl rfl Taken.no) ?_
  refine SL.nil ?_
  refine E.to ?_
  refine W.ret ?_
  refine E.fin (rs := [_]) (rn []) (.inl rfl) rfl (.cons (ResOne.tmp rfl) .nil) ?_ ?_ rfl (fixL_spec rfl)
  ·skip
   exact iv_int (idxF_none (by omega) hp)
  · exact SubS.nil

set_option maxRecDepth 8000 in
/-- slices.IndexFunc[[]bookplate/session.Opened,bookplate/session.Opened]. -/
theorem indexFuncO {f : Nat} {caps : List UV} {pr : Opn → Bool} {q : List Opn} (hok : G.callOk Try.prog f = true) (hpr : ∀ x, Con Try.prog f ([vA (eO x)] ++ caps.map .u) [] (vB (pr x)) []) :
    Con Try.prog 68 [vL 4 (q.map eO), .u (.clo (.func f) [] caps)] [] (vI (idxF pr q)) [] := by
 obtain ⟨i119, hi119, hz119, hs119, hb119⟩ := hinf119
 refine Con.enterL (n := 19) Try.func68 rfl rfl rfl (fun τ w ok vs hin => ?_)
 have hl0 := hin.len (i := 0) rfl
 try rw [List.length_map] at hl0
 clear hin
 refine W.seq ?_
 refine W.region ?_
 refine SL.val (O.assign rfl rfl Taken.no) ?_
 refine SL.nil ?_
 refine E.to ?_
 refine W.seq ?_
 refine W.seq ?_
 refine W.region ?_
 refine SL.val (O.move rfl rfl Taken.no) ?_
 refine SL.val (O.lenE (SlOf.fz rfl (by decide)) (by first | exact List.length_map _ | rfl) Try.underlying71 rfl Taken.no) ?_
 refine SL.val (O.move rfl rfl Taken.no) ?_
 refine SL.nil ?_
 refine E.to ?_
 refine W.block ?_
 refine W.loopx1 (fun (k : Nat) => [(8, vI (k : Int))]) (fun (k : Nat) => []) (fun (k : Nat) => k ≤ q.length ∧ ∀ j, j < k → pr q[j]! = false) (fun (k : Nat) => q.length - k) (0) (rn []) (.cons (t := 0) rfl (.cons (t := 1) rfl (.cons (t := 7) rfl .nil))) .nil rfl ?_ ?_ rfl rfl ?_ ?_
 · exact (SubF.cons rfl SubF.nil)
 · exact SubS.nil
 ·skip
  exact ⟨by omega, fun j h => by omega⟩
 intro k hinv
 obtain ⟨hk, hp⟩ := hinv
 refine W.seq ?_
 refine W.region ?_
 refine SL.val (O.det (fun _ => G.R.lss rfl rfl) rfl Taken.no) ?_
 refine SL.nil ?_
 refine E.to ?_
 refine W.seq ?_
 first | refine W.cond_d rfl (fun hc1 => ?_) (fun hc1 => ?_) | refine W.cond_nd rfl (fun hc1 => ?_) (fun hc1 => ?_) | refine W.cond rfl (fun hc1 => ?_) (fun hc1 => ?_)
 ·skip
  refine W.skip ?_
  refine E.to ?_
  refine W.seq ?_
  refine W.block ?_
  refine W.seq ?_
  refine W.region ?_
  refine SL.val (O.move rfl rfl Taken.no) ?_
  refine SL.val (O.assign rfl rfl Taken.no) ?_
  refine SL.nil ?_
  refine E.to ?_
  refine W.seq ?_
  refine W.region ?_
  refine SL.val (O.move rfl rfl Taken.no) ?_
  refine SL.val (O.move rfl rfl Taken.no) ?_
  refine SL.val (O.move rfl rfl Taken.no) ?_
  refine SL.val (O.idx_fz rfl rfl (rfl) (row_get (by omega)) Try.underlying71 hi119 hs119 rfl Taken.no) ?_
  refine SL.val (O.ldU (m := 4) (PtU.fz rfl) rfl Try.underlying119 rfl (by kernel_rfl) rfl Taken.no) ?_
  refine SL.val (O.callp rfl rfl rfl (hpr q[k]!) (.cons (ArgOk.same rfl) (ArgsOk.caps caps)) hok rfl Taken.no) ?_
  refine SL.nil ?_
  refine E.to ?_
  first | refine W.cond_d rfl (fun hc2 => ?_) (fun hc2 => ?_) | refine W.cond_nd rfl (fun hc2 => ?_) (fun hc2 => ?_) | refine W.cond rfl (fun hc2 => ?_) (fun hc2 => ?_)
  ·skip
   refine W.seq ?_
   refine W.region ?_
   refine SL.val (O.move rfl rfl Taken.no) ?_
   refine SL.val (O.assign rfl rfl Taken.no) ?_
   refine SL.nil ?_
   refine E.to ?_
   refine W.ret ?_
   refine E.inr ?_
   refine E.thr ?_
   refine E.thr ?_
   refine E.inr ?_
   refine E.thr ?_
   refine E.fin (rs := [_]) (rn []) (.inl rfl) rfl (.cons (ResOne.tmp rfl) .nil) ?_ ?_ rfl (fixL_spec rfl)
   ·skip
    exact iv_int (idxF_here (by omega) hp (by assumption))
   · exact SubS.nil
  ·skip
   refine W.skip ?_
   refine E.inn ?_
   refine E.to ?_
   refine W.region ?_
   refine SL.val (O.det (fun _ => by first | exact G.R.add64 rfl rfl (by omega) | exact G.R.add rfl rfl) rfl Taken.no) ?_
   refine SL.val (O.move rfl rfl Taken.no) ?_
   refine SL.nil ?_
   refine E.again ((k + 1)) (rn []) ?_ ?_ rfl (fixL_spec rfl) ?_ ?_
   · exact (SubF.cons rfl (SubF.cons rfl (SubF.cons rfl (SubF.cons rfl SubF.nil))))
   · exact SubS.nil
   ·try dsimp only
    exact ⟨by omega, fun j hj => by rcases Nat.lt_succ_iff_lt_or_eq.1 hj with h | h; exact hp j h; subst h; simp_all⟩
   · (try dsimp only); omega
 ·skip
  refine W.exit ?_
  refine E.th ?_
  refine E.th ?_
  refine E.hit ?_
  refine E.to ?_
  refine W.seq ?_
  refine W.region ?_
  refine SL.val (O.assign rfl rfl Taken.no) ?_
  refine SL.nil ?_
  refine E.to ?_
  refine W.ret ?_
  refine E.fin (rs := [_]) (rn []) (.inl rfl) rfl (.cons (ResOne.tmp rfl) .nil) ?_ ?_ rfl (fixL_spec rfl)
  ·skip
   exact iv_int (idxF_none (by omega) hp)
  · exact SubS.nil

set_option maxRecDepth 8000 in
/-- slices.Clone[[]bookplate/api.Hit,bookplate/api.Hit]. -/
theorem cloneH {l : List Hit} (hb : l.length ≤ 1000000) :
    Con Try.prog 50 [vL 2 (l.map eT)] [] (.own 0) [(0, .data 63 2 (l.map eT))] := by
 obtain ⟨i63, hi63, hz63, hs63, hb63⟩ := hinf63
 refine Con.enterL (n := 8) Try.func50 rfl rfl rfl (fun τ w ok vs hin => ?_)
 have hl0 := hin.len (i := 0) rfl
 try rw [List.length_map] at hl0
 clear hin
 refine W.seq ?_
 refine W.region ?_
 refine SL.val (O.assign rfl rfl Taken.no) ?_
 refine SL.nil ?_
 refine E.to ?_
 refine W.seq ?_
 refine W.seq ?_
 refine W.region ?_
 refine SL.val (O.move rfl rfl Taken.no) ?_
 refine SL.isnil (SlOf.fz rfl (by decide)) Try.underlying22 rfl Taken.no (fun bn1 hbn1 => ?_)
 refine SL.nil ?_
 refine E.to ?_
 first | refine W.cond_d rfl (fun hc2 => ?_) (fun hc2 => ?_) | refine W.cond_nd rfl (fun hc2 => ?_) (fun hc2 => ?_) | refine W.cond rfl (fun hc2 => ?_) (fun hc2 => ?_)
 ·skip
  refine W.seq ?_
  refine W.region ?_
  refine SL.val (O.assign rfl rfl Taken.no) ?_
  refine SL.nil ?_
  refine E.to ?_
  refine W.ret ?_
  refine E.thr ?_
  refine E.adopt 2 101 63 2 (by decide) rfl rfl rfl ?_
  refine E.fin (rs := [_]) (rn [(0, 101)]) (.inl rfl) rfl (.cons (ResOne.tmp rfl) .nil) ?_ ?_ rfl (fixL_spec rfl)
  ·skip
   rfl
  · exact (SubS.val rfl (by rw [List.length_map] at hbn1; rw [List.eq_nil_of_length_eq_zero (hbn1 (by assumption))]; rfl) SubS.nil)
 ·skip
  refine W.skip ?_
  refine E.to ?_
  refine W.seq ?_
  refine W.region ?_
  refine SL.memS (O.buildSlice 102 rfl rfl Try.underlying22 hi63 hz63 hs63 (by decide) rfl (by decide) rfl rfl rfl Taken.no) rfl rfl (S' := (102, _) :: _) rfl ?_
  refine SL.val (O.move rfl rfl Taken.no) ?_
  refine SL.memS (O.app (k' := 103) rfl rfl (SlOf.fz rfl (by decide)) Try.underlying22 hi63 hz63 hs63 rfl rfl (by first | exact map_snoc rfl | exact app_map | exact List.nil_append _ | rfl) (by rw [hb63]; first | omega | (simp only [List.length_map]; omega) | (simp <;> omega)) (by first | omega | (simp only [List.length_map]; omega) | (simp <;> omega)) rfl Taken.no) rfl rfl (S' := (103, _) :: (102, .dead) :: _) rfl ?_
  refine SL.val (O.assign rfl rfl Taken.no) ?_
  refine SL.nil ?_
  refine E.to ?_
  refine W.ret ?_
  refine E.fin (rs := [_]) (rn [(0, 103)]) (.inl rfl) rfl (.cons (ResOne.tmp rfl) .nil) ?_ ?_ rfl (fixL_spec rfl)
  ·skip
   rfl
  · exact (SubS.val rfl (by rfl) SubS.nil)

set_option maxRecDepth 8000 in
/-- slices.Clone[[]bookplate/session.Opened,bookplate/session.Opened]. -/
theorem cloneO {l : List Opn} (hb : l.length ≤ 1000000) :
    Con Try.prog 66 [vL 4 (l.map eO)] [] (.own 0) [(0, .data 119 4 (l.map eO))] := by
 obtain ⟨i119, hi119, hz119, hs119, hb119⟩ := hinf119
 refine Con.enterL (n := 8) Try.func66 rfl rfl rfl (fun τ w ok vs hin => ?_)
 have hl0 := hin.len (i := 0) rfl
 try rw [List.length_map] at hl0
 clear hin
 refine W.seq ?_
 refine W.region ?_
 refine SL.val (O.assign rfl rfl Taken.no) ?_
 refine SL.nil ?_
 refine E.to ?_
 refine W.seq ?_
 refine W.seq ?_
 refine W.region ?_
 refine SL.val (O.move rfl rfl Taken.no) ?_
 refine SL.isnil (SlOf.fz rfl (by decide)) Try.underlying71 rfl Taken.no (fun bn1 hbn1 => ?_)
 refine SL.nil ?_
 refine E.to ?_
 first | refine W.cond_d rfl (fun hc2 => ?_) (fun hc2 => ?_) | refine W.cond_nd rfl (fun hc2 => ?_) (fun hc2 => ?_) | refine W.cond rfl (fun hc2 => ?_) (fun hc2 => ?_)
 ·skip
  refine W.seq ?_
  refine W.region ?_
  refine SL.val (O.assign rfl rfl Taken.no) ?_
  refine SL.nil ?_
  refine E.to ?_
  refine W.ret ?_
  refine E.thr ?_
  refine E.adopt 2 101 119 4 (by decide) rfl rfl rfl ?_
  refine E.fin (rs := [_]) (rn [(0, 101)]) (.inl rfl) rfl (.cons (ResOne.tmp rfl) .nil) ?_ ?_ rfl (fixL_spec rfl)
  ·skip
   rfl
  · exact (SubS.val rfl (by rw [List.length_map] at hbn1; rw [List.eq_nil_of_length_eq_zero (hbn1 (by assumption))]; rfl) SubS.nil)
 ·skip
  refine W.skip ?_
  refine E.to ?_
  refine W.seq ?_
  refine W.region ?_
  refine SL.memS (O.buildSlice 102 rfl rfl Try.underlying71 hi119 hz119 hs119 (by decide) rfl (by decide) rfl rfl rfl Taken.no) rfl rfl (S' := (102, _) :: _) rfl ?_
  refine SL.val (O.move rfl rfl Taken.no) ?_
  refine SL.memS (O.app (k' := 103) rfl rfl (SlOf.fz rfl (by decide)) Try.underlying71 hi119 hz119 hs119 rfl rfl (by first | exact map_snoc rfl | exact app_map | exact List.nil_append _ | rfl) (by rw [hb119]; first | omega | (simp only [List.length_map]; omega) | (simp <;> omega)) (by first | omega | (simp only [List.length_map]; omega) | (simp <;> omega)) rfl Taken.no) rfl rfl (S' := (103, _) :: (102, .dead) :: _) rfl ?_
  refine SL.val (O.assign rfl rfl Taken.no) ?_
  refine SL.nil ?_
  refine E.to ?_
  refine W.ret ?_
  refine E.fin (rs := [_]) (rn [(0, 103)]) (.inl rfl) rfl (.cons (ResOne.tmp rfl) .nil) ?_ ?_ rfl (fixL_spec rfl)
  ·skip
   rfl
  · exact (SubS.val rfl (by rfl) SubS.nil)

set_option maxRecDepth 8000 in
/-- bookplate/session.Valid. -/
theorem valid_h {s : Sess} :
    Con Try.prog 21 [vA [uI s.size, .sl 2 (s.items.map eT)]] [] (vB (decide (validS s))) [] := by
 obtain ⟨i63, hi63, hz63, hs63, hb63⟩ := hinf63
 refine Con.enterL (n := 51) Try.func21 rfl rfl rfl (fun τ w ok vs hin => ?_)
 have hl0_1 := hin.lenA (i := 0) (j := 1) rfl rfl
 try rw [List.length_map] at hl0_1
 clear hin
 refine W.seq ?_
 refine W.region ?_
 refine SL.memS (O.box (is := [_, _]) 101 rfl rfl (by simp) rfl rfl Taken.no) rfl rfl (S' := (101, _) :: _) rfl ?_
 refine SL.val (O.assign rfl rfl Taken.no) ?_
 refine SL.nil ?_
 refine E.to ?_
 refine W.seq ?_
 refine W.region ?_
 refine SL.memS (O.makeMap 102 rfl Taken.no) rfl rfl (S' := (102, .mp []) :: _) rfl ?_
 refine SL.val (O.assign rfl rfl Taken.no) ?_
 refine SL.nil ?_
 refine E.to ?_
 refine W.seq ?_
 refine W.seq ?_
 refine W.region ?_
 refine SL.val (O.fld_ref (o' := 1) rfl Try.underlying27 rfl (m := 0) (by kernel_rfl) rfl rfl Taken.no) ?_
 refine SL.val (O.ld1 (PtI.ref rfl rfl) rfl Try.underlying22 rfl rfl Taken.no) ?_
 refine SL.val (O.lenE (SlOf.fz rfl (by decide)) (by first | exact List.length_map _ | rfl) Try.underlying22 rfl Taken.no) ?_
 refine SL.val (O.move rfl rfl Taken.no) ?_
 refine SL.nil ?_
 refine E.to ?_
 refine W.block ?_
 refine W.loopx1 (fun (k : Nat) => [(10, vI (k : Int)), (3, .own 103)]) (fun (k : Nat) => [(103, .mp (mpE (fun a : Int => Value.int .i64 a) Value.bool (seenF (fun j => s.items[j]!.id) k)))]) (fun (k : Nat) => k ≤ s.items.length ∧ ∀ j, j < k → okI s.items j) (fun (k : Nat) => s.items.length - k) (0) (rn [(103, 102)]) (.cons (t := 1) rfl (.cons (t := 8) rfl (.cons (t := 9) rfl .nil))) (.cons (t := 101) rfl .nil) rfl ?_ ?_ rfl rfl ?_ ?_
 · exact (SubF.cons rfl (SubF.cons rfl SubF.nil))
 · exact (SubS.cons rfl SubS.nil)
 ·skip
  exact ⟨by omega, fun j h => by omega⟩
 intro k hinv
 obtain ⟨hk, hp⟩ := hinv
 refine W.seq ?_
 refine W.region ?_
 refine SL.val (O.det (fun _ => G.R.lss rfl rfl) rfl Taken.no) ?_
 refine SL.nil ?_
 refine E.to ?_
 refine W.seq ?_
 first | refine W.cond_d rfl (fun hc1 => ?_) (fun hc1 => ?_) | refine W.cond_nd rfl (fun hc1 => ?_) (fun hc1 => ?_) | refine W.cond rfl (fun hc1 => ?_) (fun hc1 => ?_)
 ·skip
  refine W.skip ?_
  refine E.to ?_
  refine W.seq ?_
  refine W.block ?_
  refine W.seq ?_
  refine W.region ?_
  refine SL.val (O.idx_fz rfl rfl (rfl) (row_get (by omega)) Try.underlying22 hi63 hs63 rfl Taken.no) ?_
  refine SL.val (O.ldU (m := 2) (PtU.fz rfl) rfl Try.underlying63 rfl (by kernel_rfl) rfl Taken.no) ?_
  refine SL.memS (O.alloc (z := .agg #[.int .i64 0, .int .i64 0]) (is := [.u (.sc (.int .i64 0)), .u (.sc (.int .i64 0))]) 104 (by kernel_rfl) rfl rfl rfl Taken.no) rfl rfl (S' := (104, _) :: _) rfl ?_
  refine SL.effS (O.st_ref (m := 2) rfl rfl rfl (js := [_, _]) rfl rfl (by kernel_rfl) (by simp) (Nat.le_of_ble_eq_true rfl) rfl (is' := [_, _]) rfl Taken.no) (S' := (104, _) :: _) rfl ?_
  refine SL.nil ?_
  refine E.to ?_
  refine W.seq ?_
  refine W.seq ?_
  refine W.region ?_
  refine SL.val (O.fld_ref (o' := 0) rfl Try.underlying63 rfl (m := 0) (by kernel_rfl) rfl rfl Taken.no) ?_
  refine SL.val (O.ld1 (PtI.ref rfl rfl) rfl Try.underlying3 rfl rfl Taken.no) ?_
  refine SL.val (O.det (fun _ => G.R.lss rfl rfl) rfl Taken.no) ?_
  refine SL.val (O.move rfl rfl Taken.no) ?_
  refine SL.case (j := 3) (g := 17) (want := false) rfl rfl (fun hg2 => ?_) (fun hg2 => ?_)
  ·skip
   first | have hg2p := G.gA3 hg2 | have hg2p := G.gA4 hg2 | have hg2p := hg2
   refine SL.val (O.fld_ref (o' := 0) rfl Try.underlying63 rfl (m := 0) (by kernel_rfl) rfl rfl (Taken.yes rfl rfl hg2)) ?_
   refine SL.val (O.ld1 (PtI.ref rfl rfl) rfl Try.underlying3 rfl rfl (Taken.yes rfl rfl hg2)) ?_
   refine SL.val (O.det (fun _ => G.R.gtr rfl rfl) rfl (Taken.yes rfl rfl hg2)) ?_
   refine SL.val (O.pick_f rfl hg2 rfl rfl Taken.no) ?_
   refine SL.val (O.move rfl rfl Taken.no) ?_
   refine SL.case (j := 8) (g := 22) (want := false) rfl rfl (fun hg3 => ?_) (fun hg3 => ?_)
   ·skip
    first | have hg3p := G.gA3 hg3 | have hg3p := G.gA4 hg3 | have hg3p := hg3
    refine SL.val (O.fld_ref (o' := 1) rfl Try.underlying63 rfl (m := 0) (by kernel_rfl) rfl rfl (Taken.yes rfl rfl hg3)) ?_
    refine SL.val (O.ld1 (PtI.ref rfl rfl) rfl Try.underlying3 rfl rfl (Taken.yes rfl rfl hg3)) ?_
    refine SL.val (O.det (fun _ => G.R.lss rfl rfl) rfl (Taken.yes rfl rfl hg3)) ?_
    refine SL.val (O.pick_f rfl hg3 rfl rfl Taken.no) ?_
    refine SL.val (O.move rfl rfl Taken.no) ?_
    refine SL.case (j := 13) (g := 27) (want := false) rfl rfl (fun hg4 => ?_) (fun hg4 => ?_)
    ·skip
     first | have hg4p := G.gA3 hg4 | have hg4p := G.gA4 hg4 | have hg4p := hg4
     refine SL.val (O.move rfl rfl (Taken.yes rfl rfl hg4)) ?_
     refine SL.val (O.fld_ref (o' := 0) rfl Try.underlying63 rfl (m := 0) (by kernel_rfl) rfl rfl (Taken.yes rfl rfl hg4)) ?_
     refine SL.val (O.ld1 (PtI.ref rfl rfl) rfl Try.underlying3 rfl rfl (Taken.yes rfl rfl hg4)) ?_
     refine SL.val (O.lookup (kf := (fun a : Int => Value.int .i64 a)) (vf := Value.bool) (l := seenF (fun j => s.items[j]!.id) k) (b := s.items[k]!.id) (z := false) rfl rfl rfl Try.underlying115 (KeyOk.int Try.underlying3) (by kernel_rfl) rfl (Taken.yes rfl rfl hg4)) ?_
     refine SL.val (O.pick_f rfl hg4 rfl rfl Taken.no) ?_
     refine SL.nil ?_
     refine E.to ?_
     refine W.pick (.cons (t := 1) rfl (.cons (t := 3) rfl (.cons (t := 5) rfl (.cons (t := 8) rfl (.cons (t := 9) rfl (.cons (t := 10) rfl (.cons (t := 32) rfl .nil))))))) (.cons (t := 101) rfl (.cons (t := 103) rfl (.cons (t := 104) rfl .nil))) ?_
     first | refine W.cond_d rfl (fun hc5 => ?_) (fun hc5 => ?_) | refine W.cond_nd rfl (fun hc5 => ?_) (fun hc5 => ?_) | refine W.cond rfl (fun hc5 => ?_) (fun hc5 => ?_)
     ·skip
      refine W.seq ?_
      refine W.region ?_
      refine SL.val (O.assign rfl rfl Taken.no) ?_
      refine SL.nil ?_
      refine E.to ?_
      refine W.ret ?_
      refine E.thr ?_
      refine E.inr ?_
      refine E.thr ?_
      refine E.thr ?_
      refine E.inr ?_
      refine E.thr ?_
      refine E.fin (rs := [_]) (rn []) (.inl rfl) rfl (.cons (ResOne.tmp rfl) .nil) ?_ ?_ rfl (fixL_spec rfl)
      ·skip
       first | exact iv_bool (valid_no (k := k) (by omega) (fun h => by unfold okI at h; omega)) | exact iv_bool (valid_no (k := k) (by omega) (fun h => by obtain ⟨j, hj, e⟩ := (seenF_iff _ _ _).1 (by assumption); exact h.2.2.2 j hj e))
      · exact SubS.nil
     ·skip
      refine W.skip ?_
      refine E.to ?_
      refine W.region ?_
      refine SL.val (O.move rfl rfl Taken.no) ?_
      refine SL.val (O.fld_ref (o' := 0) rfl Try.underlying63 rfl (m := 0) (by kernel_rfl) rfl rfl Taken.no) ?_
      refine SL.val (O.ld1 (PtI.ref rfl rfl) rfl Try.underlying3 rfl rfl Taken.no) ?_
      refine SL.effS (O.mapUpdate (kf := (fun a : Int => Value.int .i64 a)) (vf := Value.bool) (l := seenF (fun j => s.items[j]!.id) k) (b := s.items[k]!.id) (u := true) rfl rfl rfl rfl Try.underlying115 (KeyOk.int Try.underlying3) Taken.no) (S' := (103, _) :: _) rfl ?_
      refine SL.nil ?_
      refine E.inn ?_
      refine E.to ?_
      refine W.region ?_
      refine SL.val (O.det (fun _ => by first | exact G.R.add64 rfl rfl (by omega) | exact G.R.add rfl rfl) rfl Taken.no) ?_
      refine SL.val (O.move rfl rfl Taken.no) ?_
      refine SL.nil ?_
      refine E.again ((k + 1)) (rn []) ?_ ?_ rfl (fixL_spec rfl) ?_ ?_
      · exact (SubF.cons rfl (SubF.cons rfl (SubF.cons rfl (SubF.cons rfl (SubF.cons rfl SubF.nil)))))
      · exact (SubS.cons rfl (SubS.cons rfl SubS.nil))
      ·try dsimp only
       exact ⟨by omega, ok_step hp ⟨by omega, by omega, by omega, seenF_no (by assumption)⟩⟩
      · (try dsimp only); omega
    ·skip
     first | have hg4p := G.gA7 hg4 | have hg4p := G.gA8 hg4 | have hg4p := hg4
     refine SL.skip (OpOk.not rfl rfl rfl hg4) ?_
     refine SL.skip (OpOk.not rfl rfl rfl hg4) ?_
     refine SL.skip (OpOk.not rfl rfl rfl hg4) ?_
     refine SL.skip (OpOk.not rfl rfl rfl hg4) ?_
     refine SL.val (O.pick_t rfl (G.ne_f hg4) rfl rfl Taken.no) ?_
     refine SL.nil ?_
     refine E.to ?_
     refine W.pick (.cons (t := 1) rfl (.cons (t := 3) rfl (.cons (t := 5) rfl (.cons (t := 8) rfl (.cons (t := 9) rfl (.cons (t := 10) rfl (.cons (t := 32) rfl .nil))))))) (.cons (t := 101) rfl (.cons (t := 103) rfl (.cons (t := 104) rfl .nil))) ?_
     refine W.cond_t rfl ?_
     refine W.seq ?_
     refine W.region ?_
     refine SL.val (O.assign rfl rfl Taken.no) ?_
     refine SL.nil ?_
     refine E.to ?_
     refine W.ret ?_
     refine E.thr ?_
     refine E.inr ?_
     refine E.thr ?_
     refine E.thr ?_
     refine E.inr ?_
     refine E.thr ?_
     refine E.fin (rs := [_]) (rn []) (.inl rfl) rfl (.cons (ResOne.tmp rfl) .nil) ?_ ?_ rfl (fixL_spec rfl)
     ·skip
      first | exact iv_bool (valid_no (k := k) (by omega) (fun h => by unfold okI at h; omega)) | exact iv_bool (valid_no (k := k) (by omega) (fun h => by obtain ⟨j, hj, e⟩ := (seenF_iff _ _ _).1 (by assumption); exact h.2.2.2 j hj e))
     · exact SubS.nil
   ·skip
    first | have hg3p := G.gA7 hg3 | have hg3p := G.gA8 hg3 | have hg3p := hg3
    refine SL.skip (OpOk.not rfl rfl rfl hg3) ?_
    refine SL.skip (OpOk.not rfl rfl rfl hg3) ?_
    refine SL.skip (OpOk.not rfl rfl rfl hg3) ?_
    refine SL.val (O.pick_t rfl (G.ne_f hg3) rfl rfl Taken.no) ?_
    refine SL.val (O.move rfl rfl Taken.no) ?_
    have hg6 : true ≠ false := by decide
    refine SL.skip (OpOk.not rfl rfl rfl hg6) ?_
    refine SL.skip (OpOk.not rfl rfl rfl hg6) ?_
    refine SL.skip (OpOk.not rfl rfl rfl hg6) ?_
    refine SL.skip (OpOk.not rfl rfl rfl hg6) ?_
    refine SL.val (O.pick_t rfl rfl rfl rfl Taken.no) ?_
    refine SL.nil ?_
    refine E.to ?_
    refine W.pick (.cons (t := 1) rfl (.cons (t := 3) rfl (.cons (t := 5) rfl (.cons (t := 8) rfl (.cons (t := 9) rfl (.cons (t := 10) rfl (.cons (t := 32) rfl .nil))))))) (.cons (t := 101) rfl (.cons (t := 103) rfl (.cons (t := 104) rfl .nil))) ?_
    refine W.cond_t rfl ?_
    refine W.seq ?_
    refine W.region ?_
    refine SL.val (O.assign rfl rfl Taken.no) ?_
    refine SL.nil ?_
    refine E.to ?_
    refine W.ret ?_
    refine E.thr ?_
    refine E.inr ?_
    refine E.thr ?_
    refine E.thr ?_
    refine E.inr ?_
    refine E.thr ?_
    refine E.fin (rs := [_]) (rn []) (.inl rfl) rfl (.cons (ResOne.tmp rfl) .nil) ?_ ?_ rfl (fixL_spec rfl)
    ·skip
     first | exact iv_bool (valid_no (k := k) (by omega) (fun h => by unfold okI at h; omega)) | exact iv_bool (valid_no (k := k) (by omega) (fun h => by obtain ⟨j, hj, e⟩ := (seenF_iff _ _ _).1 (by assumption); exact h.2.2.2 j hj e))
    · exact SubS.nil
  ·skip
   first | have hg2p := G.gA7 hg2 | have hg2p := G.gA8 hg2 | have hg2p := hg2
   refine SL.skip (OpOk.not rfl rfl rfl hg2) ?_
   refine SL.skip (OpOk.not rfl rfl rfl hg2) ?_
   refine SL.skip (OpOk.not rfl rfl rfl hg2) ?_
   refine SL.val (O.pick_t rfl (G.ne_f hg2) rfl rfl Taken.no) ?_
   refine SL.val (O.move rfl rfl Taken.no) ?_
   have hg7 : true ≠ false := by decide
   refine SL.skip (OpOk.not rfl rfl rfl hg7) ?_
   refine SL.skip (OpOk.not rfl rfl rfl hg7) ?_
   refine SL.skip (OpOk.not rfl rfl rfl hg7) ?_
   refine SL.val (O.pick_t rfl rfl rfl rfl Taken.no) ?_
   refine SL.val (O.move rfl rfl Taken.no) ?_
   have hg8 : true ≠ false := by decide
   refine SL.skip (OpOk.not rfl rfl rfl hg8) ?_
   refine SL.skip (OpOk.not rfl rfl rfl hg8) ?_
   refine SL.skip (OpOk.not rfl rfl rfl hg8) ?_
   refine SL.skip (OpOk.not rfl rfl rfl hg8) ?_
   refine SL.val (O.pick_t rfl rfl rfl rfl Taken.no) ?_
   refine SL.nil ?_
   refine E.to ?_
   refine W.pick (.cons (t := 1) rfl (.cons (t := 3) rfl (.cons (t := 5) rfl (.cons (t := 8) rfl (.cons (t := 9) rfl (.cons (t := 10) rfl (.cons (t := 32) rfl .nil))))))) (.cons (t := 101) rfl (.cons (t := 103) rfl (.cons (t := 104) rfl .nil))) ?_
   refine W.cond_t rfl ?_
   refine W.seq ?_
   refine W.region ?_
   refine SL.val (O.assign rfl rfl Taken.no) ?_
   refine SL.nil ?_
   refine E.to ?_
   refine W.ret ?_
   refine E.thr ?_
   refine E.inr ?_
   refine E.thr ?_
   refine E.thr ?_
   refine E.inr ?_
   refine E.thr ?_
   refine E.fin (rs := [_]) (rn []) (.inl rfl) rfl (.cons (ResOne.tmp rfl) .nil) ?_ ?_ rfl (fixL_spec rfl)
   ·skip
    first | exact iv_bool (valid_no (k := k) (by omega) (fun h => by unfold okI at h; omega)) | exact iv_bool (valid_no (k := k) (by omega) (fun h => by obtain ⟨j, hj, e⟩ := (seenF_iff _ _ _).1 (by assumption); exact h.2.2.2 j hj e))
   · exact SubS.nil
 ·skip
  refine W.exit ?_
  refine E.th ?_
  refine E.th ?_
  refine E.hit ?_
  refine E.to ?_
  refine W.seq ?_
  refine W.region ?_
  obtain rfl : k = s.items.length := by omega
  have hv := valid_yes hp
  refine SL.val (O.fld_ref (o' := 0) rfl Try.underlying27 rfl (m := 0) (by kernel_rfl) rfl rfl Taken.no) ?_
  refine SL.val (O.ld1 (PtI.ref rfl rfl) rfl Try.underlying3 rfl rfl Taken.no) ?_
  refine SL.val (O.det (fun _ => G.R.geq rfl rfl) rfl Taken.no) ?_
  refine SL.val (O.move rfl rfl Taken.no) ?_
  refine SL.case (j := 3) (g := 40) (want := true) rfl rfl (fun hg9 => ?_) (fun hg9 => ?_)
  ·skip
   first | have hg9p := G.gA1 hg9 | have hg9p := G.gA2 hg9 | have hg9p := hg9
   refine SL.val (O.fld_ref (o' := 0) rfl Try.underlying27 rfl (m := 0) (by kernel_rfl) rfl rfl (Taken.yes rfl rfl hg9)) ?_
   refine SL.val (O.ld1 (PtI.ref rfl rfl) rfl Try.underlying3 rfl rfl (Taken.yes rfl rfl hg9)) ?_
   refine SL.val (O.det (fun _ => G.R.leq rfl rfl) rfl (Taken.yes rfl rfl hg9)) ?_
   refine SL.val (O.pick_t rfl hg9 rfl rfl Taken.no) ?_
   refine SL.val (O.move rfl rfl Taken.no) ?_
   refine SL.case (j := 8) (g := 45) (want := true) rfl rfl (fun hg10 => ?_) (fun hg10 => ?_)
   ·skip
    first | have hg10p := G.gA1 hg10 | have hg10p := G.gA2 hg10 | have hg10p := hg10
    refine SL.val (O.fld_ref (o' := 1) rfl Try.underlying27 rfl (m := 0) (by kernel_rfl) rfl rfl (Taken.yes rfl rfl hg10)) ?_
    refine SL.val (O.ld1 (PtI.ref rfl rfl) rfl Try.underlying22 rfl rfl (Taken.yes rfl rfl hg10)) ?_
    refine SL.val (O.lenE (SlOf.fz rfl (by decide)) (by first | exact List.length_map _ | rfl) Try.underlying22 rfl (Taken.yes rfl rfl hg10)) ?_
    refine SL.val (O.det (fun _ => G.R.leq rfl rfl) rfl (Taken.yes rfl rfl hg10)) ?_
    refine SL.val (O.pick_t rfl hg10 rfl rfl Taken.no) ?_
    refine SL.val (O.assign rfl rfl Taken.no) ?_
    refine SL.nil ?_
    refine E.to ?_
    refine W.ret ?_
    refine E.fin (rs := [_]) (rn []) (.inl rfl) rfl (.cons (ResOne.tmp rfl) .nil) ?_ ?_ rfl (fixL_spec rfl)
    ·skip
     exact iv_bool (by first | exact dec_iff (by rw [hv]; omega) | exact dec_t (by rw [hv]; omega) | exact dec_f (by rw [hv]; omega))
    · exact SubS.nil
   ·skip
    first | have hg10p := G.gA5 hg10 | have hg10p := G.gA6 hg10 | have hg10p := hg10
    refine SL.skip (OpOk.not rfl rfl rfl hg10) ?_
    refine SL.skip (OpOk.not rfl rfl rfl hg10) ?_
    refine SL.skip (OpOk.not rfl rfl rfl hg10) ?_
    refine SL.skip (OpOk.not rfl rfl rfl hg10) ?_
    refine SL.val (O.pick_f rfl (G.ne_t hg10) rfl rfl Taken.no) ?_
    refine SL.val (O.assign rfl rfl Taken.no) ?_
    refine SL.nil ?_
    refine E.to ?_
    refine W.ret ?_
    refine E.fin (rs := [_]) (rn []) (.inl rfl) rfl (.cons (ResOne.tmp rfl) .nil) ?_ ?_ rfl (fixL_spec rfl)
    ·skip
     exact iv_bool (by first | exact dec_iff (by rw [hv]; omega) | exact dec_t (by rw [hv]; omega) | exact dec_f (by rw [hv]; omega))
    · exact SubS.nil
  ·skip
   first | have hg9p := G.gA5 hg9 | have hg9p := G.gA6 hg9 | have hg9p := hg9
   refine SL.skip (OpOk.not rfl rfl rfl hg9) ?_
   refine SL.skip (OpOk.not rfl rfl rfl hg9) ?_
   refine SL.skip (OpOk.not rfl rfl rfl hg9) ?_
   refine SL.val (O.pick_f rfl (G.ne_t hg9) rfl rfl Taken.no) ?_
   refine SL.val (O.move rfl rfl Taken.no) ?_
   have hg11 : false ≠ true := by decide
   refine SL.skip (OpOk.not rfl rfl rfl hg11) ?_
   refine SL.skip (OpOk.not rfl rfl rfl hg11) ?_
   refine SL.skip (OpOk.not rfl rfl rfl hg11) ?_
   refine SL.skip (OpOk.not rfl rfl rfl hg11) ?_
   refine SL.val (O.pick_f rfl rfl rfl rfl Taken.no) ?_
   refine SL.val (O.assign rfl rfl Taken.no) ?_
   refine SL.nil ?_
   refine E.to ?_
   refine W.ret ?_
   refine E.fin (rs := [_]) (rn []) (.inl rfl) rfl (.cons (ResOne.tmp rfl) .nil) ?_ ?_ rfl (fixL_spec rfl)
   ·skip
    exact iv_bool (by first | exact dec_iff (by rw [hv]; omega) | exact dec_t (by rw [hv]; omega) | exact dec_f (by rw [hv]; omega))
   · exact SubS.nil

set_option maxRecDepth 8000 in
/-- bookplate/bookplateref51.Valid. -/
theorem refValid_h {s : Sess} :
    Con Try.prog 22 [vA [uI s.size, .sl 2 (s.items.map eT)]] [] (vB (decide (validS s))) [] := by
 obtain ⟨i63, hi63, hz63, hs63, hb63⟩ := hinf63
 refine Con.enterL (n := 69) Try.func22 rfl rfl rfl (fun τ w ok vs hin => ?_)
 have hl0_1 := hin.lenA (i := 0) (j := 1) rfl rfl
 try rw [List.length_map] at hl0_1
 clear hin
 refine W.seq ?_
 refine W.region ?_
 refine SL.memS (O.box (is := [_, _]) 101 rfl rfl (by simp) rfl rfl Taken.no) rfl rfl (S' := (101, _) :: _) rfl ?_
 refine SL.val (O.assign rfl rfl Taken.no) ?_
 refine SL.nil ?_
 refine E.to ?_
 refine W.seq ?_
 refine W.seq ?_
 refine W.region ?_
 refine SL.val (O.fld_ref (o' := 0) rfl Try.underlying31 rfl (m := 0) (by kernel_rfl) rfl rfl Taken.no) ?_
 refine SL.val (O.ld1 (PtI.ref rfl rfl) rfl Try.underlying3 rfl rfl Taken.no) ?_
 refine SL.val (O.det (fun _ => G.R.lss rfl rfl) rfl Taken.no) ?_
 refine SL.val (O.move rfl rfl Taken.no) ?_
 refine SL.case (j := 3) (g := 8) (want := false) rfl rfl (fun hg1 => ?_) (fun hg1 => ?_)
 ·skip
  first | have hg1p := G.gA3 hg1 | have hg1p := G.gA4 hg1 | have hg1p := hg1
  refine SL.val (O.fld_ref (o' := 0) rfl Try.underlying31 rfl (m := 0) (by kernel_rfl) rfl rfl (Taken.yes rfl rfl hg1)) ?_
  refine SL.val (O.ld1 (PtI.ref rfl rfl) rfl Try.underlying3 rfl rfl (Taken.yes rfl rfl hg1)) ?_
  refine SL.val (O.det (fun _ => G.R.gtr rfl rfl) rfl (Taken.yes rfl rfl hg1)) ?_
  refine SL.val (O.pick_f rfl hg1 rfl rfl Taken.no) ?_
  refine SL.val (O.move rfl rfl Taken.no) ?_
  refine SL.case (j := 8) (g := 13) (want := false) rfl rfl (fun hg2 => ?_) (fun hg2 => ?_)
  ·skip
   first | have hg2p := G.gA3 hg2 | have hg2p := G.gA4 hg2 | have hg2p := hg2
   refine SL.val (O.fld_ref (o' := 1) rfl Try.underlying31 rfl (m := 0) (by kernel_rfl) rfl rfl (Taken.yes rfl rfl hg2)) ?_
   refine SL.val (O.ld1 (PtI.ref rfl rfl) rfl Try.underlying22 rfl rfl (Taken.yes rfl rfl hg2)) ?_
   refine SL.val (O.lenE (SlOf.fz rfl (by decide)) (by first | exact List.length_map _ | rfl) Try.underlying22 rfl (Taken.yes rfl rfl hg2)) ?_
   refine SL.val (O.det (fun _ => G.R.gtr rfl rfl) rfl (Taken.yes rfl rfl hg2)) ?_
   refine SL.val (O.pick_f rfl hg2 rfl rfl Taken.no) ?_
   refine SL.nil ?_
   refine E.to ?_
   first | refine W.cond_d rfl (fun hc3 => ?_) (fun hc3 => ?_) | refine W.cond_nd rfl (fun hc3 => ?_) (fun hc3 => ?_) | refine W.cond rfl (fun hc3 => ?_) (fun hc3 => ?_)
   ·skip
    refine W.seq ?_
    refine W.region ?_
    refine SL.val (O.assign rfl rfl Taken.no) ?_
    refine SL.nil ?_
    refine E.to ?_
    refine W.ret ?_
    refine E.thr ?_
    refine E.fin (rs := [_]) (rn []) (.inl rfl) rfl (.cons (ResOne.tmp rfl) .nil) ?_ ?_ rfl (fixL_spec rfl)
    ·skip
     exact iv_bool (dec_f (fun h => by have := h.1; omega))
    · exact SubS.nil
   ·skip
    have hr : 1 ≤ s.size ∧ s.size ≤ 100 ∧ s.items.length ≤ 2000 := by omega
    refine W.skip ?_
    refine E.to ?_
    refine W.seq ?_
    refine W.seq ?_
    refine W.region ?_
    refine SL.val (O.assign rfl rfl Taken.no) ?_
    refine SL.nil ?_
    refine E.to ?_
    refine W.block ?_
    refine W.loopx1 (fun (k : Nat) => [(3, vI (k : Int))]) (fun (k : Nat) => []) (fun (k : Nat) => k ≤ s.items.length ∧ ∀ j, j < k → okI s.items j) (fun (k : Nat) => s.items.length - k) (0) (rn []) (.cons (t := 1) rfl .nil) (.cons (t := 101) rfl .nil) rfl ?_ ?_ rfl rfl ?_ ?_
    · exact (SubF.cons rfl SubF.nil)
    · exact SubS.nil
    ·skip
     exact ⟨by omega, fun j h => by omega⟩
    intro k hinv
    obtain ⟨hk, hp⟩ := hinv
    refine W.seq ?_
    refine W.seq ?_
    refine W.region ?_
    refine SL.val (O.move rfl rfl Taken.no) ?_
    refine SL.val (O.fld_ref (o' := 1) rfl Try.underlying31 rfl (m := 0) (by kernel_rfl) rfl rfl Taken.no) ?_
    refine SL.val (O.ld1 (PtI.ref rfl rfl) rfl Try.underlying22 rfl rfl Taken.no) ?_
    refine SL.val (O.lenE (SlOf.fz rfl (by decide)) (by first | exact List.length_map _ | rfl) Try.underlying22 rfl Taken.no) ?_
    refine SL.val (O.det (fun _ => G.R.lss rfl rfl) rfl Taken.no) ?_
    refine SL.nil ?_
    refine E.to ?_
    first | refine W.cond_d rfl (fun hc4 => ?_) (fun hc4 => ?_) | refine W.cond_nd rfl (fun hc4 => ?_) (fun hc4 => ?_) | refine W.cond rfl (fun hc4 => ?_) (fun hc4 => ?_)
    ·skip
     refine W.skip ?_
     refine E.to ?_
     refine W.seq ?_
     refine W.block ?_
     refine W.seq ?_
     refine W.seq ?_
     refine W.region ?_
     refine SL.val (O.fld_ref (o' := 1) rfl Try.underlying31 rfl (m := 0) (by kernel_rfl) rfl rfl Taken.no) ?_
     refine SL.val (O.ld1 (PtI.ref rfl rfl) rfl Try.underlying22 rfl rfl Taken.no) ?_
     refine SL.val (O.move rfl rfl Taken.no) ?_
     refine SL.val (O.idx_fz rfl rfl (rfl) (row_get (by omega)) Try.underlying22 hi63 hs63 rfl Taken.no) ?_
     refine SL.val (O.fld_fz rfl Try.underlying63 rfl (m := 0) (by kernel_rfl) rfl rfl Taken.no) ?_
     refine SL.val (O.ld1 (PtI.ofU (PtU.fz rfl)) rfl Try.underlying3 rfl rfl Taken.no) ?_
     refine SL.val (O.det (fun _ => G.R.lss rfl rfl) rfl Taken.no) ?_
     refine SL.val (O.move rfl rfl Taken.no) ?_
     refine SL.case (j := 7) (g := 33) (want := false) rfl rfl (fun hg5 => ?_) (fun hg5 => ?_)
     ·skip
      first | have hg5p := G.gA3 hg5 | have hg5p := G.gA4 hg5 | have hg5p := hg5
      refine SL.val (O.fld_ref (o' := 1) rfl Try.underlying31 rfl (m := 0) (by kernel_rfl) rfl rfl (Taken.yes rfl rfl hg5)) ?_
      refine SL.val (O.ld1 (PtI.ref rfl rfl) rfl Try.underlying22 rfl rfl (Taken.yes rfl rfl hg5)) ?_
      refine SL.val (O.move rfl rfl (Taken.yes rfl rfl hg5)) ?_
      refine SL.val (O.idx_fz rfl rfl (rfl) (row_get (by omega)) Try.underlying22 hi63 hs63 rfl (Taken.yes rfl rfl hg5)) ?_
      refine SL.val (O.fld_fz rfl Try.underlying63 rfl (m := 0) (by kernel_rfl) rfl rfl (Taken.yes rfl rfl hg5)) ?_
      refine SL.val (O.ld1 (PtI.ofU (PtU.fz rfl)) rfl Try.underlying3 rfl rfl (Taken.yes rfl rfl hg5)) ?_
      refine SL.val (O.det (fun _ => G.R.gtr rfl rfl) rfl (Taken.yes rfl rfl hg5)) ?_
      refine SL.val (O.pick_f rfl hg5 rfl rfl Taken.no) ?_
      refine SL.val (O.move rfl rfl Taken.no) ?_
      refine SL.case (j := 16) (g := 42) (want := false) rfl rfl (fun hg6 => ?_) (fun hg6 => ?_)
      ·skip
       first | have hg6p := G.gA3 hg6 | have hg6p := G.gA4 hg6 | have hg6p := hg6
       refine SL.val (O.fld_ref (o' := 1) rfl Try.underlying31 rfl (m := 0) (by kernel_rfl) rfl rfl (Taken.yes rfl rfl hg6)) ?_
       refine SL.val (O.ld1 (PtI.ref rfl rfl) rfl Try.underlying22 rfl rfl (Taken.yes rfl rfl hg6)) ?_
       refine SL.val (O.move rfl rfl (Taken.yes rfl rfl hg6)) ?_
       refine SL.val (O.idx_fz rfl rfl (rfl) (row_get (by omega)) Try.underlying22 hi63 hs63 rfl (Taken.yes rfl rfl hg6)) ?_
       refine SL.val (O.fld_fz rfl Try.underlying63 rfl (m := 0) (by kernel_rfl) rfl rfl (Taken.yes rfl rfl hg6)) ?_
       refine SL.val (O.ld1 (PtI.ofU (PtU.fz rfl)) rfl Try.underlying3 rfl rfl (Taken.yes rfl rfl hg6)) ?_
       refine SL.val (O.det (fun _ => G.R.lss rfl rfl) rfl (Taken.yes rfl rfl hg6)) ?_
       refine SL.val (O.pick_f rfl hg6 rfl rfl Taken.no) ?_
       refine SL.nil ?_
       refine E.to ?_
       refine W.pick (.cons (t := 1) rfl (.cons (t := 3) rfl (.cons (t := 50) rfl .nil))) (.cons (t := 101) rfl .nil) ?_
       first | refine W.cond_d rfl (fun hc7 => ?_) (fun hc7 => ?_) | refine W.cond_nd rfl (fun hc7 => ?_) (fun hc7 => ?_) | refine W.cond rfl (fun hc7 => ?_) (fun hc7 => ?_)
       ·skip
        refine W.seq ?_
        refine W.region ?_
        refine SL.val (O.assign rfl rfl Taken.no) ?_
        refine SL.nil ?_
        refine E.to ?_
        refine W.ret ?_
        refine E.thr ?_
        refine E.inr ?_
        refine E.thr ?_
        refine E.thr ?_
        refine E.inr ?_
        refine E.thr ?_
        refine E.fin (rs := [_]) (rn []) (.inl rfl) rfl (.cons (ResOne.tmp rfl) .nil) ?_ ?_ rfl (fixL_spec rfl)
        ·skip
         exact iv_bool (valid_no (k := k) (by omega) (fun h => by unfold okI at h; omega))
        · exact SubS.nil
       ·skip
        refine W.skip ?_
        refine E.to ?_
        refine W.seq ?_
        refine W.region ?_
        refine SL.val (O.assign rfl rfl Taken.no) ?_
        refine SL.nil ?_
        refine E.to ?_
        refine W.block ?_
        refine W.loopx1 (fun (m : Nat) => [(4, vI (m : Int))]) (fun (m : Nat) => []) (fun (m : Nat) => m ≤ k ∧ ∀ j, j < m → s.items[j]!.id ≠ s.items[k]!.id) (fun (m : Nat) => k - m) (0) (rn []) (.cons (t := 1) rfl (.cons (t := 3) rfl .nil)) (.cons (t := 101) rfl .nil) rfl ?_ ?_ rfl rfl ?_ ?_
        · exact (SubF.cons rfl SubF.nil)
        · exact SubS.nil
        ·skip
         exact ⟨by omega, fun j h => by omega⟩
        intro m hinv
        obtain ⟨hm, hq⟩ := hinv
        refine W.seq ?_
        refine W.seq ?_
        refine W.region ?_
        refine SL.val (O.move rfl rfl Taken.no) ?_
        refine SL.val (O.move rfl rfl Taken.no) ?_
        refine SL.val (O.det (fun _ => G.R.lss rfl rfl) rfl Taken.no) ?_
        refine SL.nil ?_
        refine E.to ?_
        first | refine W.cond_d rfl (fun hc8 => ?_) (fun hc8 => ?_) | refine W.cond_nd rfl (fun hc8 => ?_) (fun hc8 => ?_) | refine W.cond rfl (fun hc8 => ?_) (fun hc8 => ?_)
        ·skip
         refine W.skip ?_
         refine E.to ?_
         refine W.seq ?_
         refine W.block ?_
         refine W.seq ?_
         refine W.draw [⟨[101], [], []⟩, ⟨[101], [], []⟩, ⟨[], [], []⟩, ⟨[], [], []⟩, ⟨[], [], []⟩, ⟨[], [], []⟩, ⟨[101], [], []⟩, ⟨[101], [], []⟩, ⟨[], [], []⟩, ⟨[], [], []⟩, ⟨[], [], []⟩, ⟨[], [], []⟩, ⟨[], [], []⟩] rfl (by kernel_rfl) (by kernel_rfl) rfl rfl ?_
         refine WH.val (O.fld_ref (o' := 1) rfl Try.underlying31 rfl (m := 0) (by kernel_rfl) rfl rfl Taken.no) rfl rfl ?_
         refine WH.val (O.ld1 (PtI.ref rfl rfl) rfl Try.underlying22 rfl rfl Taken.no) rfl rfl ?_
         refine WH.val (O.move rfl rfl Taken.no) rfl rfl ?_
         refine WH.val (O.idx_fz rfl rfl (rfl) (row_get (by omega)) Try.underlying22 hi63 hs63 rfl Taken.no) rfl rfl ?_
         refine WH.val (O.fld_fz rfl Try.underlying63 rfl (m := 0) (by kernel_rfl) rfl rfl Taken.no) rfl rfl ?_
         refine WH.val (O.ld1 (PtI.ofU (PtU.fz rfl)) rfl Try.underlying3 rfl rfl Taken.no) rfl rfl ?_
         refine WH.val (O.fld_ref (o' := 1) rfl Try.underlying31 rfl (m := 0) (by kernel_rfl) rfl rfl Taken.no) rfl rfl ?_
         refine WH.val (O.ld1 (PtI.ref rfl rfl) rfl Try.underlying22 rfl rfl Taken.no) rfl rfl ?_
         refine WH.val (O.move rfl rfl Taken.no) rfl rfl ?_
         refine WH.val (O.idx_fz rfl rfl (rfl) (row_get (by omega)) Try.underlying22 hi63 hs63 rfl Taken.no) rfl rfl ?_
         refine WH.val (O.fld_fz rfl Try.underlying63 rfl (m := 0) (by kernel_rfl) rfl rfl Taken.no) rfl rfl ?_
         refine WH.val (O.ld1 (PtI.ofU (PtU.fz rfl)) rfl Try.underlying3 rfl rfl Taken.no) rfl rfl ?_
         refine WH.val (O.det (fun _ => G.R.eql rfl rfl) rfl Taken.no) rfl rfl ?_
         refine WH.nil ?_
         refine E.to ?_
         first | refine W.cond_d rfl (fun hc9 => ?_) (fun hc9 => ?_) | refine W.cond_nd rfl (fun hc9 => ?_) (fun hc9 => ?_) | refine W.cond rfl (fun hc9 => ?_) (fun hc9 => ?_)
         ·skip
          refine W.seq ?_
          refine W.region ?_
          refine SL.val (O.assign rfl rfl Taken.no) ?_
          refine SL.nil ?_
          refine E.to ?_
          refine W.ret ?_
          refine E.inr ?_
          refine E.thr ?_
          refine E.thr ?_
          refine E.inr ?_
          refine E.inr ?_
          refine E.thr ?_
          refine E.thr ?_
          refine E.inr ?_
          refine E.thr ?_
          refine E.fin (rs := [_]) (rn []) (.inl rfl) rfl (.cons (ResOne.tmp rfl) .nil) ?_ ?_ rfl (fixL_spec rfl)
          ·skip
           exact iv_bool (valid_no (k := k) (by omega) (fun h => h.2.2.2 m (by omega) (by assumption)))
          · exact SubS.nil
         ·skip
          refine W.skip ?_
          refine E.inn ?_
          refine E.to ?_
          refine W.region ?_
          refine SL.val (O.move rfl rfl Taken.no) ?_
          refine SL.val (O.det (fun _ => by first | exact G.R.add64 rfl rfl (by omega) | exact G.R.add rfl rfl) rfl Taken.no) ?_
          refine SL.val (O.assign rfl rfl Taken.no) ?_
          refine SL.nil ?_
          refine E.again ((m + 1)) (rn []) ?_ ?_ rfl (fixL_spec rfl) ?_ ?_
          · exact (SubF.cons rfl (SubF.cons rfl (SubF.cons rfl SubF.nil)))
          · exact (SubS.cons rfl SubS.nil)
          ·try dsimp only
           exact ⟨by omega, fun j hj => by rcases Nat.lt_succ_iff_lt_or_eq.1 hj with h | h; exact hq j h; subst h; assumption⟩
          · (try dsimp only); omega
        ·skip
         refine W.exit ?_
         refine E.th ?_
         refine E.th ?_
         refine E.hit ?_
         refine E.inn ?_
         refine E.to ?_
         refine W.region ?_
         refine SL.val (O.move rfl rfl Taken.no) ?_
         refine SL.val (O.det (fun _ => by first | exact G.R.add64 rfl rfl (by omega) | exact G.R.add rfl rfl) rfl Taken.no) ?_
         refine SL.val (O.assign rfl rfl Taken.no) ?_
         refine SL.nil ?_
         refine E.again ((k + 1)) (rn []) ?_ ?_ rfl (fixL_spec rfl) ?_ ?_
         · exact (SubF.cons rfl (SubF.cons rfl SubF.nil))
         · exact (SubS.cons rfl SubS.nil)
         ·try dsimp only
          exact ⟨by omega, ok_step hp ⟨by omega, by omega, by omega, fun i hi => hq i (by omega)⟩⟩
         · (try dsimp only); omega
      ·skip
       first | have hg6p := G.gA7 hg6 | have hg6p := G.gA8 hg6 | have hg6p := hg6
       refine SL.skip (OpOk.not rfl rfl rfl hg6) ?_
       refine SL.skip (OpOk.not rfl rfl rfl hg6) ?_
       refine SL.skip (OpOk.not rfl rfl rfl hg6) ?_
       refine SL.skip (OpOk.not rfl rfl rfl hg6) ?_
       refine SL.skip (OpOk.not rfl rfl rfl hg6) ?_
       refine SL.skip (OpOk.not rfl rfl rfl hg6) ?_
       refine SL.skip (OpOk.not rfl rfl rfl hg6) ?_
       refine SL.val (O.pick_t rfl (G.ne_f hg6) rfl rfl Taken.no) ?_
       refine SL.nil ?_
       refine E.to ?_
       refine W.pick (.cons (t := 1) rfl (.cons (t := 3) rfl (.cons (t := 50) rfl .nil))) (.cons (t := 101) rfl .nil) ?_
       refine W.cond_t rfl ?_
       refine W.seq ?_
       refine W.region ?_
       refine SL.val (O.assign rfl rfl Taken.no) ?_
       refine SL.nil ?_
       refine E.to ?_
       refine W.ret ?_
       refine E.thr ?_
       refine E.inr ?_
       refine E.thr ?_
       refine E.thr ?_
       refine E.inr ?_
       refine E.thr ?_
       refine E.fin (rs := [_]) (rn []) (.inl rfl) rfl (.cons (ResOne.tmp rfl) .nil) ?_ ?_ rfl (fixL_spec rfl)
       ·skip
        exact iv_bool (valid_no (k := k) (by omega) (fun h => by unfold okI at h; omega))
       · exact SubS.nil
     ·skip
      first | have hg5p := G.gA7 hg5 | have hg5p := G.gA8 hg5 | have hg5p := hg5
      refine SL.skip (OpOk.not rfl rfl rfl hg5) ?_
      refine SL.skip (OpOk.not rfl rfl rfl hg5) ?_
      refine SL.skip (OpOk.not rfl rfl rfl hg5) ?_
      refine SL.skip (OpOk.not rfl rfl rfl hg5) ?_
      refine SL.skip (OpOk.not rfl rfl rfl hg5) ?_
      refine SL.skip (OpOk.not rfl rfl rfl hg5) ?_
      refine SL.skip (OpOk.not rfl rfl rfl hg5) ?_
      refine SL.val (O.pick_t rfl (G.ne_f hg5) rfl rfl Taken.no) ?_
      refine SL.val (O.move rfl rfl Taken.no) ?_
      have hg10 : true ≠ false := by decide
      refine SL.skip (OpOk.not rfl rfl rfl hg10) ?_
      refine SL.skip (OpOk.not rfl rfl rfl hg10) ?_
      refine SL.skip (OpOk.not rfl rfl rfl hg10) ?_
      refine SL.skip (OpOk.not rfl rfl rfl hg10) ?_
      refine SL.skip (OpOk.not rfl rfl rfl hg10) ?_
      refine SL.skip (OpOk.not rfl rfl rfl hg10) ?_
      refine SL.skip (OpOk.not rfl rfl rfl hg10) ?_
      refine SL.val (O.pick_t rfl rfl rfl rfl Taken.no) ?_
      refine SL.nil ?_
      refine E.to ?_
      refine W.pick (.cons (t := 1) rfl (.cons (t := 3) rfl (.cons (t := 50) rfl .nil))) (.cons (t := 101) rfl .nil) ?_
      refine W.cond_t rfl ?_
      refine W.seq ?_
      refine W.region ?_
      refine SL.val (O.assign rfl rfl Taken.no) ?_
      refine SL.nil ?_
      refine E.to ?_
      refine W.ret ?_
      refine E.thr ?_
      refine E.inr ?_
      refine E.thr ?_
      refine E.thr ?_
      refine E.inr ?_
      refine E.thr ?_
      refine E.fin (rs := [_]) (rn []) (.inl rfl) rfl (.cons (ResOne.tmp rfl) .nil) ?_ ?_ rfl (fixL_spec rfl)
      ·skip
       exact iv_bool (valid_no (k := k) (by omega) (fun h => by unfold okI at h; omega))
      · exact SubS.nil
    ·skip
     refine W.exit ?_
     refine E.th ?_
     refine E.th ?_
     refine E.hit ?_
     refine E.to ?_
     refine W.seq ?_
     refine W.region ?_
     refine SL.val (O.assign rfl rfl Taken.no) ?_
     refine SL.nil ?_
     refine E.to ?_
     refine W.ret ?_
     refine E.fin (rs := [_]) (rn []) (.inl rfl) rfl (.cons (ResOne.tmp rfl) .nil) ?_ ?_ rfl (fixL_spec rfl)
     ·skip
      obtain rfl : k = s.items.length := by omega
      exact iv_bool (dec_t ((valid_yes hp).2 hr))
     · exact SubS.nil
  ·skip
   first | have hg2p := G.gA7 hg2 | have hg2p := G.gA8 hg2 | have hg2p := hg2
   refine SL.skip (OpOk.not rfl rfl rfl hg2) ?_
   refine SL.skip (OpOk.not rfl rfl rfl hg2) ?_
   refine SL.skip (OpOk.not rfl rfl rfl hg2) ?_
   refine SL.skip (OpOk.not rfl rfl rfl hg2) ?_
   refine SL.val (O.pick_t rfl (G.ne_f hg2) rfl rfl Taken.no) ?_
   refine SL.nil ?_
   refine E.to ?_
   refine W.cond_t rfl ?_
   refine W.seq ?_
   refine W.region ?_
   refine SL.val (O.assign rfl rfl Taken.no) ?_
   refine SL.nil ?_
   refine E.to ?_
   refine W.ret ?_
   refine E.thr ?_
   refine E.fin (rs := [_]) (rn []) (.inl rfl) rfl (.cons (ResOne.tmp rfl) .nil) ?_ ?_ rfl (fixL_spec rfl)
   ·skip
    exact iv_bool (dec_f (fun h => by have := h.1; omega))
   · exact SubS.nil
 ·skip
  first | have hg1p := G.gA7 hg1 | have hg1p := G.gA8 hg1 | have hg1p := hg1
  refine SL.skip (OpOk.not rfl rfl rfl hg1) ?_
  refine SL.skip (OpOk.not rfl rfl rfl hg1) ?_
  refine SL.skip (OpOk.not rfl rfl rfl hg1) ?_
  refine SL.val (O.pick_t rfl (G.ne_f hg1) rfl rfl Taken.no) ?_
  refine SL.val (O.move rfl rfl Taken.no) ?_
  have hg11 : true ≠ false := by decide
  refine SL.skip (OpOk.not rfl rfl rfl hg11) ?_
  refine SL.skip (OpOk.not rfl rfl rfl hg11) ?_
  refine SL.skip (OpOk.not rfl rfl rfl hg11) ?_
  refine SL.skip (OpOk.not rfl rfl rfl hg11) ?_
  refine SL.val (O.pick_t rfl rfl rfl rfl Taken.no) ?_
  refine SL.nil ?_
  refine E.to ?_
  refine W.cond_t rfl ?_
  refine W.seq ?_
  refine W.region ?_
  refine SL.val (O.assign rfl rfl Taken.no) ?_
  refine SL.nil ?_
  refine E.to ?_
  refine W.ret ?_
  refine E.thr ?_
  refine E.fin (rs := [_]) (rn []) (.inl rfl) rfl (.cons (ResOne.tmp rfl) .nil) ?_ ?_ rfl (fixL_spec rfl)
  ·skip
   exact iv_bool (dec_f (fun h => by have := h.1; omega))
  · exact SubS.nil

def tV (h : Hit) : List Value := [.int .i64 h.id, .int .i64 h.sc]
theorem eqT (a b : Hit) : eqvL (tV a) (tV b) = decide (a = b) := by
  cases a; cases b
  rw [Bool.eq_iff_iff]
  simp [tV, eqvL, eqv]

set_option maxRecDepth 8000 in
/-- bookplate/bookplateref51.SameHits. -/
theorem sameHits_h {a b : List Hit} :
    Con Try.prog 25 [vL 2 (a.map eT), vL 2 (b.map eT)] [] (vB (decide (a = b))) [] := by
 obtain ⟨i63, hi63, hz63, hs63, hb63⟩ := hinf63
 refine Con.enterL (n := 26) Try.func25 rfl rfl rfl (fun τ w ok vs hin => ?_)
 have hl0 := hin.len (i := 0) rfl
 try rw [List.length_map] at hl0
 have hl1 := hin.len (i := 1) rfl
 try rw [List.length_map] at hl1
 clear hin
 refine W.seq ?_
 refine W.region ?_
 refine SL.val (O.assign rfl rfl Taken.no) ?_
 refine SL.nil ?_
 refine E.to ?_
 refine W.seq ?_
 refine W.seq ?_
 refine W.region ?_
 refine SL.val (O.move rfl rfl Taken.no) ?_
 refine SL.val (O.lenE (SlOf.fz rfl (by decide)) (by first | exact List.length_map _ | rfl) Try.underlying22 rfl Taken.no) ?_
 refine SL.val (O.move rfl rfl Taken.no) ?_
 refine SL.val (O.lenE (SlOf.fz rfl (by decide)) (by first | exact List.length_map _ | rfl) Try.underlying22 rfl Taken.no) ?_
 refine SL.val (O.det (fun _ => G.R.neq rfl rfl) rfl Taken.no) ?_
 refine SL.nil ?_
 refine E.to ?_
 first | refine W.cond_d rfl (fun hc1 => ?_) (fun hc1 => ?_) | refine W.cond_nd rfl (fun hc1 => ?_) (fun hc1 => ?_) | refine W.cond rfl (fun hc1 => ?_) (fun hc1 => ?_)
 ·skip
  refine W.seq ?_
  refine W.region ?_
  refine SL.val (O.assign rfl rfl Taken.no) ?_
  refine SL.nil ?_
  refine E.to ?_
  refine W.ret ?_
  refine E.thr ?_
  refine E.fin (rs := [_]) (rn []) (.inl rfl) rfl (.cons (ResOne.tmp rfl) .nil) ?_ ?_ rfl (fixL_spec rfl)
  ·skip
   exact iv_bool (decide_eq_false fun e => by subst e; omega)
  · exact SubS.nil
 ·skip
  refine W.skip ?_
  refine E.to ?_
  refine W.seq ?_
  refine W.seq ?_
  refine W.region ?_
  refine SL.val (O.assign rfl rfl Taken.no) ?_
  refine SL.nil ?_
  refine E.to ?_
  refine W.block ?_
  refine W.loopx1 (fun (k : Nat) => [(5, vI (k : Int))]) (fun (k : Nat) => []) (fun (k : Nat) => k ≤ a.length ∧ ∀ j, j < k → a[j]! = b[j]!) (fun (k : Nat) => a.length - k) (0) (rn []) (.cons (t := 0) rfl (.cons (t := 1) rfl .nil)) .nil rfl ?_ ?_ rfl rfl ?_ ?_
  · exact (SubF.cons rfl SubF.nil)
  · exact SubS.nil
  ·skip
   exact ⟨by omega, fun j h => by omega⟩
  intro k hinv
  obtain ⟨hk, hp⟩ := hinv
  refine W.seq ?_
  refine W.seq ?_
  refine W.region ?_
  refine SL.val (O.move rfl rfl Taken.no) ?_
  refine SL.val (O.move rfl rfl Taken.no) ?_
  refine SL.val (O.lenE (SlOf.fz rfl (by decide)) (by first | exact List.length_map _ | rfl) Try.underlying22 rfl Taken.no) ?_
  refine SL.val (O.det (fun _ => G.R.lss rfl rfl) rfl Taken.no) ?_
  refine SL.nil ?_
  refine E.to ?_
  first | refine W.cond_d rfl (fun hc2 => ?_) (fun hc2 => ?_) | refine W.cond_nd rfl (fun hc2 => ?_) (fun hc2 => ?_) | refine W.cond rfl (fun hc2 => ?_) (fun hc2 => ?_)
  ·skip
   refine W.skip ?_
   refine E.to ?_
   refine W.seq ?_
   refine W.block ?_
   refine W.seq ?_
   refine W.draw [⟨[], [], []⟩, ⟨[], [], []⟩, ⟨[], [], []⟩, ⟨[], [], []⟩, ⟨[], [], []⟩, ⟨[], [], []⟩, ⟨[], [], []⟩, ⟨[], [], []⟩, ⟨[], [], []⟩] rfl (by kernel_rfl) (by kernel_rfl) rfl rfl ?_
   refine WH.val (O.move rfl rfl Taken.no) rfl rfl ?_
   refine WH.val (O.move rfl rfl Taken.no) rfl rfl ?_
   refine WH.val (O.idx_fz rfl rfl (rfl) (row_get (by omega)) Try.underlying22 hi63 hs63 rfl Taken.no) rfl rfl ?_
   refine WH.val (O.ldU (m := 2) (PtU.fz rfl) rfl Try.underlying63 rfl (by kernel_rfl) rfl Taken.no) rfl rfl ?_
   refine WH.val (O.move rfl rfl Taken.no) rfl rfl ?_
   refine WH.val (O.move rfl rfl Taken.no) rfl rfl ?_
   refine WH.val (O.idx_fz rfl rfl (rfl) (row_get (by omega)) Try.underlying22 hi63 hs63 rfl Taken.no) rfl rfl ?_
   refine WH.val (O.ldU (m := 2) (PtU.fz rfl) rfl Try.underlying63 rfl (by kernel_rfl) rfl Taken.no) rfl rfl ?_
   refine WH.val (O.neAgg (ls := (tV a[k]!)) (ms := (tV b[k]!)) (r := (!decide (a[k]! = b[k]!))) (.inl rfl) (.inl rfl) (by kernel_rfl) (by kernel_rfl) (by kernel_rfl) (by kernel_rfl) (by rw [eqT]) rfl Taken.no) rfl rfl ?_
   refine WH.nil ?_
   refine E.to ?_
   first | refine W.cond_d rfl (fun hc3 => ?_) (fun hc3 => ?_) | refine W.cond_nd rfl (fun hc3 => ?_) (fun hc3 => ?_) | refine W.cond rfl (fun hc3 => ?_) (fun hc3 => ?_)
   ·skip
    refine W.seq ?_
    refine W.region ?_
    refine SL.val (O.assign rfl rfl Taken.no) ?_
    refine SL.nil ?_
    refine E.to ?_
    refine W.ret ?_
    refine E.inr ?_
    refine E.thr ?_
    refine E.thr ?_
    refine E.inr ?_
    refine E.thr ?_
    refine E.fin (rs := [_]) (rn []) (.inl rfl) rfl (.cons (ResOne.tmp rfl) .nil) ?_ ?_ rfl (fixL_spec rfl)
    ·skip
     exact iv_bool (decide_eq_false fun e => by subst e; simp_all)
    · exact SubS.nil
   ·skip
    refine W.skip ?_
    refine E.inn ?_
    refine E.to ?_
    refine W.region ?_
    refine SL.val (O.move rfl rfl Taken.no) ?_
    refine SL.val (O.det (fun _ => by first | exact G.R.add64 rfl rfl (by omega) | exact G.R.add rfl rfl) rfl Taken.no) ?_
    refine SL.val (O.assign rfl rfl Taken.no) ?_
    refine SL.nil ?_
    refine E.again ((k + 1)) (rn []) ?_ ?_ rfl (fixL_spec rfl) ?_ ?_
    · exact (SubF.cons rfl (SubF.cons rfl (SubF.cons rfl SubF.nil)))
    · exact SubS.nil
    ·try dsimp only
     exact ⟨by omega, fun j hj => by rcases Nat.lt_succ_iff_lt_or_eq.1 hj with h | h; exact hp j h; subst h; first | assumption | simp_all⟩
    · (try dsimp only); omega
  ·skip
   refine W.exit ?_
   refine E.th ?_
   refine E.th ?_
   refine E.hit ?_
   refine E.to ?_
   refine W.seq ?_
   refine W.region ?_
   refine SL.val (O.assign rfl rfl Taken.no) ?_
   refine SL.nil ?_
   refine E.to ?_
   refine W.ret ?_
   refine E.fin (rs := [_]) (rn []) (.inl rfl) rfl (.cons (ResOne.tmp rfl) .nil) ?_ ?_ rfl (fixL_spec rfl)
   ·skip
    exact iv_bool (decide_eq_true (ext_get (by omega) (fun j hj => hp j (by omega))))
   · exact SubS.nil

set_option maxRecDepth 8000 in
/-- bookplate/bookplatelaw51.ours. -/
theorem ours_h {s : Sess} :
    Con Try.prog 16 [vA [uI s.size, .sl 2 (s.items.map eT)]] [] (.agg [vI s.size, vL 2 (s.items.map eT)]) [] := by
 refine Con.enterL (n := 8) Try.func16 rfl rfl rfl (fun τ w ok vs hin => ?_)
 have hl0_1 := hin.lenA (i := 0) (j := 1) rfl rfl
 try rw [List.length_map] at hl0_1
 clear hin
 refine W.seq ?_
 refine W.region ?_
 refine SL.memS (O.box (is := [_, _]) 101 rfl rfl (by simp) rfl rfl Taken.no) rfl rfl (S' := (101, _) :: _) rfl ?_
 refine SL.memS (O.alloc (z := .agg #[.int .i64 0, .slice none 0 0]) (is := [.u (.sc (.int .i64 0)), .u (.sc (.slice none 0 0))]) 102 (by kernel_rfl) rfl rfl rfl Taken.no) rfl rfl (S' := (102, _) :: _) rfl ?_
 refine SL.nil ?_
 refine E.to ?_
 refine W.seq ?_
 refine W.region ?_
 refine SL.val (O.fld_ref (o' := 0) rfl Try.underlying31 rfl (m := 0) (by kernel_rfl) rfl rfl Taken.no) ?_
 refine SL.val (O.ld1 (PtI.ref rfl rfl) rfl Try.underlying3 rfl rfl Taken.no) ?_
 refine SL.val (O.fld_ref (o' := 1) rfl Try.underlying31 rfl (m := 0) (by kernel_rfl) rfl rfl Taken.no) ?_
 refine SL.val (O.ld1 (PtI.ref rfl rfl) rfl Try.underlying22 rfl rfl Taken.no) ?_
 refine SL.val (O.build (res := [_, _]) (z := .agg #[.int .i64 0, .slice none 0 0]) (places := [(0, 1), (1, 1)]) rfl rfl Try.underlying27 (by kernel_rfl) (fun _ => by kernel_rfl) rfl rfl Taken.no) ?_
 refine SL.effS (O.st_ref (m := 2) rfl rfl rfl (js := [_, _]) rfl rfl (by kernel_rfl) (by simp) (Nat.le_of_ble_eq_true rfl) rfl (is' := [_, _]) rfl Taken.no) (S' := (102, _) :: _) rfl ?_
 refine SL.nil ?_
 refine E.to ?_
 refine W.ret ?_
 refine E.fin (rs := [_]) (rn []) (.inl rfl) rfl (.cons (ResOne.cellN (m := 2) (PtI.ref rfl rfl) (js := [_, _]) rfl (Nat.le_of_ble_eq_true rfl) Try.underlying27 rfl (by kernel_rfl)) .nil) ?_ ?_ rfl (fixL_spec rfl)
 ·skip
  rfl
 · exact SubS.nil

set_option maxRecDepth 8000 in
/-- bookplate/bookplatelaw51.short. -/
theorem short_h {l : List Hit} :
    Con Try.prog 12 [vL 2 (l.map eT)] [] (vB (decide (l.length ≤ 60))) [] := by
 refine Con.enterL (n := 6) Try.func12 rfl rfl rfl (fun τ w ok vs hin => ?_)
 have hl0 := hin.len (i := 0) rfl
 try rw [List.length_map] at hl0
 clear hin
 refine W.seq ?_
 refine W.region ?_
 refine SL.val (O.assign rfl rfl Taken.no) ?_
 refine SL.nil ?_
 refine E.to ?_
 refine W.seq ?_
 refine W.region ?_
 refine SL.val (O.move rfl rfl Taken.no) ?_
 refine SL.val (O.lenE (SlOf.fz rfl (by decide)) (by first | exact List.length_map _ | rfl) Try.underlying22 rfl Taken.no) ?_
 refine SL.val (O.det (fun _ => G.R.leq rfl rfl) rfl Taken.no) ?_
 refine SL.val (O.assign rfl rfl Taken.no) ?_
 refine SL.nil ?_
 refine E.to ?_
 refine W.ret ?_
 refine E.fin (rs := [_]) (rn []) (.inl rfl) rfl (.cons (ResOne.tmp rfl) .nil) ?_ ?_ rfl (fixL_spec rfl)
 ·skip
  exact iv_bool (dec_iff (by omega))
 · exact SubS.nil

end Go.Proofs.Ytoebjajbmkdcfaa
