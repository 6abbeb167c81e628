/-
  The walks.
-/
import Derived.Test.YtfmgpocbpbfalaaH8
import Derived.Test.YtfmgpocbpbfalaaW41
namespace Go.Proofs.Ytfmgpocbpbfalaa
open Go Go.RowKit Go.H Go.D41

theorem hcallOk13 : G.callOk Try.prog 13 = true := by kernel_rfl
theorem hcallOk14 : G.callOk Try.prog 14 = true := by kernel_rfl
theorem hcallOk24 : G.callOk Try.prog 24 = true := by kernel_rfl
theorem hcallOk33 : G.callOk Try.prog 33 = true := by kernel_rfl
theorem hcallOk55 : G.callOk Try.prog 55 = true := by kernel_rfl
theorem hcallOk57 : G.callOk Try.prog 57 = true := by kernel_rfl
theorem hcallOk65 : G.callOk Try.prog 65 = true := by kernel_rfl

set_option maxRecDepth 8000 in
/-- bookplate/bookplateref41.Equal. -/
theorem refEqual_step {a b : Tr} (ih : ∀ x ∈ a.kids, ∀ y, Con Try.prog 14 [vA [uT x.lab, uB x.wd, .sl 3 (x.kids.map eTr)], vA [uT y.lab, uB y.wd, .sl 3 (y.kids.map eTr)]] [] (vB (decide (x = y))) []) :
    Con Try.prog 14 [vA [uT a.lab, uB a.wd, .sl 3 (a.kids.map eTr)], vA [uT b.lab, uB b.wd, .sl 3 (b.kids.map eTr)]] [] (vB (decide (a = b))) [] := by
 obtain ⟨i33, hi33, hz33, hs33, hb33⟩ := hinf33
 refine Con.enterL (n := 46) Try.func14 rfl rfl rfl (fun τ w ok vs hin => ?_)
 have hl0_2 := hin.lenA (i := 0) (j := 2) rfl rfl
 try rw [List.length_map] at hl0_2
 have hl1_2 := hin.lenA (i := 1) (j := 2) rfl rfl
 try rw [List.length_map] at hl1_2
 clear hin
 refine W.seq ?_
 refine W.region ?_
 refine SL.memS (O.box (is := [_, _, _]) 101 rfl rfl (by simp) rfl rfl Taken.no) rfl rfl (S' := (101, _) :: _) rfl ?_
 refine SL.memS (O.box (is := [_, _, _]) 102 rfl rfl (by simp) rfl rfl Taken.no) rfl rfl (S' := (102, _) :: _) rfl ?_
 refine SL.val (O.assign rfl rfl Taken.no) ?_
 refine SL.nil ?_
 refine E.to ?_
 refine W.seq ?_
 refine W.seq ?_
 refine W.region ?_
 refine SL.val (O.fld_ref (o' := 0) rfl Try.underlying33 rfl (m := 0) (by kernel_rfl) rfl rfl Taken.no) ?_
 refine SL.val (O.ld1 (PtI.ref rfl rfl) rfl Try.underlying9 rfl rfl Taken.no) ?_
 refine SL.val (O.fld_ref (o' := 0) rfl Try.underlying33 rfl (m := 0) (by kernel_rfl) rfl rfl Taken.no) ?_
 refine SL.val (O.ld1 (PtI.ref rfl rfl) rfl Try.underlying9 rfl rfl Taken.no) ?_
 refine SL.val (O.det (fun _ => G.R.strneL rfl rfl) rfl Taken.no) ?_
 refine SL.val (O.move rfl rfl Taken.no) ?_
 refine SL.case (j := 5) (g := 11) (want := false) rfl rfl (fun hg1 => ?_) (fun hg1 => ?_)
 ·skip
  first | have hg1p := G.gA3 hg1 | have hg1p := G.gA4 hg1 | have hg1p := hg1
  refine SL.val (O.fld_ref (o' := 1) rfl Try.underlying33 rfl (m := 0) (by kernel_rfl) rfl rfl (Taken.yes rfl rfl hg1)) ?_
  refine SL.val (O.ld1 (PtI.ref rfl rfl) rfl Try.underlying4 rfl rfl (Taken.yes rfl rfl hg1)) ?_
  refine SL.val (O.fld_ref (o' := 1) rfl Try.underlying33 rfl (m := 0) (by kernel_rfl) rfl rfl (Taken.yes rfl rfl hg1)) ?_
  refine SL.val (O.ld1 (PtI.ref rfl rfl) rfl Try.underlying4 rfl rfl (Taken.yes rfl rfl hg1)) ?_
  refine SL.val (O.det (fun _ => G.R.boolneq rfl rfl Try.underlying4) rfl (Taken.yes rfl rfl hg1)) ?_
  refine SL.val (O.pick_f rfl hg1 rfl rfl Taken.no) ?_
  refine SL.val (O.move rfl rfl Taken.no) ?_
  refine SL.case (j := 12) (g := 18) (want := false) rfl rfl (fun hg2 => ?_) (fun hg2 => ?_)
  ·skip
   first | have hg2p := G.gA3 hg2 | have hg2p := G.gA4 hg2 | have hg2p := hg2
   refine SL.val (O.fld_ref (o' := 2) rfl Try.underlying33 rfl (m := 0) (by kernel_rfl) rfl rfl (Taken.yes rfl rfl hg2)) ?_
   refine SL.val (O.ld1 (PtI.ref rfl rfl) rfl Try.underlying31 rfl rfl (Taken.yes rfl rfl hg2)) ?_
   refine SL.val (O.lenE (SlOf.fz rfl (by decide)) (by first | exact List.length_map _ | rfl) Try.underlying31 rfl (Taken.yes rfl rfl hg2)) ?_
   refine SL.val (O.fld_ref (o' := 2) rfl Try.underlying33 rfl (m := 0) (by kernel_rfl) rfl rfl (Taken.yes rfl rfl hg2)) ?_
   refine SL.val (O.ld1 (PtI.ref rfl rfl) rfl Try.underlying31 rfl rfl (Taken.yes rfl rfl hg2)) ?_
   refine SL.val (O.lenE (SlOf.fz rfl (by decide)) (by first | exact List.length_map _ | rfl) Try.underlying31 rfl (Taken.yes rfl rfl hg2)) ?_
   refine SL.val (O.det (fun _ => G.R.neq rfl rfl) rfl (Taken.yes rfl rfl hg2)) ?_
   refine SL.val (O.pick_f rfl hg2 rfl rfl Taken.no) ?_
   refine SL.nil ?_
   refine E.to ?_
   refine W.pick (.cons (t := 2) rfl (.cons (t := 3) rfl (.cons (t := 4) rfl (.cons (t := 26) rfl .nil)))) (.cons (t := 101) rfl (.cons (t := 102) rfl .nil)) ?_
   first | refine W.cond_d rfl (fun hc3 => ?_) (fun hc3 => ?_) | refine W.cond_nd rfl (fun hc3 => ?_) (fun hc3 => ?_) | refine W.cond rfl (fun hc3 => ?_) (fun hc3 => ?_)
   ·skip
    refine W.seq ?_
    refine W.region ?_
    refine SL.val (O.assign rfl rfl Taken.no) ?_
    refine SL.nil ?_
    refine E.to ?_
    refine W.ret ?_
    refine E.thr ?_
    refine E.fin (rs := [_]) (rn []) (.inl rfl) rfl (.cons (ResOne.tmp rfl) .nil) ?_ ?_ rfl (fixL_spec rfl)
    ·skip
     exact iv_bool (dec_f fun e => by subst e; simp_all)
    · exact SubS.nil
   ·skip
    have h1 : a.lab = b.lab := by simp_all
    have h2 : a.wd = b.wd := by simp_all
    have h3 : a.kids.length = b.kids.length := by omega
    refine W.skip ?_
    refine E.to ?_
    refine W.seq ?_
    refine W.seq ?_
    refine W.region ?_
    refine SL.val (O.assign rfl rfl Taken.no) ?_
    refine SL.nil ?_
    refine E.to ?_
    refine W.block ?_
    refine W.loopx1 (fun (k : Nat) => [(5, vI (k : Int))]) (fun (k : Nat) => []) (fun (k : Nat) => k ≤ a.kids.length ∧ ∀ j, j < k → a.kids[j]! = b.kids[j]!) (fun (k : Nat) => a.kids.length - k) (0) (rn []) (.cons (t := 2) rfl (.cons (t := 3) rfl .nil)) (.cons (t := 101) rfl (.cons (t := 102) rfl .nil)) rfl ?_ ?_ rfl rfl ?_ ?_
    · exact (SubF.cons rfl SubF.nil)
    · exact SubS.nil
    ·skip
     exact ⟨by omega, fun j h => by omega⟩
    intro k hinv
    obtain ⟨hk, hp⟩ := hinv
    refine W.seq ?_
    refine W.seq ?_
    refine W.region ?_
    refine SL.val (O.move rfl rfl Taken.no) ?_
    refine SL.val (O.fld_ref (o' := 2) rfl Try.underlying33 rfl (m := 0) (by kernel_rfl) rfl rfl Taken.no) ?_
    refine SL.val (O.ld1 (PtI.ref rfl rfl) rfl Try.underlying31 rfl rfl Taken.no) ?_
    refine SL.val (O.lenE (SlOf.fz rfl (by decide)) (by first | exact List.length_map _ | rfl) Try.underlying31 rfl Taken.no) ?_
    refine SL.val (O.det (fun _ => G.R.lss rfl rfl) rfl Taken.no) ?_
    refine SL.nil ?_
    refine E.to ?_
    first | refine W.cond_d rfl (fun hc4 => ?_) (fun hc4 => ?_) | refine W.cond_nd rfl (fun hc4 => ?_) (fun hc4 => ?_) | refine W.cond rfl (fun hc4 => ?_) (fun hc4 => ?_)
    ·skip
     refine W.skip ?_
     refine E.to ?_
     refine W.seq ?_
     refine W.block ?_
     refine W.seq ?_
     refine W.draw [⟨[101], [], []⟩, ⟨[101], [], []⟩, ⟨[], [], []⟩, ⟨[], [], []⟩, ⟨[], [], []⟩, ⟨[102], [], []⟩, ⟨[102], [], []⟩, ⟨[], [], []⟩, ⟨[], [], []⟩, ⟨[], [], []⟩, ⟨[], [], []⟩, ⟨[], [], []⟩] rfl (by kernel_rfl) (by kernel_rfl) rfl rfl ?_
     refine WH.val (O.fld_ref (o' := 2) rfl Try.underlying33 rfl (m := 0) (by kernel_rfl) rfl rfl Taken.no) rfl rfl ?_
     refine WH.val (O.ld1 (PtI.ref rfl rfl) rfl Try.underlying31 rfl rfl Taken.no) rfl rfl ?_
     refine WH.val (O.move rfl rfl Taken.no) rfl rfl ?_
     refine WH.val (O.idx_fz rfl rfl (rfl) (row_tr (by omega)) Try.underlying31 hi33 hs33 rfl Taken.no) rfl rfl ?_
     refine WH.val (O.ldU (m := 3) (PtU.fz rfl) rfl Try.underlying33 rfl (by kernel_rfl) rfl Taken.no) rfl rfl ?_
     refine WH.val (O.fld_ref (o' := 2) rfl Try.underlying33 rfl (m := 0) (by kernel_rfl) rfl rfl Taken.no) rfl rfl ?_
     refine WH.val (O.ld1 (PtI.ref rfl rfl) rfl Try.underlying31 rfl rfl Taken.no) rfl rfl ?_
     refine WH.val (O.move rfl rfl Taken.no) rfl rfl ?_
     refine WH.val (O.idx_fz rfl rfl (rfl) (row_tr (by omega)) Try.underlying31 hi33 hs33 rfl Taken.no) rfl rfl ?_
     refine WH.val (O.ldU (m := 3) (PtU.fz rfl) rfl Try.underlying33 rfl (by kernel_rfl) rfl Taken.no) rfl rfl ?_
     refine WH.val (O.callp rfl rfl rfl (ih a.kids[k]! (at_mem (by omega)) b.kids[k]!) (.cons (ArgOk.same rfl) (.cons (ArgOk.same rfl) .nil)) hcallOk14 rfl Taken.no) rfl rfl ?_
     refine WH.val (O.det (fun _ => G.R.not rfl) rfl Taken.no) rfl rfl ?_
     refine WH.nil ?_
     refine E.to ?_
     first | refine W.cond_d rfl (fun hc5 => ?_) (fun hc5 => ?_) | refine W.cond_nd rfl (fun hc5 => ?_) (fun hc5 => ?_) | refine W.cond rfl (fun hc5 => ?_) (fun hc5 => ?_)
     ·skip
      refine W.seq ?_
      refine W.region ?_
      refine SL.val (O.assign rfl rfl Taken.no) ?_
      refine SL.nil ?_
      refine E.to ?_
      refine W.ret ?_
      refine E.inr ?_
      refine E.thr ?_
      refine E.thr ?_
      refine E.inr ?_
      refine E.thr ?_
      refine E.fin (rs := [_]) (rn []) (.inl rfl) rfl (.cons (ResOne.tmp rfl) .nil) ?_ ?_ rfl (fixL_spec rfl)
      ·skip
       exact iv_bool (dec_f (kids_ne (k := k) (by first | assumption | simp_all)))
      · exact SubS.nil
     ·skip
      refine W.skip ?_
      refine E.inn ?_
      refine E.to ?_
      refine W.region ?_
      refine SL.val (O.move rfl rfl Taken.no) ?_
      refine SL.val (O.det (fun _ => by first | exact G.R.add64 rfl rfl (by omega) | exact G.R.add rfl rfl) rfl Taken.no) ?_
      refine SL.val (O.assign rfl rfl Taken.no) ?_
      refine SL.nil ?_
      refine E.again ((k + 1)) (rn []) ?_ ?_ rfl (fixL_spec rfl) ?_ ?_
      · exact (SubF.cons rfl (SubF.cons rfl (SubF.cons rfl SubF.nil)))
      · exact (SubS.cons rfl (SubS.cons rfl SubS.nil))
      ·try dsimp only
       exact ⟨by omega, fun j hj => by rcases Nat.lt_succ_iff_lt_or_eq.1 hj with h | h; exact hp j h; subst h; first | assumption | simp_all⟩
      · (try dsimp only); omega
    ·skip
     refine W.exit ?_
     refine E.th ?_
     refine E.th ?_
     refine E.hit ?_
     refine E.to ?_
     refine W.seq ?_
     refine W.region ?_
     refine SL.val (O.assign rfl rfl Taken.no) ?_
     refine SL.nil ?_
     refine E.to ?_
     refine W.ret ?_
     refine E.fin (rs := [_]) (rn []) (.inl rfl) rfl (.cons (ResOne.tmp rfl) .nil) ?_ ?_ rfl (fixL_spec rfl)
     ·skip
      exact iv_bool (dec_t (tr_eq h1 h2 h3 fun j hj => hp j (by omega)))
     · exact SubS.nil
  ·skip
   first | have hg2p := G.gA7 hg2 | have hg2p := G.gA8 hg2 | have hg2p := hg2
   refine SL.skip (OpOk.not rfl rfl rfl hg2) ?_
   refine SL.skip (OpOk.not rfl rfl rfl hg2) ?_
   refine SL.skip (OpOk.not rfl rfl rfl hg2) ?_
   refine SL.skip (OpOk.not rfl rfl rfl hg2) ?_
   refine SL.skip (OpOk.not rfl rfl rfl hg2) ?_
   refine SL.skip (OpOk.not rfl rfl rfl hg2) ?_
   refine SL.skip (OpOk.not rfl rfl rfl hg2) ?_
   refine SL.val (O.pick_t rfl (G.ne_f hg2) rfl rfl Taken.no) ?_
   refine SL.nil ?_
   refine E.to ?_
   refine W.pick (.cons (t := 2) rfl (.cons (t := 3) rfl (.cons (t := 4) rfl (.cons (t := 26) rfl .nil)))) (.cons (t := 101) rfl (.cons (t := 102) rfl .nil)) ?_
   refine W.cond_t rfl ?_
   refine W.seq ?_
   refine W.region ?_
   refine SL.val (O.assign rfl rfl Taken.no) ?_
   refine SL.nil ?_
   refine E.to ?_
   refine W.ret ?_
   refine E.thr ?_
   refine E.fin (rs := [_]) (rn []) (.inl rfl) rfl (.cons (ResOne.tmp rfl) .nil) ?_ ?_ rfl (fixL_spec rfl)
   ·skip
    exact iv_bool (dec_f fun e => by subst e; simp_all)
   · exact SubS.nil
 ·skip
  first | have hg1p := G.gA7 hg1 | have hg1p := G.gA8 hg1 | have hg1p := hg1
  refine SL.skip (OpOk.not rfl rfl rfl hg1) ?_
  refine SL.skip (OpOk.not rfl rfl rfl hg1) ?_
  refine SL.skip (OpOk.not rfl rfl rfl hg1) ?_
  refine SL.skip (OpOk.not rfl rfl rfl hg1) ?_
  refine SL.skip (OpOk.not rfl rfl rfl hg1) ?_
  refine SL.val (O.pick_t rfl (G.ne_f hg1) rfl rfl Taken.no) ?_
  refine SL.val (O.move rfl rfl Taken.no) ?_
  have hg6 : true ≠ false := by decide
  refine SL.skip (OpOk.not rfl rfl rfl hg6) ?_
  refine SL.skip (OpOk.not rfl rfl rfl hg6) ?_
  refine SL.skip (OpOk.not rfl rfl rfl hg6) ?_
  refine SL.skip (OpOk.not rfl rfl rfl hg6) ?_
  refine SL.skip (OpOk.not rfl rfl rfl hg6) ?_
  refine SL.skip (OpOk.not rfl rfl rfl hg6) ?_
  refine SL.skip (OpOk.not rfl rfl rfl hg6) ?_
  refine SL.val (O.pick_t rfl rfl rfl rfl Taken.no) ?_
  refine SL.nil ?_
  refine E.to ?_
  refine W.pick (.cons (t := 2) rfl (.cons (t := 3) rfl (.cons (t := 4) rfl (.cons (t := 26) rfl .nil)))) (.cons (t := 101) rfl (.cons (t := 102) rfl .nil)) ?_
  refine W.cond_t rfl ?_
  refine W.seq ?_
  refine W.region ?_
  refine SL.val (O.assign rfl rfl Taken.no) ?_
  refine SL.nil ?_
  refine E.to ?_
  refine W.ret ?_
  refine E.thr ?_
  refine E.fin (rs := [_]) (rn []) (.inl rfl) rfl (.cons (ResOne.tmp rfl) .nil) ?_ ?_ rfl (fixL_spec rfl)
  ·skip
   exact iv_bool (dec_f fun e => by subst e; simp_all)
  · exact SubS.nil

theorem refEqual_h (a : Tr) : ∀ b : Tr, Con Try.prog 14 [vA [uT a.lab, uB a.wd, .sl 3 (a.kids.map eTr)], vA [uT b.lab, uB b.wd, .sl 3 (b.kids.map eTr)]] [] (vB (decide (a = b))) [] := Tr.ind (p := fun a => ∀ b : Tr, Con Try.prog 14 [vA [uT a.lab, uB a.wd, .sl 3 (a.kids.map eTr)], vA [uT b.lab, uB b.wd, .sl 3 (b.kids.map eTr)]] [] (vB (decide (a = b))) []) (fun _ ih _ => refEqual_step ih) a

set_option maxRecDepth 8000 in
/-- slices.EqualFunc[[]bookplate/prefix.Node,[]bookplate/prefix.Node,bookplate/prefix.Node,bookplate/prefix.Node]. -/
theorem equalFunc_h {f : Nat} {caps : List UV} {p q : List Tr} (hok : G.callOk Try.prog f = true) (hpr : ∀ x ∈ p, ∀ y, Con Try.prog f ([vA [uT x.lab, uB x.wd, .sl 3 (x.kids.map eTr)], vA [uT y.lab, uB y.wd, .sl 3 (y.kids.map eTr)]] ++ caps.map .u) [] (vB (decide (x = y))) []) :
    Con Try.prog 55 [vL 3 (p.map eTr), vL 3 (q.map eTr), .u (.clo (.func f) [] caps)] [] (vB (decide (p = q))) [] := by
 obtain ⟨i27, hi27, hz27, hs27, hb27⟩ := hinf27
 refine Con.enterL (n := 32) Try.func55 rfl rfl rfl (fun τ w ok vs hin => ?_)
 have hl0 := hin.len (i := 0) rfl
 try rw [List.length_map] at hl0
 have hl1 := hin.len (i := 1) rfl
 try rw [List.length_map] at hl1
 clear hin
 refine W.seq ?_
 refine W.region ?_
 refine SL.val (O.assign rfl rfl Taken.no) ?_
 refine SL.nil ?_
 refine E.to ?_
 refine W.seq ?_
 refine W.seq ?_
 refine W.region ?_
 refine SL.val (O.move rfl rfl Taken.no) ?_
 refine SL.val (O.lenE (SlOf.fz rfl (by decide)) (by first | exact List.length_map _ | rfl) Try.underlying25 rfl Taken.no) ?_
 refine SL.val (O.move rfl rfl Taken.no) ?_
 refine SL.val (O.lenE (SlOf.fz rfl (by decide)) (by first | exact List.length_map _ | rfl) Try.underlying25 rfl Taken.no) ?_
 refine SL.val (O.det (fun _ => G.R.neq rfl rfl) rfl Taken.no) ?_
 refine SL.nil ?_
 refine E.to ?_
 first | refine W.cond_d rfl (fun hc1 => ?_) (fun hc1 => ?_) | refine W.cond_nd rfl (fun hc1 => ?_) (fun hc1 => ?_) | refine W.cond rfl (fun hc1 => ?_) (fun hc1 => ?_)
 ·skip
  refine W.seq ?_
  refine W.region ?_
  refine SL.val (O.assign rfl rfl Taken.no) ?_
  refine SL.nil ?_
  refine E.to ?_
  refine W.ret ?_
  refine E.thr ?_
  refine E.fin (rs := [_]) (rn []) (.inl rfl) rfl (.cons (ResOne.tmp rfl) .nil) ?_ ?_ rfl (fixL_spec rfl)
  ·skip
   exact iv_bool (dec_f fun e => by subst e; omega)
  · exact SubS.nil
 ·skip
  refine W.skip ?_
  refine E.to ?_
  refine W.seq ?_
  refine W.seq ?_
  refine W.region ?_
  refine SL.val (O.move rfl rfl Taken.no) ?_
  refine SL.val (O.lenE (SlOf.fz rfl (by decide)) (by first | exact List.length_map _ | rfl) Try.underlying25 rfl Taken.no) ?_
  refine SL.val (O.move rfl rfl Taken.no) ?_
  refine SL.nil ?_
  refine E.to ?_
  refine W.block ?_
  refine W.loopx1 (fun (k : Nat) => [(17, vI (k : Int))]) (fun (k : Nat) => []) (fun (k : Nat) => k ≤ p.length ∧ ∀ j, j < k → p[j]! = q[j]!) (fun (k : Nat) => p.length - k) (0) (rn []) (.cons (t := 1) rfl (.cons (t := 2) rfl (.cons (t := 15) rfl (.cons (t := 16) rfl .nil)))) .nil rfl ?_ ?_ rfl rfl ?_ ?_
  · exact (SubF.cons rfl SubF.nil)
  · exact SubS.nil
  ·skip
   exact ⟨by omega, fun j h => by omega⟩
  intro k hinv
  obtain ⟨hk, hp⟩ := hinv
  refine W.seq ?_
  refine W.region ?_
  refine SL.val (O.det (fun _ => G.R.lss rfl rfl) rfl Taken.no) ?_
  refine SL.nil ?_
  refine E.to ?_
  refine W.seq ?_
  first | refine W.cond_d rfl (fun hc2 => ?_) (fun hc2 => ?_) | refine W.cond_nd rfl (fun hc2 => ?_) (fun hc2 => ?_) | refine W.cond rfl (fun hc2 => ?_) (fun hc2 => ?_)
  ·skip
   refine W.skip ?_
   refine E.to ?_
   refine W.seq ?_
   refine W.block ?_
   refine W.seq ?_
   refine W.region ?_
   refine SL.val (O.move rfl rfl Taken.no) ?_
   refine SL.val (O.idx_fz rfl rfl (rfl) (row_tr (by omega)) Try.underlying25 hi27 hs27 rfl Taken.no) ?_
   refine SL.val (O.ldU (m := 3) (PtU.fz rfl) rfl Try.underlying27 rfl (by kernel_rfl) rfl Taken.no) ?_
   refine SL.memS (O.alloc (z := .agg #[.string (Go.G.bs []), .bool false, .slice none 0 0]) (is := [.u (.sc (.string (Go.G.bs []))), .u (.sc (.bool false)), .u (.sc (.slice none 0 0))]) 101 (by kernel_rfl) rfl rfl rfl Taken.no) rfl rfl (S' := (101, _) :: _) rfl ?_
   refine SL.val (O.assign rfl rfl Taken.no) ?_
   refine SL.effS (O.st_ref (m := 3) rfl rfl rfl (js := [_, _, _]) rfl rfl (by kernel_rfl) (by simp) (Nat.le_of_ble_eq_true rfl) rfl (is' := [_, _, _]) rfl Taken.no) (S' := (101, _) :: _) rfl ?_
   refine SL.nil ?_
   refine E.to ?_
   refine W.seq ?_
   refine W.region ?_
   refine SL.val (O.move rfl rfl Taken.no) ?_
   refine SL.val (O.move rfl rfl Taken.no) ?_
   refine SL.val (O.idx_fz rfl rfl (rfl) (row_tr (by omega)) Try.underlying25 hi27 hs27 rfl Taken.no) ?_
   refine SL.val (O.ldU (m := 3) (PtU.fz rfl) rfl Try.underlying27 rfl (by kernel_rfl) rfl Taken.no) ?_
   refine SL.memS (O.alloc (z := .agg #[.string (Go.G.bs []), .bool false, .slice none 0 0]) (is := [.u (.sc (.string (Go.G.bs []))), .u (.sc (.bool false)), .u (.sc (.slice none 0 0))]) 102 (by kernel_rfl) rfl rfl rfl Taken.no) rfl rfl (S' := (102, _) :: _) rfl ?_
   refine SL.effS (O.st_ref (m := 3) rfl rfl rfl (js := [_, _, _]) rfl rfl (by kernel_rfl) (by simp) (Nat.le_of_ble_eq_true rfl) rfl (is' := [_, _, _]) rfl Taken.no) (S' := (102, _) :: _) rfl ?_
   refine SL.nil ?_
   refine E.to ?_
   refine W.seq ?_
   refine W.region ?_
   refine SL.val (O.move rfl rfl Taken.no) ?_
   refine SL.val (O.ldN (m := 3) (PtI.ref rfl rfl) (js := [_, _, _]) rfl (Nat.le_of_ble_eq_true rfl) Try.underlying27 rfl (by kernel_rfl) rfl Taken.no) ?_
   refine SL.val (O.ldN (m := 3) (PtI.ref rfl rfl) (js := [_, _, _]) rfl (Nat.le_of_ble_eq_true rfl) Try.underlying27 rfl (by kernel_rfl) rfl Taken.no) ?_
   refine SL.val (O.callp rfl rfl rfl (hpr p[k]! (at_mem (by omega)) q[k]!) (.cons (ArgOk.aggU (.cons (ArgOk.same rfl) (.cons (ArgOk.same rfl) (.cons (ArgOk.same rfl) .nil)))) (.cons (ArgOk.aggU (.cons (ArgOk.same rfl) (.cons (ArgOk.same rfl) (.cons (ArgOk.same rfl) .nil)))) (ArgsOk.caps caps))) hok rfl Taken.no) ?_
   refine SL.val (O.det (fun _ => G.R.not rfl) rfl Taken.no) ?_
   refine SL.nil ?_
   refine E.to ?_
   first | refine W.cond_d rfl (fun hc3 => ?_) (fun hc3 => ?_) | refine W.cond_nd rfl (fun hc3 => ?_) (fun hc3 => ?_) | refine W.cond rfl (fun hc3 => ?_) (fun hc3 => ?_)
   ·skip
    refine W.seq ?_
    refine W.region ?_
    refine SL.val (O.assign rfl rfl Taken.no) ?_
    refine SL.nil ?_
    refine E.to ?_
    refine W.ret ?_
    refine E.inr ?_
    refine E.thr ?_
    refine E.thr ?_
    refine E.inr ?_
    refine E.thr ?_
    refine E.fin (rs := [_]) (rn []) (.inl rfl) rfl (.cons (ResOne.tmp rfl) .nil) ?_ ?_ rfl (fixL_spec rfl)
    ·skip
     exact iv_bool (dec_f fun e => by subst e; simp_all)
    · exact SubS.nil
   ·skip
    refine W.skip ?_
    refine E.inn ?_
    refine E.to ?_
    refine W.region ?_
    refine SL.val (O.det (fun _ => by first | exact G.R.add64 rfl rfl (by omega) | exact G.R.add rfl rfl) rfl Taken.no) ?_
    refine SL.val (O.move rfl rfl Taken.no) ?_
    refine SL.nil ?_
    refine E.again ((k + 1)) (rn []) ?_ ?_ rfl (fixL_spec rfl) ?_ ?_
    · exact (SubF.cons rfl (SubF.cons rfl (SubF.cons rfl (SubF.cons rfl (SubF.cons rfl SubF.nil)))))
    · exact SubS.nil
    ·try dsimp only
     exact ⟨by omega, fun j hj => by rcases Nat.lt_succ_iff_lt_or_eq.1 hj with h | h; exact hp j h; subst h; first | assumption | simp_all⟩
    · (try dsimp only); omega
  ·skip
   refine W.exit ?_
   refine E.th ?_
   refine E.th ?_
   refine E.hit ?_
   refine E.to ?_
   refine W.seq ?_
   refine W.region ?_
   refine SL.val (O.assign rfl rfl Taken.no) ?_
   refine SL.nil ?_
   refine E.to ?_
   refine W.ret ?_
   refine E.fin (rs := [_]) (rn []) (.inl rfl) rfl (.cons (ResOne.tmp rfl) .nil) ?_ ?_ rfl (fixL_spec rfl)
   ·skip
    exact iv_bool (dec_t (ext_get (by omega) fun j hj => hp j (by omega)))
   · exact SubS.nil

set_option maxRecDepth 8000 in
/-- bookplate/prefix.Equal. -/
theorem equal_step {a b : Tr} (ih : ∀ x ∈ a.kids, ∀ y, Con Try.prog 33 [vA [uT x.lab, uB x.wd, .sl 3 (x.kids.map eTr)], vA [uT y.lab, uB y.wd, .sl 3 (y.kids.map eTr)]] [] (vB (decide (x = y))) []) :
    Con Try.prog 33 [vA [uT a.lab, uB a.wd, .sl 3 (a.kids.map eTr)], vA [uT b.lab, uB b.wd, .sl 3 (b.kids.map eTr)]] [] (vB (decide (a = b))) [] := by
 refine Con.enterL (n := 24) Try.func33 rfl rfl rfl (fun τ w ok vs hin => ?_)
 have hl0_2 := hin.lenA (i := 0) (j := 2) rfl rfl
 try rw [List.length_map] at hl0_2
 have hl1_2 := hin.lenA (i := 1) (j := 2) rfl rfl
 try rw [List.length_map] at hl1_2
 clear hin
 refine W.seq ?_
 refine W.region ?_
 refine SL.memS (O.box (is := [_, _, _]) 101 rfl rfl (by simp) rfl rfl Taken.no) rfl rfl (S' := (101, _) :: _) rfl ?_
 refine SL.memS (O.box (is := [_, _, _]) 102 rfl rfl (by simp) rfl rfl Taken.no) rfl rfl (S' := (102, _) :: _) rfl ?_
 refine SL.val (O.assign rfl rfl Taken.no) ?_
 refine SL.nil ?_
 refine E.to ?_
 refine W.seq ?_
 refine W.region ?_
 refine SL.val (O.fld_ref (o' := 0) rfl Try.underlying27 rfl (m := 0) (by kernel_rfl) rfl rfl Taken.no) ?_
 refine SL.val (O.ld1 (PtI.ref rfl rfl) rfl Try.underlying9 rfl rfl Taken.no) ?_
 refine SL.val (O.fld_ref (o' := 0) rfl Try.underlying27 rfl (m := 0) (by kernel_rfl) rfl rfl Taken.no) ?_
 refine SL.val (O.ld1 (PtI.ref rfl rfl) rfl Try.underlying9 rfl rfl Taken.no) ?_
 refine SL.val (O.det (fun _ => G.R.streqL rfl rfl) rfl Taken.no) ?_
 refine SL.val (O.move rfl rfl Taken.no) ?_
 refine SL.case (j := 5) (g := 10) (want := true) rfl rfl (fun hg1 => ?_) (fun hg1 => ?_)
 ·skip
  first | have hg1p := G.gA1 hg1 | have hg1p := G.gA2 hg1 | have hg1p := hg1
  refine SL.val (O.fld_ref (o' := 1) rfl Try.underlying27 rfl (m := 0) (by kernel_rfl) rfl rfl (Taken.yes rfl rfl hg1)) ?_
  refine SL.val (O.ld1 (PtI.ref rfl rfl) rfl Try.underlying4 rfl rfl (Taken.yes rfl rfl hg1)) ?_
  refine SL.val (O.fld_ref (o' := 1) rfl Try.underlying27 rfl (m := 0) (by kernel_rfl) rfl rfl (Taken.yes rfl rfl hg1)) ?_
  refine SL.val (O.ld1 (PtI.ref rfl rfl) rfl Try.underlying4 rfl rfl (Taken.yes rfl rfl hg1)) ?_
  refine SL.val (O.det (fun _ => G.R.booleql rfl rfl Try.underlying4) rfl (Taken.yes rfl rfl hg1)) ?_
  refine SL.val (O.pick_t rfl hg1 rfl rfl Taken.no) ?_
  refine SL.val (O.move rfl rfl Taken.no) ?_
  refine SL.case (j := 12) (g := 17) (want := true) rfl rfl (fun hg2 => ?_) (fun hg2 => ?_)
  ·skip
   first | have hg2p := G.gA1 hg2 | have hg2p := G.gA2 hg2 | have hg2p := hg2
   refine SL.val (O.fld_ref (o' := 2) rfl Try.underlying27 rfl (m := 0) (by kernel_rfl) rfl rfl (Taken.yes rfl rfl hg2)) ?_
   refine SL.val (O.ld1 (PtI.ref rfl rfl) rfl Try.underlying25 rfl rfl (Taken.yes rfl rfl hg2)) ?_
   refine SL.val (O.fld_ref (o' := 2) rfl Try.underlying27 rfl (m := 0) (by kernel_rfl) rfl rfl (Taken.yes rfl rfl hg2)) ?_
   refine SL.val (O.ld1 (PtI.ref rfl rfl) rfl Try.underlying25 rfl rfl (Taken.yes rfl rfl hg2)) ?_
   refine SL.val (O.callp rfl rfl rfl (equalFunc_h (f := 33) (caps := []) (p := a.kids) (q := b.kids) hcallOk33 ih) (.cons (ArgOk.same rfl) (.cons (ArgOk.same rfl) (.cons ArgOk.fnc .nil))) hcallOk55 rfl (Taken.yes rfl rfl hg2)) ?_
   refine SL.val (O.pick_t rfl hg2 rfl rfl Taken.no) ?_
   refine SL.val (O.assign rfl rfl Taken.no) ?_
   refine SL.nil ?_
   refine E.to ?_
   refine W.pick (.cons (t := 4) rfl .nil) (.cons (t := 101) rfl (.cons (t := 102) rfl .nil)) ?_
   refine W.ret ?_
   refine E.fin (rs := [_]) (rn []) (.inl rfl) rfl (.cons (ResOne.tmp rfl) .nil) ?_ ?_ rfl (fixL_spec rfl)
   ·skip
    first | exact iv_bool (dec_f fun e => by subst e; simp_all) | exact iv_bool (dec_iff ⟨fun e => by rw [e], fun e => tr_eq3 (by assumption) (by assumption) e⟩)
   · exact SubS.nil
  ·skip
   first | have hg2p := G.gA5 hg2 | have hg2p := G.gA6 hg2 | have hg2p := hg2
   refine SL.skip (OpOk.not rfl rfl rfl hg2) ?_
   refine SL.skip (OpOk.not rfl rfl rfl hg2) ?_
   refine SL.skip (OpOk.not rfl rfl rfl hg2) ?_
   refine SL.skip (OpOk.not rfl rfl rfl hg2) ?_
   refine SL.skip (OpOk.not rfl rfl rfl hg2) ?_
   refine SL.val (O.pick_f rfl (G.ne_t hg2) rfl rfl Taken.no) ?_
   refine SL.val (O.assign rfl rfl Taken.no) ?_
   refine SL.nil ?_
   refine E.to ?_
   refine W.pick (.cons (t := 4) rfl .nil) (.cons (t := 101) rfl (.cons (t := 102) rfl .nil)) ?_
   refine W.ret ?_
   refine E.fin (rs := [_]) (rn []) (.inl rfl) rfl (.cons (ResOne.tmp rfl) .nil) ?_ ?_ rfl (fixL_spec rfl)
   ·skip
    first | exact iv_bool (dec_f fun e => by subst e; simp_all) | exact iv_bool (dec_iff ⟨fun e => by rw [e], fun e => tr_eq3 (by assumption) (by assumption) e⟩)
   · exact SubS.nil
 ·skip
  first | have hg1p := G.gA5 hg1 | have hg1p := G.gA6 hg1 | have hg1p := hg1
  refine SL.skip (OpOk.not rfl rfl rfl hg1) ?_
  refine SL.skip (OpOk.not rfl rfl rfl hg1) ?_
  refine SL.skip (OpOk.not rfl rfl rfl hg1) ?_
  refine SL.skip (OpOk.not rfl rfl rfl hg1) ?_
  refine SL.skip (OpOk.not rfl rfl rfl hg1) ?_
  refine SL.val (O.pick_f rfl (G.ne_t hg1) rfl rfl Taken.no) ?_
  refine SL.val (O.move rfl rfl Taken.no) ?_
  have hg3 : false ≠ true := by decide
  refine SL.skip (OpOk.not rfl rfl rfl hg3) ?_
  refine SL.skip (OpOk.not rfl rfl rfl hg3) ?_
  refine SL.skip (OpOk.not rfl rfl rfl hg3) ?_
  refine SL.skip (OpOk.not rfl rfl rfl hg3) ?_
  refine SL.skip (OpOk.not rfl rfl rfl hg3) ?_
  refine SL.val (O.pick_f rfl rfl rfl rfl Taken.no) ?_
  refine SL.val (O.assign rfl rfl Taken.no) ?_
  refine SL.nil ?_
  refine E.to ?_
  refine W.pick (.cons (t := 4) rfl .nil) (.cons (t := 101) rfl (.cons (t := 102) rfl .nil)) ?_
  refine W.ret ?_
  refine E.fin (rs := [_]) (rn []) (.inl rfl) rfl (.cons (ResOne.tmp rfl) .nil) ?_ ?_ rfl (fixL_spec rfl)
  ·skip
   first | exact iv_bool (dec_f fun e => by subst e; simp_all) | exact iv_bool (dec_iff ⟨fun e => by rw [e], fun e => tr_eq3 (by assumption) (by assumption) e⟩)
  · exact SubS.nil

theorem equal_h (a : Tr) : ∀ b : Tr, Con Try.prog 33 [vA [uT a.lab, uB a.wd, .sl 3 (a.kids.map eTr)], vA [uT b.lab, uB b.wd, .sl 3 (b.kids.map eTr)]] [] (vB (decide (a = b))) [] := Tr.ind (p := fun a => ∀ b : Tr, Con Try.prog 33 [vA [uT a.lab, uB a.wd, .sl 3 (a.kids.map eTr)], vA [uT b.lab, uB b.wd, .sl 3 (b.kids.map eTr)]] [] (vB (decide (a = b))) []) (fun _ ih _ => equal_step ih) a

set_option maxRecDepth 8000 in
/-- bookplate/prefix.remove. -/
theorem remove_step {t : Tr} {s : Str} (hb : bd 1000 t) (hs : s.length ≤ 1000) (hw : s ∈ t.inn) (ih : ∀ (x : Tr) (y : Str), y.length < s.length → bd 1000 x → y ∈ x.inn → Con Try.prog 57 [vA [uT x.lab, uB x.wd, .sl 3 (x.kids.map eTr)], vT y] [] (.agg [vT (remT x y).lab, vB (remT x y).wd, vL 3 ((remT x y).kids.map eTr)]) []) :
    Con Try.prog 57 [vA [uT t.lab, uB t.wd, .sl 3 (t.kids.map eTr)], vT s] [] (.agg [vT (remT t s).lab, vB (remT t s).wd, vL 3 ((remT t s).kids.map eTr)]) [] := by
 have hkl := bd_kids hb
 obtain ⟨i27, hi27, hz27, hs27, hb27⟩ := hinf27
 refine Con.enterL (n := 79) Try.func57 rfl rfl rfl (fun τ w ok vs hin => ?_)
 have hl0_2 := hin.lenA (i := 0) (j := 2) rfl rfl
 try rw [List.length_map] at hl0_2
 clear hin
 refine W.seq ?_
 refine W.region ?_
 refine SL.memS (O.box (is := [_, _, _]) 101 rfl rfl (by simp) rfl rfl Taken.no) rfl rfl (S' := (101, _) :: _) rfl ?_
 refine SL.memS (O.alloc (z := .agg #[.string (Go.G.bs []), .bool false, .slice none 0 0]) (is := [.u (.sc (.string (Go.G.bs []))), .u (.sc (.bool false)), .u (.sc (.slice none 0 0))]) 102 (by kernel_rfl) rfl rfl rfl Taken.no) rfl rfl (S' := (102, _) :: _) rfl ?_
 refine SL.nil ?_
 refine E.to ?_
 refine W.seq ?_
 refine W.seq ?_
 refine W.region ?_
 refine SL.val (O.move rfl rfl Taken.no) ?_
 refine SL.val (O.det (fun _ => G.R.streqL (b := []) rfl rfl) rfl Taken.no) ?_
 refine SL.nil ?_
 refine E.to ?_
 first | refine W.cond_d rfl (fun hc1 => ?_) (fun hc1 => ?_) | refine W.cond_nd rfl (fun hc1 => ?_) (fun hc1 => ?_) | refine W.cond rfl (fun hc1 => ?_) (fun hc1 => ?_)
 ·skip
  refine W.seq ?_
  refine W.region ?_
  refine SL.val (O.fld_ref (o' := 1) rfl Try.underlying27 rfl (m := 0) (by kernel_rfl) rfl rfl Taken.no) ?_
  refine SL.effS (O.st_ref (m := 1) rfl rfl rfl (js := [_]) rfl rfl (by kernel_rfl) (by simp) (Nat.le_of_ble_eq_true rfl) rfl (is' := [_, _, _]) rfl Taken.no) (S' := (101, _) :: _) rfl ?_
  refine SL.nil ?_
  refine E.to ?_
  refine W.seq ?_
  refine W.region ?_
  refine SL.val (O.ldN (m := 3) (PtI.ref rfl rfl) (js := [_, _, _]) rfl (Nat.le_of_ble_eq_true rfl) Try.underlying27 rfl (by kernel_rfl) rfl Taken.no) ?_
  refine SL.effS (O.st_ref (m := 3) rfl rfl rfl (js := [_, _, _]) rfl rfl (by kernel_rfl) (by simp) (Nat.le_of_ble_eq_true rfl) rfl (is' := [_, _, _]) rfl Taken.no) (S' := (102, _) :: _) rfl ?_
  refine SL.nil ?_
  refine E.to ?_
  refine W.ret ?_
  refine E.thr ?_
  refine E.fin (rs := [_]) (rn []) (.inl rfl) rfl (.cons (ResOne.cellN (m := 3) (PtI.ref rfl rfl) (js := [_, _, _]) rfl (Nat.le_of_ble_eq_true rfl) Try.underlying27 rfl (by kernel_rfl)) .nil) ?_ ?_ rfl (fixL_spec rfl)
  ·skip
   have hs0 : s = [] := by assumption
   subst hs0
   rw [← rem_nil hb.1]; rfl
  · exact SubS.nil
 ·skip
  have hy : s ≠ [] := by assumption
  have hr := remB_at hb.1 hy hw
  have hk := kid_lab hb hr.1
  have hpl := hr.2.2.1.length_le
  have hrk := rK_bd hb s hr.2.1
  have hrl := bd_kids hrk.1
  refine W.skip ?_
  refine E.to ?_
  refine W.seq ?_
  refine W.draw [⟨[101], [], []⟩, ⟨[], [], []⟩, ⟨[], [], []⟩, ⟨[], [], []⟩, ⟨[], [], []⟩, ⟨[], [], []⟩, ⟨[], [], []⟩, ⟨[], [], []⟩, ⟨[], [], []⟩] rfl (by kernel_rfl) (by kernel_rfl) rfl rfl ?_
  refine WH.val (O.ldN (m := 3) (PtI.ref rfl rfl) (js := [_, _, _]) rfl (Nat.le_of_ble_eq_true rfl) Try.underlying27 rfl (by kernel_rfl) rfl Taken.no) rfl rfl ?_
  refine WH.val (O.move rfl rfl Taken.no) rfl rfl ?_
  refine WH.val (O.det (fun _ => G.R.stridxL (i := 0) rfl rfl Try.underlying9 (by exact ne_pos hy)) rfl Taken.no) rfl rfl ?_
  refine WH.memS (O.call (rn []) [] rfl rfl rfl (kid_h (t := t) (b := s[0]!) hb.1 (by omega)) (.cons (ArgOk.aggU (.cons (ArgOk.same rfl) (.cons (ArgOk.same rfl) (.cons (ArgOk.same rfl) .nil)))) (.cons (ArgOk.same rfl) .nil)) SubS.nil rfl rfl rfl rfl rfl (.inl rfl) hcallOk47 (r' := .tup [.u _, .u _]) rfl rfl Taken.no) rfl rfl rfl rfl rfl (S' := _) rfl ?_
  refine WH.val (O.move rfl rfl Taken.no) rfl rfl ?_
  refine WH.val (O.extract rfl rfl rfl Taken.no) rfl rfl ?_
  refine WH.val (O.extract rfl rfl rfl Taken.no) rfl rfl ?_
  refine WH.val (O.assign rfl rfl Taken.no) rfl rfl ?_
  refine WH.val (O.assign rfl rfl Taken.no) rfl rfl ?_
  refine WH.nil ?_
  refine E.to ?_
  refine W.seq ?_
  refine W.draw [⟨[101], [], []⟩, ⟨[101], [], []⟩, ⟨[], [], []⟩, ⟨[], [], []⟩, ⟨[], [], []⟩, ⟨[], [], []⟩, ⟨[101], [], []⟩, ⟨[101], [], []⟩, ⟨[], [], []⟩, ⟨[], [], []⟩, ⟨[], [], []⟩, ⟨[], [], []⟩, ⟨[], [], []⟩, ⟨[], [], []⟩, ⟨[], [], []⟩, ⟨[103], [103], [103]⟩, ⟨[103], [103], []⟩] rfl (by kernel_rfl) (by kernel_rfl) rfl rfl ?_
  refine WH.val (O.fld_ref (o' := 2) rfl Try.underlying27 rfl (m := 0) (by kernel_rfl) rfl rfl Taken.no) rfl rfl ?_
  refine WH.val (O.ld1 (PtI.ref rfl rfl) rfl Try.underlying25 rfl rfl Taken.no) rfl rfl ?_
  refine WH.val (O.move rfl rfl Taken.no) rfl rfl ?_
  refine WH.val (O.idx_fz (i := kpos t.kids s[0]!) rfl rfl (rfl) (row_tr (by exact hk.1)) Try.underlying25 hi27 hs27 rfl Taken.no) rfl rfl ?_
  refine WH.val (O.ldU (m := 3) (PtU.fz rfl) rfl Try.underlying27 rfl (by kernel_rfl) rfl Taken.no) rfl rfl ?_
  refine WH.val (O.move rfl rfl Taken.no) rfl rfl ?_
  refine WH.val (O.fld_ref (o' := 2) rfl Try.underlying27 rfl (m := 0) (by kernel_rfl) rfl rfl Taken.no) rfl rfl ?_
  refine WH.val (O.ld1 (PtI.ref rfl rfl) rfl Try.underlying25 rfl rfl Taken.no) rfl rfl ?_
  refine WH.val (O.move rfl rfl Taken.no) rfl rfl ?_
  refine WH.val (O.idx_fz (i := kpos t.kids s[0]!) rfl rfl (rfl) (row_tr (by exact hk.1)) Try.underlying25 hi27 hs27 rfl Taken.no) rfl rfl ?_
  refine WH.val (O.fld_fz rfl Try.underlying27 rfl (m := 0) (by kernel_rfl) rfl rfl Taken.no) rfl rfl ?_
  refine WH.val (O.ld1 (PtI.ofU (PtU.fz rfl)) rfl Try.underlying9 rfl rfl Taken.no) rfl rfl ?_
  refine WH.val (O.det (fun _ => G.R.lenL rfl Try.underlying9) rfl Taken.no) rfl rfl ?_
  refine WH.val (O.det (fun _ => G.R.strfromL (i := t.kids[kpos t.kids s[0]!]!.lab.length) rfl rfl Try.underlying9 (by omega)) rfl Taken.no) rfl rfl ?_
  refine WH.memS (OpOk.re (i' := .agg [vT (rK t s).lab, vB (rK t s).wd, vL 3 ((rK t s).kids.map eTr)]) (O.call (rn []) [] rfl rfl rfl (ih t.kids[kpos t.kids s[0]!]! (s.drop t.kids[kpos t.kids s[0]!]!.lab.length) (by rw [List.length_drop]; omega) hk.2.1 hr.2.2.2) (.cons (ArgOk.same rfl) (.cons (ArgOk.same rfl) .nil)) SubS.nil rfl rfl rfl rfl rfl (.inl rfl) hcallOk57 (r' := .agg [.u _, .u _, .u _]) rfl rfl Taken.no) (by rfl)) rfl rfl rfl rfl rfl (S' := _) rfl ?_
  refine WH.memS (O.alloc (z := .agg #[.string (Go.G.bs []), .bool false, .slice none 0 0]) (is := [.u (.sc (.string (Go.G.bs []))), .u (.sc (.bool false)), .u (.sc (.slice none 0 0))]) 103 (by kernel_rfl) rfl rfl rfl Taken.no) rfl rfl rfl rfl rfl (S' := (103, _) :: _) rfl ?_
  refine WH.effS (O.st_ref (m := 3) rfl rfl rfl (js := [_, _, _]) rfl rfl (by kernel_rfl) (by simp) (Nat.le_of_ble_eq_true rfl) rfl (is' := [_, _, _]) rfl Taken.no) rfl rfl rfl (S' := (103, _) :: _) rfl ?_
  refine WH.nil ?_
  refine E.to ?_
  refine W.pick (.cons (t := 2) rfl (.cons (t := 4) rfl (.cons (t := 5) rfl (.cons (t := 7) rfl .nil)))) (.cons (t := 101) rfl (.cons (t := 102) rfl (.cons (t := 103) rfl .nil))) ?_
  refine W.seq ?_
  refine W.block ?_
  refine W.seq ?_
  refine W.region ?_
  refine SL.val (O.fld_ref (o' := 1) rfl Try.underlying27 rfl (m := 0) (by kernel_rfl) rfl rfl Taken.no) ?_
  refine SL.val (O.ld1 (PtI.ref rfl rfl) rfl Try.underlying4 rfl rfl Taken.no) ?_
  refine SL.val (O.det (fun _ => G.R.not rfl) rfl Taken.no) ?_
  refine SL.val (O.move rfl rfl Taken.no) ?_
  refine SL.case (j := 3) (g := 39) (want := true) rfl rfl (fun hg2 => ?_) (fun hg2 => ?_)
  ·skip
   first | have hg2p := G.gA1 hg2 | have hg2p := G.gA2 hg2 | have hg2p := hg2
   refine SL.val (O.fld_ref (o' := 2) rfl Try.underlying27 rfl (m := 0) (by kernel_rfl) rfl rfl (Taken.yes rfl rfl hg2)) ?_
   refine SL.val (O.ld1 (PtI.ref rfl rfl) rfl Try.underlying25 rfl rfl (Taken.yes rfl rfl hg2)) ?_
   refine SL.val (O.lenE (SlOf.fz rfl (by decide)) (by first | exact List.length_map _ | rfl) Try.underlying25 rfl (Taken.yes rfl rfl hg2)) ?_
   refine SL.val (O.det (fun _ => G.R.eql rfl rfl) rfl (Taken.yes rfl rfl hg2)) ?_
   refine SL.val (O.pick_t rfl hg2 rfl rfl Taken.no) ?_
   refine SL.val (O.assign rfl rfl Taken.no) ?_
   refine SL.nil ?_
   refine E.to ?_
   first | refine W.cond_d rfl (fun hc3 => ?_) (fun hc3 => ?_) | refine W.cond_nd rfl (fun hc3 => ?_) (fun hc3 => ?_) | refine W.cond rfl (fun hc3 => ?_) (fun hc3 => ?_)
   ·skip
    have h1 : (rK t s).wd = false := nb_t (by assumption)
    have h2 : (rK t s).kids = [] := len_nil (by omega)
    refine W.seq ?_
    refine W.region ?_
    refine SL.val (O.fld_ref (o' := 2) rfl Try.underlying27 rfl (m := 0) (by kernel_rfl) rfl rfl Taken.no) ?_
    refine SL.val (O.ld1 (PtI.ref rfl rfl) rfl Try.underlying25 rfl rfl Taken.no) ?_
    refine SL.memS (O.call (rn [(0, 104)]) [] rfl rfl rfl (cloneN (l := t.kids) (by omega)) (.cons (ArgOk.same rfl) .nil) SubS.nil rfl rfl rfl rfl rfl (.inl rfl) hcallOk63 (r' := .own 104) rfl rfl Taken.no) rfl rfl (S' := (104, .data _ _ _) :: _) rfl ?_
    refine SL.val (O.move rfl rfl Taken.no) ?_
    refine SL.val (O.move rfl rfl Taken.no) ?_
    refine SL.val (O.det (fun _ => by first | exact G.R.add64 rfl rfl (by omega) | exact G.R.add rfl rfl) rfl Taken.no) ?_
    refine SL.memS (O.call (rn [(0, 104), (1, 105)]) [] rfl rfl rfl (deleteN (q := t.kids) (kpos t.kids s[0]!) (kpos t.kids s[0]! + 1) (by omega) (by omega) (by omega)) (.cons (ArgOk.same rfl) (.cons (ArgOk.same rfl) (.cons (ArgOk.same rfl) .nil))) (SubS.cons rfl SubS.nil) rfl rfl rfl rfl rfl (.inl rfl) hcallOk65 (r' := .own 105) rfl rfl Taken.no) rfl rfl (S' := (105, .data _ _ _) :: (104, .dead) :: _) rfl ?_
    refine SL.val (O.fld_ref (o' := 2) rfl Try.underlying27 rfl (m := 0) (by kernel_rfl) rfl rfl Taken.no) ?_
    refine SL.effS (O.st_ref (m := 1) rfl rfl rfl (js := [_]) rfl rfl (by kernel_rfl) (by simp) (Nat.le_of_ble_eq_true rfl) rfl (is' := [_, _, _]) rfl Taken.no) (S' := (101, _) :: _) rfl ?_
    refine SL.nil ?_
    refine E.to ?_
    refine W.seq ?_
    refine W.region ?_
    refine SL.val (O.ldN (m := 3) (PtI.ref rfl rfl) (js := [_, _, _]) rfl (Nat.le_of_ble_eq_true rfl) Try.underlying27 rfl (by kernel_rfl) rfl Taken.no) ?_
    refine SL.effS (O.st_ref (m := 3) rfl rfl rfl (js := [_, _, _]) rfl rfl (by kernel_rfl) (by simp) (Nat.le_of_ble_eq_true rfl) rfl (is' := [_, _, _]) rfl Taken.no) (S' := (102, _) :: _) rfl ?_
    refine SL.nil ?_
    refine E.to ?_
    refine W.ret ?_
    refine E.inr ?_
    refine E.thr ?_
    refine E.freezeC 102 2 105 (is' := [_, _, _]) rfl rfl rfl rfl ?_
    refine E.fin (rs := [_]) (rn []) (.inl rfl) rfl (.cons (ResOne.cellN (m := 3) (PtI.ref rfl rfl) (js := [_, _, _]) rfl (Nat.le_of_ble_eq_true rfl) Try.underlying27 rfl (by kernel_rfl)) .nil) ?_ ?_ rfl (fixL_spec rfl)
    ·skip
     rw [← remB_del hb.1 hy hw h1 h2]; rfl
    · exact SubS.nil
   ·skip
    refine W.seq ?_
    refine W.region ?_
    refine SL.val (O.fld_ref (o' := 1) rfl Try.underlying27 rfl (m := 0) (by kernel_rfl) rfl rfl Taken.no) ?_
    refine SL.val (O.ld1 (PtI.ref rfl rfl) rfl Try.underlying4 rfl rfl Taken.no) ?_
    refine SL.val (O.det (fun _ => G.R.not rfl) rfl Taken.no) ?_
    refine SL.val (O.move rfl rfl Taken.no) ?_
    refine SL.case (j := 3) (g := 58) (want := true) rfl rfl (fun hg4 => ?_) (fun hg4 => ?_)
    ·skip
     first | have hg4p := G.gA1 hg4 | have hg4p := G.gA2 hg4 | have hg4p := hg4
     refine SL.val (O.fld_ref (o' := 2) rfl Try.underlying27 rfl (m := 0) (by kernel_rfl) rfl rfl (Taken.yes rfl rfl hg4)) ?_
     refine SL.val (O.ld1 (PtI.ref rfl rfl) rfl Try.underlying25 rfl rfl (Taken.yes rfl rfl hg4)) ?_
     refine SL.val (O.lenE (SlOf.fz rfl (by decide)) (by first | exact List.length_map _ | rfl) Try.underlying25 rfl (Taken.yes rfl rfl hg4)) ?_
     refine SL.val (O.det (fun _ => G.R.eql rfl rfl) rfl (Taken.yes rfl rfl hg4)) ?_
     refine SL.val (O.pick_t rfl hg4 rfl rfl Taken.no) ?_
     refine SL.val (O.assign rfl rfl Taken.no) ?_
     refine SL.nil ?_
     refine E.to ?_
     first | refine W.cond_d rfl (fun hc5 => ?_) (fun hc5 => ?_) | refine W.cond_nd rfl (fun hc5 => ?_) (fun hc5 => ?_) | refine W.cond rfl (fun hc5 => ?_) (fun hc5 => ?_)
     ·skip
      have h1 : (rK t s).wd = false := nb_t (by assumption)
      have h2 : (rK t s).kids.length = 1 := by omega
      have h3 := (bd_kid hrk.1 (at_mem (show 0 < (rK t s).kids.length by omega))).2.1
      have h4 := hrk.2
      refine W.seq ?_
      refine W.region ?_
      refine SL.val (O.fld_ref (o' := 2) rfl Try.underlying27 rfl (m := 0) (by kernel_rfl) rfl rfl Taken.no) ?_
      refine SL.val (O.ld1 (PtI.ref rfl rfl) rfl Try.underlying25 rfl rfl Taken.no) ?_
      refine SL.val (O.idx_fz (i := 0) rfl rfl (rfl) (row_tr (by omega)) Try.underlying25 hi27 hs27 rfl Taken.no) ?_
      refine SL.val (O.ldU (m := 3) (PtU.fz rfl) rfl Try.underlying27 rfl (by kernel_rfl) rfl Taken.no) ?_
      refine SL.memS (O.alloc (z := .agg #[.string (Go.G.bs []), .bool false, .slice none 0 0]) (is := [.u (.sc (.string (Go.G.bs []))), .u (.sc (.bool false)), .u (.sc (.slice none 0 0))]) 106 (by kernel_rfl) rfl rfl rfl Taken.no) rfl rfl (S' := (106, _) :: _) rfl ?_
      refine SL.effS (O.st_ref (m := 3) rfl rfl rfl (js := [_, _, _]) rfl rfl (by kernel_rfl) (by simp) (Nat.le_of_ble_eq_true rfl) rfl (is' := [_, _, _]) rfl Taken.no) (S' := (106, _) :: _) rfl ?_
      refine SL.nil ?_
      refine E.to ?_
      refine W.pick (.cons (t := 2) rfl (.cons (t := 4) rfl (.cons (t := 5) rfl (.cons (t := 7) rfl (.cons (t := 8) rfl .nil))))) (.cons (t := 101) rfl (.cons (t := 102) rfl (.cons (t := 103) rfl (.cons (t := 106) rfl .nil)))) ?_
      refine W.seq ?_
      refine W.region ?_
      refine SL.val (O.fld_ref (o' := 0) rfl Try.underlying27 rfl (m := 0) (by kernel_rfl) rfl rfl Taken.no) ?_
      refine SL.val (O.ld1 (PtI.ref rfl rfl) rfl Try.underlying9 rfl rfl Taken.no) ?_
      refine SL.val (O.fld_ref (o' := 0) rfl Try.underlying27 rfl (m := 0) (by kernel_rfl) rfl rfl Taken.no) ?_
      refine SL.val (O.ld1 (PtI.ref rfl rfl) rfl Try.underlying9 rfl rfl Taken.no) ?_
      refine SL.val (O.det (fun _ => G.R.strcatL rfl rfl (by omega)) rfl Taken.no) ?_
      refine SL.val (O.fld_ref (o' := 0) rfl Try.underlying27 rfl (m := 0) (by kernel_rfl) rfl rfl Taken.no) ?_
      refine SL.effS (O.st_ref (m := 1) rfl rfl rfl (js := [_]) rfl rfl (by kernel_rfl) (by simp) (Nat.le_of_ble_eq_true rfl) rfl (is' := [_, _, _]) rfl Taken.no) (S' := (106, _) :: _) rfl ?_
      refine SL.nil ?_
      refine E.to ?_
      refine W.region ?_
      refine SL.val (O.ldN (m := 3) (PtI.ref rfl rfl) (js := [_, _, _]) rfl (Nat.le_of_ble_eq_true rfl) Try.underlying27 rfl (by kernel_rfl) rfl Taken.no) ?_
      refine SL.effS (O.st_ref (m := 3) rfl rfl rfl (js := [_, _, _]) rfl rfl (by kernel_rfl) (by simp) (Nat.le_of_ble_eq_true rfl) rfl (is' := [_, _, _]) rfl Taken.no) (S' := (103, _) :: _) rfl ?_
      refine SL.nil ?_
      refine E.inn ?_
      refine E.to ?_
      refine W.seq ?_
      refine W.region ?_
      refine SL.val (O.ldN (m := 3) (PtI.ref rfl rfl) (js := [_, _, _]) rfl (Nat.le_of_ble_eq_true rfl) Try.underlying27 rfl (by kernel_rfl) rfl Taken.no) ?_
      refine SL.val (O.move rfl rfl Taken.no) ?_
      refine SL.val (O.ldN (m := 3) (PtI.ref rfl rfl) (js := [_, _, _]) rfl (Nat.le_of_ble_eq_true rfl) Try.underlying27 rfl (by kernel_rfl) rfl Taken.no) ?_
      refine SL.memS (O.call (rn []) [] rfl rfl rfl (with_h (t := t) (kpos t.kids s[0]!) (k := .nd _ _ _) hk.1 (by omega)) (.cons (ArgOk.aggU (.cons (ArgOk.same rfl) (.cons (ArgOk.same rfl) (.cons (ArgOk.same rfl) .nil)))) (.cons (ArgOk.same rfl) (.cons (ArgOk.aggU (.cons (ArgOk.same rfl) (.cons (ArgOk.same rfl) (.cons (ArgOk.same rfl) .nil)))) .nil))) SubS.nil rfl rfl rfl rfl rfl (.inl rfl) hcallOk64 (r' := .agg [.u _, .u _, .u _]) rfl rfl Taken.no) rfl rfl (S' := _) rfl ?_
      refine SL.effS (O.st_ref (m := 3) rfl rfl rfl (js := [_, _, _]) rfl rfl (by kernel_rfl) (by simp) (Nat.le_of_ble_eq_true rfl) rfl (is' := [_, _, _]) rfl Taken.no) (S' := (102, _) :: _) rfl ?_
      refine SL.nil ?_
      refine E.to ?_
      refine W.ret ?_
      refine E.fin (rs := [_]) (rn []) (.inl rfl) rfl (.cons (ResOne.cellN (m := 3) (PtI.ref rfl rfl) (js := [_, _, _]) rfl (Nat.le_of_ble_eq_true rfl) Try.underlying27 rfl (by kernel_rfl)) .nil) ?_ ?_ rfl (fixL_spec rfl)
      ·skip
       first | (rw [← remB_one hb.1 hy hw h1 h2]; rfl) | (rw [← remB_in hb.1 hy hw (by first | exact .inl (by first | assumption | exact nb_f (by assumption) | exact nb_m (by assumption)) | exact .inr (by omega))]; rfl) | (exfalso; simp_all; done)
      · exact SubS.nil
     ·skip
      refine W.skip ?_
      refine E.inn ?_
      refine E.to ?_
      refine W.seq ?_
      refine W.region ?_
      refine SL.val (O.ldN (m := 3) (PtI.ref rfl rfl) (js := [_, _, _]) rfl (Nat.le_of_ble_eq_true rfl) Try.underlying27 rfl (by kernel_rfl) rfl Taken.no) ?_
      refine SL.val (O.move rfl rfl Taken.no) ?_
      refine SL.val (O.ldN (m := 3) (PtI.ref rfl rfl) (js := [_, _, _]) rfl (Nat.le_of_ble_eq_true rfl) Try.underlying27 rfl (by kernel_rfl) rfl Taken.no) ?_
      refine SL.memS (O.call (rn []) [] rfl rfl rfl (with_h (t := t) (kpos t.kids s[0]!) (k := .nd _ _ _) hk.1 (by omega)) (.cons (ArgOk.aggU (.cons (ArgOk.same rfl) (.cons (ArgOk.same rfl) (.cons (ArgOk.same rfl) .nil)))) (.cons (ArgOk.same rfl) (.cons (ArgOk.aggU (.cons (ArgOk.same rfl) (.cons (ArgOk.same rfl) (.cons (ArgOk.same rfl) .nil)))) .nil))) SubS.nil rfl rfl rfl rfl rfl (.inl rfl) hcallOk64 (r' := .agg [.u _, .u _, .u _]) rfl rfl Taken.no) rfl rfl (S' := _) rfl ?_
      refine SL.effS (O.st_ref (m := 3) rfl rfl rfl (js := [_, _, _]) rfl rfl (by kernel_rfl) (by simp) (Nat.le_of_ble_eq_true rfl) rfl (is' := [_, _, _]) rfl Taken.no) (S' := (102, _) :: _) rfl ?_
      refine SL.nil ?_
      refine E.to ?_
      refine W.pick (.cons (t := 4) rfl .nil) (.cons (t := 101) rfl (.cons (t := 102) rfl (.cons (t := 103) rfl .nil))) ?_
      refine W.ret ?_
      refine E.fin (rs := [_]) (rn []) (.inl rfl) rfl (.cons (ResOne.cellN (m := 3) (PtI.ref rfl rfl) (js := [_, _, _]) rfl (Nat.le_of_ble_eq_true rfl) Try.underlying27 rfl (by kernel_rfl)) .nil) ?_ ?_ rfl (fixL_spec rfl)
      ·skip
       first | (rw [← remB_one hb.1 hy hw h1 h2]; rfl) | (rw [← remB_in hb.1 hy hw (by first | exact .inl (by first | assumption | exact nb_f (by assumption) | exact nb_m (by assumption)) | exact .inr (by omega))]; rfl) | (exfalso; simp_all; done)
      · exact SubS.nil
    ·skip
     first | have hg4p := G.gA5 hg4 | have hg4p := G.gA6 hg4 | have hg4p := hg4
     refine SL.skip (OpOk.not rfl rfl rfl hg4) ?_
     refine SL.skip (OpOk.not rfl rfl rfl hg4) ?_
     refine SL.skip (OpOk.not rfl rfl rfl hg4) ?_
     refine SL.skip (OpOk.not rfl rfl rfl hg4) ?_
     refine SL.val (O.pick_f rfl (G.ne_t hg4) rfl rfl Taken.no) ?_
     refine SL.val (O.assign rfl rfl Taken.no) ?_
     refine SL.nil ?_
     refine E.to ?_
     refine W.cond_f rfl ?_
     refine W.skip ?_
     refine E.inn ?_
     refine E.to ?_
     refine W.seq ?_
     refine W.region ?_
     refine SL.val (O.ldN (m := 3) (PtI.ref rfl rfl) (js := [_, _, _]) rfl (Nat.le_of_ble_eq_true rfl) Try.underlying27 rfl (by kernel_rfl) rfl Taken.no) ?_
     refine SL.val (O.move rfl rfl Taken.no) ?_
     refine SL.val (O.ldN (m := 3) (PtI.ref rfl rfl) (js := [_, _, _]) rfl (Nat.le_of_ble_eq_true rfl) Try.underlying27 rfl (by kernel_rfl) rfl Taken.no) ?_
     refine SL.memS (O.call (rn []) [] rfl rfl rfl (with_h (t := t) (kpos t.kids s[0]!) (k := .nd _ _ _) hk.1 (by omega)) (.cons (ArgOk.aggU (.cons (ArgOk.same rfl) (.cons (ArgOk.same rfl) (.cons (ArgOk.same rfl) .nil)))) (.cons (ArgOk.same rfl) (.cons (ArgOk.aggU (.cons (ArgOk.same rfl) (.cons (ArgOk.same rfl) (.cons (ArgOk.same rfl) .nil)))) .nil))) SubS.nil rfl rfl rfl rfl rfl (.inl rfl) hcallOk64 (r' := .agg [.u _, .u _, .u _]) rfl rfl Taken.no) rfl rfl (S' := _) rfl ?_
     refine SL.effS (O.st_ref (m := 3) rfl rfl rfl (js := [_, _, _]) rfl rfl (by kernel_rfl) (by simp) (Nat.le_of_ble_eq_true rfl) rfl (is' := [_, _, _]) rfl Taken.no) (S' := (102, _) :: _) rfl ?_
     refine SL.nil ?_
     refine E.to ?_
     refine W.pick (.cons (t := 4) rfl .nil) (.cons (t := 101) rfl (.cons (t := 102) rfl (.cons (t := 103) rfl .nil))) ?_
     refine W.ret ?_
     refine E.fin (rs := [_]) (rn []) (.inl rfl) rfl (.cons (ResOne.cellN (m := 3) (PtI.ref rfl rfl) (js := [_, _, _]) rfl (Nat.le_of_ble_eq_true rfl) Try.underlying27 rfl (by kernel_rfl)) .nil) ?_ ?_ rfl (fixL_spec rfl)
     ·skip
      first | (rw [← remB_one hb.1 hy hw h1 h2]; rfl) | (rw [← remB_in hb.1 hy hw (by first | exact .inl (by first | assumption | exact nb_f (by assumption) | exact nb_m (by assumption)) | exact .inr (by omega))]; rfl) | (exfalso; simp_all; done)
     · exact SubS.nil
  ·skip
   first | have hg2p := G.gA5 hg2 | have hg2p := G.gA6 hg2 | have hg2p := hg2
   refine SL.skip (OpOk.not rfl rfl rfl hg2) ?_
   refine SL.skip (OpOk.not rfl rfl rfl hg2) ?_
   refine SL.skip (OpOk.not rfl rfl rfl hg2) ?_
   refine SL.skip (OpOk.not rfl rfl rfl hg2) ?_
   refine SL.val (O.pick_f rfl (G.ne_t hg2) rfl rfl Taken.no) ?_
   refine SL.val (O.assign rfl rfl Taken.no) ?_
   refine SL.nil ?_
   refine E.to ?_
   refine W.cond_f rfl ?_
   refine W.seq ?_
   refine W.region ?_
   refine SL.val (O.fld_ref (o' := 1) rfl Try.underlying27 rfl (m := 0) (by kernel_rfl) rfl rfl Taken.no) ?_
   refine SL.val (O.ld1 (PtI.ref rfl rfl) rfl Try.underlying4 rfl rfl Taken.no) ?_
   refine SL.val (O.det (fun _ => G.R.not rfl) rfl Taken.no) ?_
   refine SL.val (O.move rfl rfl Taken.no) ?_
   refine SL.case (j := 3) (g := 58) (want := true) rfl rfl (fun hg6 => ?_) (fun hg6 => ?_)
   ·skip
    first | have hg6p := G.gA1 hg6 | have hg6p := G.gA2 hg6 | have hg6p := hg6
    refine SL.val (O.fld_ref (o' := 2) rfl Try.underlying27 rfl (m := 0) (by kernel_rfl) rfl rfl (Taken.yes rfl rfl hg6)) ?_
    refine SL.val (O.ld1 (PtI.ref rfl rfl) rfl Try.underlying25 rfl rfl (Taken.yes rfl rfl hg6)) ?_
    refine SL.val (O.lenE (SlOf.fz rfl (by decide)) (by first | exact List.length_map _ | rfl) Try.underlying25 rfl (Taken.yes rfl rfl hg6)) ?_
    refine SL.val (O.det (fun _ => G.R.eql rfl rfl) rfl (Taken.yes rfl rfl hg6)) ?_
    refine SL.val (O.pick_t rfl hg6 rfl rfl Taken.no) ?_
    refine SL.val (O.assign rfl rfl Taken.no) ?_
    refine SL.nil ?_
    refine E.to ?_
    first | refine W.cond_d rfl (fun hc7 => ?_) (fun hc7 => ?_) | refine W.cond_nd rfl (fun hc7 => ?_) (fun hc7 => ?_) | refine W.cond rfl (fun hc7 => ?_) (fun hc7 => ?_)
    ·skip
     have h1 : (rK t s).wd = false := nb_t (by assumption)
     have h2 : (rK t s).kids.length = 1 := by omega
     have h3 := (bd_kid hrk.1 (at_mem (show 0 < (rK t s).kids.length by omega))).2.1
     have h4 := hrk.2
     refine W.seq ?_
     refine W.region ?_
     refine SL.val (O.fld_ref (o' := 2) rfl Try.underlying27 rfl (m := 0) (by kernel_rfl) rfl rfl Taken.no) ?_
     refine SL.val (O.ld1 (PtI.ref rfl rfl) rfl Try.underlying25 rfl rfl Taken.no) ?_
     refine SL.val (O.idx_fz (i := 0) rfl rfl (rfl) (row_tr (by omega)) Try.underlying25 hi27 hs27 rfl Taken.no) ?_
     refine SL.val (O.ldU (m := 3) (PtU.fz rfl) rfl Try.underlying27 rfl (by kernel_rfl) rfl Taken.no) ?_
     refine SL.memS (O.alloc (z := .agg #[.string (Go.G.bs []), .bool false, .slice none 0 0]) (is := [.u (.sc (.string (Go.G.bs []))), .u (.sc (.bool false)), .u (.sc (.slice none 0 0))]) 107 (by kernel_rfl) rfl rfl rfl Taken.no) rfl rfl (S' := (107, _) :: _) rfl ?_
     refine SL.effS (O.st_ref (m := 3) rfl rfl rfl (js := [_, _, _]) rfl rfl (by kernel_rfl) (by simp) (Nat.le_of_ble_eq_true rfl) rfl (is' := [_, _, _]) rfl Taken.no) (S' := (107, _) :: _) rfl ?_
     refine SL.nil ?_
     refine E.to ?_
     refine W.pick (.cons (t := 2) rfl (.cons (t := 4) rfl (.cons (t := 5) rfl (.cons (t := 7) rfl (.cons (t := 8) rfl .nil))))) (.cons (t := 101) rfl (.cons (t := 102) rfl (.cons (t := 103) rfl (.cons (t := 107) rfl .nil)))) ?_
     refine W.seq ?_
     refine W.region ?_
     refine SL.val (O.fld_ref (o' := 0) rfl Try.underlying27 rfl (m := 0) (by kernel_rfl) rfl rfl Taken.no) ?_
     refine SL.val (O.ld1 (PtI.ref rfl rfl) rfl Try.underlying9 rfl rfl Taken.no) ?_
     refine SL.val (O.fld_ref (o' := 0) rfl Try.underlying27 rfl (m := 0) (by kernel_rfl) rfl rfl Taken.no) ?_
     refine SL.val (O.ld1 (PtI.ref rfl rfl) rfl Try.underlying9 rfl rfl Taken.no) ?_
     refine SL.val (O.det (fun _ => G.R.strcatL rfl rfl (by omega)) rfl Taken.no) ?_
     refine SL.val (O.fld_ref (o' := 0) rfl Try.underlying27 rfl (m := 0) (by kernel_rfl) rfl rfl Taken.no) ?_
     refine SL.effS (O.st_ref (m := 1) rfl rfl rfl (js := [_]) rfl rfl (by kernel_rfl) (by simp) (Nat.le_of_ble_eq_true rfl) rfl (is' := [_, _, _]) rfl Taken.no) (S' := (107, _) :: _) rfl ?_
     refine SL.nil ?_
     refine E.to ?_
     refine W.region ?_
     refine SL.val (O.ldN (m := 3) (PtI.ref rfl rfl) (js := [_, _, _]) rfl (Nat.le_of_ble_eq_true rfl) Try.underlying27 rfl (by kernel_rfl) rfl Taken.no) ?_
     refine SL.effS (O.st_ref (m := 3) rfl rfl rfl (js := [_, _, _]) rfl rfl (by kernel_rfl) (by simp) (Nat.le_of_ble_eq_true rfl) rfl (is' := [_, _, _]) rfl Taken.no) (S' := (103, _) :: _) rfl ?_
     refine SL.nil ?_
     refine E.inn ?_
     refine E.to ?_
     refine W.seq ?_
     refine W.region ?_
     refine SL.val (O.ldN (m := 3) (PtI.ref rfl rfl) (js := [_, _, _]) rfl (Nat.le_of_ble_eq_true rfl) Try.underlying27 rfl (by kernel_rfl) rfl Taken.no) ?_
     refine SL.val (O.move rfl rfl Taken.no) ?_
     refine SL.val (O.ldN (m := 3) (PtI.ref rfl rfl) (js := [_, _, _]) rfl (Nat.le_of_ble_eq_true rfl) Try.underlying27 rfl (by kernel_rfl) rfl Taken.no) ?_
     refine SL.memS (O.call (rn []) [] rfl rfl rfl (with_h (t := t) (kpos t.kids s[0]!) (k := .nd _ _ _) hk.1 (by omega)) (.cons (ArgOk.aggU (.cons (ArgOk.same rfl) (.cons (ArgOk.same rfl) (.cons (ArgOk.same rfl) .nil)))) (.cons (ArgOk.same rfl) (.cons (ArgOk.aggU (.cons (ArgOk.same rfl) (.cons (ArgOk.same rfl) (.cons (ArgOk.same rfl) .nil)))) .nil))) SubS.nil rfl rfl rfl rfl rfl (.inl rfl) hcallOk64 (r' := .agg [.u _, .u _, .u _]) rfl rfl Taken.no) rfl rfl (S' := _) rfl ?_
     refine SL.effS (O.st_ref (m := 3) rfl rfl rfl (js := [_, _, _]) rfl rfl (by kernel_rfl) (by simp) (Nat.le_of_ble_eq_true rfl) rfl (is' := [_, _, _]) rfl Taken.no) (S' := (102, _) :: _) rfl ?_
     refine SL.nil ?_
     refine E.to ?_
     refine W.ret ?_
     refine E.fin (rs := [_]) (rn []) (.inl rfl) rfl (.cons (ResOne.cellN (m := 3) (PtI.ref rfl rfl) (js := [_, _, _]) rfl (Nat.le_of_ble_eq_true rfl) Try.underlying27 rfl (by kernel_rfl)) .nil) ?_ ?_ rfl (fixL_spec rfl)
     ·skip
      first | (rw [← remB_one hb.1 hy hw h1 h2]; rfl) | (rw [← remB_in hb.1 hy hw (by first | exact .inl (by first | assumption | exact nb_f (by assumption) | exact nb_m (by assumption)) | exact .inr (by omega))]; rfl) | (exfalso; simp_all; done)
     · exact SubS.nil
    ·skip
     refine W.skip ?_
     refine E.inn ?_
     refine E.to ?_
     refine W.seq ?_
     refine W.region ?_
     refine SL.val (O.ldN (m := 3) (PtI.ref rfl rfl) (js := [_, _, _]) rfl (Nat.le_of_ble_eq_true rfl) Try.underlying27 rfl (by kernel_rfl) rfl Taken.no) ?_
     refine SL.val (O.move rfl rfl Taken.no) ?_
     refine SL.val (O.ldN (m := 3) (PtI.ref rfl rfl) (js := [_, _, _]) rfl (Nat.le_of_ble_eq_true rfl) Try.underlying27 rfl (by kernel_rfl) rfl Taken.no) ?_
     refine SL.memS (O.call (rn []) [] rfl rfl rfl (with_h (t := t) (kpos t.kids s[0]!) (k := .nd _ _ _) hk.1 (by omega)) (.cons (ArgOk.aggU (.cons (ArgOk.same rfl) (.cons (ArgOk.same rfl) (.cons (ArgOk.same rfl) .nil)))) (.cons (ArgOk.same rfl) (.cons (ArgOk.aggU (.cons (ArgOk.same rfl) (.cons (ArgOk.same rfl) (.cons (ArgOk.same rfl) .nil)))) .nil))) SubS.nil rfl rfl rfl rfl rfl (.inl rfl) hcallOk64 (r' := .agg [.u _, .u _, .u _]) rfl rfl Taken.no) rfl rfl (S' := _) rfl ?_
     refine SL.effS (O.st_ref (m := 3) rfl rfl rfl (js := [_, _, _]) rfl rfl (by kernel_rfl) (by simp) (Nat.le_of_ble_eq_true rfl) rfl (is' := [_, _, _]) rfl Taken.no) (S' := (102, _) :: _) rfl ?_
     refine SL.nil ?_
     refine E.to ?_
     refine W.pick (.cons (t := 4) rfl .nil) (.cons (t := 101) rfl (.cons (t := 102) rfl (.cons (t := 103) rfl .nil))) ?_
     refine W.ret ?_
     refine E.fin (rs := [_]) (rn []) (.inl rfl) rfl (.cons (ResOne.cellN (m := 3) (PtI.ref rfl rfl) (js := [_, _, _]) rfl (Nat.le_of_ble_eq_true rfl) Try.underlying27 rfl (by kernel_rfl)) .nil) ?_ ?_ rfl (fixL_spec rfl)
     ·skip
      first | (rw [← remB_one hb.1 hy hw h1 h2]; rfl) | (rw [← remB_in hb.1 hy hw (by first | exact .inl (by first | assumption | exact nb_f (by assumption) | exact nb_m (by assumption)) | exact .inr (by omega))]; rfl) | (exfalso; simp_all; done)
     · exact SubS.nil
   ·skip
    first | have hg6p := G.gA5 hg6 | have hg6p := G.gA6 hg6 | have hg6p := hg6
    refine SL.skip (OpOk.not rfl rfl rfl hg6) ?_
    refine SL.skip (OpOk.not rfl rfl rfl hg6) ?_
    refine SL.skip (OpOk.not rfl rfl rfl hg6) ?_
    refine SL.skip (OpOk.not rfl rfl rfl hg6) ?_
    refine SL.val (O.pick_f rfl (G.ne_t hg6) rfl rfl Taken.no) ?_
    refine SL.val (O.assign rfl rfl Taken.no) ?_
    refine SL.nil ?_
    refine E.to ?_
    refine W.cond_f rfl ?_
    refine W.skip ?_
    refine E.inn ?_
    refine E.to ?_
    refine W.seq ?_
    refine W.region ?_
    refine SL.val (O.ldN (m := 3) (PtI.ref rfl rfl) (js := [_, _, _]) rfl (Nat.le_of_ble_eq_true rfl) Try.underlying27 rfl (by kernel_rfl) rfl Taken.no) ?_
    refine SL.val (O.move rfl rfl Taken.no) ?_
    refine SL.val (O.ldN (m := 3) (PtI.ref rfl rfl) (js := [_, _, _]) rfl (Nat.le_of_ble_eq_true rfl) Try.underlying27 rfl (by kernel_rfl) rfl Taken.no) ?_
    refine SL.memS (O.call (rn []) [] rfl rfl rfl (with_h (t := t) (kpos t.kids s[0]!) (k := .nd _ _ _) hk.1 (by omega)) (.cons (ArgOk.aggU (.cons (ArgOk.same rfl) (.cons (ArgOk.same rfl) (.cons (ArgOk.same rfl) .nil)))) (.cons (ArgOk.same rfl) (.cons (ArgOk.aggU (.cons (ArgOk.same rfl) (.cons (ArgOk.same rfl) (.cons (ArgOk.same rfl) .nil)))) .nil))) SubS.nil rfl rfl rfl rfl rfl (.inl rfl) hcallOk64 (r' := .agg [.u _, .u _, .u _]) rfl rfl Taken.no) rfl rfl (S' := _) rfl ?_
    refine SL.effS (O.st_ref (m := 3) rfl rfl rfl (js := [_, _, _]) rfl rfl (by kernel_rfl) (by simp) (Nat.le_of_ble_eq_true rfl) rfl (is' := [_, _, _]) rfl Taken.no) (S' := (102, _) :: _) rfl ?_
    refine SL.nil ?_
    refine E.to ?_
    refine W.pick (.cons (t := 4) rfl .nil) (.cons (t := 101) rfl (.cons (t := 102) rfl (.cons (t := 103) rfl .nil))) ?_
    refine W.ret ?_
    refine E.fin (rs := [_]) (rn []) (.inl rfl) rfl (.cons (ResOne.cellN (m := 3) (PtI.ref rfl rfl) (js := [_, _, _]) rfl (Nat.le_of_ble_eq_true rfl) Try.underlying27 rfl (by kernel_rfl)) .nil) ?_ ?_ rfl (fixL_spec rfl)
    ·skip
     first | (rw [← remB_one hb.1 hy hw h1 h2]; rfl) | (rw [← remB_in hb.1 hy hw (by first | exact .inl (by first | assumption | exact nb_f (by assumption) | exact nb_m (by assumption)) | exact .inr (by omega))]; rfl) | (exfalso; simp_all; done)
    · exact SubS.nil

theorem remove_h {t : Tr} {s : Str} (hb : bd 1000 t) (hs : s.length ≤ 1000) (hw : s ∈ t.inn) : Con Try.prog 57 [vA [uT t.lab, uB t.wd, .sl 3 (t.kids.map eTr)], vT s] [] (.agg [vT (remT t s).lab, vB (remT t s).wd, vL 3 ((remT t s).kids.map eTr)]) [] := by
  induction hn : s.length using Nat.strongRecOn generalizing t s with
  | _ n ih => exact remove_step hb hs hw (fun x y hl hb' hy => ih _ (by omega) hb' (by omega) hy rfl)

set_option maxRecDepth 8000 in
/-- bookplate/prefix.Remove. -/
theorem Remove_h {t : Tr} {s : Str} (hb : bd 1000 t) (hs : s.length ≤ 1000000) :
    Con Try.prog 36 [vA [uT t.lab, uB t.wd, .sl 3 (t.kids.map eTr)], vT s] [] (.tup [.agg [vT (remP t s).lab, vB (remP t s).wd, vL 3 ((remP t s).kids.map eTr)], vB (remO t s)]) [] := by
 refine Con.enterL (n := 19) Try.func36 rfl rfl rfl (fun τ w ok vs hin => ?_)
 have hl0_2 := hin.lenA (i := 0) (j := 2) rfl rfl
 try rw [List.length_map] at hl0_2
 clear hin
 refine W.seq ?_
 refine W.region ?_
 refine SL.memS (O.box (is := [_, _, _]) 101 rfl rfl (by simp) rfl rfl Taken.no) rfl rfl (S' := (101, _) :: _) rfl ?_
 refine SL.memS (O.alloc (z := .agg #[.string (Go.G.bs []), .bool false, .slice none 0 0]) (is := [.u (.sc (.string (Go.G.bs []))), .u (.sc (.bool false)), .u (.sc (.slice none 0 0))]) 102 (by kernel_rfl) rfl rfl rfl Taken.no) rfl rfl (S' := (102, _) :: _) rfl ?_
 refine SL.val (O.assign rfl rfl Taken.no) ?_
 refine SL.nil ?_
 refine E.to ?_
 refine W.seq ?_
 refine W.seq ?_
 refine W.region ?_
 refine SL.val (O.move rfl rfl Taken.no) ?_
 refine SL.val (O.callp rfl rfl rfl (word_h (w := s)) (.cons (ArgOk.same rfl) .nil) hcallOk42 rfl Taken.no) ?_
 refine SL.val (O.det (fun _ => G.R.not rfl) rfl Taken.no) ?_
 refine SL.val (O.move rfl rfl Taken.no) ?_
 refine SL.case (j := 3) (g := 9) (want := false) rfl rfl (fun hg1 => ?_) (fun hg1 => ?_)
 ·skip
  first | have hg1p := G.gA3 hg1 | have hg1p := G.gA4 hg1 | have hg1p := hg1
  refine SL.val (O.ldN (m := 3) (PtI.ref rfl rfl) (js := [_, _, _]) rfl (Nat.le_of_ble_eq_true rfl) Try.underlying27 rfl (by kernel_rfl) rfl (Taken.yes rfl rfl hg1)) ?_
  refine SL.val (O.move rfl rfl (Taken.yes rfl rfl hg1)) ?_
  refine SL.val (O.callp rfl rfl rfl (has_h (t := t) (s := s) hb (by omega)) (.cons (ArgOk.aggU (.cons (ArgOk.same rfl) (.cons (ArgOk.same rfl) (.cons (ArgOk.same rfl) .nil)))) (.cons (ArgOk.same rfl) .nil)) hcallOk18 rfl (Taken.yes rfl rfl hg1)) ?_
  refine SL.val (O.det (fun _ => G.R.not rfl) rfl (Taken.yes rfl rfl hg1)) ?_
  refine SL.val (O.pick_f rfl hg1 rfl rfl Taken.no) ?_
  refine SL.nil ?_
  refine E.to ?_
  first | refine W.cond_d rfl (fun hc2 => ?_) (fun hc2 => ?_) | refine W.cond_nd rfl (fun hc2 => ?_) (fun hc2 => ?_) | refine W.cond rfl (fun hc2 => ?_) (fun hc2 => ?_)
  ·skip
   refine W.seq ?_
   refine W.region ?_
   refine SL.val (O.ldN (m := 3) (PtI.ref rfl rfl) (js := [_, _, _]) rfl (Nat.le_of_ble_eq_true rfl) Try.underlying27 rfl (by kernel_rfl) rfl Taken.no) ?_
   refine SL.effS (O.st_ref (m := 3) rfl rfl rfl (js := [_, _, _]) rfl rfl (by kernel_rfl) (by simp) (Nat.le_of_ble_eq_true rfl) rfl (is' := [_, _, _]) rfl Taken.no) (S' := (102, _) :: _) rfl ?_
   refine SL.val (O.assign rfl rfl Taken.no) ?_
   refine SL.nil ?_
   refine E.to ?_
   refine W.ret ?_
   refine E.thr ?_
   refine E.fin (rs := [_, _]) (rn []) (.inl rfl) rfl (.cons (ResOne.cellN (m := 3) (PtI.ref rfl rfl) (js := [_, _, _]) rfl (Nat.le_of_ble_eq_true rfl) Try.underlying27 rfl (by kernel_rfl)) (.cons (ResOne.tmp rfl) .nil)) ?_ ?_ rfl (fixL_spec rfl)
   ·skip
    have hn : ¬ (wrd s ∧ s ∈ t.inn) := by simp_all
    rw [(remP_no hn).1, (remP_no hn).2]; rfl
   · exact SubS.nil
  ·skip
   have hw : wrd s ∧ s ∈ t.inn := by simp_all
   refine W.skip ?_
   refine E.to ?_
   refine W.seq ?_
   refine W.region ?_
   refine SL.val (O.ldN (m := 3) (PtI.ref rfl rfl) (js := [_, _, _]) rfl (Nat.le_of_ble_eq_true rfl) Try.underlying27 rfl (by kernel_rfl) rfl Taken.no) ?_
   refine SL.val (O.move rfl rfl Taken.no) ?_
   refine SL.memS (O.call (rn []) [] rfl rfl rfl (remove_h (t := t) (s := s) hb (by have := hw.1.2; omega) hw.2) (.cons (ArgOk.aggU (.cons (ArgOk.same rfl) (.cons (ArgOk.same rfl) (.cons (ArgOk.same rfl) .nil)))) (.cons (ArgOk.same rfl) .nil)) SubS.nil rfl rfl rfl rfl rfl (.inl rfl) hcallOk57 (r' := .agg [.u _, .u _, .u _]) rfl rfl Taken.no) rfl rfl (S' := _) rfl ?_
   refine SL.effS (O.st_ref (m := 3) rfl rfl rfl (js := [_, _, _]) rfl rfl (by kernel_rfl) (by simp) (Nat.le_of_ble_eq_true rfl) rfl (is' := [_, _, _]) rfl Taken.no) (S' := (102, _) :: _) rfl ?_
   refine SL.val (O.assign rfl rfl Taken.no) ?_
   refine SL.nil ?_
   refine E.to ?_
   refine W.ret ?_
   refine E.fin (rs := [_, _]) (rn []) (.inl rfl) rfl (.cons (ResOne.cellN (m := 3) (PtI.ref rfl rfl) (js := [_, _, _]) rfl (Nat.le_of_ble_eq_true rfl) Try.underlying27 rfl (by kernel_rfl)) (.cons (ResOne.tmp rfl) .nil)) ?_ ?_ rfl (fixL_spec rfl)
   ·skip
    rw [(remP_yes hw).1, (remP_yes hw).2]; rfl
   · exact SubS.nil
 ·skip
  first | have hg1p := G.gA7 hg1 | have hg1p := G.gA8 hg1 | have hg1p := hg1
  refine SL.skip (OpOk.not rfl rfl rfl hg1) ?_
  refine SL.skip (OpOk.not rfl rfl rfl hg1) ?_
  refine SL.skip (OpOk.not rfl rfl rfl hg1) ?_
  refine SL.skip (OpOk.not rfl rfl rfl hg1) ?_
  refine SL.val (O.pick_t rfl (G.ne_f hg1) rfl rfl Taken.no) ?_
  refine SL.nil ?_
  refine E.to ?_
  refine W.cond_t rfl ?_
  refine W.seq ?_
  refine W.region ?_
  refine SL.val (O.ldN (m := 3) (PtI.ref rfl rfl) (js := [_, _, _]) rfl (Nat.le_of_ble_eq_true rfl) Try.underlying27 rfl (by kernel_rfl) rfl Taken.no) ?_
  refine SL.effS (O.st_ref (m := 3) rfl rfl rfl (js := [_, _, _]) rfl rfl (by kernel_rfl) (by simp) (Nat.le_of_ble_eq_true rfl) rfl (is' := [_, _, _]) rfl Taken.no) (S' := (102, _) :: _) rfl ?_
  refine SL.val (O.assign rfl rfl Taken.no) ?_
  refine SL.nil ?_
  refine E.to ?_
  refine W.ret ?_
  refine E.thr ?_
  refine E.fin (rs := [_, _]) (rn []) (.inl rfl) rfl (.cons (ResOne.cellN (m := 3) (PtI.ref rfl rfl) (js := [_, _, _]) rfl (Nat.le_of_ble_eq_true rfl) Try.underlying27 rfl (by kernel_rfl)) (.cons (ResOne.tmp rfl) .nil)) ?_ ?_ rfl (fixL_spec rfl)
  ·skip
   have hn : ¬ (wrd s ∧ s ∈ t.inn) := by simp_all
   rw [(remP_no hn).1, (remP_no hn).2]; rfl
  · exact SubS.nil

set_option maxRecDepth 8000 in
/-- bookplate/bookplateref41.Words. -/
theorem wordsO_step {t : Tr} {b : Str} (hb : bd 1000 t) (hbl : b.length + t.lab.length ≤ 100000) (hs : short (b ++ t.lab) t) :
    Con Try.prog 49 [vA [uT t.lab, uB t.wd, .sl 3 (t.kids.map eTr)], vT b] [] (.own 0) [(0, .data 9 1 ((bw t (b ++ t.lab)).map eStr))] := by
 have hkl := bd_kids hb
 have hin := hb.2.2
 obtain ⟨i9, hi9, hz9, hs9, hb9⟩ := hinf9
 obtain ⟨i33, hi33, hz33, hs33, hb33⟩ := hinf33
 refine Con.enterL (n := 34) Try.func49 rfl rfl rfl (fun τ w ok vs hin => ?_)
 have hl0_2 := hin.lenA (i := 0) (j := 2) rfl rfl
 try rw [List.length_map] at hl0_2
 clear hin
 refine W.seq ?_
 refine W.region ?_
 refine SL.memS (O.box (is := [_, _, _]) 101 rfl rfl (by simp) rfl rfl Taken.no) rfl rfl (S' := (101, _) :: _) rfl ?_
 refine SL.val (O.assign rfl rfl Taken.no) ?_
 refine SL.nil ?_
 refine E.to ?_
 refine W.seq ?_
 refine W.region ?_
 refine SL.val (O.assign rfl rfl Taken.no) ?_
 refine SL.nil ?_
 refine E.to ?_
 refine W.seq ?_
 refine W.region ?_
 refine SL.val (O.move rfl rfl Taken.no) ?_
 refine SL.val (O.fld_ref (o' := 0) rfl Try.underlying33 rfl (m := 0) (by kernel_rfl) rfl rfl Taken.no) ?_
 refine SL.val (O.ld1 (PtI.ref rfl rfl) rfl Try.underlying9 rfl rfl Taken.no) ?_
 refine SL.val (O.det (fun _ => G.R.strcatL rfl rfl (by omega)) rfl Taken.no) ?_
 refine SL.val (O.assign rfl rfl Taken.no) ?_
 refine SL.nil ?_
 refine E.to ?_
 refine W.seq ?_
 refine W.seq ?_
 refine W.region ?_
 refine SL.val (O.fld_ref (o' := 1) rfl Try.underlying33 rfl (m := 0) (by kernel_rfl) rfl rfl Taken.no) ?_
 refine SL.val (O.ld1 (PtI.ref rfl rfl) rfl Try.underlying4 rfl rfl Taken.no) ?_
 refine SL.nil ?_
 refine E.to ?_
 first | refine W.cond_d rfl (fun hc1 => ?_) (fun hc1 => ?_) | refine W.cond_nd rfl (fun hc1 => ?_) (fun hc1 => ?_) | refine W.cond rfl (fun hc1 => ?_) (fun hc1 => ?_)
 ·skip
  refine W.region ?_
  refine SL.val (O.move rfl rfl Taken.no) ?_
  refine SL.val (O.move rfl rfl Taken.no) ?_
  refine SL.memS (O.buildSlice 102 rfl rfl Try.underlying22 hi9 hz9 hs9 (by decide) rfl (by decide) rfl rfl rfl Taken.no) rfl rfl (S' := (102, _) :: _) rfl ?_
  refine SL.adopt 13 104 9 1 (by decide) rfl rfl rfl ?_
  refine SL.memS (O.app (k' := 103) rfl rfl (SlOf.own rfl rfl) Try.underlying22 hi9 hz9 hs9 rfl rfl (by first | exact map_snoc rfl | exact app_map | exact List.nil_append _ | rfl) (by rw [hb9]; first | omega | (simp only [List.length_map]; omega) | (simp <;> omega)) (by first | omega | (simp only [List.length_map]; omega) | (simp <;> omega)) rfl Taken.no) rfl rfl (S' := (103, _) :: (104, .dead) :: _) rfl ?_
  refine SL.val (O.assign rfl rfl Taken.no) ?_
  refine SL.nil ?_
  refine E.to ?_
  refine W.seq ?_
  refine W.seq ?_
  refine W.region ?_
  refine SL.val (O.assign rfl rfl Taken.no) ?_
  refine SL.nil ?_
  refine E.to ?_
  refine W.block ?_
  refine W.loopx1 (fun (k : Nat) => [(6, vI (k : Int)), (5, .own 105)]) (fun (k : Nat) => [(105, .data 9 1 ((bwK t (b ++ t.lab) k).map eStr))]) (fun (k : Nat) => k ≤ t.kids.length) (fun (k : Nat) => t.kids.length - k) (0) (rn [(105, 103)]) (.cons (t := 1) rfl (.cons (t := 2) rfl (.cons (t := 4) rfl .nil))) (.cons (t := 101) rfl (.cons (t := 102) rfl .nil)) rfl ?_ ?_ rfl rfl ?_ ?_
  · exact (SubF.cons rfl (SubF.cons rfl SubF.nil))
  · exact (SubS.val rfl (by first | exact sb_data (by rw [bwK_0, if_pos (by assumption)]; rfl) | exact sb_data (by rw [bwK_0, if_neg (by assumption)]; rfl) | exact sb_data (by rw [bwK_0, if_neg (Bool.eq_false_iff.1 (by assumption))]; rfl)) SubS.nil)
  ·skip
   omega
  intro k hinv
  have hk := hinv
  have hbl2 := bwK_le t (b ++ t.lab) k
  have hsk : k < t.kids.length → _ := fun h => short_kid hb hs (at_mem h)
  refine W.seq ?_
  refine W.seq ?_
  refine W.region ?_
  refine SL.val (O.move rfl rfl Taken.no) ?_
  refine SL.val (O.fld_ref (o' := 2) rfl Try.underlying33 rfl (m := 0) (by kernel_rfl) rfl rfl Taken.no) ?_
  refine SL.val (O.ld1 (PtI.ref rfl rfl) rfl Try.underlying31 rfl rfl Taken.no) ?_
  refine SL.val (O.lenE (SlOf.fz rfl (by decide)) (by first | exact List.length_map _ | rfl) Try.underlying31 rfl Taken.no) ?_
  refine SL.val (O.det (fun _ => G.R.lss rfl rfl) rfl Taken.no) ?_
  refine SL.nil ?_
  refine E.to ?_
  first | refine W.cond_d rfl (fun hc2 => ?_) (fun hc2 => ?_) | refine W.cond_nd rfl (fun hc2 => ?_) (fun hc2 => ?_) | refine W.cond rfl (fun hc2 => ?_) (fun hc2 => ?_)
  ·skip
   have hk2 : k < t.kids.length := by omega
   have hsk2 := hsk hk2
   have hcl := bwK_len (b := b ++ t.lab) hk2
   have hwl := bw_len t.kids[k]! (b ++ t.lab ++ t.kids[k]!.lab)
   refine W.skip ?_
   refine E.to ?_
   refine W.seq ?_
   refine W.block ?_
   refine W.region ?_
   refine SL.val (O.move rfl rfl Taken.no) ?_
   refine SL.val (O.fld_ref (o' := 2) rfl Try.underlying33 rfl (m := 0) (by kernel_rfl) rfl rfl Taken.no) ?_
   refine SL.val (O.ld1 (PtI.ref rfl rfl) rfl Try.underlying31 rfl rfl Taken.no) ?_
   refine SL.val (O.move rfl rfl Taken.no) ?_
   refine SL.val (O.idx_fz rfl rfl (rfl) (row_tr (by omega)) Try.underlying31 hi33 hs33 rfl Taken.no) ?_
   refine SL.val (O.ldU (m := 3) (PtU.fz rfl) rfl Try.underlying33 rfl (by kernel_rfl) rfl Taken.no) ?_
   refine SL.val (O.move rfl rfl Taken.no) ?_
   refine SL.val (O.callp rfl rfl rfl (words0_h t.kids[k]! (b ++ t.lab) (bd_kid hb (at_mem hk2)).1 hsk2.2 hsk2.1) (.cons (ArgOk.same rfl) (.cons (ArgOk.same rfl) .nil)) hcallOk49 rfl Taken.no) ?_
   refine SL.memS (O.app (k' := 106) rfl rfl (SlOf.fz rfl (by decide)) Try.underlying22 hi9 hz9 hs9 rfl rfl (by exact app_map) (by rw [hb9]; first | omega | (simp only [List.length_map]; omega) | (simp <;> omega)) (by first | omega | (simp only [List.length_map]; omega) | (simp <;> omega)) rfl Taken.no) rfl rfl (S' := (106, _) :: (105, .dead) :: _) rfl ?_
   refine SL.val (O.assign rfl rfl Taken.no) ?_
   refine SL.nil ?_
   refine E.inn ?_
   refine E.to ?_
   refine W.region ?_
   refine SL.val (O.move rfl rfl Taken.no) ?_
   refine SL.val (O.det (fun _ => by first | exact G.R.add64 rfl rfl (by omega) | exact G.R.add rfl rfl) rfl Taken.no) ?_
   refine SL.val (O.assign rfl rfl Taken.no) ?_
   refine SL.nil ?_
   refine E.again ((k + 1)) (rn [(105, 106)]) ?_ ?_ rfl (fixL_spec rfl) ?_ ?_
   · exact (SubF.cons rfl (SubF.cons rfl (SubF.cons rfl (SubF.cons rfl (SubF.cons rfl SubF.nil)))))
   · exact (SubS.val rfl (by (try dsimp only); exact sb_data (by rw [bwK_step (by omega)])) (SubS.cons rfl (SubS.cons rfl SubS.nil)))
   ·try dsimp only
    omega
   · (try dsimp only); omega
  ·skip
   refine W.exit ?_
   refine E.th ?_
   refine E.th ?_
   refine E.hit ?_
   refine E.to ?_
   refine W.seq ?_
   refine W.region ?_
   refine SL.val (O.move rfl rfl Taken.no) ?_
   refine SL.val (O.assign rfl rfl Taken.no) ?_
   refine SL.nil ?_
   refine E.to ?_
   refine W.ret ?_
   refine E.fin (rs := [_]) (rn [(0, 105)]) (.inl rfl) rfl (.cons (ResOne.tmp rfl) .nil) ?_ ?_ rfl (fixL_spec rfl)
   ·skip
    rfl
   · exact (SubS.val rfl (by exact sb_data (by rw [← bwK_all t (b ++ t.lab) (show k = t.kids.length by omega)])) SubS.nil)
 ·skip
  refine W.skip ?_
  refine E.to ?_
  refine W.seq ?_
  refine W.seq ?_
  refine W.region ?_
  refine SL.val (O.assign rfl rfl Taken.no) ?_
  refine SL.nil ?_
  refine E.to ?_
  refine W.block ?_
  refine W.adopt 5 108 9 1 (by decide) rfl rfl rfl ?_
  refine W.loopx1 (fun (k : Nat) => [(6, vI (k : Int)), (5, .own 107)]) (fun (k : Nat) => [(107, .data 9 1 ((bwK t (b ++ t.lab) k).map eStr))]) (fun (k : Nat) => k ≤ t.kids.length) (fun (k : Nat) => t.kids.length - k) (0) (rn [(107, 108)]) (.cons (t := 1) rfl (.cons (t := 2) rfl (.cons (t := 4) rfl .nil))) (.cons (t := 101) rfl .nil) rfl ?_ ?_ rfl rfl ?_ ?_
  · exact (SubF.cons rfl (SubF.cons rfl SubF.nil))
  · exact (SubS.val rfl (by first | exact sb_data (by rw [bwK_0, if_pos (by assumption)]; rfl) | exact sb_data (by rw [bwK_0, if_neg (by assumption)]; rfl) | exact sb_data (by rw [bwK_0, if_neg (Bool.eq_false_iff.1 (by assumption))]; rfl)) SubS.nil)
  ·skip
   omega
  intro k hinv
  have hk := hinv
  have hbl2 := bwK_le t (b ++ t.lab) k
  have hsk : k < t.kids.length → _ := fun h => short_kid hb hs (at_mem h)
  refine W.seq ?_
  refine W.seq ?_
  refine W.region ?_
  refine SL.val (O.move rfl rfl Taken.no) ?_
  refine SL.val (O.fld_ref (o' := 2) rfl Try.underlying33 rfl (m := 0) (by kernel_rfl) rfl rfl Taken.no) ?_
  refine SL.val (O.ld1 (PtI.ref rfl rfl) rfl Try.underlying31 rfl rfl Taken.no) ?_
  refine SL.val (O.lenE (SlOf.fz rfl (by decide)) (by first | exact List.length_map _ | rfl) Try.underlying31 rfl Taken.no) ?_
  refine SL.val (O.det (fun _ => G.R.lss rfl rfl) rfl Taken.no) ?_
  refine SL.nil ?_
  refine E.to ?_
  first | refine W.cond_d rfl (fun hc3 => ?_) (fun hc3 => ?_) | refine W.cond_nd rfl (fun hc3 => ?_) (fun hc3 => ?_) | refine W.cond rfl (fun hc3 => ?_) (fun hc3 => ?_)
  ·skip
   have hk2 : k < t.kids.length := by omega
   have hsk2 := hsk hk2
   have hcl := bwK_len (b := b ++ t.lab) hk2
   have hwl := bw_len t.kids[k]! (b ++ t.lab ++ t.kids[k]!.lab)
   refine W.skip ?_
   refine E.to ?_
   refine W.seq ?_
   refine W.block ?_
   refine W.region ?_
   refine SL.val (O.move rfl rfl Taken.no) ?_
   refine SL.val (O.fld_ref (o' := 2) rfl Try.underlying33 rfl (m := 0) (by kernel_rfl) rfl rfl Taken.no) ?_
   refine SL.val (O.ld1 (PtI.ref rfl rfl) rfl Try.underlying31 rfl rfl Taken.no) ?_
   refine SL.val (O.move rfl rfl Taken.no) ?_
   refine SL.val (O.idx_fz rfl rfl (rfl) (row_tr (by omega)) Try.underlying31 hi33 hs33 rfl Taken.no) ?_
   refine SL.val (O.ldU (m := 3) (PtU.fz rfl) rfl Try.underlying33 rfl (by kernel_rfl) rfl Taken.no) ?_
   refine SL.val (O.move rfl rfl Taken.no) ?_
   refine SL.val (O.callp rfl rfl rfl (words0_h t.kids[k]! (b ++ t.lab) (bd_kid hb (at_mem hk2)).1 hsk2.2 hsk2.1) (.cons (ArgOk.same rfl) (.cons (ArgOk.same rfl) .nil)) hcallOk49 rfl Taken.no) ?_
   refine SL.memS (O.app (k' := 109) rfl rfl (SlOf.fz rfl (by decide)) Try.underlying22 hi9 hz9 hs9 rfl rfl (by exact app_map) (by rw [hb9]; first | omega | (simp only [List.length_map]; omega) | (simp <;> omega)) (by first | omega | (simp only [List.length_map]; omega) | (simp <;> omega)) rfl Taken.no) rfl rfl (S' := (109, _) :: (107, .dead) :: _) rfl ?_
   refine SL.val (O.assign rfl rfl Taken.no) ?_
   refine SL.nil ?_
   refine E.inn ?_
   refine E.to ?_
   refine W.region ?_
   refine SL.val (O.move rfl rfl Taken.no) ?_
   refine SL.val (O.det (fun _ => by first | exact G.R.add64 rfl rfl (by omega) | exact G.R.add rfl rfl) rfl Taken.no) ?_
   refine SL.val (O.assign rfl rfl Taken.no) ?_
   refine SL.nil ?_
   refine E.again ((k + 1)) (rn [(107, 109)]) ?_ ?_ rfl (fixL_spec rfl) ?_ ?_
   · exact (SubF.cons rfl (SubF.cons rfl (SubF.cons rfl (SubF.cons rfl (SubF.cons rfl SubF.nil)))))
   · exact (SubS.val rfl (by (try dsimp only); exact sb_data (by rw [bwK_step (by omega)])) (SubS.cons rfl SubS.nil))
   ·try dsimp only
    omega
   · (try dsimp only); omega
  ·skip
   refine W.exit ?_
   refine E.th ?_
   refine E.th ?_
   refine E.hit ?_
   refine E.to ?_
   refine W.seq ?_
   refine W.region ?_
   refine SL.val (O.move rfl rfl Taken.no) ?_
   refine SL.val (O.assign rfl rfl Taken.no) ?_
   refine SL.nil ?_
   refine E.to ?_
   refine W.ret ?_
   refine E.fin (rs := [_]) (rn [(0, 107)]) (.inl rfl) rfl (.cons (ResOne.tmp rfl) .nil) ?_ ?_ rfl (fixL_spec rfl)
   ·skip
    rfl
   · exact (SubS.val rfl (by exact sb_data (by rw [← bwK_all t (b ++ t.lab) (show k = t.kids.length by omega)])) SubS.nil)

theorem wordsO_h {t : Tr} (hb : bd 1000 t) (hl : t.lab = []) : Con Try.prog 49 [vA [uT t.lab, uB t.wd, .sl 3 (t.kids.map eTr)], vT []] [] (.own 0) [(0, .data 9 1 (t.inn.map eStr))] := by
  have := wordsO_step (b := []) hb (by rw [hl]; decide) (by rw [hl]; exact short_0 hb)
  rwa [root_ws hl] at this

set_option maxRecDepth 8000 in
/-- bookplate/bookplateref41.Insert. -/
theorem refInsert_h {t : Tr} {s : Str} (hg : gd t) :
    Con Try.prog 35 [vA [uT t.lab, uB t.wd, .sl 3 (t.kids.map eTr)], vT s] [] (.tup [.agg [vT (insP t s).lab, vB (insP t s).wd, vL 3 ((insP t s).kids.map eTr)], vB (insO t s)]) [] := by
 have hin := hg.1.2.2
 obtain ⟨i9, hi9, hz9, hs9, hb9⟩ := hinf9
 refine Con.enterL (n := 27) Try.func35 rfl rfl rfl (fun τ w ok vs hin => ?_)
 have hl0_2 := hin.lenA (i := 0) (j := 2) rfl rfl
 try rw [List.length_map] at hl0_2
 clear hin
 refine W.seq ?_
 refine W.region ?_
 refine SL.memS (O.box (is := [_, _, _]) 101 rfl rfl (by simp) rfl rfl Taken.no) rfl rfl (S' := (101, _) :: _) rfl ?_
 refine SL.memS (O.alloc (z := .agg #[.string (Go.G.bs []), .bool false, .slice none 0 0]) (is := [.u (.sc (.string (Go.G.bs []))), .u (.sc (.bool false)), .u (.sc (.slice none 0 0))]) 102 (by kernel_rfl) rfl rfl rfl Taken.no) rfl rfl (S' := (102, _) :: _) rfl ?_
 refine SL.val (O.assign rfl rfl Taken.no) ?_
 refine SL.nil ?_
 refine E.to ?_
 refine W.seq ?_
 refine W.seq ?_
 refine W.region ?_
 refine SL.val (O.move rfl rfl Taken.no) ?_
 refine SL.val (O.callp rfl rfl rfl (refWord_h (w := s)) (.cons (ArgOk.same rfl) .nil) hcallOk43 rfl Taken.no) ?_
 refine SL.val (O.det (fun _ => G.R.not rfl) rfl Taken.no) ?_
 refine SL.val (O.move rfl rfl Taken.no) ?_
 refine SL.case (j := 3) (g := 11) (want := false) rfl rfl (fun hg1 => ?_) (fun hg1 => ?_)
 ·skip
  first | have hg1p := G.gA3 hg1 | have hg1p := G.gA4 hg1 | have hg1p := hg1
  refine SL.val (O.ldN (m := 3) (PtI.ref rfl rfl) (js := [_, _, _]) rfl (Nat.le_of_ble_eq_true rfl) Try.underlying33 rfl (by kernel_rfl) rfl (Taken.yes rfl rfl hg1)) ?_
  refine SL.val (O.move rfl rfl (Taken.yes rfl rfl hg1)) ?_
  refine SL.val (O.callp rfl rfl rfl (refHas_h (t := t) (s := s) (bd_mono hg.1 (by decide)) hg.2.1) (.cons (ArgOk.aggU (.cons (ArgOk.same rfl) (.cons (ArgOk.same rfl) (.cons (ArgOk.same rfl) .nil)))) (.cons (ArgOk.same rfl) .nil)) hcallOk24 rfl (Taken.yes rfl rfl hg1)) ?_
  refine SL.val (O.pick_f rfl hg1 rfl rfl Taken.no) ?_
  refine SL.nil ?_
  refine E.to ?_
  first | refine W.cond_d rfl (fun hc2 => ?_) (fun hc2 => ?_) | refine W.cond_nd rfl (fun hc2 => ?_) (fun hc2 => ?_) | refine W.cond rfl (fun hc2 => ?_) (fun hc2 => ?_)
  ·skip
   refine W.seq ?_
   refine W.region ?_
   refine SL.val (O.ldN (m := 3) (PtI.ref rfl rfl) (js := [_, _, _]) rfl (Nat.le_of_ble_eq_true rfl) Try.underlying33 rfl (by kernel_rfl) rfl Taken.no) ?_
   refine SL.effS (O.st_ref (m := 3) rfl rfl rfl (js := [_, _, _]) rfl rfl (by kernel_rfl) (by simp) (Nat.le_of_ble_eq_true rfl) rfl (is' := [_, _, _]) rfl Taken.no) (S' := (102, _) :: _) rfl ?_
   refine SL.val (O.assign rfl rfl Taken.no) ?_
   refine SL.nil ?_
   refine E.to ?_
   refine W.ret ?_
   refine E.thr ?_
   refine E.fin (rs := [_, _]) (rn []) (.inl rfl) rfl (.cons (ResOne.cellN (m := 3) (PtI.ref rfl rfl) (js := [_, _, _]) rfl (Nat.le_of_ble_eq_true rfl) Try.underlying33 rfl (by kernel_rfl)) (.cons (ResOne.tmp rfl) .nil)) ?_ ?_ rfl (fixL_spec rfl)
   ·skip
    have hn : ¬ (wrd s ∧ s ∉ t.inn) := by simp_all
    rw [(insP_no hn).1, (insP_no hn).2]; rfl
   · exact SubS.nil
  ·skip
   have hw : wrd s ∧ s ∉ t.inn := by simp_all
   have ho := ins_of hg hw.1
   refine W.skip ?_
   refine E.to ?_
   refine W.seq ?_
   refine W.region ?_
   refine SL.val (O.ldN (m := 3) (PtI.ref rfl rfl) (js := [_, _, _]) rfl (Nat.le_of_ble_eq_true rfl) Try.underlying33 rfl (by kernel_rfl) rfl Taken.no) ?_
   refine SL.memS (O.call (rn [(0, 103)]) [] rfl rfl rfl (wordsO_h (t := t) (bd_mono hg.1 (by decide)) hg.2.1) (.cons (ArgOk.aggU (.cons (ArgOk.same rfl) (.cons (ArgOk.same rfl) (.cons (ArgOk.same rfl) .nil)))) (.cons (ArgOk.same rfl) .nil)) SubS.nil rfl rfl rfl rfl rfl (.inl rfl) hcallOk49 (r' := .own 103) rfl rfl Taken.no) rfl rfl (S' := (103, .data _ _ _) :: _) rfl ?_
   refine SL.val (O.move rfl rfl Taken.no) ?_
   refine SL.memS (O.buildSlice 104 rfl rfl Try.underlying22 hi9 hz9 hs9 (by decide) rfl (by decide) rfl rfl rfl Taken.no) rfl rfl (S' := (104, _) :: _) rfl ?_
   refine SL.memS (O.app (k' := 105) rfl rfl (SlOf.own rfl rfl) Try.underlying22 hi9 hz9 hs9 rfl rfl (by exact map_snoc (x := s) rfl) (by rw [hb9]; (simp only [List.length_map, List.length_singleton]; omega)) (by (simp only [List.length_map, List.length_singleton]; omega)) rfl Taken.no) rfl rfl (S' := (105, _) :: (103, .dead) :: _) rfl ?_
   refine SL.freeze 105 rfl (F' := [(22, _)]) (⟨⟨_, rfl, rfl⟩, trivial⟩) ?_
   refine SL.memS (O.call (rn []) [] rfl rfl rfl (refOf_h (l := t.inn ++ [s]) (by rw [List.length_append, List.length_singleton]; omega)) (.cons (ArgOk.same rfl) .nil) SubS.nil rfl rfl rfl rfl rfl (.inl rfl) hcallOk13 (r' := .tup [.agg [.u _, .u _, .u _], .u _]) rfl rfl Taken.no) rfl rfl (S' := _) rfl ?_
   refine SL.as (i' := .tup [.agg [vT (insT t s).lab, vB (insT t s).wd, vL 3 ((insT t s).kids.map eTr)], vI 0]) 23 rfl (by rw [ho.1, ho.2]) ?_
   refine SL.val (O.move rfl rfl Taken.no) ?_
   refine SL.val (O.extract rfl rfl rfl Taken.no) ?_
   refine SL.val (O.extract rfl rfl rfl Taken.no) ?_
   refine SL.memS (O.alloc (z := .agg #[.string (Go.G.bs []), .bool false, .slice none 0 0]) (is := [.u (.sc (.string (Go.G.bs []))), .u (.sc (.bool false)), .u (.sc (.slice none 0 0))]) 106 (by kernel_rfl) rfl rfl rfl Taken.no) rfl rfl (S' := (106, _) :: _) rfl ?_
   refine SL.effS (O.st_ref (m := 3) rfl rfl rfl (js := [_, _, _]) rfl rfl (by kernel_rfl) (by simp) (Nat.le_of_ble_eq_true rfl) rfl (is' := [_, _, _]) rfl Taken.no) (S' := (106, _) :: _) rfl ?_
   refine SL.val (O.assign rfl rfl Taken.no) ?_
   refine SL.nil ?_
   refine E.to ?_
   refine W.pick (.cons (t := 4) rfl (.cons (t := 5) rfl (.cons (t := 6) rfl .nil))) (.cons (t := 101) rfl (.cons (t := 102) rfl (.cons (t := 104) rfl (.cons (t := 106) rfl .nil)))) ?_
   refine W.seq ?_
   refine W.region ?_
   refine SL.val (O.ldN (m := 3) (PtI.ref rfl rfl) (js := [_, _, _]) rfl (Nat.le_of_ble_eq_true rfl) Try.underlying33 rfl (by kernel_rfl) rfl Taken.no) ?_
   refine SL.effS (O.st_ref (m := 3) rfl rfl rfl (js := [_, _, _]) rfl rfl (by kernel_rfl) (by simp) (Nat.le_of_ble_eq_true rfl) rfl (is' := [_, _, _]) rfl Taken.no) (S' := (102, _) :: _) rfl ?_
   refine SL.val (O.assign rfl rfl Taken.no) ?_
   refine SL.nil ?_
   refine E.to ?_
   refine W.ret ?_
   refine E.fin (rs := [_, _]) (rn []) (.inl rfl) rfl (.cons (ResOne.cellN (m := 3) (PtI.ref rfl rfl) (js := [_, _, _]) rfl (Nat.le_of_ble_eq_true rfl) Try.underlying33 rfl (by kernel_rfl)) (.cons (ResOne.tmp rfl) .nil)) ?_ ?_ rfl (fixL_spec rfl)
   ·skip
    rw [(insP_yes hw).1, (insP_yes hw).2]; rfl
   · exact SubS.nil
 ·skip
  first | have hg1p := G.gA7 hg1 | have hg1p := G.gA8 hg1 | have hg1p := hg1
  refine SL.skip (OpOk.not rfl rfl rfl hg1) ?_
  refine SL.skip (OpOk.not rfl rfl rfl hg1) ?_
  refine SL.skip (OpOk.not rfl rfl rfl hg1) ?_
  refine SL.val (O.pick_t rfl (G.ne_f hg1) rfl rfl Taken.no) ?_
  refine SL.nil ?_
  refine E.to ?_
  refine W.cond_t rfl ?_
  refine W.seq ?_
  refine W.region ?_
  refine SL.val (O.ldN (m := 3) (PtI.ref rfl rfl) (js := [_, _, _]) rfl (Nat.le_of_ble_eq_true rfl) Try.underlying33 rfl (by kernel_rfl) rfl Taken.no) ?_
  refine SL.effS (O.st_ref (m := 3) rfl rfl rfl (js := [_, _, _]) rfl rfl (by kernel_rfl) (by simp) (Nat.le_of_ble_eq_true rfl) rfl (is' := [_, _, _]) rfl Taken.no) (S' := (102, _) :: _) rfl ?_
  refine SL.val (O.assign rfl rfl Taken.no) ?_
  refine SL.nil ?_
  refine E.to ?_
  refine W.ret ?_
  refine E.thr ?_
  refine E.fin (rs := [_, _]) (rn []) (.inl rfl) rfl (.cons (ResOne.cellN (m := 3) (PtI.ref rfl rfl) (js := [_, _, _]) rfl (Nat.le_of_ble_eq_true rfl) Try.underlying33 rfl (by kernel_rfl)) (.cons (ResOne.tmp rfl) .nil)) ?_ ?_ rfl (fixL_spec rfl)
  ·skip
   have hn : ¬ (wrd s ∧ s ∉ t.inn) := by simp_all
   rw [(insP_no hn).1, (insP_no hn).2]; rfl
  · exact SubS.nil

set_option maxRecDepth 8000 in
/-- bookplate/bookplateref41.Remove. -/
theorem refRemove_h {t : Tr} {s : Str} (hg : gd t) :
    Con Try.prog 37 [vA [uT t.lab, uB t.wd, .sl 3 (t.kids.map eTr)], vT s] [] (.tup [.agg [vT (remP t s).lab, vB (remP t s).wd, vL 3 ((remP t s).kids.map eTr)], vB (remO t s)]) [] := by
 have hin := hg.1.2.2
 obtain ⟨i9, hi9, hz9, hs9, hb9⟩ := hinf9
 refine Con.enterL (n := 43) Try.func37 rfl rfl rfl (fun τ w ok vs hin => ?_)
 have hl0_2 := hin.lenA (i := 0) (j := 2) rfl rfl
 try rw [List.length_map] at hl0_2
 clear hin
 refine W.seq ?_
 refine W.region ?_
 refine SL.memS (O.box (is := [_, _, _]) 101 rfl rfl (by simp) rfl rfl Taken.no) rfl rfl (S' := (101, _) :: _) rfl ?_
 refine SL.memS (O.alloc (z := .agg #[.string (Go.G.bs []), .bool false, .slice none 0 0]) (is := [.u (.sc (.string (Go.G.bs []))), .u (.sc (.bool false)), .u (.sc (.slice none 0 0))]) 102 (by kernel_rfl) rfl rfl rfl Taken.no) rfl rfl (S' := (102, _) :: _) rfl ?_
 refine SL.val (O.assign rfl rfl Taken.no) ?_
 refine SL.nil ?_
 refine E.to ?_
 refine W.seq ?_
 refine W.seq ?_
 refine W.region ?_
 refine SL.val (O.ldN (m := 3) (PtI.ref rfl rfl) (js := [_, _, _]) rfl (Nat.le_of_ble_eq_true rfl) Try.underlying33 rfl (by kernel_rfl) rfl Taken.no) ?_
 refine SL.val (O.move rfl rfl Taken.no) ?_
 refine SL.val (O.callp rfl rfl rfl (refHas_h (t := t) (s := s) (bd_mono hg.1 (by decide)) hg.2.1) (.cons (ArgOk.aggU (.cons (ArgOk.same rfl) (.cons (ArgOk.same rfl) (.cons (ArgOk.same rfl) .nil)))) (.cons (ArgOk.same rfl) .nil)) hcallOk24 rfl Taken.no) ?_
 refine SL.val (O.det (fun _ => G.R.not rfl) rfl Taken.no) ?_
 refine SL.nil ?_
 refine E.to ?_
 first | refine W.cond_d rfl (fun hc1 => ?_) (fun hc1 => ?_) | refine W.cond_nd rfl (fun hc1 => ?_) (fun hc1 => ?_) | refine W.cond rfl (fun hc1 => ?_) (fun hc1 => ?_)
 ·skip
  refine W.seq ?_
  refine W.region ?_
  refine SL.val (O.ldN (m := 3) (PtI.ref rfl rfl) (js := [_, _, _]) rfl (Nat.le_of_ble_eq_true rfl) Try.underlying33 rfl (by kernel_rfl) rfl Taken.no) ?_
  refine SL.effS (O.st_ref (m := 3) rfl rfl rfl (js := [_, _, _]) rfl rfl (by kernel_rfl) (by simp) (Nat.le_of_ble_eq_true rfl) rfl (is' := [_, _, _]) rfl Taken.no) (S' := (102, _) :: _) rfl ?_
  refine SL.val (O.assign rfl rfl Taken.no) ?_
  refine SL.nil ?_
  refine E.to ?_
  refine W.ret ?_
  refine E.thr ?_
  refine E.fin (rs := [_, _]) (rn []) (.inl rfl) rfl (.cons (ResOne.cellN (m := 3) (PtI.ref rfl rfl) (js := [_, _, _]) rfl (Nat.le_of_ble_eq_true rfl) Try.underlying33 rfl (by kernel_rfl)) (.cons (ResOne.tmp rfl) .nil)) ?_ ?_ rfl (fixL_spec rfl)
  ·skip
   have hn : s ∉ t.inn := by simp_all
   rw [(remP_gd_no hn).1, (remP_gd_no hn).2]; rfl
  · exact SubS.nil
 ·skip
  have hw : s ∈ t.inn := by simp_all
  have ho := rem_of hg s
  refine W.skip ?_
  refine E.to ?_
  refine W.seq ?_
  refine W.region ?_
  refine SL.val (O.assign rfl rfl Taken.no) ?_
  refine SL.nil ?_
  refine E.to ?_
  refine W.seq ?_
  refine W.region ?_
  refine SL.val (O.ldN (m := 3) (PtI.ref rfl rfl) (js := [_, _, _]) rfl (Nat.le_of_ble_eq_true rfl) Try.underlying33 rfl (by kernel_rfl) rfl Taken.no) ?_
  refine SL.val (O.callp rfl rfl rfl (words_h (t := t) (bd_mono hg.1 (by decide)) hg.2.1) (.cons (ArgOk.aggU (.cons (ArgOk.same rfl) (.cons (ArgOk.same rfl) (.cons (ArgOk.same rfl) .nil)))) (.cons (ArgOk.same rfl) .nil)) hcallOk49 rfl Taken.no) ?_
  refine SL.val (O.assign rfl rfl Taken.no) ?_
  refine SL.nil ?_
  refine E.to ?_
  refine W.seq ?_
  refine W.seq ?_
  refine W.region ?_
  refine SL.val (O.assign rfl rfl Taken.no) ?_
  refine SL.nil ?_
  refine E.to ?_
  refine W.block ?_
  refine W.adopt 6 104 9 1 (by decide) rfl rfl rfl ?_
  refine W.loopx1 (fun (k : Nat) => [(8, vI (k : Int)), (6, .own 103)]) (fun (k : Nat) => [(103, .data 9 1 (((t.inn.take k).filter fun x => decide (x ≠ s)).map eStr))]) (fun (k : Nat) => k ≤ t.inn.length) (fun (k : Nat) => t.inn.length - k) (0) (rn [(103, 104)]) (.cons (t := 1) rfl (.cons (t := 4) rfl (.cons (t := 5) rfl (.cons (t := 7) rfl .nil)))) (.cons (t := 101) rfl (.cons (t := 102) rfl .nil)) rfl ?_ ?_ rfl rfl ?_ ?_
  · exact (SubF.cons rfl (SubF.cons rfl SubF.nil))
  · exact (SubS.cons rfl SubS.nil)
  ·skip
   omega
  intro k hinv
  have hk := hinv
  have hfl := rm_len s (t.inn.take k)
  have htl : (t.inn.take k).length = k := by rw [List.length_take]; omega
  refine W.seq ?_
  refine W.seq ?_
  refine W.region ?_
  refine SL.val (O.move rfl rfl Taken.no) ?_
  refine SL.val (O.move rfl rfl Taken.no) ?_
  refine SL.val (O.lenE (SlOf.fz rfl (by decide)) (by first | exact List.length_map _ | rfl) Try.underlying22 rfl Taken.no) ?_
  refine SL.val (O.det (fun _ => G.R.lss rfl rfl) rfl Taken.no) ?_
  refine SL.nil ?_
  refine E.to ?_
  first | refine W.cond_d rfl (fun hc2 => ?_) (fun hc2 => ?_) | refine W.cond_nd rfl (fun hc2 => ?_) (fun hc2 => ?_) | refine W.cond rfl (fun hc2 => ?_) (fun hc2 => ?_)
  ·skip
   refine W.skip ?_
   refine E.to ?_
   refine W.seq ?_
   refine W.block ?_
   refine W.seq ?_
   refine W.region ?_
   refine SL.val (O.move rfl rfl Taken.no) ?_
   refine SL.val (O.move rfl rfl Taken.no) ?_
   refine SL.val (O.idx_fz rfl rfl (rfl) (row_get (by omega)) Try.underlying22 hi9 hs9 rfl Taken.no) ?_
   refine SL.val (O.ld1 (PtI.ofU (PtU.fz rfl)) rfl Try.underlying9 rfl rfl Taken.no) ?_
   refine SL.val (O.move rfl rfl Taken.no) ?_
   refine SL.val (O.det (fun _ => G.R.strneL rfl rfl) rfl Taken.no) ?_
   refine SL.nil ?_
   refine E.to ?_
   first | refine W.cond_d rfl (fun hc3 => ?_) (fun hc3 => ?_) | refine W.cond_nd rfl (fun hc3 => ?_) (fun hc3 => ?_) | refine W.cond rfl (fun hc3 => ?_) (fun hc3 => ?_)
   ·skip
    refine W.region ?_
    refine SL.val (O.move rfl rfl Taken.no) ?_
    refine SL.val (O.move rfl rfl Taken.no) ?_
    refine SL.val (O.move rfl rfl Taken.no) ?_
    refine SL.val (O.idx_fz rfl rfl (rfl) (row_get (by omega)) Try.underlying22 hi9 hs9 rfl Taken.no) ?_
    refine SL.val (O.ld1 (PtI.ofU (PtU.fz rfl)) rfl Try.underlying9 rfl rfl Taken.no) ?_
    refine SL.memS (O.buildSlice 105 rfl rfl Try.underlying22 hi9 hz9 hs9 (by decide) rfl (by decide) rfl rfl rfl Taken.no) rfl rfl (S' := (105, _) :: _) rfl ?_
    refine SL.memS (O.app (k' := 106) rfl rfl (SlOf.own rfl rfl) Try.underlying22 hi9 hz9 hs9 rfl rfl (by exact map_snoc (x := t.inn[k]!) rfl) (by rw [hb9]; (simp only [List.length_map, List.length_singleton]; omega)) (by (simp only [List.length_map, List.length_singleton]; omega)) rfl Taken.no) rfl rfl (S' := (106, _) :: (103, .dead) :: _) rfl ?_
    refine SL.val (O.assign rfl rfl Taken.no) ?_
    refine SL.nil ?_
    refine E.inn ?_
    refine E.to ?_
    refine W.region ?_
    refine SL.val (O.move rfl rfl Taken.no) ?_
    refine SL.val (O.det (fun _ => by first | exact G.R.add64 rfl rfl (by omega) | exact G.R.add rfl rfl) rfl Taken.no) ?_
    refine SL.val (O.assign rfl rfl Taken.no) ?_
    refine SL.nil ?_
    refine E.again ((k + 1)) (rn [(103, 106)]) ?_ ?_ rfl (fixL_spec rfl) ?_ ?_
    · exact (SubF.cons rfl (SubF.cons rfl (SubF.cons rfl (SubF.cons rfl (SubF.cons rfl (SubF.cons rfl SubF.nil))))))
    · exact (SubS.val rfl (by (try dsimp only); first | exact sb_data (by rw [rm_y (by omega) (by assumption)]) | exact sb_data (by rw [rm_n (by omega) (by first | assumption | exact Decidable.not_not.1 (by assumption))])) (SubS.cons rfl (SubS.cons rfl SubS.nil)))
    ·try dsimp only
     omega
    · (try dsimp only); omega
   ·skip
    refine W.skip ?_
    refine E.inn ?_
    refine E.to ?_
    refine W.region ?_
    refine SL.val (O.move rfl rfl Taken.no) ?_
    refine SL.val (O.det (fun _ => by first | exact G.R.add64 rfl rfl (by omega) | exact G.R.add rfl rfl) rfl Taken.no) ?_
    refine SL.val (O.assign rfl rfl Taken.no) ?_
    refine SL.nil ?_
    refine E.again ((k + 1)) (rn []) ?_ ?_ rfl (fixL_spec rfl) ?_ ?_
    · exact (SubF.cons rfl (SubF.cons rfl (SubF.cons rfl (SubF.cons rfl (SubF.cons rfl (SubF.cons rfl SubF.nil))))))
    · exact (SubS.val rfl (by (try dsimp only); first | exact sb_data (by rw [rm_y (by omega) (by assumption)]) | exact sb_data (by rw [rm_n (by omega) (by first | assumption | exact Decidable.not_not.1 (by assumption))])) (SubS.cons rfl (SubS.cons rfl SubS.nil)))
    ·try dsimp only
     omega
    · (try dsimp only); omega
  ·skip
   refine W.exit ?_
   refine E.th ?_
   refine E.th ?_
   refine E.hit ?_
   refine E.to ?_
   refine W.seq ?_
   refine W.region ?_
   refine SL.val (O.move rfl rfl Taken.no) ?_
   obtain rfl : k = t.inn.length := by omega
   rw [List.take_length]
   refine SL.freeze 103 rfl (F' := [(6, _), (38, _)]) (⟨⟨_, rfl, rfl⟩, ⟨_, rfl, rfl⟩, trivial⟩) ?_
   refine SL.memS (O.call (rn []) [] rfl rfl rfl (refOf_h (l := t.inn.filter fun x => decide (x ≠ s)) (by have := rm_len s t.inn; omega)) (.cons (ArgOk.same rfl) .nil) SubS.nil rfl rfl rfl rfl rfl (.inl rfl) hcallOk13 (r' := .tup [.agg [.u _, .u _, .u _], .u _]) rfl rfl Taken.no) rfl rfl (S' := _) rfl ?_
   refine SL.as (i' := .tup [.agg [vT (remT t s).lab, vB (remT t s).wd, vL 3 ((remT t s).kids.map eTr)], vI 0]) 39 rfl (by rw [ho.1, ho.2]) ?_
   refine SL.val (O.move rfl rfl Taken.no) ?_
   refine SL.val (O.extract rfl rfl rfl Taken.no) ?_
   refine SL.val (O.extract rfl rfl rfl Taken.no) ?_
   refine SL.memS (O.alloc (z := .agg #[.string (Go.G.bs []), .bool false, .slice none 0 0]) (is := [.u (.sc (.string (Go.G.bs []))), .u (.sc (.bool false)), .u (.sc (.slice none 0 0))]) 107 (by kernel_rfl) rfl rfl rfl Taken.no) rfl rfl (S' := (107, _) :: _) rfl ?_
   refine SL.effS (O.st_ref (m := 3) rfl rfl rfl (js := [_, _, _]) rfl rfl (by kernel_rfl) (by simp) (Nat.le_of_ble_eq_true rfl) rfl (is' := [_, _, _]) rfl Taken.no) (S' := (107, _) :: _) rfl ?_
   refine SL.val (O.assign rfl rfl Taken.no) ?_
   refine SL.nil ?_
   refine E.to ?_
   refine W.seq ?_
   refine W.region ?_
   refine SL.val (O.ldN (m := 3) (PtI.ref rfl rfl) (js := [_, _, _]) rfl (Nat.le_of_ble_eq_true rfl) Try.underlying33 rfl (by kernel_rfl) rfl Taken.no) ?_
   refine SL.effS (O.st_ref (m := 3) rfl rfl rfl (js := [_, _, _]) rfl rfl (by kernel_rfl) (by simp) (Nat.le_of_ble_eq_true rfl) rfl (is' := [_, _, _]) rfl Taken.no) (S' := (102, _) :: _) rfl ?_
   refine SL.val (O.assign rfl rfl Taken.no) ?_
   refine SL.nil ?_
   refine E.to ?_
   refine W.ret ?_
   refine E.fin (rs := [_, _]) (rn []) (.inl rfl) rfl (.cons (ResOne.cellN (m := 3) (PtI.ref rfl rfl) (js := [_, _, _]) rfl (Nat.le_of_ble_eq_true rfl) Try.underlying33 rfl (by kernel_rfl)) (.cons (ResOne.tmp rfl) .nil)) ?_ ?_ rfl (fixL_spec rfl)
   ·skip
    rw [(remP_gd hg hw).1, (remP_gd hg hw).2]; rfl
   · exact SubS.nil

end Go.Proofs.Ytfmgpocbpbfalaa
