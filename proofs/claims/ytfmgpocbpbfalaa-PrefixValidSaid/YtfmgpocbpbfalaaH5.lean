/-
  The walks.
-/
import Derived.Test.YtfmgpocbpbfalaaH4
namespace Go.Proofs.Ytfmgpocbpbfalaa
open Go Go.RowKit Go.H Go.D41

theorem hcallOk26 : G.callOk Try.prog 26 = true := by kernel_rfl
theorem hcallOk51 : G.callOk Try.prog 51 = true := by kernel_rfl
theorem hcallOk52 : G.callOk Try.prog 52 = true := by kernel_rfl
theorem hcallOk53 : G.callOk Try.prog 53 = true := by kernel_rfl

set_option maxRecDepth 8000 in
/-- bookplate/prefix.Longest. -/
theorem longest_h {t : Tr} {s : Str} (hb : bd 1000 t) (hw : t.wd = false) (hs : s.length ≤ 1000000) :
    Con Try.prog 17 [vA [uT t.lab, uB t.wd, .sl 3 (t.kids.map eTr)], vT s] [] (.tup [vT (lonO s t.inn), vB (decide (0 < lonN s t.inn))]) [] := by
 obtain ⟨i27, hi27, hz27, hs27, hb27⟩ := hinf27
 refine Con.enterL (n := 55) Try.func17 rfl rfl rfl (fun τ w ok vs hin => ?_)
 have hl0_2 := hin.lenA (i := 0) (j := 2) rfl rfl
 try rw [List.length_map] at hl0_2
 clear hin
 refine W.seq ?_
 refine W.region ?_
 refine SL.memS (O.box (is := [_, _, _]) 101 rfl rfl (by simp) rfl rfl Taken.no) rfl rfl (S' := (101, _) :: _) rfl ?_
 refine SL.val (O.assign rfl rfl Taken.no) ?_
 refine SL.val (O.assign rfl rfl Taken.no) ?_
 refine SL.nil ?_
 refine E.to ?_
 refine W.seq ?_
 refine W.region ?_
 refine SL.val (O.assign rfl rfl Taken.no) ?_
 refine SL.val (O.assign rfl rfl Taken.no) ?_
 refine SL.nil ?_
 refine E.to ?_
 refine W.seq ?_
 refine W.seq ?_
 refine W.region ?_
 refine SL.val (O.assign rfl rfl Taken.no) ?_
 refine SL.nil ?_
 refine E.to ?_
 refine W.block ?_
 refine W.loopx3 (fun (x : Tr) (a : Nat) (n : Nat) => [(8, vI (a : Int)), (6, vI (n : Int)), (7, vB (decide (0 < n)))]) (fun (x : Tr) (a : Nat) (n : Nat) => [(101, .cells 27 [.u (uT x.lab), .u (uB x.wd), .u (.sl 3 (x.kids.map eTr))])]) (fun (x : Tr) (a : Nat) (n : Nat) => bd 1000 x ∧ lonI s t.inn x a n) (fun (x : Tr) (a : Nat) (n : Nat) => s.length - a) (t) (0) (0) (rn []) (.cons (t := 1) rfl (.cons (t := 2) rfl (.cons (t := 4) rfl (.cons (t := 5) rfl .nil)))) .nil rfl ?_ ?_ rfl rfl ?_ ?_
 · exact (SubF.cons rfl (SubF.cons rfl (SubF.cons rfl SubF.nil)))
 · exact (SubS.cons rfl SubS.nil)
 ·skip
  exact ⟨hb, lonI_0 hb.1 hw⟩
 intro x a n hinv
 obtain ⟨hx, hi⟩ := hinv
 have hkl := bd_kids hx
 have hal := hi.1
 have hna : n ≤ a := by rcases hi.2.1 with q | q <;> omega
 refine W.seq ?_
 refine W.seq ?_
 refine W.region ?_
 refine SL.val (O.move rfl rfl Taken.no) ?_
 refine SL.val (O.move rfl rfl Taken.no) ?_
 refine SL.val (O.det (fun _ => G.R.lenL rfl Try.underlying9) rfl Taken.no) ?_
 refine SL.val (O.det (fun _ => G.R.lss rfl rfl) rfl Taken.no) ?_
 refine SL.nil ?_
 refine E.to ?_
 first | refine W.cond_d rfl (fun hc1 => ?_) (fun hc1 => ?_) | refine W.cond_nd rfl (fun hc1 => ?_) (fun hc1 => ?_) | refine W.cond rfl (fun hc1 => ?_) (fun hc1 => ?_)
 ·skip
  have ha : a < s.length := by omega
  refine W.skip ?_
  refine E.to ?_
  refine W.block ?_
  refine W.seq ?_
  refine W.draw [⟨[101], [], []⟩, ⟨[], [], []⟩, ⟨[], [], []⟩, ⟨[], [], []⟩, ⟨[], [], []⟩, ⟨[], [], []⟩, ⟨[], [], []⟩, ⟨[], [], []⟩, ⟨[], [], []⟩, ⟨[], [], []⟩] rfl (by kernel_rfl) (by kernel_rfl) rfl rfl ?_
  refine WH.val (O.ldN (m := 3) (PtI.ref rfl rfl) (js := [_, _, _]) rfl (Nat.le_of_ble_eq_true rfl) Try.underlying27 rfl (by kernel_rfl) rfl Taken.no) rfl rfl ?_
  refine WH.val (O.move rfl rfl Taken.no) rfl rfl ?_
  refine WH.val (O.move rfl rfl Taken.no) rfl rfl ?_
  refine WH.val (O.det (fun _ => G.R.stridxL (i := a) rfl rfl Try.underlying9 (by exact ha)) rfl Taken.no) rfl rfl ?_
  refine WH.memS (O.call (rn []) [] rfl rfl rfl (kid_h (t := x) (b := s[a]!) hx.1 (by omega)) (.cons (ArgOk.aggU (.cons (ArgOk.same rfl) (.cons (ArgOk.same rfl) (.cons (ArgOk.same rfl) .nil)))) (.cons (ArgOk.same rfl) .nil)) SubS.nil rfl rfl rfl rfl rfl (.inl rfl) hcallOk47 (r' := .tup [.u _, .u _]) rfl rfl Taken.no) rfl rfl rfl rfl rfl (S' := _) rfl ?_
  refine WH.val (O.move rfl rfl Taken.no) rfl rfl ?_
  refine WH.val (O.extract rfl rfl rfl Taken.no) rfl rfl ?_
  refine WH.val (O.extract rfl rfl rfl Taken.no) rfl rfl ?_
  refine WH.val (O.assign rfl rfl Taken.no) rfl rfl ?_
  refine WH.val (O.assign rfl rfl Taken.no) rfl rfl ?_
  refine WH.nil ?_
  refine E.to ?_
  refine W.seq ?_
  refine W.seq ?_
  refine W.draw [⟨[], [], []⟩, ⟨[], [], []⟩, ⟨[], [], []⟩, ⟨[], [], []⟩, ⟨[], [], []⟩, ⟨[], [], []⟩, ⟨[101], [], []⟩, ⟨[101], [], []⟩, ⟨[], [], []⟩, ⟨[], [], []⟩, ⟨[], [], []⟩, ⟨[], [], []⟩, ⟨[], [], []⟩, ⟨[], [], []⟩, ⟨[], [], []⟩] rfl (by kernel_rfl) (by kernel_rfl) rfl rfl ?_
  refine WH.val (O.move rfl rfl Taken.no) rfl rfl ?_
  refine WH.val (O.det (fun _ => G.R.not rfl) rfl Taken.no) rfl rfl ?_
  refine WH.val (O.move rfl rfl Taken.no) rfl rfl ?_
  refine WH.case (j := 2) (g := 25) (want := false) rfl rfl (fun hg2 => ?_) (fun hg2 => ?_)
  ·skip
   first | have hg2p := G.gA3 hg2 | have hg2p := G.gA4 hg2 | have hg2p := hg2
   have hf := nb_f (by assumption)
   have hk := kid_lab hx hf
   refine WH.val (O.move rfl rfl (Taken.yes rfl rfl hg2)) rfl rfl ?_
   refine WH.val (O.move rfl rfl (Taken.yes rfl rfl hg2)) rfl rfl ?_
   refine WH.val (O.det (fun _ => G.R.strfromL (i := a) rfl rfl Try.underlying9 (by omega)) rfl (Taken.yes rfl rfl hg2)) rfl rfl ?_
   refine WH.val (O.fld_ref (o' := 2) rfl Try.underlying27 rfl (m := 0) (by kernel_rfl) rfl rfl (Taken.yes rfl rfl hg2)) rfl rfl ?_
   refine WH.val (O.ld1 (PtI.ref rfl rfl) rfl Try.underlying25 rfl rfl (Taken.yes rfl rfl hg2)) rfl rfl ?_
   refine WH.val (O.move rfl rfl (Taken.yes rfl rfl hg2)) rfl rfl ?_
   refine WH.val (O.idx_fz (i := kpos x.kids s[a]!) rfl rfl (rfl) (row_tr (by exact hk.1)) Try.underlying25 hi27 hs27 rfl (Taken.yes rfl rfl hg2)) rfl rfl ?_
   refine WH.val (O.fld_fz rfl Try.underlying27 rfl (m := 0) (by kernel_rfl) rfl rfl (Taken.yes rfl rfl hg2)) rfl rfl ?_
   refine WH.val (O.ld1 (PtI.ofU (PtU.fz rfl)) rfl Try.underlying9 rfl rfl (Taken.yes rfl rfl hg2)) rfl rfl ?_
   refine WH.val (O.callp rfl rfl rfl (hasPrefix_h (s := s.drop a) (p := x.kids[kpos x.kids s[a]!]!.lab)) (.cons (ArgOk.same rfl) (.cons (ArgOk.same rfl) .nil)) hcallOk48 rfl (Taken.yes rfl rfl hg2)) rfl rfl ?_
   refine WH.val (O.det (fun _ => G.R.not rfl) rfl (Taken.yes rfl rfl hg2)) rfl rfl ?_
   refine WH.val (O.pick_f rfl hg2 rfl rfl Taken.no) rfl rfl ?_
   refine WH.nil ?_
   refine E.to ?_
   refine W.pick (.cons (t := 1) rfl (.cons (t := 2) rfl (.cons (t := 4) rfl (.cons (t := 5) rfl (.cons (t := 6) rfl (.cons (t := 7) rfl (.cons (t := 8) rfl (.cons (t := 9) rfl (.cons (t := 37) rfl .nil))))))))) (.cons (t := 101) rfl .nil) ?_
   first | refine W.cond_d rfl (fun hc3 => ?_) (fun hc3 => ?_) | refine W.cond_nd rfl (fun hc3 => ?_) (fun hc3 => ?_) | refine W.cond rfl (fun hc3 => ?_) (fun hc3 => ?_)
   ·skip
    refine W.exit ?_
    refine E.th ?_
    refine E.miss rfl ?_
    refine E.th ?_
    refine E.hit ?_
    refine E.to ?_
    refine W.seq ?_
    refine W.region ?_
    refine SL.val (O.move rfl rfl Taken.no) ?_
    refine SL.val (O.move rfl rfl Taken.no) ?_
    refine SL.val (O.det (fun _ => G.R.strtoL (j := n) rfl rfl Try.underlying9 (by omega)) rfl Taken.no) ?_
    refine SL.val (O.move rfl rfl Taken.no) ?_
    refine SL.val (O.assign rfl rfl Taken.no) ?_
    refine SL.val (O.assign rfl rfl Taken.no) ?_
    refine SL.nil ?_
    refine E.to ?_
    refine W.ret ?_
    refine E.fin (rs := [_, _]) (rn []) (.inl rfl) rfl (.cons (ResOne.tmp rfl) (.cons (ResOne.tmp rfl) .nil)) ?_ ?_ rfl (fixL_spec rfl)
    ·skip
     have he : n = lonN s t.inn := by first | exact lon_x1 hi (by omega) | exact lon_x2 hx.1 hi ha (nb_n (by assumption)) | exact lon_x3 hx.1 hi ha hf (by assumption)
     rw [lonO, ← he]; rfl
    · exact SubS.nil
   ·skip
    have hp : x.kids[kpos x.kids s[a]!]!.lab <+: s.drop a := by assumption
    have hpl := hp.length_le
    rw [List.length_drop] at hpl
    refine W.skip ?_
    refine E.to ?_
    refine W.seq ?_
    refine W.region ?_
    refine SL.val (O.fld_ref (o' := 2) rfl Try.underlying27 rfl (m := 0) (by kernel_rfl) rfl rfl Taken.no) ?_
    refine SL.val (O.ld1 (PtI.ref rfl rfl) rfl Try.underlying25 rfl rfl Taken.no) ?_
    refine SL.val (O.move rfl rfl Taken.no) ?_
    refine SL.val (O.idx_fz (i := kpos x.kids s[a]!) rfl rfl (rfl) (row_tr (by exact hk.1)) Try.underlying25 hi27 hs27 rfl Taken.no) ?_
    refine SL.val (O.ldU (m := 3) (PtU.fz rfl) rfl Try.underlying27 rfl (by kernel_rfl) rfl Taken.no) ?_
    refine SL.effS (O.st_ref (m := 3) rfl rfl rfl (js := [_, _, _]) rfl rfl (by kernel_rfl) (by simp) (Nat.le_of_ble_eq_true rfl) rfl (is' := [_, _, _]) rfl Taken.no) (S' := (101, _) :: _) rfl ?_
    refine SL.nil ?_
    refine E.to ?_
    refine W.seq ?_
    refine W.region ?_
    refine SL.val (O.move rfl rfl Taken.no) ?_
    refine SL.val (O.fld_ref (o' := 0) rfl Try.underlying27 rfl (m := 0) (by kernel_rfl) rfl rfl Taken.no) ?_
    refine SL.val (O.ld1 (PtI.ref rfl rfl) rfl Try.underlying9 rfl rfl Taken.no) ?_
    refine SL.val (O.det (fun _ => G.R.lenL rfl Try.underlying9) rfl Taken.no) ?_
    refine SL.val (O.det (fun _ => by first | exact G.R.add64 rfl rfl (by omega) | exact G.R.add rfl rfl) rfl Taken.no) ?_
    refine SL.val (O.assign rfl rfl Taken.no) ?_
    refine SL.nil ?_
    refine E.to ?_
    refine W.seq ?_
    refine W.region ?_
    refine SL.val (O.fld_ref (o' := 1) rfl Try.underlying27 rfl (m := 0) (by kernel_rfl) rfl rfl Taken.no) ?_
    refine SL.val (O.ld1 (PtI.ref rfl rfl) rfl Try.underlying4 rfl rfl Taken.no) ?_
    refine SL.nil ?_
    refine E.to ?_
    first | refine W.cond_d rfl (fun hc4 => ?_) (fun hc4 => ?_) | refine W.cond_nd rfl (fun hc4 => ?_) (fun hc4 => ?_) | refine W.cond rfl (fun hc4 => ?_) (fun hc4 => ?_)
    ·skip
     refine W.region ?_
     refine SL.val (O.move rfl rfl Taken.no) ?_
     refine SL.val (O.assign rfl rfl Taken.no) ?_
     refine SL.val (O.assign rfl rfl Taken.no) ?_
     refine SL.nil ?_
     refine E.inn ?_
     refine E.again ((x.kids[kpos x.kids s[a]!]!), (a + x.kids[kpos x.kids s[a]!]!.lab.length), (a + x.kids[kpos x.kids s[a]!]!.lab.length)) (rn []) ?_ ?_ rfl (fixL_spec rfl) ?_ ?_
     · exact (SubF.cons rfl (SubF.cons rfl (SubF.val rfl (by (try dsimp only); first | rfl | exact (iv_bool (decide_eq_true (by omega))).symm | exact iv_bool (decide_eq_true (by omega))) (SubF.cons rfl (SubF.cons rfl (SubF.cons rfl (SubF.cons rfl SubF.nil)))))))
     · exact (SubS.cons rfl SubS.nil)
     ·try dsimp only
      have hst := lon_step hx.1 hi ha hf hp
      rw [if_pos (by assumption)] at hst
      exact ⟨hk.2.1, hst⟩
     · (try dsimp only); omega
    ·skip
     refine W.skip ?_
     refine E.inn ?_
     refine E.again ((x.kids[kpos x.kids s[a]!]!), (a + x.kids[kpos x.kids s[a]!]!.lab.length), (n)) (rn []) ?_ ?_ rfl (fixL_spec rfl) ?_ ?_
     · exact (SubF.cons rfl (SubF.cons rfl (SubF.val rfl (by (try dsimp only); first | rfl | exact (iv_bool (decide_eq_true (by omega))).symm | exact iv_bool (decide_eq_true (by omega))) (SubF.cons rfl (SubF.cons rfl (SubF.cons rfl (SubF.cons rfl SubF.nil)))))))
     · exact (SubS.cons rfl SubS.nil)
     ·try dsimp only
      have hst := lon_step hx.1 hi ha hf hp
      rw [if_neg (Bool.eq_false_iff.1 (by assumption))] at hst
      exact ⟨hk.2.1, hst⟩
     · (try dsimp only); omega
  ·skip
   first | have hg2p := G.gA7 hg2 | have hg2p := G.gA8 hg2 | have hg2p := hg2
   refine WH.skip (OpOk.not rfl rfl rfl hg2) ?_
   refine WH.skip (OpOk.not rfl rfl rfl hg2) ?_
   refine WH.skip (OpOk.not rfl rfl rfl hg2) ?_
   refine WH.skip (OpOk.not rfl rfl rfl hg2) ?_
   refine WH.skip (OpOk.not rfl rfl rfl hg2) ?_
   refine WH.skip (OpOk.not rfl rfl rfl hg2) ?_
   refine WH.skip (OpOk.not rfl rfl rfl hg2) ?_
   refine WH.skip (OpOk.not rfl rfl rfl hg2) ?_
   refine WH.skip (OpOk.not rfl rfl rfl hg2) ?_
   refine WH.skip (OpOk.not rfl rfl rfl hg2) ?_
   refine WH.skip (OpOk.not rfl rfl rfl hg2) ?_
   refine WH.val (O.pick_t rfl (G.ne_f hg2) rfl rfl Taken.no) rfl rfl ?_
   refine WH.nil ?_
   refine E.to ?_
   refine W.pick (.cons (t := 1) rfl (.cons (t := 2) rfl (.cons (t := 4) rfl (.cons (t := 5) rfl (.cons (t := 6) rfl (.cons (t := 7) rfl (.cons (t := 8) rfl (.cons (t := 9) rfl (.cons (t := 37) rfl .nil))))))))) (.cons (t := 101) rfl .nil) ?_
   refine W.cond_t rfl ?_
   refine W.exit ?_
   refine E.th ?_
   refine E.miss rfl ?_
   refine E.th ?_
   refine E.hit ?_
   refine E.to ?_
   refine W.seq ?_
   refine W.region ?_
   refine SL.val (O.move rfl rfl Taken.no) ?_
   refine SL.val (O.move rfl rfl Taken.no) ?_
   refine SL.val (O.det (fun _ => G.R.strtoL (j := n) rfl rfl Try.underlying9 (by omega)) rfl Taken.no) ?_
   refine SL.val (O.move rfl rfl Taken.no) ?_
   refine SL.val (O.assign rfl rfl Taken.no) ?_
   refine SL.val (O.assign rfl rfl Taken.no) ?_
   refine SL.nil ?_
   refine E.to ?_
   refine W.ret ?_
   refine E.fin (rs := [_, _]) (rn []) (.inl rfl) rfl (.cons (ResOne.tmp rfl) (.cons (ResOne.tmp rfl) .nil)) ?_ ?_ rfl (fixL_spec rfl)
   ·skip
    have he : n = lonN s t.inn := by first | exact lon_x1 hi (by omega) | exact lon_x2 hx.1 hi ha (nb_n (by assumption)) | exact lon_x3 hx.1 hi ha hf (by assumption)
    rw [lonO, ← he]; rfl
   · exact SubS.nil
 ·skip
  refine W.exit ?_
  refine E.th ?_
  refine E.th ?_
  refine E.hit ?_
  refine E.to ?_
  refine W.seq ?_
  refine W.region ?_
  refine SL.val (O.move rfl rfl Taken.no) ?_
  refine SL.val (O.move rfl rfl Taken.no) ?_
  refine SL.val (O.det (fun _ => G.R.strtoL (j := n) rfl rfl Try.underlying9 (by omega)) rfl Taken.no) ?_
  refine SL.val (O.move rfl rfl Taken.no) ?_
  refine SL.val (O.assign rfl rfl Taken.no) ?_
  refine SL.val (O.assign rfl rfl Taken.no) ?_
  refine SL.nil ?_
  refine E.to ?_
  refine W.ret ?_
  refine E.fin (rs := [_, _]) (rn []) (.inl rfl) rfl (.cons (ResOne.tmp rfl) (.cons (ResOne.tmp rfl) .nil)) ?_ ?_ rfl (fixL_spec rfl)
  ·skip
   have he : n = lonN s t.inn := by first | exact lon_x1 hi (by omega) | exact lon_x2 hx.1 hi ha (nb_n (by assumption)) | exact lon_x3 hx.1 hi ha hf (by assumption)
   rw [lonO, ← he]; rfl
  · exact SubS.nil

set_option maxRecDepth 8000 in
/-- bookplate/prefix.With$1. -/
theorem with1_h {x : Str} {rows : List Str} (hl : rows.length ≤ 1000000) :
    Con Try.prog 52 [vT x, .ref 0 0] [(0, .cells 22 [.own 1]), (1, .data 9 1 (rows.map eStr))] (vB true) [(0, .cells 22 [.own 2]), (2, .data 9 1 ((rows ++ [x]).map eStr))] := by
 obtain ⟨i9, hi9, hz9, hs9, hb9⟩ := hinf9
 refine Con.enterL (n := 8) Try.func52 rfl rfl rfl (fun τ w ok vs hin => ?_)
 clear hin
 refine W.seq ?_
 refine W.region ?_
 refine SL.val (O.assign rfl rfl Taken.no) ?_
 refine SL.nil ?_
 refine E.to ?_
 refine W.seq ?_
 refine W.region ?_
 refine SL.val (O.ld1 (PtI.ref rfl rfl) rfl Try.underlying22 rfl rfl Taken.no) ?_
 refine SL.val (O.move rfl rfl Taken.no) ?_
 refine SL.memS (O.buildSlice 101 rfl rfl Try.underlying22 hi9 hz9 hs9 (by decide) rfl (by decide) rfl rfl rfl Taken.no) rfl rfl (S' := (101, _) :: _) rfl ?_
 refine SL.memS (O.app (k' := 102) rfl rfl (SlOf.own rfl rfl) Try.underlying22 hi9 hz9 hs9 rfl rfl (by exact map_snoc (x := x) rfl) (by rw [hb9]; first | omega | (simp only [List.length_map]; omega) | (simp <;> omega)) (by first | omega | (simp only [List.length_map]; omega) | (simp <;> omega)) rfl Taken.no) rfl rfl (S' := (102, _) :: (1, .dead) :: _) rfl ?_
 refine SL.effS (O.st_ref (m := 1) rfl rfl rfl (js := [_]) rfl rfl (by kernel_rfl) (by simp) (Nat.le_of_ble_eq_true rfl) rfl (is' := [_]) rfl Taken.no) (S' := (0, _) :: _) rfl ?_
 refine SL.nil ?_
 refine E.to ?_
 refine W.seq ?_
 refine W.region ?_
 refine SL.val (O.assign rfl rfl Taken.no) ?_
 refine SL.nil ?_
 refine E.to ?_
 refine W.ret ?_
 refine E.fin (rs := [_]) (rn [(2, 102)]) (.inl rfl) rfl (.cons (ResOne.tmp rfl) .nil) ?_ ?_ rfl (fixL_spec rfl)
 ·skip
  rfl
 · exact (SubS.cons rfl (SubS.cons rfl SubS.nil))

set_option maxRecDepth 8000 in
/-- bookplate/prefix.walk. -/
theorem walkW_step {t : Tr} {b : Str} {rows : List Str} (hb : bd 1000 t) (hs : short b t) (hr : rows.length + t.inn.length ≤ 100000) (ih : ∀ x ∈ t.kids, ∀ (y : Str) (rs : List Str), bd 1000 x → short y x → rs.length + x.inn.length ≤ 100000 → Con Try.prog 51 [vA [uT x.lab, uB x.wd, .sl 3 (x.kids.map eTr)], vT y, .clo (.func 52) [] [.ref 0 0]] [(0, .cells 22 [.own 1]), (1, .data 9 1 (rs.map eStr))] (vB true) [(0, .cells 22 [.own 2]), (2, .data 9 1 ((rs ++ bw x y).map eStr))]) :
    Con Try.prog 51 [vA [uT t.lab, uB t.wd, .sl 3 (t.kids.map eTr)], vT b, .clo (.func 52) [] [.ref 0 0]] [(0, .cells 22 [.own 1]), (1, .data 9 1 (rows.map eStr))] (vB true) [(0, .cells 22 [.own 2]), (2, .data 9 1 ((rows ++ bw t b).map eStr))] := by
 have hkl := bd_kids hb
 have hin := inn_len t
 obtain ⟨i27, hi27, hz27, hs27, hb27⟩ := hinf27
 refine Con.enterL (n := 33) Try.func51 rfl rfl rfl (fun τ w ok vs hin => ?_)
 have hl0_2 := hin.lenA (i := 0) (j := 2) rfl rfl
 try rw [List.length_map] at hl0_2
 clear hin
 refine W.seq ?_
 refine W.region ?_
 refine SL.memS (O.box (is := [_, _, _]) 101 rfl rfl (by simp) rfl rfl Taken.no) rfl rfl (S' := (101, _) :: _) rfl ?_
 refine SL.val (O.assign rfl rfl Taken.no) ?_
 refine SL.nil ?_
 refine E.to ?_
 refine W.seq ?_
 refine W.seq ?_
 refine W.region ?_
 refine SL.val (O.fld_ref (o' := 1) rfl Try.underlying27 rfl (m := 0) (by kernel_rfl) rfl rfl Taken.no) ?_
 refine SL.val (O.ld1 (PtI.ref rfl rfl) rfl Try.underlying4 rfl rfl Taken.no) ?_
 refine SL.val (O.move rfl rfl Taken.no) ?_
 refine SL.case (j := 2) (g := 11) (want := true) rfl rfl (fun hg1 => ?_) (fun hg1 => ?_)
 ·skip
  first | have hg1p := G.gA1 hg1 | have hg1p := G.gA2 hg1 | have hg1p := hg1
  refine SL.val (O.move rfl rfl (Taken.yes rfl rfl hg1)) ?_
  refine SL.val (O.move rfl rfl (Taken.yes rfl rfl hg1)) ?_
  refine SL.memS (O.call (rn [(0, 0), (1, 1), (2, 102)]) [] rfl rfl rfl (with1_h (x := b) (rows := rows) (by omega)) (.cons (ArgOk.same rfl) (.cons (ArgOk.same rfl) .nil)) (SubS.cons rfl (SubS.cons rfl SubS.nil)) rfl rfl rfl rfl rfl (.inl rfl) hcallOk52 (r' := .u _) rfl rfl (Taken.yes rfl rfl hg1)) rfl rfl (S' := (0, .cells _ [.own 102]) :: (102, .data _ _ _) :: (1, .dead) :: _) rfl ?_
  refine SL.as (i' := vB true) 14 rfl (by rfl) ?_
  refine SL.val (O.det (fun _ => G.R.mv (G.R.not rfl) rfl) rfl (Taken.yes rfl rfl hg1)) ?_
  refine SL.val (O.pick_t rfl hg1 rfl rfl Taken.no) ?_
  refine SL.nil ?_
  refine E.to ?_
  refine W.cond_f rfl ?_
  refine W.skip ?_
  refine E.to ?_
  refine W.seq ?_
  refine W.seq ?_
  refine W.region ?_
  refine SL.val (O.fld_ref (o' := 2) rfl Try.underlying27 rfl (m := 0) (by kernel_rfl) rfl rfl Taken.no) ?_
  refine SL.val (O.ld1 (PtI.ref rfl rfl) rfl Try.underlying25 rfl rfl Taken.no) ?_
  refine SL.val (O.lenE (SlOf.fz rfl (by decide)) (by first | exact List.length_map _ | rfl) Try.underlying25 rfl Taken.no) ?_
  refine SL.val (O.move rfl rfl Taken.no) ?_
  refine SL.nil ?_
  refine E.to ?_
  refine W.block ?_
  refine W.loopx1 (fun (k : Nat) => [(20, vI (k : Int))]) (fun (k : Nat) => [(103, .data 9 1 ((rows ++ bwK t b k).map eStr)), (0, .cells 22 [.own 103])]) (fun (k : Nat) => k ≤ t.kids.length) (fun (k : Nat) => t.kids.length - k) (0) (rn [(103, 102)]) (.cons (t := 1) rfl (.cons (t := 2) rfl (.cons (t := 18) rfl (.cons (t := 19) rfl .nil)))) (.cons (t := 101) rfl .nil) rfl ?_ ?_ rfl rfl ?_ ?_
  · exact (SubF.cons rfl SubF.nil)
  · exact (SubS.val rfl (by first | exact sb_data (by rw [bwK_0, if_pos (by assumption)]) | exact sb_data (by rw [bwK_0, if_neg (by assumption), List.append_nil])) (SubS.cons rfl SubS.nil))
  ·skip
   omega
  intro k hinv
  have hk := hinv
  have hbl : k < t.kids.length → _ := fun h => bwK_len (b := b) h
  have hsk : k < t.kids.length → _ := fun h => short_kid hb hs (at_mem h)
  refine W.seq ?_
  refine W.region ?_
  refine SL.val (O.det (fun _ => G.R.lss rfl rfl) rfl Taken.no) ?_
  refine SL.nil ?_
  refine E.to ?_
  refine W.seq ?_
  first | refine W.cond_d rfl (fun hc2 => ?_) (fun hc2 => ?_) | refine W.cond_nd rfl (fun hc2 => ?_) (fun hc2 => ?_) | refine W.cond rfl (fun hc2 => ?_) (fun hc2 => ?_)
  ·skip
   have hk2 : k < t.kids.length := by omega
   have hbl2 := hbl hk2
   have hsk2 := hsk hk2
   refine W.skip ?_
   refine E.to ?_
   refine W.seq ?_
   refine W.block ?_
   refine W.seq ?_
   refine W.region ?_
   refine SL.val (O.idx_fz rfl rfl (rfl) (row_tr (by omega)) Try.underlying25 hi27 hs27 rfl Taken.no) ?_
   refine SL.val (O.ldU (m := 3) (PtU.fz rfl) rfl Try.underlying27 rfl (by kernel_rfl) rfl Taken.no) ?_
   refine SL.memS (O.alloc (z := .agg #[.string (Go.G.bs []), .bool false, .slice none 0 0]) (is := [.u (.sc (.string (Go.G.bs []))), .u (.sc (.bool false)), .u (.sc (.slice none 0 0))]) 104 (by kernel_rfl) rfl rfl rfl Taken.no) rfl rfl (S' := (104, _) :: _) rfl ?_
   refine SL.effS (O.st_ref (m := 3) rfl rfl rfl (js := [_, _, _]) rfl rfl (by kernel_rfl) (by simp) (Nat.le_of_ble_eq_true rfl) rfl (is' := [_, _, _]) rfl Taken.no) (S' := (104, _) :: _) rfl ?_
   refine SL.nil ?_
   refine E.to ?_
   refine W.seq ?_
   refine W.region ?_
   refine SL.val (O.ldN (m := 3) (PtI.ref rfl rfl) (js := [_, _, _]) rfl (Nat.le_of_ble_eq_true rfl) Try.underlying27 rfl (by kernel_rfl) rfl Taken.no) ?_
   refine SL.val (O.move rfl rfl Taken.no) ?_
   refine SL.val (O.fld_ref (o' := 0) rfl Try.underlying27 rfl (m := 0) (by kernel_rfl) rfl rfl Taken.no) ?_
   refine SL.val (O.ld1 (PtI.ref rfl rfl) rfl Try.underlying9 rfl rfl Taken.no) ?_
   refine SL.val (O.det (fun _ => G.R.strcatL rfl rfl (by have := hsk2.2; omega)) rfl Taken.no) ?_
   refine SL.val (O.move rfl rfl Taken.no) ?_
   refine SL.memS (O.call (rn [(0, 0), (1, 103), (2, 105)]) [] rfl rfl rfl (ih t.kids[k]! (at_mem hk2) (b ++ t.kids[k]!.lab) (rows ++ bwK t b k) (bd_kid hb (at_mem hk2)).1 hsk2.1 (by rw [List.length_append]; omega)) (.cons (ArgOk.aggU (.cons (ArgOk.same rfl) (.cons (ArgOk.same rfl) (.cons (ArgOk.same rfl) .nil)))) (.cons (ArgOk.same rfl) (.cons (ArgOk.same rfl) .nil))) (SubS.cons rfl (SubS.cons rfl SubS.nil)) rfl rfl rfl rfl rfl (.inl rfl) hcallOk51 (r' := .u _) rfl rfl Taken.no) rfl rfl (S' := (0, .cells _ [.own 105]) :: (105, .data _ _ _) :: (103, .dead) :: _) rfl ?_
   refine SL.as (i' := vB true) 30 rfl (by rfl) ?_
   refine SL.val (O.det (fun _ => G.R.mv (G.R.not rfl) rfl) rfl Taken.no) ?_
   refine SL.nil ?_
   refine E.to ?_
   refine W.cond_f rfl ?_
   refine W.skip ?_
   refine E.inn ?_
   refine E.to ?_
   refine W.region ?_
   refine SL.val (O.det (fun _ => by first | exact G.R.add64 rfl rfl (by omega) | exact G.R.add rfl rfl) rfl Taken.no) ?_
   refine SL.val (O.move rfl rfl Taken.no) ?_
   refine SL.nil ?_
   refine E.again ((k + 1)) (rn [(103, 105)]) ?_ ?_ rfl (fixL_spec rfl) ?_ ?_
   · exact (SubF.cons rfl (SubF.cons rfl (SubF.cons rfl (SubF.cons rfl (SubF.cons rfl SubF.nil)))))
   · exact (SubS.val rfl (by (try dsimp only); exact sb_data (by rw [bwK_step (by omega), List.append_assoc])) (SubS.cons rfl (SubS.cons rfl SubS.nil)))
   ·try dsimp only
    omega
   · (try dsimp only); omega
  ·skip
   refine W.exit ?_
   refine E.th ?_
   refine E.th ?_
   refine E.hit ?_
   refine E.to ?_
   refine W.seq ?_
   refine W.region ?_
   refine SL.val (O.assign rfl rfl Taken.no) ?_
   refine SL.nil ?_
   refine E.to ?_
   refine W.ret ?_
   refine E.fin (rs := [_]) (rn [(2, 103)]) (.inl rfl) rfl (.cons (ResOne.tmp rfl) .nil) ?_ ?_ rfl (fixL_spec rfl)
   ·skip
    rfl
   · exact (SubS.cons rfl (SubS.val rfl (by exact sb_data (by rw [bwK_all t b (by omega)])) SubS.nil))
 ·skip
  first | have hg1p := G.gA5 hg1 | have hg1p := G.gA6 hg1 | have hg1p := hg1
  refine SL.skip (OpOk.not rfl rfl rfl hg1) ?_
  refine SL.skip (OpOk.not rfl rfl rfl hg1) ?_
  refine SL.skip (OpOk.not rfl rfl rfl hg1) ?_
  refine SL.skip (OpOk.not rfl rfl rfl hg1) ?_
  refine SL.val (O.pick_f rfl (G.ne_t hg1) rfl rfl Taken.no) ?_
  refine SL.nil ?_
  refine E.to ?_
  refine W.cond_f rfl ?_
  refine W.skip ?_
  refine E.to ?_
  refine W.seq ?_
  refine W.seq ?_
  refine W.region ?_
  refine SL.val (O.fld_ref (o' := 2) rfl Try.underlying27 rfl (m := 0) (by kernel_rfl) rfl rfl Taken.no) ?_
  refine SL.val (O.ld1 (PtI.ref rfl rfl) rfl Try.underlying25 rfl rfl Taken.no) ?_
  refine SL.val (O.lenE (SlOf.fz rfl (by decide)) (by first | exact List.length_map _ | rfl) Try.underlying25 rfl Taken.no) ?_
  refine SL.val (O.move rfl rfl Taken.no) ?_
  refine SL.nil ?_
  refine E.to ?_
  refine W.block ?_
  refine W.loopx1 (fun (k : Nat) => [(20, vI (k : Int))]) (fun (k : Nat) => [(106, .data 9 1 ((rows ++ bwK t b k).map eStr)), (0, .cells 22 [.own 106])]) (fun (k : Nat) => k ≤ t.kids.length) (fun (k : Nat) => t.kids.length - k) (0) (rn [(106, 1)]) (.cons (t := 1) rfl (.cons (t := 2) rfl (.cons (t := 18) rfl (.cons (t := 19) rfl .nil)))) (.cons (t := 101) rfl .nil) rfl ?_ ?_ rfl rfl ?_ ?_
  · exact (SubF.cons rfl SubF.nil)
  · exact (SubS.val rfl (by first | exact sb_data (by rw [bwK_0, if_pos (by assumption)]) | exact sb_data (by rw [bwK_0, if_neg (by assumption), List.append_nil])) (SubS.cons rfl SubS.nil))
  ·skip
   omega
  intro k hinv
  have hk := hinv
  have hbl : k < t.kids.length → _ := fun h => bwK_len (b := b) h
  have hsk : k < t.kids.length → _ := fun h => short_kid hb hs (at_mem h)
  refine W.seq ?_
  refine W.region ?_
  refine SL.val (O.det (fun _ => G.R.lss rfl rfl) rfl Taken.no) ?_
  refine SL.nil ?_
  refine E.to ?_
  refine W.seq ?_
  first | refine W.cond_d rfl (fun hc3 => ?_) (fun hc3 => ?_) | refine W.cond_nd rfl (fun hc3 => ?_) (fun hc3 => ?_) | refine W.cond rfl (fun hc3 => ?_) (fun hc3 => ?_)
  ·skip
   have hk2 : k < t.kids.length := by omega
   have hbl2 := hbl hk2
   have hsk2 := hsk hk2
   refine W.skip ?_
   refine E.to ?_
   refine W.seq ?_
   refine W.block ?_
   refine W.seq ?_
   refine W.region ?_
   refine SL.val (O.idx_fz rfl rfl (rfl) (row_tr (by omega)) Try.underlying25 hi27 hs27 rfl Taken.no) ?_
   refine SL.val (O.ldU (m := 3) (PtU.fz rfl) rfl Try.underlying27 rfl (by kernel_rfl) rfl Taken.no) ?_
   refine SL.memS (O.alloc (z := .agg #[.string (Go.G.bs []), .bool false, .slice none 0 0]) (is := [.u (.sc (.string (Go.G.bs []))), .u (.sc (.bool false)), .u (.sc (.slice none 0 0))]) 107 (by kernel_rfl) rfl rfl rfl Taken.no) rfl rfl (S' := (107, _) :: _) rfl ?_
   refine SL.effS (O.st_ref (m := 3) rfl rfl rfl (js := [_, _, _]) rfl rfl (by kernel_rfl) (by simp) (Nat.le_of_ble_eq_true rfl) rfl (is' := [_, _, _]) rfl Taken.no) (S' := (107, _) :: _) rfl ?_
   refine SL.nil ?_
   refine E.to ?_
   refine W.seq ?_
   refine W.region ?_
   refine SL.val (O.ldN (m := 3) (PtI.ref rfl rfl) (js := [_, _, _]) rfl (Nat.le_of_ble_eq_true rfl) Try.underlying27 rfl (by kernel_rfl) rfl Taken.no) ?_
   refine SL.val (O.move rfl rfl Taken.no) ?_
   refine SL.val (O.fld_ref (o' := 0) rfl Try.underlying27 rfl (m := 0) (by kernel_rfl) rfl rfl Taken.no) ?_
   refine SL.val (O.ld1 (PtI.ref rfl rfl) rfl Try.underlying9 rfl rfl Taken.no) ?_
   refine SL.val (O.det (fun _ => G.R.strcatL rfl rfl (by have := hsk2.2; omega)) rfl Taken.no) ?_
   refine SL.val (O.move rfl rfl Taken.no) ?_
   refine SL.memS (O.call (rn [(0, 0), (1, 106), (2, 108)]) [] rfl rfl rfl (ih t.kids[k]! (at_mem hk2) (b ++ t.kids[k]!.lab) (rows ++ bwK t b k) (bd_kid hb (at_mem hk2)).1 hsk2.1 (by rw [List.length_append]; omega)) (.cons (ArgOk.aggU (.cons (ArgOk.same rfl) (.cons (ArgOk.same rfl) (.cons (ArgOk.same rfl) .nil)))) (.cons (ArgOk.same rfl) (.cons (ArgOk.same rfl) .nil))) (SubS.cons rfl (SubS.cons rfl SubS.nil)) rfl rfl rfl rfl rfl (.inl rfl) hcallOk51 (r' := .u _) rfl rfl Taken.no) rfl rfl (S' := (0, .cells _ [.own 108]) :: (108, .data _ _ _) :: (106, .dead) :: _) rfl ?_
   refine SL.as (i' := vB true) 30 rfl (by rfl) ?_
   refine SL.val (O.det (fun _ => G.R.mv (G.R.not rfl) rfl) rfl Taken.no) ?_
   refine SL.nil ?_
   refine E.to ?_
   refine W.cond_f rfl ?_
   refine W.skip ?_
   refine E.inn ?_
   refine E.to ?_
   refine W.region ?_
   refine SL.val (O.det (fun _ => by first | exact G.R.add64 rfl rfl (by omega) | exact G.R.add rfl rfl) rfl Taken.no) ?_
   refine SL.val (O.move rfl rfl Taken.no) ?_
   refine SL.nil ?_
   refine E.again ((k + 1)) (rn [(106, 108)]) ?_ ?_ rfl (fixL_spec rfl) ?_ ?_
   · exact (SubF.cons rfl (SubF.cons rfl (SubF.cons rfl (SubF.cons rfl (SubF.cons rfl SubF.nil)))))
   · exact (SubS.val rfl (by (try dsimp only); exact sb_data (by rw [bwK_step (by omega), List.append_assoc])) (SubS.cons rfl (SubS.cons rfl SubS.nil)))
   ·try dsimp only
    omega
   · (try dsimp only); omega
  ·skip
   refine W.exit ?_
   refine E.th ?_
   refine E.th ?_
   refine E.hit ?_
   refine E.to ?_
   refine W.seq ?_
   refine W.region ?_
   refine SL.val (O.assign rfl rfl Taken.no) ?_
   refine SL.nil ?_
   refine E.to ?_
   refine W.ret ?_
   refine E.fin (rs := [_]) (rn [(2, 106)]) (.inl rfl) rfl (.cons (ResOne.tmp rfl) .nil) ?_ ?_ rfl (fixL_spec rfl)
   ·skip
    rfl
   · exact (SubS.cons rfl (SubS.val rfl (by exact sb_data (by rw [bwK_all t b (by omega)])) SubS.nil))

theorem walkW_h (t : Tr) : ∀ (b : Str) (rows : List Str), bd 1000 t → short b t → rows.length + t.inn.length ≤ 100000 → Con Try.prog 51 [vA [uT t.lab, uB t.wd, .sl 3 (t.kids.map eTr)], vT b, .clo (.func 52) [] [.ref 0 0]] [(0, .cells 22 [.own 1]), (1, .data 9 1 (rows.map eStr))] (vB true) [(0, .cells 22 [.own 2]), (2, .data 9 1 ((rows ++ bw t b).map eStr))] :=
  Tr.ind (p := fun t => ∀ (b : Str) (rows : List Str), bd 1000 t → short b t → rows.length + t.inn.length ≤ 100000 → Con Try.prog 51 [vA [uT t.lab, uB t.wd, .sl 3 (t.kids.map eTr)], vT b, .clo (.func 52) [] [.ref 0 0]] [(0, .cells 22 [.own 1]), (1, .data 9 1 (rows.map eStr))] (vB true) [(0, .cells 22 [.own 2]), (2, .data 9 1 ((rows ++ bw t b).map eStr))]) (fun _ ih _ _ hb hs hr => walkW_step hb hs hr ih) t

set_option maxRecDepth 8000 in
/-- bookplate/prefix.With. -/
theorem With_h {t : Tr} {p : Str} (hb : bd 1000 t) (hpl : p.length ≤ 1000000) :
    Con Try.prog 26 [vA [uT t.lab, uB t.wd, .sl 3 (t.kids.map eTr)], vT p] [] (vL 1 ((wthL p t.inn).map eStr)) [] := by
 obtain ⟨i27, hi27, hz27, hs27, hb27⟩ := hinf27
 refine Con.enterL (n := 64) Try.func26 rfl rfl rfl (fun τ w ok vs hin => ?_)
 have hl0_2 := hin.lenA (i := 0) (j := 2) rfl rfl
 try rw [List.length_map] at hl0_2
 clear hin
 refine W.seq ?_
 refine W.region ?_
 refine SL.memS (O.box (is := [_, _, _]) 101 rfl rfl (by simp) rfl rfl Taken.no) rfl rfl (S' := (101, _) :: _) rfl ?_
 refine SL.val (O.assign rfl rfl Taken.no) ?_
 refine SL.nil ?_
 refine E.to ?_
 refine W.seq ?_
 refine W.region ?_
 refine SL.memS (O.alloc (z := .slice none 0 0) (is := [.u (.sc (.slice none 0 0))]) 102 (by kernel_rfl) rfl rfl rfl Taken.no) rfl rfl (S' := (102, _) :: _) rfl ?_
 refine SL.nil ?_
 refine E.to ?_
 refine W.seq ?_
 refine W.region ?_
 refine SL.val (O.assign rfl rfl Taken.no) ?_
 refine SL.nil ?_
 refine E.to ?_
 refine W.seq ?_
 refine W.block ?_
 refine W.loopx2 (fun (x : Tr) (b : Str) => [(6, vT b)]) (fun (x : Tr) (b : Str) => [(101, .cells 27 [.u (uT x.lab), .u (uB x.wd), .u (.sl 3 (x.kids.map eTr))])]) (fun (x : Tr) (b : Str) => bd 1000 x ∧ wthI p t.inn x b ∧ short b x) (fun (x : Tr) (b : Str) => p.length - b.length) (t) ([]) (rn []) (.cons (t := 1) rfl (.cons (t := 2) rfl (.cons (t := 5) rfl .nil))) (.cons (t := 102) rfl .nil) rfl ?_ ?_ rfl rfl ?_ ?_
 · exact (SubF.cons rfl SubF.nil)
 · exact (SubS.cons rfl SubS.nil)
 ·skip
  exact ⟨hb, wthI_0 p t, short_0 hb⟩
 intro x b hinv
 obtain ⟨hx, hi, hsh⟩ := hinv
 have hkl := bd_kids hx
 have hshl := hsh.1
 refine W.seq ?_
 refine W.seq ?_
 refine W.region ?_
 refine SL.val (O.move rfl rfl Taken.no) ?_
 refine SL.val (O.det (fun _ => G.R.lenL rfl Try.underlying9) rfl Taken.no) ?_
 refine SL.val (O.move rfl rfl Taken.no) ?_
 refine SL.val (O.det (fun _ => G.R.lenL rfl Try.underlying9) rfl Taken.no) ?_
 refine SL.val (O.det (fun _ => G.R.lss rfl rfl) rfl Taken.no) ?_
 refine SL.nil ?_
 refine E.to ?_
 first | refine W.cond_d rfl (fun hc1 => ?_) (fun hc1 => ?_) | refine W.cond_nd rfl (fun hc1 => ?_) (fun hc1 => ?_) | refine W.cond rfl (fun hc1 => ?_) (fun hc1 => ?_)
 ·skip
  have hl : b.length < p.length := by omega
  have hy := drop_ne hl
  refine W.skip ?_
  refine E.to ?_
  refine W.block ?_
  refine W.seq ?_
  refine W.region ?_
  refine SL.val (O.move rfl rfl Taken.no) ?_
  refine SL.val (O.move rfl rfl Taken.no) ?_
  refine SL.val (O.det (fun _ => G.R.lenL rfl Try.underlying9) rfl Taken.no) ?_
  refine SL.val (O.det (fun _ => G.R.strfromL (i := b.length) rfl rfl Try.underlying9 (by omega)) rfl Taken.no) ?_
  refine SL.val (O.assign rfl rfl Taken.no) ?_
  refine SL.nil ?_
  refine E.to ?_
  refine W.seq ?_
  refine W.draw [⟨[101], [], []⟩, ⟨[], [], []⟩, ⟨[], [], []⟩, ⟨[], [], []⟩, ⟨[], [], []⟩, ⟨[], [], []⟩, ⟨[], [], []⟩, ⟨[], [], []⟩, ⟨[], [], []⟩] rfl (by kernel_rfl) (by kernel_rfl) rfl rfl ?_
  refine WH.val (O.ldN (m := 3) (PtI.ref rfl rfl) (js := [_, _, _]) rfl (Nat.le_of_ble_eq_true rfl) Try.underlying27 rfl (by kernel_rfl) rfl Taken.no) rfl rfl ?_
  refine WH.val (O.move rfl rfl Taken.no) rfl rfl ?_
  refine WH.val (O.det (fun _ => G.R.stridxL (i := 0) rfl rfl Try.underlying9 (by exact ne_pos hy)) rfl Taken.no) rfl rfl ?_
  refine WH.memS (O.call (rn []) [] rfl rfl rfl (kid_h (t := x) (b := (p.drop b.length)[0]!) hx.1 (by omega)) (.cons (ArgOk.aggU (.cons (ArgOk.same rfl) (.cons (ArgOk.same rfl) (.cons (ArgOk.same rfl) .nil)))) (.cons (ArgOk.same rfl) .nil)) SubS.nil rfl rfl rfl rfl rfl (.inl rfl) hcallOk47 (r' := .tup [.u _, .u _]) rfl rfl Taken.no) rfl rfl rfl rfl rfl (S' := _) rfl ?_
  refine WH.val (O.move rfl rfl Taken.no) rfl rfl ?_
  refine WH.val (O.extract rfl rfl rfl Taken.no) rfl rfl ?_
  refine WH.val (O.extract rfl rfl rfl Taken.no) rfl rfl ?_
  refine WH.val (O.assign rfl rfl Taken.no) rfl rfl ?_
  refine WH.val (O.assign rfl rfl Taken.no) rfl rfl ?_
  refine WH.nil ?_
  refine E.to ?_
  refine W.seq ?_
  refine W.seq ?_
  refine W.draw [⟨[], [], []⟩, ⟨[], [], []⟩, ⟨[], [], []⟩, ⟨[], [], []⟩, ⟨[101], [], []⟩, ⟨[101], [], []⟩, ⟨[], [], []⟩, ⟨[], [], []⟩, ⟨[], [], []⟩, ⟨[], [], []⟩, ⟨[], [], []⟩, ⟨[], [], []⟩, ⟨[], [], []⟩, ⟨[101], [], []⟩, ⟨[101], [], []⟩, ⟨[], [], []⟩, ⟨[], [], []⟩, ⟨[], [], []⟩, ⟨[], [], []⟩, ⟨[], [], []⟩, ⟨[], [], []⟩, ⟨[], [], []⟩, ⟨[], [], []⟩] rfl (by kernel_rfl) (by kernel_rfl) rfl rfl ?_
  refine WH.val (O.move rfl rfl Taken.no) rfl rfl ?_
  refine WH.val (O.det (fun _ => G.R.not rfl) rfl Taken.no) rfl rfl ?_
  refine WH.val (O.move rfl rfl Taken.no) rfl rfl ?_
  refine WH.case (j := 2) (g := 28) (want := false) rfl rfl (fun hg2 => ?_) (fun hg2 => ?_)
  ·skip
   first | have hg2p := G.gA3 hg2 | have hg2p := G.gA4 hg2 | have hg2p := hg2
   have hf := nb_f (by assumption)
   have hk := kid_lab hx hf
   have hsk := short_kid hx hsh (at_mem hk.1)
   refine WH.val (O.move rfl rfl (Taken.yes rfl rfl hg2)) rfl rfl ?_
   refine WH.val (O.fld_ref (o' := 2) rfl Try.underlying27 rfl (m := 0) (by kernel_rfl) rfl rfl (Taken.yes rfl rfl hg2)) rfl rfl ?_
   refine WH.val (O.ld1 (PtI.ref rfl rfl) rfl Try.underlying25 rfl rfl (Taken.yes rfl rfl hg2)) rfl rfl ?_
   refine WH.val (O.move rfl rfl (Taken.yes rfl rfl hg2)) rfl rfl ?_
   refine WH.val (O.idx_fz (i := kpos x.kids (p.drop b.length)[0]!) rfl rfl (rfl) (row_tr (by exact hk.1)) Try.underlying25 hi27 hs27 rfl (Taken.yes rfl rfl hg2)) rfl rfl ?_
   refine WH.val (O.fld_fz rfl Try.underlying27 rfl (m := 0) (by kernel_rfl) rfl rfl (Taken.yes rfl rfl hg2)) rfl rfl ?_
   refine WH.val (O.ld1 (PtI.ofU (PtU.fz rfl)) rfl Try.underlying9 rfl rfl (Taken.yes rfl rfl hg2)) rfl rfl ?_
   refine WH.val (O.callp rfl rfl rfl (common_h (a := (p.drop b.length)) (b := x.kids[kpos x.kids (p.drop b.length)[0]!]!.lab) (by rw [List.length_drop]; omega)) (.cons (ArgOk.same rfl) (.cons (ArgOk.same rfl) .nil)) hcallOk50 rfl (Taken.yes rfl rfl hg2)) rfl rfl ?_
   refine WH.val (O.move rfl rfl (Taken.yes rfl rfl hg2)) rfl rfl ?_
   refine WH.val (O.det (fun _ => G.R.lenL rfl Try.underlying9) rfl (Taken.yes rfl rfl hg2)) rfl rfl ?_
   refine WH.val (O.fld_ref (o' := 2) rfl Try.underlying27 rfl (m := 0) (by kernel_rfl) rfl rfl (Taken.yes rfl rfl hg2)) rfl rfl ?_
   refine WH.val (O.ld1 (PtI.ref rfl rfl) rfl Try.underlying25 rfl rfl (Taken.yes rfl rfl hg2)) rfl rfl ?_
   refine WH.val (O.move rfl rfl (Taken.yes rfl rfl hg2)) rfl rfl ?_
   refine WH.val (O.idx_fz (i := kpos x.kids (p.drop b.length)[0]!) rfl rfl (rfl) (row_tr (by exact hk.1)) Try.underlying25 hi27 hs27 rfl (Taken.yes rfl rfl hg2)) rfl rfl ?_
   refine WH.val (O.fld_fz rfl Try.underlying27 rfl (m := 0) (by kernel_rfl) rfl rfl (Taken.yes rfl rfl hg2)) rfl rfl ?_
   refine WH.val (O.ld1 (PtI.ofU (PtU.fz rfl)) rfl Try.underlying9 rfl rfl (Taken.yes rfl rfl hg2)) rfl rfl ?_
   refine WH.val (O.det (fun _ => G.R.lenL rfl Try.underlying9) rfl (Taken.yes rfl rfl hg2)) rfl rfl ?_
   refine WH.val (O.det (fun _ => G.R.mv (G.R.min2 rfl rfl) (congrArg (Value.int .i64) (show _ = ((min (p.drop b.length).length x.kids[kpos x.kids (p.drop b.length)[0]!]!.lab.length : Nat) : Int) by split <;> omega))) rfl (Taken.yes rfl rfl hg2)) rfl rfl ?_
   refine WH.val (O.det (fun _ => G.R.lss rfl rfl) rfl (Taken.yes rfl rfl hg2)) rfl rfl ?_
   refine WH.val (O.pick_f rfl hg2 rfl rfl Taken.no) rfl rfl ?_
   refine WH.nil ?_
   refine E.to ?_
   refine W.pick (.cons (t := 1) rfl (.cons (t := 2) rfl (.cons (t := 5) rfl (.cons (t := 6) rfl (.cons (t := 8) rfl (.cons (t := 48) rfl .nil)))))) (.cons (t := 101) rfl (.cons (t := 102) rfl .nil)) ?_
   first | refine W.cond_d rfl (fun hc3 => ?_) (fun hc3 => ?_) | refine W.cond_nd rfl (fun hc3 => ?_) (fun hc3 => ?_) | refine W.cond rfl (fun hc3 => ?_) (fun hc3 => ?_)
   ·skip
    refine W.seq ?_
    refine W.region ?_
    refine SL.val (O.ld1 (PtI.ref rfl rfl) rfl Try.underlying22 rfl rfl Taken.no) ?_
    refine SL.val (O.assign rfl rfl Taken.no) ?_
    refine SL.nil ?_
    refine E.to ?_
    refine W.ret ?_
    refine E.thr ?_
    refine E.inr ?_
    refine E.thr ?_
    refine E.inr ?_
    refine E.thr ?_
    refine E.nilsl 4 1 rfl ?_
    refine E.fin (rs := [_]) (rn []) (.inl rfl) rfl (.cons (ResOne.tmp rfl) .nil) ?_ ?_ rfl (fixL_spec rfl)
    ·skip
     have he : wthL p t.inn = [] := by first | exact wthB_none hx.1 hi hl (nb_n (by assumption)) | exact wthB_diff hx.1 hi hl hf (by omega)
     rw [he]; rfl
    · exact SubS.nil
   ·skip
    have hc : ¬ comm (p.drop b.length) x.kids[kpos x.kids (p.drop b.length)[0]!]!.lab < min (p.drop b.length).length x.kids[kpos x.kids (p.drop b.length)[0]!]!.lab.length := by omega
    refine W.skip ?_
    refine E.to ?_
    refine W.seq ?_
    refine W.region ?_
    refine SL.val (O.fld_ref (o' := 2) rfl Try.underlying27 rfl (m := 0) (by kernel_rfl) rfl rfl Taken.no) ?_
    refine SL.val (O.ld1 (PtI.ref rfl rfl) rfl Try.underlying25 rfl rfl Taken.no) ?_
    refine SL.val (O.move rfl rfl Taken.no) ?_
    refine SL.val (O.idx_fz (i := kpos x.kids (p.drop b.length)[0]!) rfl rfl (rfl) (row_tr (by exact hk.1)) Try.underlying25 hi27 hs27 rfl Taken.no) ?_
    refine SL.val (O.ldU (m := 3) (PtU.fz rfl) rfl Try.underlying27 rfl (by kernel_rfl) rfl Taken.no) ?_
    refine SL.effS (O.st_ref (m := 3) rfl rfl rfl (js := [_, _, _]) rfl rfl (by kernel_rfl) (by simp) (Nat.le_of_ble_eq_true rfl) rfl (is' := [_, _, _]) rfl Taken.no) (S' := (101, _) :: _) rfl ?_
    refine SL.nil ?_
    refine E.to ?_
    refine W.region ?_
    refine SL.val (O.move rfl rfl Taken.no) ?_
    refine SL.val (O.fld_ref (o' := 0) rfl Try.underlying27 rfl (m := 0) (by kernel_rfl) rfl rfl Taken.no) ?_
    refine SL.val (O.ld1 (PtI.ref rfl rfl) rfl Try.underlying9 rfl rfl Taken.no) ?_
    refine SL.val (O.det (fun _ => G.R.strcatL rfl rfl (by have := hsk.2; omega)) rfl Taken.no) ?_
    refine SL.val (O.assign rfl rfl Taken.no) ?_
    refine SL.nil ?_
    refine E.inn ?_
    refine E.again ((x.kids[kpos x.kids (p.drop b.length)[0]!]!), (b ++ x.kids[kpos x.kids (p.drop b.length)[0]!]!.lab)) (rn []) ?_ ?_ rfl (fixL_spec rfl) ?_ ?_
    · exact (SubF.cons rfl (SubF.cons rfl (SubF.cons rfl (SubF.cons rfl SubF.nil))))
    · exact (SubS.cons rfl (SubS.cons rfl SubS.nil))
    ·try dsimp only
     exact ⟨hk.2.1, wthB_step hx.1 hi hl hf hc, hsk.1⟩
    · (try dsimp only); (rw [List.length_append]; omega)
  ·skip
   first | have hg2p := G.gA7 hg2 | have hg2p := G.gA8 hg2 | have hg2p := hg2
   refine WH.skip (OpOk.not rfl rfl rfl hg2) ?_
   refine WH.skip (OpOk.not rfl rfl rfl hg2) ?_
   refine WH.skip (OpOk.not rfl rfl rfl hg2) ?_
   refine WH.skip (OpOk.not rfl rfl rfl hg2) ?_
   refine WH.skip (OpOk.not rfl rfl rfl hg2) ?_
   refine WH.skip (OpOk.not rfl rfl rfl hg2) ?_
   refine WH.skip (OpOk.not rfl rfl rfl hg2) ?_
   refine WH.skip (OpOk.not rfl rfl rfl hg2) ?_
   refine WH.skip (OpOk.not rfl rfl rfl hg2) ?_
   refine WH.skip (OpOk.not rfl rfl rfl hg2) ?_
   refine WH.skip (OpOk.not rfl rfl rfl hg2) ?_
   refine WH.skip (OpOk.not rfl rfl rfl hg2) ?_
   refine WH.skip (OpOk.not rfl rfl rfl hg2) ?_
   refine WH.skip (OpOk.not rfl rfl rfl hg2) ?_
   refine WH.skip (OpOk.not rfl rfl rfl hg2) ?_
   refine WH.skip (OpOk.not rfl rfl rfl hg2) ?_
   refine WH.skip (OpOk.not rfl rfl rfl hg2) ?_
   refine WH.skip (OpOk.not rfl rfl rfl hg2) ?_
   refine WH.skip (OpOk.not rfl rfl rfl hg2) ?_
   refine WH.val (O.pick_t rfl (G.ne_f hg2) rfl rfl Taken.no) rfl rfl ?_
   refine WH.nil ?_
   refine E.to ?_
   refine W.pick (.cons (t := 1) rfl (.cons (t := 2) rfl (.cons (t := 5) rfl (.cons (t := 6) rfl (.cons (t := 8) rfl (.cons (t := 48) rfl .nil)))))) (.cons (t := 101) rfl (.cons (t := 102) rfl .nil)) ?_
   refine W.cond_t rfl ?_
   refine W.seq ?_
   refine W.region ?_
   refine SL.val (O.ld1 (PtI.ref rfl rfl) rfl Try.underlying22 rfl rfl Taken.no) ?_
   refine SL.val (O.assign rfl rfl Taken.no) ?_
   refine SL.nil ?_
   refine E.to ?_
   refine W.ret ?_
   refine E.thr ?_
   refine E.inr ?_
   refine E.thr ?_
   refine E.inr ?_
   refine E.thr ?_
   refine E.nilsl 4 1 rfl ?_
   refine E.fin (rs := [_]) (rn []) (.inl rfl) rfl (.cons (ResOne.tmp rfl) .nil) ?_ ?_ rfl (fixL_spec rfl)
   ·skip
    have he : wthL p t.inn = [] := by first | exact wthB_none hx.1 hi hl (nb_n (by assumption)) | exact wthB_diff hx.1 hi hl hf (by omega)
    rw [he]; rfl
   · exact SubS.nil
 ·skip
  refine W.exit ?_
  refine E.th ?_
  refine E.th ?_
  refine E.hit ?_
  refine E.to ?_
  refine W.seq ?_
  refine W.region ?_
  refine SL.val (O.ldN (m := 3) (PtI.ref rfl rfl) (js := [_, _, _]) rfl (Nat.le_of_ble_eq_true rfl) Try.underlying27 rfl (by kernel_rfl) rfl Taken.no) ?_
  refine SL.val (O.move rfl rfl Taken.no) ?_
  refine SL.val (O.makeFunc rfl rfl rfl Taken.no) ?_
  refine SL.adoptC 102 0 103 9 1 (is' := [_]) (by decide) rfl rfl rfl rfl rfl ?_
  refine SL.memS (O.call (rn [(0, 102), (1, 103), (2, 104)]) [] rfl rfl rfl (walkW_h x b [] hx hsh (by have := hx.2.2; simp; omega)) (.cons (ArgOk.aggU (.cons (ArgOk.same rfl) (.cons (ArgOk.same rfl) (.cons (ArgOk.same rfl) .nil)))) (.cons (ArgOk.same rfl) (.cons (ArgOk.same rfl) .nil))) (SubS.cons rfl (SubS.cons rfl SubS.nil)) rfl rfl rfl rfl rfl (.inl rfl) hcallOk51 (r' := .u _) rfl rfl Taken.no) rfl rfl (S' := (102, .cells _ [.own 104]) :: (104, .data _ _ _) :: (103, .dead) :: _) rfl ?_
  refine SL.as (i' := vB true) 62 rfl (by rfl) ?_
  refine SL.nil ?_
  refine E.to ?_
  refine W.seq ?_
  refine W.region ?_
  refine SL.val (O.ld1 (PtI.ref rfl rfl) rfl Try.underlying22 rfl rfl Taken.no) ?_
  refine SL.val (O.assign rfl rfl Taken.no) ?_
  refine SL.nil ?_
  refine E.to ?_
  refine W.ret ?_
  refine E.freeze 104 rfl (F' := [(4, _)]) (⟨⟨_, rfl, rfl⟩, trivial⟩) ?_
  refine E.fin (rs := [_]) (rn []) (.inl rfl) rfl (.cons (ResOne.tmp rfl) .nil) ?_ ?_ rfl (fixL_spec rfl)
  ·skip
   rw [bw_end hi (by omega)]; rfl
  · exact SubS.nil

set_option maxRecDepth 8000 in
/-- bookplate/prefix.Count. -/
theorem Count_h {t : Tr} {p : Str} (hb : bd 1000 t) (hpl : p.length ≤ 1000000) :
    Con Try.prog 28 [vA [uT t.lab, uB t.wd, .sl 3 (t.kids.map eTr)], vT p] [] (vI ((wthL p t.inn).length : Nat)) [] := by
 refine Con.enterL (n := 9) Try.func28 rfl rfl rfl (fun τ w ok vs hin => ?_)
 have hl0_2 := hin.lenA (i := 0) (j := 2) rfl rfl
 try rw [List.length_map] at hl0_2
 clear hin
 refine W.seq ?_
 refine W.region ?_
 refine SL.memS (O.box (is := [_, _, _]) 101 rfl rfl (by simp) rfl rfl Taken.no) rfl rfl (S' := (101, _) :: _) rfl ?_
 refine SL.val (O.assign rfl rfl Taken.no) ?_
 refine SL.nil ?_
 refine E.to ?_
 refine W.seq ?_
 refine W.region ?_
 refine SL.val (O.ldN (m := 3) (PtI.ref rfl rfl) (js := [_, _, _]) rfl (Nat.le_of_ble_eq_true rfl) Try.underlying27 rfl (by kernel_rfl) rfl Taken.no) ?_
 refine SL.val (O.move rfl rfl Taken.no) ?_
 refine SL.val (O.callp rfl rfl rfl (With_h (t := t) (p := p) hb hpl) (.cons (ArgOk.aggU (.cons (ArgOk.same rfl) (.cons (ArgOk.same rfl) (.cons (ArgOk.same rfl) .nil)))) (.cons (ArgOk.same rfl) .nil)) hcallOk26 rfl Taken.no) ?_
 refine SL.val (O.lenE (SlOf.fz rfl (by decide)) (by first | exact List.length_map _ | rfl) Try.underlying22 rfl Taken.no) ?_
 refine SL.val (O.assign rfl rfl Taken.no) ?_
 refine SL.nil ?_
 refine E.to ?_
 refine W.ret ?_
 refine E.fin (rs := [_]) (rn []) (.inl rfl) rfl (.cons (ResOne.tmp rfl) .nil) ?_ ?_ rfl (fixL_spec rfl)
 ·skip
  first | rfl | exact iv_int (by rw [List.length_map])
 · exact SubS.nil

set_option maxRecDepth 8000 in
/-- bookplate/prefix.Nth. -/
theorem Nth_h {t : Tr} (hb : bd 1000 t) (i : Int) :
    Con Try.prog 21 [vA [uT t.lab, uB t.wd, .sl 3 (t.kids.map eTr)], vI i] [] (.tup [vT (nthT t.inn i), vB (nthO t.inn i)]) [] := by
 obtain ⟨i9, hi9, hz9, hs9, hb9⟩ := hinf9
 refine Con.enterL (n := 21) Try.func21 rfl rfl rfl (fun τ w ok vs hin => ?_)
 have hl0_2 := hin.lenA (i := 0) (j := 2) rfl rfl
 try rw [List.length_map] at hl0_2
 clear hin
 refine W.seq ?_
 refine W.region ?_
 refine SL.memS (O.box (is := [_, _, _]) 101 rfl rfl (by simp) rfl rfl Taken.no) rfl rfl (S' := (101, _) :: _) rfl ?_
 refine SL.val (O.assign rfl rfl Taken.no) ?_
 refine SL.val (O.assign rfl rfl Taken.no) ?_
 refine SL.nil ?_
 refine E.to ?_
 refine W.seq ?_
 refine W.region ?_
 refine SL.val (O.ldN (m := 3) (PtI.ref rfl rfl) (js := [_, _, _]) rfl (Nat.le_of_ble_eq_true rfl) Try.underlying27 rfl (by kernel_rfl) rfl Taken.no) ?_
 refine SL.val (O.callp rfl rfl rfl (With_h (t := t) (p := []) hb (by decide)) (.cons (ArgOk.aggU (.cons (ArgOk.same rfl) (.cons (ArgOk.same rfl) (.cons (ArgOk.same rfl) .nil)))) (.cons (ArgOk.same rfl) .nil)) hcallOk26 rfl Taken.no) ?_
 refine SL.as (i' := vL 1 (t.inn.map eStr)) 8 rfl (by rw [wthL_nil]) ?_
 refine SL.val (O.assign rfl rfl Taken.no) ?_
 refine SL.nil ?_
 refine E.to ?_
 refine W.seq ?_
 refine W.seq ?_
 refine W.region ?_
 refine SL.val (O.move rfl rfl Taken.no) ?_
 refine SL.val (O.det (fun _ => G.R.lss rfl rfl) rfl Taken.no) ?_
 refine SL.val (O.move rfl rfl Taken.no) ?_
 refine SL.case (j := 2) (g := 11) (want := false) rfl rfl (fun hg1 => ?_) (fun hg1 => ?_)
 ·skip
  first | have hg1p := G.gA3 hg1 | have hg1p := G.gA4 hg1 | have hg1p := hg1
  refine SL.val (O.move rfl rfl (Taken.yes rfl rfl hg1)) ?_
  refine SL.val (O.move rfl rfl (Taken.yes rfl rfl hg1)) ?_
  refine SL.val (O.lenE (n := t.inn.length) (SlOf.fz rfl (by decide)) (by rw [List.length_map]) Try.underlying22 rfl (Taken.yes rfl rfl hg1)) ?_
  refine SL.val (O.det (fun _ => G.R.geq rfl rfl) rfl (Taken.yes rfl rfl hg1)) ?_
  refine SL.val (O.pick_f rfl hg1 rfl rfl Taken.no) ?_
  refine SL.nil ?_
  refine E.to ?_
  first | refine W.cond_d rfl (fun hc2 => ?_) (fun hc2 => ?_) | refine W.cond_nd rfl (fun hc2 => ?_) (fun hc2 => ?_) | refine W.cond rfl (fun hc2 => ?_) (fun hc2 => ?_)
  ·skip
   refine W.seq ?_
   refine W.region ?_
   refine SL.val (O.assign rfl rfl Taken.no) ?_
   refine SL.val (O.assign rfl rfl Taken.no) ?_
   refine SL.nil ?_
   refine E.to ?_
   refine W.ret ?_
   refine E.thr ?_
   refine E.fin (rs := [_, _]) (rn []) (.inl rfl) rfl (.cons (ResOne.tmp rfl) (.cons (ResOne.tmp rfl) .nil)) ?_ ?_ rfl (fixL_spec rfl)
   ·skip
    have hn : ¬ (0 ≤ i ∧ i < t.inn.length) := by omega
    rw [(nth_no hn).1, (nth_no hn).2]; rfl
   · exact SubS.nil
  ·skip
   have hi : 0 ≤ i ∧ i < t.inn.length := by omega
   refine W.skip ?_
   refine E.to ?_
   refine W.seq ?_
   refine W.region ?_
   refine SL.val (O.move rfl rfl Taken.no) ?_
   refine SL.val (O.move rfl rfl Taken.no) ?_
   refine SL.val (O.idx_fz (i := i.toNat) rfl rfl (by omega) (row_get (by omega)) Try.underlying22 hi9 hs9 rfl Taken.no) ?_
   refine SL.val (O.ld1 (PtI.ofU (PtU.fz rfl)) rfl Try.underlying9 rfl rfl Taken.no) ?_
   refine SL.val (O.assign rfl rfl Taken.no) ?_
   refine SL.val (O.assign rfl rfl Taken.no) ?_
   refine SL.nil ?_
   refine E.to ?_
   refine W.ret ?_
   refine E.fin (rs := [_, _]) (rn []) (.inl rfl) rfl (.cons (ResOne.tmp rfl) (.cons (ResOne.tmp rfl) .nil)) ?_ ?_ rfl (fixL_spec rfl)
   ·skip
    rw [(nth_yes hi).1, (nth_yes hi).2]; rfl
   · exact SubS.nil
 ·skip
  first | have hg1p := G.gA7 hg1 | have hg1p := G.gA8 hg1 | have hg1p := hg1
  refine SL.skip (OpOk.not rfl rfl rfl hg1) ?_
  refine SL.skip (OpOk.not rfl rfl rfl hg1) ?_
  refine SL.skip (OpOk.not rfl rfl rfl hg1) ?_
  refine SL.skip (OpOk.not rfl rfl rfl hg1) ?_
  refine SL.val (O.pick_t rfl (G.ne_f hg1) rfl rfl Taken.no) ?_
  refine SL.nil ?_
  refine E.to ?_
  refine W.cond_t rfl ?_
  refine W.seq ?_
  refine W.region ?_
  refine SL.val (O.assign rfl rfl Taken.no) ?_
  refine SL.val (O.assign rfl rfl Taken.no) ?_
  refine SL.nil ?_
  refine E.to ?_
  refine W.ret ?_
  refine E.thr ?_
  refine E.fin (rs := [_, _]) (rn []) (.inl rfl) rfl (.cons (ResOne.tmp rfl) (.cons (ResOne.tmp rfl) .nil)) ?_ ?_ rfl (fixL_spec rfl)
  ·skip
   have hn : ¬ (0 ≤ i ∧ i < t.inn.length) := by omega
   rw [(nth_no hn).1, (nth_no hn).2]; rfl
  · exact SubS.nil

set_option maxRecDepth 8000 in
/-- bookplate/prefix.Rank$1. -/
theorem rank1_h {x s : Str} {n : Nat} (hn : n ≤ 1000000) :
    Con Try.prog 53 [vT x, .ref 0 0, .ref 1 0] [(0, .cells 9 [vT s]), (1, .cells 3 [vI (n : Nat)])] (vB (allL s [x])) [(0, .cells 9 [vT s]), (1, .cells 3 [vI (n + cntL s [x] : Nat)])] := by
 refine Con.enterL (n := 13) Try.func53 rfl rfl rfl (fun τ w ok vs hin => ?_)
 clear hin
 refine W.seq ?_
 refine W.region ?_
 refine SL.val (O.assign rfl rfl Taken.no) ?_
 refine SL.nil ?_
 refine E.to ?_
 refine W.seq ?_
 refine W.seq ?_
 refine W.region ?_
 refine SL.val (O.move rfl rfl Taken.no) ?_
 refine SL.val (O.ld1 (PtI.ref rfl rfl) rfl Try.underlying9 rfl rfl Taken.no) ?_
 refine SL.val (O.det (fun _ => G.R.strltL rfl rfl) rfl Taken.no) ?_
 refine SL.nil ?_
 refine E.to ?_
 first | refine W.cond_d rfl (fun hc1 => ?_) (fun hc1 => ?_) | refine W.cond_nd rfl (fun hc1 => ?_) (fun hc1 => ?_) | refine W.cond rfl (fun hc1 => ?_) (fun hc1 => ?_)
 ·skip
  refine W.region ?_
  refine SL.val (O.ld1 (PtI.ref rfl rfl) rfl Try.underlying3 rfl rfl Taken.no) ?_
  refine SL.val (O.det (fun _ => by first | exact G.R.add64 rfl rfl (by omega) | exact G.R.add rfl rfl) rfl Taken.no) ?_
  refine SL.effS (O.st_ref (m := 1) rfl rfl rfl (js := [_]) rfl rfl (by kernel_rfl) (by simp) (Nat.le_of_ble_eq_true rfl) rfl (is' := [_]) rfl Taken.no) (S' := (1, _) :: _) rfl ?_
  refine SL.nil ?_
  refine E.to ?_
  refine W.seq ?_
  refine W.region ?_
  refine SL.val (O.move rfl rfl Taken.no) ?_
  refine SL.val (O.ld1 (PtI.ref rfl rfl) rfl Try.underlying9 rfl rfl Taken.no) ?_
  refine SL.val (O.det (fun _ => G.R.strltL rfl rfl) rfl Taken.no) ?_
  refine SL.val (O.assign rfl rfl Taken.no) ?_
  refine SL.nil ?_
  refine E.to ?_
  refine W.ret ?_
  refine E.fin (rs := [_]) (rn []) (.inl rfl) rfl (.cons (ResOne.tmp rfl) .nil) ?_ ?_ rfl (fixL_spec rfl)
  ·skip
   rw [(cnt1 s x).2]; rfl
  · exact (SubS.cons rfl (SubS.val rfl (by first | (rw [(cnt1 s x).1, if_pos (by assumption)]; rfl) | (rw [(cnt1 s x).1, if_neg (by assumption)]; rfl) | (rw [(cnt1 s x).1, if_neg (Bool.eq_false_iff.1 (by assumption))]; rfl)) SubS.nil))
 ·skip
  refine W.skip ?_
  refine E.to ?_
  refine W.seq ?_
  refine W.region ?_
  refine SL.val (O.move rfl rfl Taken.no) ?_
  refine SL.val (O.ld1 (PtI.ref rfl rfl) rfl Try.underlying9 rfl rfl Taken.no) ?_
  refine SL.val (O.det (fun _ => G.R.strltL rfl rfl) rfl Taken.no) ?_
  refine SL.val (O.assign rfl rfl Taken.no) ?_
  refine SL.nil ?_
  refine E.to ?_
  refine W.ret ?_
  refine E.fin (rs := [_]) (rn []) (.inl rfl) rfl (.cons (ResOne.tmp rfl) .nil) ?_ ?_ rfl (fixL_spec rfl)
  ·skip
   rw [(cnt1 s x).2]; rfl
  · exact (SubS.cons rfl (SubS.val rfl (by first | (rw [(cnt1 s x).1, if_pos (by assumption)]; rfl) | (rw [(cnt1 s x).1, if_neg (by assumption)]; rfl) | (rw [(cnt1 s x).1, if_neg (Bool.eq_false_iff.1 (by assumption))]; rfl)) SubS.nil))

set_option maxRecDepth 8000 in
/-- bookplate/prefix.walk. -/
theorem walkR_step {t : Tr} {b s : Str} {n : Nat} (hb : bd 1000 t) (hs : short b t) (hr : n + t.inn.length ≤ 100000) (ih : ∀ x ∈ t.kids, ∀ (y : Str) (m : Nat), bd 1000 x → short y x → m + x.inn.length ≤ 100000 → Con Try.prog 51 [vA [uT x.lab, uB x.wd, .sl 3 (x.kids.map eTr)], vT y, .clo (.func 53) [] [.ref 0 0, .ref 1 0]] [(0, .cells 9 [vT s]), (1, .cells 3 [vI (m : Nat)])] (vB (allL s (bw x y))) [(0, .cells 9 [vT s]), (1, .cells 3 [vI (m + cntL s (bw x y) : Nat)])]) :
    Con Try.prog 51 [vA [uT t.lab, uB t.wd, .sl 3 (t.kids.map eTr)], vT b, .clo (.func 53) [] [.ref 0 0, .ref 1 0]] [(0, .cells 9 [vT s]), (1, .cells 3 [vI (n : Nat)])] (vB (allL s (bw t b))) [(0, .cells 9 [vT s]), (1, .cells 3 [vI (n + cntL s (bw t b) : Nat)])] := by
 have hkl := bd_kids hb
 have hin := inn_len t
 obtain ⟨i27, hi27, hz27, hs27, hb27⟩ := hinf27
 refine Con.enterL (n := 33) Try.func51 rfl rfl rfl (fun τ w ok vs hin => ?_)
 have hl0_2 := hin.lenA (i := 0) (j := 2) rfl rfl
 try rw [List.length_map] at hl0_2
 clear hin
 refine W.seq ?_
 refine W.region ?_
 refine SL.memS (O.box (is := [_, _, _]) 101 rfl rfl (by simp) rfl rfl Taken.no) rfl rfl (S' := (101, _) :: _) rfl ?_
 refine SL.val (O.assign rfl rfl Taken.no) ?_
 refine SL.nil ?_
 refine E.to ?_
 refine W.seq ?_
 refine W.seq ?_
 refine W.region ?_
 refine SL.val (O.fld_ref (o' := 1) rfl Try.underlying27 rfl (m := 0) (by kernel_rfl) rfl rfl Taken.no) ?_
 refine SL.val (O.ld1 (PtI.ref rfl rfl) rfl Try.underlying4 rfl rfl Taken.no) ?_
 refine SL.val (O.move rfl rfl Taken.no) ?_
 refine SL.case (j := 2) (g := 11) (want := true) rfl rfl (fun hg1 => ?_) (fun hg1 => ?_)
 ·skip
  first | have hg1p := G.gA1 hg1 | have hg1p := G.gA2 hg1 | have hg1p := hg1
  refine SL.val (O.move rfl rfl (Taken.yes rfl rfl hg1)) ?_
  refine SL.val (O.move rfl rfl (Taken.yes rfl rfl hg1)) ?_
  refine SL.memS (O.call (rn [(0, 0), (1, 1)]) [] rfl rfl rfl (rank1_h (x := b) (s := s) (n := n) (by omega)) (.cons (ArgOk.same rfl) (.cons (ArgOk.same rfl) (.cons (ArgOk.same rfl) .nil))) (SubS.cons rfl (SubS.cons rfl SubS.nil)) rfl rfl rfl rfl rfl (.inl rfl) hcallOk53 (r' := .u _) rfl rfl (Taken.yes rfl rfl hg1)) rfl rfl (S' := (0, .cells _ [.u _]) :: (1, .cells _ [.u _]) :: _) rfl ?_
  refine SL.val (O.det (fun _ => G.R.not rfl) rfl (Taken.yes rfl rfl hg1)) ?_
  refine SL.val (O.pick_t rfl hg1 rfl rfl Taken.no) ?_
  refine SL.nil ?_
  refine E.to ?_
  first | refine W.cond_d rfl (fun hc2 => ?_) (fun hc2 => ?_) | refine W.cond_nd rfl (fun hc2 => ?_) (fun hc2 => ?_) | refine W.cond rfl (fun hc2 => ?_) (fun hc2 => ?_)
  ·skip
   refine W.seq ?_
   refine W.region ?_
   refine SL.val (O.assign rfl rfl Taken.no) ?_
   refine SL.nil ?_
   refine E.to ?_
   refine W.ret ?_
   refine E.thr ?_
   refine E.fin (rs := [_]) (rn []) (.inl rfl) rfl (.cons (ResOne.tmp rfl) .nil) ?_ ?_ rfl (fixL_spec rfl)
   ·skip
    have he := one_f hb (b := b) (s := s) (by assumption) (nb_t (by assumption))
    rw [he.2]; rfl
   · exact (SubS.cons rfl (SubS.val rfl (by rw [(one_f hb (b := b) (s := s) (by assumption) (nb_t (by assumption))).1]; rfl) SubS.nil))
  ·skip
   refine W.skip ?_
   refine E.to ?_
   refine W.seq ?_
   refine W.seq ?_
   refine W.region ?_
   refine SL.val (O.fld_ref (o' := 2) rfl Try.underlying27 rfl (m := 0) (by kernel_rfl) rfl rfl Taken.no) ?_
   refine SL.val (O.ld1 (PtI.ref rfl rfl) rfl Try.underlying25 rfl rfl Taken.no) ?_
   refine SL.val (O.lenE (SlOf.fz rfl (by decide)) (by first | exact List.length_map _ | rfl) Try.underlying25 rfl Taken.no) ?_
   refine SL.val (O.move rfl rfl Taken.no) ?_
   refine SL.nil ?_
   refine E.to ?_
   refine W.block ?_
   refine W.loopx1 (fun (k : Nat) => [(20, vI (k : Int))]) (fun (k : Nat) => [(1, .cells 3 [vI ((n + cntL s (bwK t b k) : Nat) : Int)])]) (fun (k : Nat) => k ≤ t.kids.length ∧ allL s (bwK t b k) = true) (fun (k : Nat) => t.kids.length - k) (0) (rn []) (.cons (t := 1) rfl (.cons (t := 2) rfl (.cons (t := 18) rfl (.cons (t := 19) rfl .nil)))) (.cons (t := 0) rfl (.cons (t := 101) rfl .nil)) rfl ?_ ?_ rfl rfl ?_ ?_
   · exact (SubF.cons rfl SubF.nil)
   · exact (SubS.val rfl (by first | (rw [bwK_0, if_pos (by assumption)]; rfl) | (rw [bwK_0, if_neg (by assumption), (cntL_nil s).1]; rfl)) SubS.nil)
   ·skip
    first | exact ⟨by omega, by rw [bwK_0, if_pos (by assumption)]; exact nb_f (by assumption)⟩ | exact ⟨by omega, by rw [bwK_0, if_neg (by assumption)]; rfl⟩
   intro k hinv
   obtain ⟨hk, hal⟩ := hinv
   have hbl : k < t.kids.length → _ := fun h => bwK_len (b := b) h
   have hsk : k < t.kids.length → _ := fun h => short_kid hb hs (at_mem h)
   have hcl := cntL_le s (bwK t b k)
   refine W.seq ?_
   refine W.region ?_
   refine SL.val (O.det (fun _ => G.R.lss rfl rfl) rfl Taken.no) ?_
   refine SL.nil ?_
   refine E.to ?_
   refine W.seq ?_
   first | refine W.cond_d rfl (fun hc3 => ?_) (fun hc3 => ?_) | refine W.cond_nd rfl (fun hc3 => ?_) (fun hc3 => ?_) | refine W.cond rfl (fun hc3 => ?_) (fun hc3 => ?_)
   ·skip
    have hk2 : k < t.kids.length := by omega
    have hbl2 := hbl hk2
    have hsk2 := hsk hk2
    refine W.skip ?_
    refine E.to ?_
    refine W.seq ?_
    refine W.block ?_
    refine W.seq ?_
    refine W.region ?_
    refine SL.val (O.idx_fz rfl rfl (rfl) (row_tr (by omega)) Try.underlying25 hi27 hs27 rfl Taken.no) ?_
    refine SL.val (O.ldU (m := 3) (PtU.fz rfl) rfl Try.underlying27 rfl (by kernel_rfl) rfl Taken.no) ?_
    refine SL.memS (O.alloc (z := .agg #[.string (Go.G.bs []), .bool false, .slice none 0 0]) (is := [.u (.sc (.string (Go.G.bs []))), .u (.sc (.bool false)), .u (.sc (.slice none 0 0))]) 102 (by kernel_rfl) rfl rfl rfl Taken.no) rfl rfl (S' := (102, _) :: _) rfl ?_
    refine SL.effS (O.st_ref (m := 3) rfl rfl rfl (js := [_, _, _]) rfl rfl (by kernel_rfl) (by simp) (Nat.le_of_ble_eq_true rfl) rfl (is' := [_, _, _]) rfl Taken.no) (S' := (102, _) :: _) rfl ?_
    refine SL.nil ?_
    refine E.to ?_
    refine W.seq ?_
    refine W.region ?_
    refine SL.val (O.ldN (m := 3) (PtI.ref rfl rfl) (js := [_, _, _]) rfl (Nat.le_of_ble_eq_true rfl) Try.underlying27 rfl (by kernel_rfl) rfl Taken.no) ?_
    refine SL.val (O.move rfl rfl Taken.no) ?_
    refine SL.val (O.fld_ref (o' := 0) rfl Try.underlying27 rfl (m := 0) (by kernel_rfl) rfl rfl Taken.no) ?_
    refine SL.val (O.ld1 (PtI.ref rfl rfl) rfl Try.underlying9 rfl rfl Taken.no) ?_
    refine SL.val (O.det (fun _ => G.R.strcatL rfl rfl (by have := hsk2.2; omega)) rfl Taken.no) ?_
    refine SL.val (O.move rfl rfl Taken.no) ?_
    refine SL.memS (O.call (rn [(0, 0), (1, 1)]) [] rfl rfl rfl (ih t.kids[k]! (at_mem hk2) (b ++ t.kids[k]!.lab) (n + cntL s (bwK t b k)) (bd_kid hb (at_mem hk2)).1 hsk2.1 (by omega)) (.cons (ArgOk.aggU (.cons (ArgOk.same rfl) (.cons (ArgOk.same rfl) (.cons (ArgOk.same rfl) .nil)))) (.cons (ArgOk.same rfl) (.cons (ArgOk.same rfl) .nil))) (SubS.cons rfl (SubS.cons rfl SubS.nil)) rfl rfl rfl rfl rfl (.inl rfl) hcallOk51 (r' := .u _) rfl rfl Taken.no) rfl rfl (S' := (0, .cells _ [.u _]) :: (1, .cells _ [.u _]) :: _) rfl ?_
    refine SL.val (O.det (fun _ => G.R.not rfl) rfl Taken.no) ?_
    refine SL.nil ?_
    refine E.to ?_
    first | refine W.cond_d rfl (fun hc4 => ?_) (fun hc4 => ?_) | refine W.cond_nd rfl (fun hc4 => ?_) (fun hc4 => ?_) | refine W.cond rfl (fun hc4 => ?_) (fun hc4 => ?_)
    ·skip
     refine W.seq ?_
     refine W.region ?_
     refine SL.val (O.assign rfl rfl Taken.no) ?_
     refine SL.nil ?_
     refine E.to ?_
     refine W.ret ?_
     refine E.inr ?_
     refine E.thr ?_
     refine E.thr ?_
     refine E.inr ?_
     refine E.thr ?_
     refine E.fin (rs := [_]) (rn []) (.inl rfl) rfl (.cons (ResOne.tmp rfl) .nil) ?_ ?_ rfl (fixL_spec rfl)
     ·skip
      have he := kid_f (b := b) (s := s) hk2 hal (nb_t (by assumption))
      rw [he.2]; rfl
     · exact (SubS.cons rfl (SubS.val rfl (by rw [(kid_f (b := b) (s := s) hk2 hal (nb_t (by assumption))).1, ← Nat.add_assoc]; rfl) SubS.nil))
    ·skip
     refine W.skip ?_
     refine E.inn ?_
     refine E.to ?_
     refine W.region ?_
     refine SL.val (O.det (fun _ => by first | exact G.R.add64 rfl rfl (by omega) | exact G.R.add rfl rfl) rfl Taken.no) ?_
     refine SL.val (O.move rfl rfl Taken.no) ?_
     refine SL.nil ?_
     refine E.again ((k + 1)) (rn []) ?_ ?_ rfl (fixL_spec rfl) ?_ ?_
     · exact (SubF.cons rfl (SubF.cons rfl (SubF.cons rfl (SubF.cons rfl (SubF.cons rfl SubF.nil)))))
     · exact (SubS.val rfl (by (try dsimp only); (rw [bwK_step hk2, (cntL_app_t hal).1, ← Nat.add_assoc]; rfl)) (SubS.cons rfl (SubS.cons rfl SubS.nil)))
     ·try dsimp only
      exact ⟨by omega, by rw [bwK_step hk2, (cntL_app_t hal).2]; exact nb_f (by assumption)⟩
     · (try dsimp only); omega
   ·skip
    refine W.exit ?_
    refine E.th ?_
    refine E.th ?_
    refine E.hit ?_
    refine E.to ?_
    refine W.seq ?_
    refine W.region ?_
    refine SL.val (O.assign rfl rfl Taken.no) ?_
    refine SL.nil ?_
    refine E.to ?_
    refine W.ret ?_
    refine E.fin (rs := [_]) (rn []) (.inl rfl) rfl (.cons (ResOne.tmp rfl) .nil) ?_ ?_ rfl (fixL_spec rfl)
    ·skip
     rw [← bwK_all t b (show k = t.kids.length by omega), hal]; rfl
    · exact (SubS.cons rfl (SubS.val rfl (by rw [bwK_all t b (show k = t.kids.length by omega)]; rfl) SubS.nil))
 ·skip
  first | have hg1p := G.gA5 hg1 | have hg1p := G.gA6 hg1 | have hg1p := hg1
  refine SL.skip (OpOk.not rfl rfl rfl hg1) ?_
  refine SL.skip (OpOk.not rfl rfl rfl hg1) ?_
  refine SL.skip (OpOk.not rfl rfl rfl hg1) ?_
  refine SL.skip (OpOk.not rfl rfl rfl hg1) ?_
  refine SL.val (O.pick_f rfl (G.ne_t hg1) rfl rfl Taken.no) ?_
  refine SL.nil ?_
  refine E.to ?_
  refine W.cond_f rfl ?_
  refine W.skip ?_
  refine E.to ?_
  refine W.seq ?_
  refine W.seq ?_
  refine W.region ?_
  refine SL.val (O.fld_ref (o' := 2) rfl Try.underlying27 rfl (m := 0) (by kernel_rfl) rfl rfl Taken.no) ?_
  refine SL.val (O.ld1 (PtI.ref rfl rfl) rfl Try.underlying25 rfl rfl Taken.no) ?_
  refine SL.val (O.lenE (SlOf.fz rfl (by decide)) (by first | exact List.length_map _ | rfl) Try.underlying25 rfl Taken.no) ?_
  refine SL.val (O.move rfl rfl Taken.no) ?_
  refine SL.nil ?_
  refine E.to ?_
  refine W.block ?_
  refine W.loopx1 (fun (k : Nat) => [(20, vI (k : Int))]) (fun (k : Nat) => [(1, .cells 3 [vI ((n + cntL s (bwK t b k) : Nat) : Int)])]) (fun (k : Nat) => k ≤ t.kids.length ∧ allL s (bwK t b k) = true) (fun (k : Nat) => t.kids.length - k) (0) (rn []) (.cons (t := 1) rfl (.cons (t := 2) rfl (.cons (t := 18) rfl (.cons (t := 19) rfl .nil)))) (.cons (t := 0) rfl (.cons (t := 101) rfl .nil)) rfl ?_ ?_ rfl rfl ?_ ?_
  · exact (SubF.cons rfl SubF.nil)
  · exact (SubS.val rfl (by first | (rw [bwK_0, if_pos (by assumption)]; rfl) | (rw [bwK_0, if_neg (by assumption), (cntL_nil s).1]; rfl)) SubS.nil)
  ·skip
   first | exact ⟨by omega, by rw [bwK_0, if_pos (by assumption)]; exact nb_f (by assumption)⟩ | exact ⟨by omega, by rw [bwK_0, if_neg (by assumption)]; rfl⟩
  intro k hinv
  obtain ⟨hk, hal⟩ := hinv
  have hbl : k < t.kids.length → _ := fun h => bwK_len (b := b) h
  have hsk : k < t.kids.length → _ := fun h => short_kid hb hs (at_mem h)
  have hcl := cntL_le s (bwK t b k)
  refine W.seq ?_
  refine W.region ?_
  refine SL.val (O.det (fun _ => G.R.lss rfl rfl) rfl Taken.no) ?_
  refine SL.nil ?_
  refine E.to ?_
  refine W.seq ?_
  first | refine W.cond_d rfl (fun hc5 => ?_) (fun hc5 => ?_) | refine W.cond_nd rfl (fun hc5 => ?_) (fun hc5 => ?_) | refine W.cond rfl (fun hc5 => ?_) (fun hc5 => ?_)
  ·skip
   have hk2 : k < t.kids.length := by omega
   have hbl2 := hbl hk2
   have hsk2 := hsk hk2
   refine W.skip ?_
   refine E.to ?_
   refine W.seq ?_
   refine W.block ?_
   refine W.seq ?_
   refine W.region ?_
   refine SL.val (O.idx_fz rfl rfl (rfl) (row_tr (by omega)) Try.underlying25 hi27 hs27 rfl Taken.no) ?_
   refine SL.val (O.ldU (m := 3) (PtU.fz rfl) rfl Try.underlying27 rfl (by kernel_rfl) rfl Taken.no) ?_
   refine SL.memS (O.alloc (z := .agg #[.string (Go.G.bs []), .bool false, .slice none 0 0]) (is := [.u (.sc (.string (Go.G.bs []))), .u (.sc (.bool false)), .u (.sc (.slice none 0 0))]) 103 (by kernel_rfl) rfl rfl rfl Taken.no) rfl rfl (S' := (103, _) :: _) rfl ?_
   refine SL.effS (O.st_ref (m := 3) rfl rfl rfl (js := [_, _, _]) rfl rfl (by kernel_rfl) (by simp) (Nat.le_of_ble_eq_true rfl) rfl (is' := [_, _, _]) rfl Taken.no) (S' := (103, _) :: _) rfl ?_
   refine SL.nil ?_
   refine E.to ?_
   refine W.seq ?_
   refine W.region ?_
   refine SL.val (O.ldN (m := 3) (PtI.ref rfl rfl) (js := [_, _, _]) rfl (Nat.le_of_ble_eq_true rfl) Try.underlying27 rfl (by kernel_rfl) rfl Taken.no) ?_
   refine SL.val (O.move rfl rfl Taken.no) ?_
   refine SL.val (O.fld_ref (o' := 0) rfl Try.underlying27 rfl (m := 0) (by kernel_rfl) rfl rfl Taken.no) ?_
   refine SL.val (O.ld1 (PtI.ref rfl rfl) rfl Try.underlying9 rfl rfl Taken.no) ?_
   refine SL.val (O.det (fun _ => G.R.strcatL rfl rfl (by have := hsk2.2; omega)) rfl Taken.no) ?_
   refine SL.val (O.move rfl rfl Taken.no) ?_
   refine SL.memS (O.call (rn [(0, 0), (1, 1)]) [] rfl rfl rfl (ih t.kids[k]! (at_mem hk2) (b ++ t.kids[k]!.lab) (n + cntL s (bwK t b k)) (bd_kid hb (at_mem hk2)).1 hsk2.1 (by omega)) (.cons (ArgOk.aggU (.cons (ArgOk.same rfl) (.cons (ArgOk.same rfl) (.cons (ArgOk.same rfl) .nil)))) (.cons (ArgOk.same rfl) (.cons (ArgOk.same rfl) .nil))) (SubS.cons rfl (SubS.cons rfl SubS.nil)) rfl rfl rfl rfl rfl (.inl rfl) hcallOk51 (r' := .u _) rfl rfl Taken.no) rfl rfl (S' := (0, .cells _ [.u _]) :: (1, .cells _ [.u _]) :: _) rfl ?_
   refine SL.val (O.det (fun _ => G.R.not rfl) rfl Taken.no) ?_
   refine SL.nil ?_
   refine E.to ?_
   first | refine W.cond_d rfl (fun hc6 => ?_) (fun hc6 => ?_) | refine W.cond_nd rfl (fun hc6 => ?_) (fun hc6 => ?_) | refine W.cond rfl (fun hc6 => ?_) (fun hc6 => ?_)
   ·skip
    refine W.seq ?_
    refine W.region ?_
    refine SL.val (O.assign rfl rfl Taken.no) ?_
    refine SL.nil ?_
    refine E.to ?_
    refine W.ret ?_
    refine E.inr ?_
    refine E.thr ?_
    refine E.thr ?_
    refine E.inr ?_
    refine E.thr ?_
    refine E.fin (rs := [_]) (rn []) (.inl rfl) rfl (.cons (ResOne.tmp rfl) .nil) ?_ ?_ rfl (fixL_spec rfl)
    ·skip
     have he := kid_f (b := b) (s := s) hk2 hal (nb_t (by assumption))
     rw [he.2]; rfl
    · exact (SubS.cons rfl (SubS.val rfl (by rw [(kid_f (b := b) (s := s) hk2 hal (nb_t (by assumption))).1, ← Nat.add_assoc]; rfl) SubS.nil))
   ·skip
    refine W.skip ?_
    refine E.inn ?_
    refine E.to ?_
    refine W.region ?_
    refine SL.val (O.det (fun _ => by first | exact G.R.add64 rfl rfl (by omega) | exact G.R.add rfl rfl) rfl Taken.no) ?_
    refine SL.val (O.move rfl rfl Taken.no) ?_
    refine SL.nil ?_
    refine E.again ((k + 1)) (rn []) ?_ ?_ rfl (fixL_spec rfl) ?_ ?_
    · exact (SubF.cons rfl (SubF.cons rfl (SubF.cons rfl (SubF.cons rfl (SubF.cons rfl SubF.nil)))))
    · exact (SubS.val rfl (by (try dsimp only); (rw [bwK_step hk2, (cntL_app_t hal).1, ← Nat.add_assoc]; rfl)) (SubS.cons rfl (SubS.cons rfl SubS.nil)))
    ·try dsimp only
     exact ⟨by omega, by rw [bwK_step hk2, (cntL_app_t hal).2]; exact nb_f (by assumption)⟩
    · (try dsimp only); omega
  ·skip
   refine W.exit ?_
   refine E.th ?_
   refine E.th ?_
   refine E.hit ?_
   refine E.to ?_
   refine W.seq ?_
   refine W.region ?_
   refine SL.val (O.assign rfl rfl Taken.no) ?_
   refine SL.nil ?_
   refine E.to ?_
   refine W.ret ?_
   refine E.fin (rs := [_]) (rn []) (.inl rfl) rfl (.cons (ResOne.tmp rfl) .nil) ?_ ?_ rfl (fixL_spec rfl)
   ·skip
    rw [← bwK_all t b (show k = t.kids.length by omega), hal]; rfl
   · exact (SubS.cons rfl (SubS.val rfl (by rw [bwK_all t b (show k = t.kids.length by omega)]; rfl) SubS.nil))

theorem walkR_h (s : Str) (t : Tr) : ∀ (b : Str) (n : Nat), bd 1000 t → short b t → n + t.inn.length ≤ 100000 → Con Try.prog 51 [vA [uT t.lab, uB t.wd, .sl 3 (t.kids.map eTr)], vT b, .clo (.func 53) [] [.ref 0 0, .ref 1 0]] [(0, .cells 9 [vT s]), (1, .cells 3 [vI (n : Nat)])] (vB (allL s (bw t b))) [(0, .cells 9 [vT s]), (1, .cells 3 [vI (n + cntL s (bw t b) : Nat)])] :=
  Tr.ind (p := fun t => ∀ (b : Str) (n : Nat), bd 1000 t → short b t → n + t.inn.length ≤ 100000 → Con Try.prog 51 [vA [uT t.lab, uB t.wd, .sl 3 (t.kids.map eTr)], vT b, .clo (.func 53) [] [.ref 0 0, .ref 1 0]] [(0, .cells 9 [vT s]), (1, .cells 3 [vI (n : Nat)])] (vB (allL s (bw t b))) [(0, .cells 9 [vT s]), (1, .cells 3 [vI (n + cntL s (bw t b) : Nat)])]) (fun _ ih _ _ hb hs hr => walkR_step hb hs hr ih) t

set_option maxRecDepth 8000 in
/-- bookplate/prefix.Rank. -/
theorem Rank_h {t : Tr} {s : Str} (hb : bd 1000 t) :
    Con Try.prog 29 [vA [uT t.lab, uB t.wd, .sl 3 (t.kids.map eTr)], vT s] [] (vI (rnk s t.inn : Nat)) [] := by
 refine Con.enterL (n := 10) Try.func29 rfl rfl rfl (fun τ w ok vs hin => ?_)
 have hl0_2 := hin.lenA (i := 0) (j := 2) rfl rfl
 try rw [List.length_map] at hl0_2
 clear hin
 refine W.seq ?_
 refine W.region ?_
 refine SL.memS (O.box (is := [_, _, _]) 101 rfl rfl (by simp) rfl rfl Taken.no) rfl rfl (S' := (101, _) :: _) rfl ?_
 refine SL.memS (O.box (is := [_]) 102 rfl rfl (by simp) rfl rfl Taken.no) rfl rfl (S' := (102, _) :: _) rfl ?_
 refine SL.val (O.assign rfl rfl Taken.no) ?_
 refine SL.nil ?_
 refine E.to ?_
 refine W.seq ?_
 refine W.region ?_
 refine SL.memS (O.alloc (z := .int .i64 0) (is := [.u (.sc (.int .i64 0))]) 103 (by kernel_rfl) rfl rfl rfl Taken.no) rfl rfl (S' := (103, _) :: _) rfl ?_
 refine SL.effS (O.st_ref (m := 1) rfl rfl rfl (js := [_]) rfl rfl (by kernel_rfl) (by simp) (Nat.le_of_ble_eq_true rfl) rfl (is' := [_]) rfl Taken.no) (S' := (103, _) :: _) rfl ?_
 refine SL.nil ?_
 refine E.to ?_
 refine W.seq ?_
 refine W.region ?_
 refine SL.val (O.ldN (m := 3) (PtI.ref rfl rfl) (js := [_, _, _]) rfl (Nat.le_of_ble_eq_true rfl) Try.underlying27 rfl (by kernel_rfl) rfl Taken.no) ?_
 refine SL.val (O.makeFunc rfl rfl rfl Taken.no) ?_
 refine SL.memS (O.call (rn [(0, 102), (1, 103)]) [] rfl rfl rfl (walkR_h s t [] 0 hb (short_0 hb) (by have := hb.2.2; omega)) (.cons (ArgOk.aggU (.cons (ArgOk.same rfl) (.cons (ArgOk.same rfl) (.cons (ArgOk.same rfl) .nil)))) (.cons (ArgOk.same rfl) (.cons (ArgOk.same rfl) .nil))) (SubS.cons rfl (SubS.cons rfl SubS.nil)) rfl rfl rfl rfl rfl (.inl rfl) hcallOk51 (r' := .u _) rfl rfl Taken.no) rfl rfl (S' := (102, .cells _ [.u _]) :: (103, .cells _ [.u _]) :: _) rfl ?_
 refine SL.nil ?_
 refine E.to ?_
 refine W.seq ?_
 refine W.region ?_
 refine SL.val (O.ld1 (PtI.ref rfl rfl) rfl Try.underlying3 rfl rfl Taken.no) ?_
 refine SL.val (O.assign rfl rfl Taken.no) ?_
 refine SL.nil ?_
 refine E.to ?_
 refine W.ret ?_
 refine E.fin (rs := [_]) (rn []) (.inl rfl) rfl (.cons (ResOne.tmp rfl) .nil) ?_ ?_ rfl (fixL_spec rfl)
 ·skip
  rw [← cntL_rnk (inn_asc t hb.1), ← bw_nil t, Nat.zero_add]; rfl
 · exact SubS.nil

end Go.Proofs.Ytfmgpocbpbfalaa
