/-
  The walks.
-/
import Derived.Test.YtoebjajbmkdcfaaH8
namespace Go.Proofs.Ytoebjajbmkdcfaa
open Go Go.RowKit Go.H Go.D51



theorem bgn_in (s : Sess) (i : Nat) : bgn s ((i : Int) + 1) = i * s.size.toNat := by rw [bgn, show ((i : Int) + 1 - 1).toNat = i by omega]
theorem show_in {s : Sess} {l : List Lead} (hv : validS s) (hl : validL l) {i : Nat} (hi : i < nP s) : showE s ((i : Int) + 1) l = 0 ∧ showQ s ((i : Int) + 1) l = outK s l (i * s.size.toNat) (chunk s i).length := by
  obtain ⟨a, b⟩ := page_in hv hi
  obtain ⟨c, d⟩ := show_0 (l := l) ⟨hv, hl⟩ a
  exact ⟨c, by rw [d, b, bgn_in]⟩
theorem out_step {s : Sess} {l : List Lead} (h : 1 ≤ s.size) {i : Nat} (hi : i < nP s) : outK s l 0 (min (i * s.size.toNat) s.items.length) ++ outK s l (i * s.size.toNat) (chunk s i).length = outK s l 0 (min ((i + 1) * s.size.toNat) s.items.length) := by
  have h1 := (nP_iff h i).1 hi
  rw [Nat.min_eq_left (by omega), out_app, chunk_len, Nat.add_mul, Nat.one_mul]
  congr 1; omega
theorem out_all {s : Sess} (h : 1 ≤ s.size) : min (nP s * s.size.toNat) s.items.length = s.items.length := by
  have := mt (nP_iff h (nP s)).2 (by omega)
  omega
theorem out_row {s : Sess} {l : List Lead} {n k : Nat} (h : k < n) : ((outK s l 0 n).map eEn)[k]? = some (eEn (entryAt s l k)) := by
  have := out_get (s := s) (l := l) h
  rw [← this]
  exact row_get (by rw [outK_len]; exact h)
theorem ea_t {s : Sess} {l : List Lead} {i k : Nat} (h : earK s l i k = true) : earK s l i (k + 1) = true := by rw [earK, h, Bool.true_or]
theorem ea_d {s : Sess} {l : List Lead} {i k : Nat} (h : earK s l i k = false) (hn : (entryAt s l k).now = (entryAt s l i).now) : earK s l i (k + 1) = decide ((entryAt s l i).now ≠ 0) := by
  have e : nowF s l k = nowF s l i := hn
  rw [earK, h, Bool.false_or, decide_eq_true e, Bool.true_and]; rfl
theorem ea_z {s : Sess} {l : List Lead} {i k : Nat} (h : earK s l i k = false) (hn : ¬ (entryAt s l k).now = (entryAt s l i).now) : earK s l i (k + 1) = false := by
  have e : ¬ nowF s l k = nowF s l i := hn
  rw [earK, h, Bool.false_or, decide_eq_false e, Bool.false_and]

set_option maxRecDepth 8000 in
set_option maxHeartbeats 1600000 in
/-- bookplate/bookplatelaw51.SessionPages. -/
theorem sessionPages_h {l : List Hit} {size : Int} :
    Con Try.prog 5 [vL 2 (l.map eT), vI size] [] (vB true) [] := by
 obtain ⟨i63, hi63, hz63, hs63, hb63⟩ := hinf63
 refine Con.enterL (n := 125) Try.func5 rfl rfl rfl (fun τ w ok vs hin => ?_)
 have hl0 := hin.len (i := 0) rfl
 try rw [List.length_map] at hl0
 clear hin
 refine W.seq ?_
 refine W.region ?_
 refine SL.val (O.assign rfl rfl Taken.no) ?_
 refine SL.nil ?_
 refine E.to ?_
 refine W.seq ?_
 refine W.seq ?_
 refine W.region ?_
 refine SL.val (O.callp rfl rfl rfl (awake_h) .nil hcallOk11 rfl Taken.no) ?_
 refine SL.val (O.det (fun _ => G.R.not rfl) rfl Taken.no) ?_
 refine SL.nil ?_
 refine E.to ?_
 first | refine W.cond_d rfl (fun hc1 => ?_) (fun hc1 => ?_) | refine W.cond_nd rfl (fun hc1 => ?_) (fun hc1 => ?_) | refine W.cond rfl (fun hc1 => ?_) (fun hc1 => ?_)
 ·skip
  refine W.seq ?_
  refine W.region ?_
  refine SL.val (O.assign rfl rfl Taken.no) ?_
  refine SL.nil ?_
  refine E.to ?_
  refine W.ret ?_
  refine E.thr ?_
  refine E.fin (rs := [_]) (rn []) (.inl rfl) rfl (.cons (ResOne.tmp rfl) .nil) ?_ ?_ rfl (fixL_spec rfl)
  ·skip
   exact absurd hc1 (by decide)
  · exact SubS.nil
 ·skip
  refine W.skip ?_
  refine E.to ?_
  refine W.seq ?_
  refine W.seq ?_
  refine W.region ?_
  refine SL.val (O.move rfl rfl Taken.no) ?_
  refine SL.val (O.callp rfl rfl rfl (short_h (l := l)) (.cons (ArgOk.same rfl) .nil) hcallOk12 rfl Taken.no) ?_
  refine SL.val (O.det (fun _ => G.R.not rfl) rfl Taken.no) ?_
  refine SL.nil ?_
  refine E.to ?_
  first | refine W.cond_d rfl (fun hc2 => ?_) (fun hc2 => ?_) | refine W.cond_nd rfl (fun hc2 => ?_) (fun hc2 => ?_) | refine W.cond rfl (fun hc2 => ?_) (fun hc2 => ?_)
  ·skip
   refine W.seq ?_
   refine W.region ?_
   refine SL.val (O.assign rfl rfl Taken.no) ?_
   refine SL.nil ?_
   refine E.to ?_
   refine W.ret ?_
   refine E.thr ?_
   refine E.fin (rs := [_]) (rn []) (.inl rfl) rfl (.cons (ResOne.tmp rfl) .nil) ?_ ?_ rfl (fixL_spec rfl)
   ·skip
    rfl
   · exact SubS.nil
  ·skip
   refine W.skip ?_
   refine E.to ?_
   refine W.seq ?_
   refine W.region ?_
   refine SL.val (O.move rfl rfl Taken.no) ?_
   refine SL.val (O.move rfl rfl Taken.no) ?_
   refine SL.memS (O.call (rn []) [] rfl rfl rfl (start_h (l := l) (size := size) (by omega)) (.cons (ArgOk.same rfl) (.cons (ArgOk.same rfl) .nil)) SubS.nil rfl rfl rfl rfl rfl (.inl rfl) hcallOk13 (r' := .tup [.agg [.u _, .u _], .u _]) rfl rfl Taken.no) rfl rfl (S' := _) rfl ?_
   refine SL.val (O.move rfl rfl Taken.no) ?_
   refine SL.val (O.extract rfl rfl rfl Taken.no) ?_
   refine SL.val (O.extract rfl rfl rfl Taken.no) ?_
   refine SL.memS (O.alloc (z := .agg #[.int .i64 0, .slice none 0 0]) (is := [.u (.sc (.int .i64 0)), .u (.sc (.slice none 0 0))]) 101 (by kernel_rfl) rfl rfl rfl Taken.no) rfl rfl (S' := (101, _) :: _) rfl ?_
   refine SL.effS (O.st_ref (m := 2) rfl rfl rfl (js := [_, _]) rfl rfl (by kernel_rfl) (by simp) (Nat.le_of_ble_eq_true rfl) rfl (is' := [_, _]) rfl Taken.no) (S' := (101, _) :: _) rfl ?_
   refine SL.val (O.assign rfl rfl Taken.no) ?_
   refine SL.nil ?_
   refine E.to ?_
   refine W.seq ?_
   refine W.seq ?_
   refine W.region ?_
   refine SL.val (O.move rfl rfl Taken.no) ?_
   refine SL.val (O.det (fun _ => G.R.neq rfl rfl) rfl Taken.no) ?_
   refine SL.nil ?_
   refine E.to ?_
   first | refine W.cond_d rfl (fun hc3 => ?_) (fun hc3 => ?_) | refine W.cond_nd rfl (fun hc3 => ?_) (fun hc3 => ?_) | refine W.cond rfl (fun hc3 => ?_) (fun hc3 => ?_)
   ·skip
    refine W.seq ?_
    refine W.region ?_
    refine SL.val (O.assign rfl rfl Taken.no) ?_
    refine SL.nil ?_
    refine E.to ?_
    refine W.ret ?_
    refine E.thr ?_
    refine E.fin (rs := [_]) (rn []) (.inl rfl) rfl (.cons (ResOne.tmp rfl) .nil) ?_ ?_ rfl (fixL_spec rfl)
    ·skip
     rfl
    · exact SubS.nil
   ·skip
    have hv0 := start_ok (l := l) (size := size) (by omega)
    have hs := (start_0 hv0).2
    have hv : validS (startS l size) := by rw [hs]; exact hv0
    have hit : (startS l size).items = l := by rw [hs]
    have hz : (startS l size).size = size := by rw [hs]
    have hs1 := hv.1.1
    generalize startS l size = s at *
    refine W.skip ?_
    refine E.to ?_
    refine W.seq ?_
    refine W.region ?_
    refine SL.val (O.assign rfl rfl Taken.no) ?_
    refine SL.nil ?_
    refine E.to ?_
    refine W.seq ?_
    refine W.region ?_
    refine SL.val (O.ldN (m := 2) (PtI.ref rfl rfl) (js := [_, _]) rfl (Nat.le_of_ble_eq_true rfl) Try.underlying27 rfl (by kernel_rfl) rfl Taken.no) ?_
    refine SL.val (O.callp rfl rfl rfl (pagesN_h (s := s)) (.cons (ArgOk.aggU (.cons (ArgOk.same rfl) (.cons (ArgOk.same rfl) .nil))) .nil) hcallOk23 rfl Taken.no) ?_
    refine SL.as (i' := vI (nP s : Int)) 34 rfl (by rw [pagesN, if_pos hv]) ?_
    refine SL.val (O.assign rfl rfl Taken.no) ?_
    refine SL.nil ?_
    refine E.to ?_
    refine W.seq ?_
    refine W.seq ?_
    refine W.region ?_
    refine SL.val (O.assign rfl rfl Taken.no) ?_
    refine SL.nil ?_
    refine E.to ?_
    refine W.block ?_
    refine W.adopt 7 103 63 2 (by decide) rfl rfl rfl ?_
    refine W.loopx1 (fun (i : Nat) => [(9, vI ((i : Int) + 1)), (7, .own 102)]) (fun (i : Nat) => [(102, .data 63 2 ((s.items.take (i * s.size.toNat)).map eT))]) (fun (i : Nat) => i ≤ nP s) (fun (i : Nat) => nP s - i) (0) (rn [(102, 103)]) (.cons (t := 0) rfl (.cons (t := 1) rfl (.cons (t := 5) rfl (.cons (t := 8) rfl .nil)))) (.cons (t := 101) rfl .nil) rfl ?_ ?_ rfl rfl ?_ ?_
    · exact (SubF.cons rfl (SubF.cons rfl SubF.nil))
    · exact (SubS.val rfl (by exact sb_data (by rw [Nat.zero_mul]; rfl)) SubS.nil)
    ·skip
     omega
    intro i hinv
    have hi := hinv
    have htk : (s.items.take (i * s.size.toNat)).length ≤ s.items.length := by rw [List.length_take]; omega
    have hil : s.items.length ≤ 60 := by rw [hit]; omega
    have hnp := nP_le hs1
    have hcl60 := chunk_len s i
    refine W.seq ?_
    refine W.seq ?_
    refine W.region ?_
    refine SL.val (O.move rfl rfl Taken.no) ?_
    refine SL.val (O.move rfl rfl Taken.no) ?_
    refine SL.val (O.det (fun _ => G.R.leq rfl rfl) rfl Taken.no) ?_
    refine SL.nil ?_
    refine E.to ?_
    first | refine W.cond_d rfl (fun hc4 => ?_) (fun hc4 => ?_) | refine W.cond_nd rfl (fun hc4 => ?_) (fun hc4 => ?_) | refine W.cond rfl (fun hc4 => ?_) (fun hc4 => ?_)
    ·skip
     have hi2 : i < nP s := by omega
     have hcf := chunk_full hs1 hi2
     refine W.skip ?_
     refine E.to ?_
     refine W.seq ?_
     refine W.block ?_
     refine W.seq ?_
     refine W.region ?_
     refine SL.val (O.ldN (m := 2) (PtI.ref rfl rfl) (js := [_, _]) rfl (Nat.le_of_ble_eq_true rfl) Try.underlying27 rfl (by kernel_rfl) rfl Taken.no) ?_
     refine SL.val (O.move rfl rfl Taken.no) ?_
     refine SL.memS (O.call (rn []) [] rfl rfl rfl (page_h (s := s) ((i : Int) + 1)) (.cons (ArgOk.aggU (.cons (ArgOk.same rfl) (.cons (ArgOk.same rfl) .nil))) (.cons (ArgOk.same rfl) .nil)) SubS.nil rfl rfl rfl rfl rfl (.inl rfl) hcallOk15 (r' := .tup [.u _, .u _]) rfl rfl Taken.no) rfl rfl (S' := _) rfl ?_
     refine SL.as (i' := .tup [vL 2 ((chunk s i).map eT), vI 0]) 43 rfl (by rw [(page_in hv hi2).1, (page_in hv hi2).2]) ?_
     refine SL.val (O.move rfl rfl Taken.no) ?_
     refine SL.val (O.extract rfl rfl rfl Taken.no) ?_
     refine SL.val (O.extract rfl rfl rfl Taken.no) ?_
     refine SL.val (O.assign rfl rfl Taken.no) ?_
     refine SL.val (O.assign rfl rfl Taken.no) ?_
     refine SL.nil ?_
     refine E.to ?_
     refine W.seq ?_
     refine W.seq ?_
     refine W.region ?_
     refine SL.val (O.move rfl rfl Taken.no) ?_
     refine SL.val (O.det (fun _ => G.R.mv (G.R.neq rfl rfl) (congrArg Value.bool (decide_eq_false (by decide)))) rfl Taken.no) ?_
     refine SL.val (O.move rfl rfl Taken.no) ?_
     have hg5 : false = false := by decide
     refine SL.val (O.move rfl rfl (Taken.yes rfl rfl hg5)) ?_
     refine SL.val (O.lenE (n := (chunk s i).length) (SlOf.fz rfl (by decide)) (by rw [List.length_map]) Try.underlying22 rfl (Taken.yes rfl rfl hg5)) ?_
     refine SL.val (O.det (fun _ => G.R.mv (G.R.eql rfl rfl) (congrArg Value.bool (decide_eq_false (by omega)))) rfl (Taken.yes rfl rfl hg5)) ?_
     refine SL.val (O.pick_f rfl rfl rfl rfl Taken.no) ?_
     refine SL.val (O.move rfl rfl Taken.no) ?_
     have hg6 : false = false := by decide
     refine SL.val (O.move rfl rfl (Taken.yes rfl rfl hg6)) ?_
     refine SL.val (O.lenE (n := (chunk s i).length) (SlOf.fz rfl (by decide)) (by rw [List.length_map]) Try.underlying22 rfl (Taken.yes rfl rfl hg6)) ?_
     refine SL.val (O.move rfl rfl (Taken.yes rfl rfl hg6)) ?_
     refine SL.val (O.det (fun _ => G.R.mv (G.R.gtr rfl rfl) (congrArg Value.bool (decide_eq_false (by omega)))) rfl (Taken.yes rfl rfl hg6)) ?_
     refine SL.val (O.pick_f rfl rfl rfl rfl Taken.no) ?_
     refine SL.val (O.move rfl rfl Taken.no) ?_
     have hg7 : false = false := by decide
     refine SL.val (O.move rfl rfl (Taken.yes rfl rfl hg7)) ?_
     refine SL.val (O.move rfl rfl (Taken.yes rfl rfl hg7)) ?_
     refine SL.val (O.det (fun _ => G.R.lss rfl rfl) rfl (Taken.yes rfl rfl hg7)) ?_
     refine SL.val (O.move rfl rfl (Taken.yes rfl rfl hg7)) ?_
     refine SL.case (j := 17) (g := 63) (want := true) rfl rfl (fun hg8 => ?_) (fun hg8 => ?_)
     ·skip
      first | have hg8p := G.gA1 hg8 | have hg8p := G.gA2 hg8 | have hg8p := hg8
      have hcl := hcf.2.2 (by omega)
      refine SL.val (O.move rfl rfl (Taken.yes rfl rfl hg8)) ?_
      refine SL.val (O.lenE (n := (chunk s i).length) (SlOf.fz rfl (by decide)) (by rw [List.length_map]) Try.underlying22 rfl (Taken.yes rfl rfl hg8)) ?_
      refine SL.val (O.move rfl rfl (Taken.yes rfl rfl hg8)) ?_
      refine SL.val (O.det (fun _ => G.R.mv (G.R.neq rfl rfl) (congrArg Value.bool (decide_eq_false (by omega)))) rfl (Taken.yes rfl rfl hg8)) ?_
      refine SL.val (O.pick_t rfl hg8 rfl rfl (Taken.yes rfl rfl hg7)) ?_
      refine SL.val (O.pick_f rfl rfl rfl rfl Taken.no) ?_
      refine SL.nil ?_
      refine E.to ?_
      refine W.pick (.cons (t := 0) rfl (.cons (t := 1) rfl (.cons (t := 5) rfl (.cons (t := 7) rfl (.cons (t := 8) rfl (.cons (t := 9) rfl (.cons (t := 10) rfl (.cons (t := 69) rfl .nil)))))))) (.cons (t := 101) rfl (.cons (t := 102) rfl .nil)) ?_
      refine W.cond_f rfl ?_
      refine W.skip ?_
      refine E.to ?_
      refine W.seq ?_
      refine W.seq ?_
      refine W.region ?_
      refine SL.val (O.assign rfl rfl Taken.no) ?_
      refine SL.nil ?_
      refine E.to ?_
      refine W.block ?_
      refine W.loopx1 (fun (k : Nat) => [(12, vI (k : Int))]) (fun (k : Nat) => []) (fun (k : Nat) => k ≤ (chunk s i).length) (fun (k : Nat) => (chunk s i).length - k) (0) (rn []) (.cons (t := 0) rfl (.cons (t := 1) rfl (.cons (t := 5) rfl (.cons (t := 7) rfl (.cons (t := 8) rfl (.cons (t := 9) rfl (.cons (t := 10) rfl .nil))))))) (.cons (t := 101) rfl (.cons (t := 102) rfl .nil)) rfl ?_ ?_ rfl rfl ?_ ?_
      · exact (SubF.cons rfl SubF.nil)
      · exact SubS.nil
      ·skip
       omega
      intro k hinv
      have hk := hinv
      refine W.seq ?_
      refine W.seq ?_
      refine W.region ?_
      refine SL.val (O.move rfl rfl Taken.no) ?_
      refine SL.val (O.move rfl rfl Taken.no) ?_
      refine SL.val (O.lenE (n := (chunk s i).length) (SlOf.fz rfl (by decide)) (by rw [List.length_map]) Try.underlying22 rfl Taken.no) ?_
      refine SL.val (O.det (fun _ => G.R.lss rfl rfl) rfl Taken.no) ?_
      refine SL.nil ?_
      refine E.to ?_
      first | refine W.cond_d rfl (fun hc9 => ?_) (fun hc9 => ?_) | refine W.cond_nd rfl (fun hc9 => ?_) (fun hc9 => ?_) | refine W.cond rfl (fun hc9 => ?_) (fun hc9 => ?_)
      ·skip
       have hk2 : k < (chunk s i).length := by omega
       have hfi := find_in hv hi2 hk2
       refine W.skip ?_
       refine E.to ?_
       refine W.seq ?_
       refine W.block ?_
       refine W.seq ?_
       refine W.draw [⟨[101], [], []⟩, ⟨[], [], []⟩, ⟨[], [], []⟩, ⟨[], [], []⟩, ⟨[], [], []⟩, ⟨[], [], []⟩, ⟨[], [], []⟩, ⟨[], [], []⟩, ⟨[], [], []⟩, ⟨[], [], []⟩, ⟨[], [], []⟩, ⟨[], [], []⟩, ⟨[], [], []⟩, ⟨[], [], []⟩] rfl (by kernel_rfl) (by kernel_rfl) rfl rfl ?_
       refine WH.val (O.ldN (m := 2) (PtI.ref rfl rfl) (js := [_, _]) rfl (Nat.le_of_ble_eq_true rfl) Try.underlying27 rfl (by kernel_rfl) rfl Taken.no) rfl rfl ?_
       refine WH.val (O.move rfl rfl Taken.no) rfl rfl ?_
       refine WH.val (O.move rfl rfl Taken.no) rfl rfl ?_
       refine WH.val (O.idx_fz rfl rfl (rfl) (row_get (by omega)) Try.underlying22 hi63 hs63 rfl Taken.no) rfl rfl ?_
       refine WH.val (O.fld_fz rfl Try.underlying63 rfl (m := 0) (by kernel_rfl) rfl rfl Taken.no) rfl rfl ?_
       refine WH.val (O.ld1 (PtI.ofU (PtU.fz rfl)) rfl Try.underlying3 rfl rfl Taken.no) rfl rfl ?_
       refine WH.memS (OpOk.re (i' := .tup [vI ((i : Int) + 1), vI (k : Int), vI 0]) (O.call (rn []) [] rfl rfl rfl (find_h (s := s) (chunk s i)[k]!.id) (.cons (ArgOk.aggU (.cons (ArgOk.same rfl) (.cons (ArgOk.same rfl) .nil))) (.cons (ArgOk.same rfl) .nil)) SubS.nil rfl rfl rfl rfl rfl (.inl rfl) hcallOk18 (r' := .tup [.u _, .u _, .u _]) rfl rfl Taken.no) (by rw [hfi.1, hfi.2.1, hfi.2.2])) rfl rfl rfl rfl rfl (S' := _) rfl ?_
       refine WH.val (O.move rfl rfl Taken.no) rfl rfl ?_
       refine WH.val (O.extract rfl rfl rfl Taken.no) rfl rfl ?_
       refine WH.val (O.extract rfl rfl rfl Taken.no) rfl rfl ?_
       refine WH.val (O.extract rfl rfl rfl Taken.no) rfl rfl ?_
       refine WH.val (O.assign rfl rfl Taken.no) rfl rfl ?_
       refine WH.val (O.assign rfl rfl Taken.no) rfl rfl ?_
       refine WH.val (O.assign rfl rfl Taken.no) rfl rfl ?_
       refine WH.nil ?_
       refine E.to ?_
       refine W.pick (.cons (t := 0) rfl (.cons (t := 1) rfl (.cons (t := 5) rfl (.cons (t := 7) rfl (.cons (t := 8) rfl (.cons (t := 9) rfl (.cons (t := 10) rfl (.cons (t := 12) rfl (.cons (t := 13) rfl (.cons (t := 14) rfl (.cons (t := 15) rfl .nil))))))))))) (.cons (t := 101) rfl (.cons (t := 102) rfl .nil)) ?_
       refine W.seq ?_
       refine W.region ?_
       refine SL.val (O.move rfl rfl Taken.no) ?_
       refine SL.val (O.det (fun _ => G.R.mv (G.R.neq rfl rfl) (congrArg Value.bool (decide_eq_false (by decide)))) rfl Taken.no) ?_
       refine SL.val (O.move rfl rfl Taken.no) ?_
       have hg10 : false = false := by decide
       refine SL.val (O.move rfl rfl (Taken.yes rfl rfl hg10)) ?_
       refine SL.val (O.move rfl rfl (Taken.yes rfl rfl hg10)) ?_
       refine SL.val (O.det (fun _ => G.R.mv (G.R.neq rfl rfl) (congrArg Value.bool (decide_eq_false (by exact fun h => h rfl)))) rfl (Taken.yes rfl rfl hg10)) ?_
       refine SL.val (O.pick_f rfl rfl rfl rfl Taken.no) ?_
       refine SL.val (O.move rfl rfl Taken.no) ?_
       have hg11 : false = false := by decide
       refine SL.val (O.move rfl rfl (Taken.yes rfl rfl hg11)) ?_
       refine SL.val (O.move rfl rfl (Taken.yes rfl rfl hg11)) ?_
       refine SL.val (O.det (fun _ => G.R.mv (G.R.neq rfl rfl) (congrArg Value.bool (decide_eq_false (by exact fun h => h rfl)))) rfl (Taken.yes rfl rfl hg11)) ?_
       refine SL.val (O.pick_f rfl rfl rfl rfl Taken.no) ?_
       refine SL.nil ?_
       refine E.to ?_
       refine W.cond_f rfl ?_
       refine W.skip ?_
       refine E.inn ?_
       refine E.to ?_
       refine W.region ?_
       refine SL.val (O.move rfl rfl Taken.no) ?_
       refine SL.val (O.det (fun _ => by first | exact G.R.add64 rfl rfl (by omega) | exact G.R.add rfl rfl) rfl Taken.no) ?_
       refine SL.val (O.assign rfl rfl Taken.no) ?_
       refine SL.nil ?_
       refine E.again ((k + 1)) (rn []) ?_ ?_ rfl (fixL_spec rfl) ?_ ?_
       · exact (SubF.cons rfl (SubF.cons rfl (SubF.cons rfl (SubF.cons rfl (SubF.cons rfl (SubF.cons rfl (SubF.cons rfl (SubF.cons rfl SubF.nil))))))))
       · exact (SubS.cons rfl (SubS.cons rfl SubS.nil))
       ·try dsimp only
        omega
       · (try dsimp only); omega
      ·skip
       refine W.exit ?_
       refine E.th ?_
       refine E.th ?_
       refine E.hit ?_
       refine E.to ?_
       refine W.region ?_
       refine SL.val (O.move rfl rfl Taken.no) ?_
       refine SL.val (O.move rfl rfl Taken.no) ?_
       refine SL.memS (O.app (k' := 104) rfl rfl (SlOf.fz rfl (by decide)) Try.underlying22 hi63 hz63 hs63 rfl rfl (by show _ = (s.items.take ((i + 1) * s.size.toNat)).map eT; rw [← page_app, List.map_append]) (by rw [hb63]; first | omega | (simp only [List.length_map]; omega) | (simp <;> omega)) (by simp only [List.length_map]; omega) rfl Taken.no) rfl rfl (S' := (104, _) :: (102, .dead) :: _) rfl ?_
       refine SL.val (O.assign rfl rfl Taken.no) ?_
       refine SL.nil ?_
       refine E.inn ?_
       refine E.to ?_
       refine W.region ?_
       refine SL.val (O.move rfl rfl Taken.no) ?_
       refine SL.val (O.det (fun _ => by first | exact G.R.add64 rfl rfl (by omega) | exact G.R.add rfl rfl) rfl Taken.no) ?_
       refine SL.val (O.assign rfl rfl Taken.no) ?_
       refine SL.nil ?_
       refine E.again ((i + 1)) (rn [(102, 104)]) ?_ ?_ rfl (fixL_spec rfl) ?_ ?_
       · exact (SubF.cons rfl (SubF.cons rfl (SubF.cons rfl (SubF.cons rfl (SubF.cons rfl (SubF.cons rfl SubF.nil))))))
       · exact (SubS.cons rfl (SubS.cons rfl SubS.nil))
       ·try dsimp only
        omega
       · (try dsimp only); omega
     ·skip
      first | have hg8p := G.gA5 hg8 | have hg8p := G.gA6 hg8 | have hg8p := hg8
      refine SL.skip (OpOk.not rfl rfl rfl hg8) ?_
      refine SL.skip (OpOk.not rfl rfl rfl hg8) ?_
      refine SL.skip (OpOk.not rfl rfl rfl hg8) ?_
      refine SL.skip (OpOk.not rfl rfl rfl hg8) ?_
      refine SL.val (O.pick_f rfl (G.ne_t hg8) rfl rfl (Taken.yes rfl rfl hg7)) ?_
      refine SL.val (O.pick_f rfl rfl rfl rfl Taken.no) ?_
      refine SL.nil ?_
      refine E.to ?_
      refine W.pick (.cons (t := 0) rfl (.cons (t := 1) rfl (.cons (t := 5) rfl (.cons (t := 7) rfl (.cons (t := 8) rfl (.cons (t := 9) rfl (.cons (t := 10) rfl (.cons (t := 69) rfl .nil)))))))) (.cons (t := 101) rfl (.cons (t := 102) rfl .nil)) ?_
      refine W.cond_f rfl ?_
      refine W.skip ?_
      refine E.to ?_
      refine W.seq ?_
      refine W.seq ?_
      refine W.region ?_
      refine SL.val (O.assign rfl rfl Taken.no) ?_
      refine SL.nil ?_
      refine E.to ?_
      refine W.block ?_
      refine W.loopx1 (fun (k : Nat) => [(12, vI (k : Int))]) (fun (k : Nat) => []) (fun (k : Nat) => k ≤ (chunk s i).length) (fun (k : Nat) => (chunk s i).length - k) (0) (rn []) (.cons (t := 0) rfl (.cons (t := 1) rfl (.cons (t := 5) rfl (.cons (t := 7) rfl (.cons (t := 8) rfl (.cons (t := 9) rfl (.cons (t := 10) rfl .nil))))))) (.cons (t := 101) rfl (.cons (t := 102) rfl .nil)) rfl ?_ ?_ rfl rfl ?_ ?_
      · exact (SubF.cons rfl SubF.nil)
      · exact SubS.nil
      ·skip
       omega
      intro k hinv
      have hk := hinv
      refine W.seq ?_
      refine W.seq ?_
      refine W.region ?_
      refine SL.val (O.move rfl rfl Taken.no) ?_
      refine SL.val (O.move rfl rfl Taken.no) ?_
      refine SL.val (O.lenE (n := (chunk s i).length) (SlOf.fz rfl (by decide)) (by rw [List.length_map]) Try.underlying22 rfl Taken.no) ?_
      refine SL.val (O.det (fun _ => G.R.lss rfl rfl) rfl Taken.no) ?_
      refine SL.nil ?_
      refine E.to ?_
      first | refine W.cond_d rfl (fun hc12 => ?_) (fun hc12 => ?_) | refine W.cond_nd rfl (fun hc12 => ?_) (fun hc12 => ?_) | refine W.cond rfl (fun hc12 => ?_) (fun hc12 => ?_)
      ·skip
       have hk2 : k < (chunk s i).length := by omega
       have hfi := find_in hv hi2 hk2
       refine W.skip ?_
       refine E.to ?_
       refine W.seq ?_
       refine W.block ?_
       refine W.seq ?_
       refine W.draw [⟨[101], [], []⟩, ⟨[], [], []⟩, ⟨[], [], []⟩, ⟨[], [], []⟩, ⟨[], [], []⟩, ⟨[], [], []⟩, ⟨[], [], []⟩, ⟨[], [], []⟩, ⟨[], [], []⟩, ⟨[], [], []⟩, ⟨[], [], []⟩, ⟨[], [], []⟩, ⟨[], [], []⟩, ⟨[], [], []⟩] rfl (by kernel_rfl) (by kernel_rfl) rfl rfl ?_
       refine WH.val (O.ldN (m := 2) (PtI.ref rfl rfl) (js := [_, _]) rfl (Nat.le_of_ble_eq_true rfl) Try.underlying27 rfl (by kernel_rfl) rfl Taken.no) rfl rfl ?_
       refine WH.val (O.move rfl rfl Taken.no) rfl rfl ?_
       refine WH.val (O.move rfl rfl Taken.no) rfl rfl ?_
       refine WH.val (O.idx_fz rfl rfl (rfl) (row_get (by omega)) Try.underlying22 hi63 hs63 rfl Taken.no) rfl rfl ?_
       refine WH.val (O.fld_fz rfl Try.underlying63 rfl (m := 0) (by kernel_rfl) rfl rfl Taken.no) rfl rfl ?_
       refine WH.val (O.ld1 (PtI.ofU (PtU.fz rfl)) rfl Try.underlying3 rfl rfl Taken.no) rfl rfl ?_
       refine WH.memS (OpOk.re (i' := .tup [vI ((i : Int) + 1), vI (k : Int), vI 0]) (O.call (rn []) [] rfl rfl rfl (find_h (s := s) (chunk s i)[k]!.id) (.cons (ArgOk.aggU (.cons (ArgOk.same rfl) (.cons (ArgOk.same rfl) .nil))) (.cons (ArgOk.same rfl) .nil)) SubS.nil rfl rfl rfl rfl rfl (.inl rfl) hcallOk18 (r' := .tup [.u _, .u _, .u _]) rfl rfl Taken.no) (by rw [hfi.1, hfi.2.1, hfi.2.2])) rfl rfl rfl rfl rfl (S' := _) rfl ?_
       refine WH.val (O.move rfl rfl Taken.no) rfl rfl ?_
       refine WH.val (O.extract rfl rfl rfl Taken.no) rfl rfl ?_
       refine WH.val (O.extract rfl rfl rfl Taken.no) rfl rfl ?_
       refine WH.val (O.extract rfl rfl rfl Taken.no) rfl rfl ?_
       refine WH.val (O.assign rfl rfl Taken.no) rfl rfl ?_
       refine WH.val (O.assign rfl rfl Taken.no) rfl rfl ?_
       refine WH.val (O.assign rfl rfl Taken.no) rfl rfl ?_
       refine WH.nil ?_
       refine E.to ?_
       refine W.pick (.cons (t := 0) rfl (.cons (t := 1) rfl (.cons (t := 5) rfl (.cons (t := 7) rfl (.cons (t := 8) rfl (.cons (t := 9) rfl (.cons (t := 10) rfl (.cons (t := 12) rfl (.cons (t := 13) rfl (.cons (t := 14) rfl (.cons (t := 15) rfl .nil))))))))))) (.cons (t := 101) rfl (.cons (t := 102) rfl .nil)) ?_
       refine W.seq ?_
       refine W.region ?_
       refine SL.val (O.move rfl rfl Taken.no) ?_
       refine SL.val (O.det (fun _ => G.R.mv (G.R.neq rfl rfl) (congrArg Value.bool (decide_eq_false (by decide)))) rfl Taken.no) ?_
       refine SL.val (O.move rfl rfl Taken.no) ?_
       have hg13 : false = false := by decide
       refine SL.val (O.move rfl rfl (Taken.yes rfl rfl hg13)) ?_
       refine SL.val (O.move rfl rfl (Taken.yes rfl rfl hg13)) ?_
       refine SL.val (O.det (fun _ => G.R.mv (G.R.neq rfl rfl) (congrArg Value.bool (decide_eq_false (by exact fun h => h rfl)))) rfl (Taken.yes rfl rfl hg13)) ?_
       refine SL.val (O.pick_f rfl rfl rfl rfl Taken.no) ?_
       refine SL.val (O.move rfl rfl Taken.no) ?_
       have hg14 : false = false := by decide
       refine SL.val (O.move rfl rfl (Taken.yes rfl rfl hg14)) ?_
       refine SL.val (O.move rfl rfl (Taken.yes rfl rfl hg14)) ?_
       refine SL.val (O.det (fun _ => G.R.mv (G.R.neq rfl rfl) (congrArg Value.bool (decide_eq_false (by exact fun h => h rfl)))) rfl (Taken.yes rfl rfl hg14)) ?_
       refine SL.val (O.pick_f rfl rfl rfl rfl Taken.no) ?_
       refine SL.nil ?_
       refine E.to ?_
       refine W.cond_f rfl ?_
       refine W.skip ?_
       refine E.inn ?_
       refine E.to ?_
       refine W.region ?_
       refine SL.val (O.move rfl rfl Taken.no) ?_
       refine SL.val (O.det (fun _ => by first | exact G.R.add64 rfl rfl (by omega) | exact G.R.add rfl rfl) rfl Taken.no) ?_
       refine SL.val (O.assign rfl rfl Taken.no) ?_
       refine SL.nil ?_
       refine E.again ((k + 1)) (rn []) ?_ ?_ rfl (fixL_spec rfl) ?_ ?_
       · exact (SubF.cons rfl (SubF.cons rfl (SubF.cons rfl (SubF.cons rfl (SubF.cons rfl (SubF.cons rfl (SubF.cons rfl (SubF.cons rfl SubF.nil))))))))
       · exact (SubS.cons rfl (SubS.cons rfl SubS.nil))
       ·try dsimp only
        omega
       · (try dsimp only); omega
      ·skip
       refine W.exit ?_
       refine E.th ?_
       refine E.th ?_
       refine E.hit ?_
       refine E.to ?_
       refine W.region ?_
       refine SL.val (O.move rfl rfl Taken.no) ?_
       refine SL.val (O.move rfl rfl Taken.no) ?_
       refine SL.memS (O.app (k' := 105) rfl rfl (SlOf.fz rfl (by decide)) Try.underlying22 hi63 hz63 hs63 rfl rfl (by show _ = (s.items.take ((i + 1) * s.size.toNat)).map eT; rw [← page_app, List.map_append]) (by rw [hb63]; first | omega | (simp only [List.length_map]; omega) | (simp <;> omega)) (by simp only [List.length_map]; omega) rfl Taken.no) rfl rfl (S' := (105, _) :: (102, .dead) :: _) rfl ?_
       refine SL.val (O.assign rfl rfl Taken.no) ?_
       refine SL.nil ?_
       refine E.inn ?_
       refine E.to ?_
       refine W.region ?_
       refine SL.val (O.move rfl rfl Taken.no) ?_
       refine SL.val (O.det (fun _ => by first | exact G.R.add64 rfl rfl (by omega) | exact G.R.add rfl rfl) rfl Taken.no) ?_
       refine SL.val (O.assign rfl rfl Taken.no) ?_
       refine SL.nil ?_
       refine E.again ((i + 1)) (rn [(102, 105)]) ?_ ?_ rfl (fixL_spec rfl) ?_ ?_
       · exact (SubF.cons rfl (SubF.cons rfl (SubF.cons rfl (SubF.cons rfl (SubF.cons rfl (SubF.cons rfl SubF.nil))))))
       · exact (SubS.cons rfl (SubS.cons rfl SubS.nil))
       ·try dsimp only
        omega
       · (try dsimp only); omega
    ·skip
     refine W.exit ?_
     refine E.th ?_
     refine E.th ?_
     refine E.hit ?_
     refine E.to ?_
     refine W.seq ?_
     refine W.region ?_
     obtain rfl : i = nP s := by omega
     refine SL.val (O.ldN (m := 2) (PtI.ref rfl rfl) (js := [_, _]) rfl (Nat.le_of_ble_eq_true rfl) Try.underlying27 rfl (by kernel_rfl) rfl Taken.no) ?_
     refine SL.val (O.move rfl rfl Taken.no) ?_
     refine SL.val (O.det (fun _ => by first | exact G.R.add64 rfl rfl (by omega) | exact G.R.add rfl rfl) rfl Taken.no) ?_
     refine SL.memS (O.call (rn []) [] rfl rfl rfl (page_h (s := s) ((nP s : Int) + 1)) (.cons (ArgOk.aggU (.cons (ArgOk.same rfl) (.cons (ArgOk.same rfl) .nil))) (.cons (ArgOk.same rfl) .nil)) SubS.nil rfl rfl rfl rfl rfl (.inl rfl) hcallOk15 (r' := .tup [.u _, .u _]) rfl rfl Taken.no) rfl rfl (S' := _) rfl ?_
     refine SL.as (i' := .tup [vL 2 (([] : List Hit).map eT), vI 23]) 106 rfl (by rw [(page_23 hv (by omega)).1, (page_23 hv (by omega)).2]) ?_
     refine SL.val (O.move rfl rfl Taken.no) ?_
     refine SL.val (O.extract rfl rfl rfl Taken.no) ?_
     refine SL.val (O.extract rfl rfl rfl Taken.no) ?_
     refine SL.val (O.assign rfl rfl Taken.no) ?_
     refine SL.val (O.assign rfl rfl Taken.no) ?_
     refine SL.nil ?_
     refine E.to ?_
     refine W.seq ?_
     refine W.region ?_
     refine SL.val (O.ldN (m := 2) (PtI.ref rfl rfl) (js := [_, _]) rfl (Nat.le_of_ble_eq_true rfl) Try.underlying27 rfl (by kernel_rfl) rfl Taken.no) ?_
     refine SL.memS (O.call (rn []) [] rfl rfl rfl (page_h (s := s) 0) (.cons (ArgOk.aggU (.cons (ArgOk.same rfl) (.cons (ArgOk.same rfl) .nil))) (.cons (ArgOk.same rfl) .nil)) SubS.nil rfl rfl rfl rfl rfl (.inl rfl) hcallOk15 (r' := .tup [.u _, .u _]) rfl rfl Taken.no) rfl rfl (S' := _) rfl ?_
     refine SL.as (i' := .tup [vL 2 (([] : List Hit).map eT), vI 23]) 111 rfl (by rw [(page_23 hv (by omega)).1, (page_23 hv (by omega)).2]) ?_
     refine SL.val (O.move rfl rfl Taken.no) ?_
     refine SL.val (O.extract rfl rfl rfl Taken.no) ?_
     refine SL.val (O.extract rfl rfl rfl Taken.no) ?_
     refine SL.val (O.assign rfl rfl Taken.no) ?_
     refine SL.val (O.assign rfl rfl Taken.no) ?_
     refine SL.nil ?_
     refine E.to ?_
     refine W.pick (.cons (t := 0) rfl (.cons (t := 7) rfl (.cons (t := 17) rfl (.cons (t := 19) rfl .nil)))) (.cons (t := 101) rfl (.cons (t := 102) rfl .nil)) ?_
     refine W.seq ?_
     refine W.region ?_
     refine SL.val (O.move rfl rfl Taken.no) ?_
     refine SL.val (O.move rfl rfl Taken.no) ?_
     refine SL.memS (O.call (rn []) [102] rfl rfl rfl (sameHits_h (a := s.items.take (nP s * s.size.toNat)) (b := l)) (.cons (ArgOk.own rfl rfl) (.cons (ArgOk.same rfl) .nil)) SubS.nil rfl rfl rfl rfl rfl (.inr ⟨rfl, fun x hx => by simp at hx⟩) hcallOk25 (r' := .u _) rfl rfl Taken.no) rfl rfl (S' := _) rfl ?_
     refine SL.as (i' := vB true) 116 rfl (by exact iv_bool (dec_t (by rw [pages_all hs1, hit]))) ?_
     refine SL.val (O.move rfl rfl Taken.no) ?_
     have hg15 : true = true := by decide
     refine SL.val (O.move rfl rfl (Taken.yes rfl rfl hg15)) ?_
     refine SL.val (O.det (fun _ => G.R.mv (G.R.eql rfl rfl) (congrArg Value.bool (decide_eq_true (by decide)))) rfl (Taken.yes rfl rfl hg15)) ?_
     refine SL.val (O.pick_t rfl rfl rfl rfl Taken.no) ?_
     refine SL.val (O.move rfl rfl Taken.no) ?_
     have hg16 : true = true := by decide
     refine SL.val (O.move rfl rfl (Taken.yes rfl rfl hg16)) ?_
     refine SL.val (O.det (fun _ => G.R.mv (G.R.eql rfl rfl) (congrArg Value.bool (decide_eq_true (by decide)))) rfl (Taken.yes rfl rfl hg16)) ?_
     refine SL.val (O.pick_t rfl rfl rfl rfl Taken.no) ?_
     refine SL.val (O.assign rfl rfl Taken.no) ?_
     refine SL.nil ?_
     refine E.to ?_
     refine W.ret ?_
     refine E.fin (rs := [_]) (rn []) (.inl rfl) rfl (.cons (ResOne.tmp rfl) .nil) ?_ ?_ rfl (fixL_spec rfl)
     ·skip
      rfl
     · exact SubS.nil

set_option maxRecDepth 8000 in
set_option maxHeartbeats 1600000 in
/-- bookplate/bookplatelaw51.SessionLeads. -/
theorem sessionLeads_h {s : Sess} {l : List Lead} :
    Con Try.prog 6 [vA [uI s.size, .sl 2 (s.items.map eT)], vL 2 (l.map eLd)] [] (vB true) [] := by
 obtain ⟨i63, hi63, hz63, hs63, hb63⟩ := hinf63
 obtain ⟨i66, hi66, hz66, hs66, hb66⟩ := hinf66
 refine Con.enterL (n := 144) Try.func6 rfl rfl rfl (fun τ w ok vs hin => ?_)
 have hl0_1 := hin.lenA (i := 0) (j := 1) rfl rfl
 try rw [List.length_map] at hl0_1
 have hl1 := hin.len (i := 1) rfl
 try rw [List.length_map] at hl1
 clear hin
 refine W.seq ?_
 refine W.region ?_
 refine SL.memS (O.box (is := [_, _]) 101 rfl rfl (by simp) rfl rfl Taken.no) rfl rfl (S' := (101, _) :: _) rfl ?_
 refine SL.val (O.assign rfl rfl Taken.no) ?_
 refine SL.nil ?_
 refine E.to ?_
 refine W.seq ?_
 refine W.seq ?_
 refine W.region ?_
 refine SL.val (O.callp rfl rfl rfl (awake_h) .nil hcallOk11 rfl Taken.no) ?_
 refine SL.val (O.det (fun _ => G.R.not rfl) rfl Taken.no) ?_
 refine SL.nil ?_
 refine E.to ?_
 first | refine W.cond_d rfl (fun hc1 => ?_) (fun hc1 => ?_) | refine W.cond_nd rfl (fun hc1 => ?_) (fun hc1 => ?_) | refine W.cond rfl (fun hc1 => ?_) (fun hc1 => ?_)
 ·skip
  refine W.seq ?_
  refine W.region ?_
  refine SL.val (O.assign rfl rfl Taken.no) ?_
  refine SL.nil ?_
  refine E.to ?_
  refine W.ret ?_
  refine E.thr ?_
  refine E.fin (rs := [_]) (rn []) (.inl rfl) rfl (.cons (ResOne.tmp rfl) .nil) ?_ ?_ rfl (fixL_spec rfl)
  ·skip
   exact absurd hc1 (by decide)
  · exact SubS.nil
 ·skip
  refine W.skip ?_
  refine E.to ?_
  refine W.seq ?_
  refine W.seq ?_
  refine W.region ?_
  refine SL.val (O.fld_ref (o' := 1) rfl Try.underlying31 rfl (m := 0) (by kernel_rfl) rfl rfl Taken.no) ?_
  refine SL.val (O.ld1 (PtI.ref rfl rfl) rfl Try.underlying22 rfl rfl Taken.no) ?_
  refine SL.val (O.callp rfl rfl rfl (short_h (l := s.items)) (.cons (ArgOk.same rfl) .nil) hcallOk12 rfl Taken.no) ?_
  refine SL.val (O.det (fun _ => G.R.not rfl) rfl Taken.no) ?_
  refine SL.val (O.move rfl rfl Taken.no) ?_
  refine SL.case (j := 4) (g := 18) (want := false) rfl rfl (fun hg2 => ?_) (fun hg2 => ?_)
  ·skip
   first | have hg2p := G.gA3 hg2 | have hg2p := G.gA4 hg2 | have hg2p := hg2
   refine SL.val (O.move rfl rfl (Taken.yes rfl rfl hg2)) ?_
   refine SL.val (O.lenE (SlOf.fz rfl (by decide)) (by first | exact List.length_map _ | rfl) Try.underlying48 rfl (Taken.yes rfl rfl hg2)) ?_
   refine SL.val (O.det (fun _ => G.R.gtr rfl rfl) rfl (Taken.yes rfl rfl hg2)) ?_
   refine SL.val (O.pick_f rfl hg2 rfl rfl Taken.no) ?_
   refine SL.val (O.move rfl rfl Taken.no) ?_
   refine SL.case (j := 9) (g := 23) (want := false) rfl rfl (fun hg3 => ?_) (fun hg3 => ?_)
   ·skip
    first | have hg3p := G.gA3 hg3 | have hg3p := G.gA4 hg3 | have hg3p := hg3
    refine SL.val (O.ldN (m := 2) (PtI.ref rfl rfl) (js := [_, _]) rfl (Nat.le_of_ble_eq_true rfl) Try.underlying31 rfl (by kernel_rfl) rfl (Taken.yes rfl rfl hg3)) ?_
    refine SL.val (O.callp rfl rfl rfl (refValid_h (s := s)) (.cons (ArgOk.aggU (.cons (ArgOk.same rfl) (.cons (ArgOk.same rfl) .nil))) .nil) hcallOk22 rfl (Taken.yes rfl rfl hg3)) ?_
    refine SL.val (O.det (fun _ => G.R.not rfl) rfl (Taken.yes rfl rfl hg3)) ?_
    refine SL.val (O.pick_f rfl hg3 rfl rfl Taken.no) ?_
    refine SL.val (O.move rfl rfl Taken.no) ?_
    refine SL.case (j := 14) (g := 28) (want := false) rfl rfl (fun hg4 => ?_) (fun hg4 => ?_)
    ·skip
     first | have hg4p := G.gA3 hg4 | have hg4p := G.gA4 hg4 | have hg4p := hg4
     refine SL.val (O.move rfl rfl (Taken.yes rfl rfl hg4)) ?_
     refine SL.val (O.callp rfl rfl rfl (refValidLeads_h (l := l)) (.cons (ArgOk.same rfl) .nil) hcallOk32 rfl (Taken.yes rfl rfl hg4)) ?_
     refine SL.val (O.det (fun _ => G.R.not rfl) rfl (Taken.yes rfl rfl hg4)) ?_
     refine SL.val (O.pick_f rfl hg4 rfl rfl Taken.no) ?_
     refine SL.nil ?_
     refine E.to ?_
     refine W.pick (.cons (t := 1) rfl (.cons (t := 2) rfl (.cons (t := 4) rfl (.cons (t := 32) rfl .nil)))) (.cons (t := 101) rfl .nil) ?_
     first | refine W.cond_d rfl (fun hc5 => ?_) (fun hc5 => ?_) | refine W.cond_nd rfl (fun hc5 => ?_) (fun hc5 => ?_) | refine W.cond rfl (fun hc5 => ?_) (fun hc5 => ?_)
     ·skip
      refine W.seq ?_
      refine W.region ?_
      refine SL.val (O.assign rfl rfl Taken.no) ?_
      refine SL.nil ?_
      refine E.to ?_
      refine W.ret ?_
      refine E.thr ?_
      refine E.fin (rs := [_]) (rn []) (.inl rfl) rfl (.cons (ResOne.tmp rfl) .nil) ?_ ?_ rfl (fixL_spec rfl)
      ·skip
       rfl
      · exact SubS.nil
     ·skip
      have hv : validS s := by simp_all
      have hvl : validL l := by simp_all
      have hs1 := hv.1.1
      have hnp := nP_le hs1
      refine W.skip ?_
      refine E.to ?_
      refine W.seq ?_
      refine W.region ?_
      refine SL.val (O.assign rfl rfl Taken.no) ?_
      refine SL.nil ?_
      refine E.to ?_
      refine W.seq ?_
      refine W.seq ?_
      refine W.region ?_
      refine SL.val (O.assign rfl rfl Taken.no) ?_
      refine SL.nil ?_
      refine E.to ?_
      refine W.block ?_
      refine W.adopt 5 103 66 4 (by decide) rfl rfl rfl ?_
      refine W.loopx1 (fun (i : Nat) => [(6, vI ((i : Int) + 1)), (5, .own 102)]) (fun (i : Nat) => [(102, .data 66 4 ((outK s l 0 (min (i * s.size.toNat) s.items.length)).map eEn))]) (fun (i : Nat) => i ≤ nP s) (fun (i : Nat) => nP s - i) (0) (rn [(102, 103)]) (.cons (t := 1) rfl (.cons (t := 2) rfl .nil)) (.cons (t := 101) rfl .nil) rfl ?_ ?_ rfl rfl ?_ ?_
      · exact (SubF.cons rfl (SubF.cons rfl SubF.nil))
      · exact (SubS.val rfl (by exact sb_data (by rw [Nat.zero_mul, Nat.zero_min]; rfl)) SubS.nil)
      ·skip
       omega
      intro i hinv
      have hi := hinv
      have hol := outK_len s l 0 (min (i * s.size.toNat) s.items.length)
      refine W.seq ?_
      refine W.seq ?_
      refine W.region ?_
      refine SL.val (O.move rfl rfl Taken.no) ?_
      refine SL.val (O.ldN (m := 2) (PtI.ref rfl rfl) (js := [_, _]) rfl (Nat.le_of_ble_eq_true rfl) Try.underlying31 rfl (by kernel_rfl) rfl Taken.no) ?_
      refine SL.memS (O.call (rn []) [] rfl rfl rfl (ours_h) (.cons (ArgOk.aggU (.cons (ArgOk.same rfl) (.cons (ArgOk.same rfl) .nil))) .nil) SubS.nil rfl rfl rfl rfl rfl (.inl rfl) hcallOk16 (r' := .agg [.u _, .u _]) rfl rfl Taken.no) rfl rfl (S' := _) rfl ?_
      refine SL.val (O.callp rfl rfl rfl (pagesN_h (s := s)) (.cons (ArgOk.aggU (.cons (ArgOk.same rfl) (.cons (ArgOk.same rfl) .nil))) .nil) hcallOk23 rfl Taken.no) ?_
      refine SL.as (i' := vI (nP s : Int)) 36 rfl (by rw [pagesN, if_pos hv]) ?_
      refine SL.val (O.det (fun _ => G.R.leq rfl rfl) rfl Taken.no) ?_
      refine SL.nil ?_
      refine E.to ?_
      first | refine W.cond_d rfl (fun hc6 => ?_) (fun hc6 => ?_) | refine W.cond_nd rfl (fun hc6 => ?_) (fun hc6 => ?_) | refine W.cond rfl (fun hc6 => ?_) (fun hc6 => ?_)
      ·skip
       have hi2 : i < nP s := by omega
       have hcl := chunk_len s i
       have hol2 := outK_len s l (i * s.size.toNat) (chunk s i).length
       refine W.skip ?_
       refine E.to ?_
       refine W.seq ?_
       refine W.block ?_
       refine W.seq ?_
       refine W.region ?_
       refine SL.val (O.ldN (m := 2) (PtI.ref rfl rfl) (js := [_, _]) rfl (Nat.le_of_ble_eq_true rfl) Try.underlying31 rfl (by kernel_rfl) rfl Taken.no) ?_
       refine SL.memS (O.call (rn []) [] rfl rfl rfl (ours_h) (.cons (ArgOk.aggU (.cons (ArgOk.same rfl) (.cons (ArgOk.same rfl) .nil))) .nil) SubS.nil rfl rfl rfl rfl rfl (.inl rfl) hcallOk16 (r' := .agg [.u _, .u _]) rfl rfl Taken.no) rfl rfl (S' := _) rfl ?_
       refine SL.val (O.move rfl rfl Taken.no) ?_
       refine SL.val (O.move rfl rfl Taken.no) ?_
       refine SL.val (O.callp rfl rfl rfl (leads_h (by omega)) (.cons (ArgOk.same rfl) .nil) hcallOk27 rfl Taken.no) ?_
       refine SL.memS (O.call (rn []) [] rfl rfl rfl (show_h (s := s) (l := l) ((i : Int) + 1) (by omega)) (.cons (ArgOk.aggU (.cons (ArgOk.same rfl) (.cons (ArgOk.same rfl) .nil))) (.cons (ArgOk.same rfl) (.cons (ArgOk.same rfl) .nil))) SubS.nil rfl rfl rfl rfl rfl (.inl rfl) hcallOk26 (r' := .tup [.u _, .u _]) rfl rfl Taken.no) rfl rfl (S' := _) rfl ?_
       refine SL.as (i' := .tup [vL 4 ((outK s l (i * s.size.toNat) (chunk s i).length).map eEn), vI 0]) 46 rfl (by rw [(show_in hv hvl hi2).1, (show_in hv hvl hi2).2]) ?_
       refine SL.val (O.move rfl rfl Taken.no) ?_
       refine SL.val (O.extract rfl rfl rfl Taken.no) ?_
       refine SL.val (O.extract rfl rfl rfl Taken.no) ?_
       refine SL.val (O.assign rfl rfl Taken.no) ?_
       refine SL.val (O.assign rfl rfl Taken.no) ?_
       refine SL.nil ?_
       refine E.to ?_
       refine W.seq ?_
       refine W.seq ?_
       refine W.region ?_
       refine SL.val (O.move rfl rfl Taken.no) ?_
       refine SL.val (O.det (fun _ => G.R.mv (G.R.neq rfl rfl) (congrArg Value.bool (decide_eq_false (by decide)))) rfl Taken.no) ?_
       refine SL.nil ?_
       refine E.to ?_
       refine W.cond_f rfl ?_
       refine W.skip ?_
       refine E.to ?_
       refine W.region ?_
       refine SL.val (O.move rfl rfl Taken.no) ?_
       refine SL.val (O.move rfl rfl Taken.no) ?_
       refine SL.val (O.callp rfl rfl rfl (entries_h (l := outK s l (i * s.size.toNat) (chunk s i).length) (by omega)) (.cons (ArgOk.same rfl) .nil) hcallOk30 rfl Taken.no) ?_
       refine SL.memS (O.app (k' := 104) rfl rfl (SlOf.fz rfl (by decide)) Try.underlying54 hi66 hz66 hs66 rfl rfl (by show _ = (outK s l 0 (min ((i + 1) * s.size.toNat) s.items.length)).map eEn; rw [← out_step hs1 hi2, List.map_append]) (by rw [hb66]; first | omega | (simp only [List.length_map]; omega) | (simp <;> omega)) (by simp only [List.length_map]; omega) rfl Taken.no) rfl rfl (S' := (104, _) :: (102, .dead) :: _) rfl ?_
       refine SL.val (O.assign rfl rfl Taken.no) ?_
       refine SL.nil ?_
       refine E.inn ?_
       refine E.to ?_
       refine W.pick (.cons (t := 1) rfl (.cons (t := 2) rfl (.cons (t := 5) rfl (.cons (t := 6) rfl .nil)))) (.cons (t := 101) rfl (.cons (t := 104) rfl .nil)) ?_
       refine W.region ?_
       refine SL.val (O.move rfl rfl Taken.no) ?_
       refine SL.val (O.det (fun _ => by first | exact G.R.add64 rfl rfl (by omega) | exact G.R.add rfl rfl) rfl Taken.no) ?_
       refine SL.val (O.assign rfl rfl Taken.no) ?_
       refine SL.nil ?_
       refine E.again ((i + 1)) (rn [(102, 104)]) ?_ ?_ rfl (fixL_spec rfl) ?_ ?_
       · exact (SubF.cons rfl (SubF.cons rfl (SubF.cons rfl (SubF.cons rfl SubF.nil))))
       · exact (SubS.cons rfl (SubS.cons rfl SubS.nil))
       ·try dsimp only
        omega
       · (try dsimp only); omega
      ·skip
       refine W.exit ?_
       refine E.th ?_
       refine E.th ?_
       refine E.hit ?_
       refine E.to ?_
       refine W.seq ?_
       refine W.seq ?_
       refine W.region ?_
       obtain rfl : i = nP s := by omega
       rw [out_all hs1] at *
       refine SL.val (O.move rfl rfl Taken.no) ?_
       refine SL.val (O.lenE (n := s.items.length) (SlOf.own rfl rfl) (by rw [List.length_map, outK_len]) Try.underlying54 rfl Taken.no) ?_
       refine SL.val (O.fld_ref (o' := 1) rfl Try.underlying31 rfl (m := 0) (by kernel_rfl) rfl rfl Taken.no) ?_
       refine SL.val (O.ld1 (PtI.ref rfl rfl) rfl Try.underlying22 rfl rfl Taken.no) ?_
       refine SL.val (O.lenE (SlOf.fz rfl (by decide)) (by first | exact List.length_map _ | rfl) Try.underlying22 rfl Taken.no) ?_
       refine SL.val (O.det (fun _ => G.R.mv (G.R.neq rfl rfl) (congrArg Value.bool (decide_eq_false (by exact fun h => h rfl)))) rfl Taken.no) ?_
       refine SL.nil ?_
       refine E.to ?_
       refine W.cond_f rfl ?_
       refine W.skip ?_
       refine E.to ?_
       refine W.seq ?_
       refine W.seq ?_
       refine W.region ?_
       refine SL.val (O.assign rfl rfl Taken.no) ?_
       refine SL.nil ?_
       refine E.to ?_
       refine W.block ?_
       refine W.loopx1 (fun (k : Nat) => [(9, vI (k : Int))]) (fun (k : Nat) => []) (fun (k : Nat) => k ≤ s.items.length) (fun (k : Nat) => s.items.length - k) (0) (rn []) (.cons (t := 1) rfl (.cons (t := 2) rfl (.cons (t := 5) rfl .nil))) (.cons (t := 101) rfl (.cons (t := 102) rfl .nil)) rfl ?_ ?_ rfl rfl ?_ ?_
       · exact (SubF.cons rfl SubF.nil)
       · exact SubS.nil
       ·skip
        omega
       intro k hinv
       have hk := hinv
       refine W.seq ?_
       refine W.seq ?_
       refine W.region ?_
       refine SL.val (O.move rfl rfl Taken.no) ?_
       refine SL.val (O.move rfl rfl Taken.no) ?_
       refine SL.val (O.lenE (n := s.items.length) (SlOf.own rfl rfl) (by rw [List.length_map, outK_len]) Try.underlying54 rfl Taken.no) ?_
       refine SL.val (O.det (fun _ => G.R.lss rfl rfl) rfl Taken.no) ?_
       refine SL.nil ?_
       refine E.to ?_
       first | refine W.cond_d rfl (fun hc7 => ?_) (fun hc7 => ?_) | refine W.cond_nd rfl (fun hc7 => ?_) (fun hc7 => ?_) | refine W.cond rfl (fun hc7 => ?_) (fun hc7 => ?_)
       ·skip
        refine W.skip ?_
        refine E.to ?_
        refine W.seq ?_
        refine W.block ?_
        refine W.seq ?_
        refine W.region ?_
        refine SL.val (O.assign rfl rfl Taken.no) ?_
        refine SL.nil ?_
        refine E.to ?_
        refine W.seq ?_
        refine W.seq ?_
        refine W.region ?_
        refine SL.val (O.assign rfl rfl Taken.no) ?_
        refine SL.nil ?_
        refine E.to ?_
        refine W.block ?_
        refine W.loopx1 (fun (m : Nat) => [(11, vI (m : Int)), (10, vB (earK s l k m))]) (fun (m : Nat) => []) (fun (m : Nat) => m ≤ k) (fun (m : Nat) => k - m) (0) (rn []) (.cons (t := 1) rfl (.cons (t := 2) rfl (.cons (t := 5) rfl (.cons (t := 9) rfl .nil)))) (.cons (t := 101) rfl (.cons (t := 102) rfl .nil)) rfl ?_ ?_ rfl rfl ?_ ?_
        · exact (SubF.cons rfl (SubF.cons rfl SubF.nil))
        · exact SubS.nil
        ·skip
         omega
        intro m hinv
        have hm := hinv
        refine W.seq ?_
        refine W.seq ?_
        refine W.region ?_
        refine SL.val (O.move rfl rfl Taken.no) ?_
        refine SL.val (O.move rfl rfl Taken.no) ?_
        refine SL.val (O.det (fun _ => G.R.lss rfl rfl) rfl Taken.no) ?_
        refine SL.nil ?_
        refine E.to ?_
        first | refine W.cond_d rfl (fun hc8 => ?_) (fun hc8 => ?_) | refine W.cond_nd rfl (fun hc8 => ?_) (fun hc8 => ?_) | refine W.cond rfl (fun hc8 => ?_) (fun hc8 => ?_)
        ·skip
         refine W.skip ?_
         refine E.to ?_
         refine W.seq ?_
         refine W.block ?_
         refine W.draw [⟨[], [], []⟩, ⟨[], [], []⟩, ⟨[102], [], []⟩, ⟨[], [], []⟩, ⟨[102], [], []⟩, ⟨[102], [], []⟩, ⟨[102], [], []⟩, ⟨[102], [], []⟩, ⟨[], [], []⟩, ⟨[102], [], []⟩, ⟨[102], [], []⟩, ⟨[102], [], []⟩, ⟨[], [], []⟩, ⟨[], [], []⟩, ⟨[102], [], []⟩, ⟨[], [], []⟩, ⟨[102], [], []⟩, ⟨[102], [], []⟩, ⟨[102], [], []⟩, ⟨[], [], []⟩, ⟨[], [], []⟩, ⟨[], [], []⟩, ⟨[], [], []⟩] rfl (by kernel_rfl) (by kernel_rfl) rfl rfl ?_
         refine WH.val (O.move rfl rfl Taken.no) rfl rfl ?_
         refine WH.val (O.move rfl rfl Taken.no) rfl rfl ?_
         refine WH.case (j := 1) (g := 73) (want := false) rfl rfl (fun hg9 => ?_) (fun hg9 => ?_)
         ·skip
          first | have hg9p := G.gA3 hg9 | have hg9p := G.gA4 hg9 | have hg9p := hg9
          refine WH.val (O.move rfl rfl (Taken.yes rfl rfl hg9)) rfl rfl ?_
          refine WH.val (O.move rfl rfl (Taken.yes rfl rfl hg9)) rfl rfl ?_
          refine WH.val (O.idx_own (i := m) rfl rfl rfl (rfl) (by rw [List.length_map, outK_len]; omega) Try.underlying54 hi66 hs66 rfl (Taken.yes rfl rfl hg9)) rfl rfl ?_
          refine WH.val (O.fld_el (o' := 2) rfl Try.underlying66 rfl (m := 0) (by kernel_rfl) rfl rfl (Taken.yes rfl rfl hg9)) rfl rfl ?_
          refine WH.val (O.ld1 (PtI.ofU (PtU.el rfl rfl (out_row (show m < s.items.length by omega)))) rfl Try.underlying3 rfl rfl (Taken.yes rfl rfl hg9)) rfl rfl ?_
          refine WH.val (O.move rfl rfl (Taken.yes rfl rfl hg9)) rfl rfl ?_
          refine WH.val (O.move rfl rfl (Taken.yes rfl rfl hg9)) rfl rfl ?_
          refine WH.val (O.idx_own (i := k) rfl rfl rfl (rfl) (by rw [List.length_map, outK_len]; omega) Try.underlying54 hi66 hs66 rfl (Taken.yes rfl rfl hg9)) rfl rfl ?_
          refine WH.val (O.fld_el (o' := 2) rfl Try.underlying66 rfl (m := 0) (by kernel_rfl) rfl rfl (Taken.yes rfl rfl hg9)) rfl rfl ?_
          refine WH.val (O.ld1 (PtI.ofU (PtU.el rfl rfl (out_row (show k < s.items.length by omega)))) rfl Try.underlying3 rfl rfl (Taken.yes rfl rfl hg9)) rfl rfl ?_
          refine WH.val (O.det (fun _ => G.R.eql rfl rfl) rfl (Taken.yes rfl rfl hg9)) rfl rfl ?_
          refine WH.val (O.move rfl rfl (Taken.yes rfl rfl hg9)) rfl rfl ?_
          refine WH.case (j := 13) (g := 85) (want := true) rfl rfl (fun hg10 => ?_) (fun hg10 => ?_)
          ·skip
           first | have hg10p := G.gA1 hg10 | have hg10p := G.gA2 hg10 | have hg10p := hg10
           refine WH.val (O.move rfl rfl (Taken.yes rfl rfl hg10)) rfl rfl ?_
           refine WH.val (O.move rfl rfl (Taken.yes rfl rfl hg10)) rfl rfl ?_
           refine WH.val (O.idx_own (i := k) rfl rfl rfl (rfl) (by rw [List.length_map, outK_len]; omega) Try.underlying54 hi66 hs66 rfl (Taken.yes rfl rfl hg10)) rfl rfl ?_
           refine WH.val (O.fld_el (o' := 2) rfl Try.underlying66 rfl (m := 0) (by kernel_rfl) rfl rfl (Taken.yes rfl rfl hg10)) rfl rfl ?_
           refine WH.val (O.ld1 (PtI.ofU (PtU.el rfl rfl (out_row (show k < s.items.length by omega)))) rfl Try.underlying3 rfl rfl (Taken.yes rfl rfl hg10)) rfl rfl ?_
           refine WH.val (O.det (fun _ => G.R.neq rfl rfl) rfl (Taken.yes rfl rfl hg10)) rfl rfl ?_
           refine WH.val (O.pick_t rfl hg10 rfl rfl (Taken.yes rfl rfl hg9)) rfl rfl ?_
           refine WH.val (O.pick_f rfl hg9 rfl rfl Taken.no) rfl rfl ?_
           refine WH.val (O.assign rfl rfl Taken.no) rfl rfl ?_
           refine WH.nil ?_
           refine E.inn ?_
           refine E.to ?_
           refine W.pick (.cons (t := 1) rfl (.cons (t := 2) rfl (.cons (t := 5) rfl (.cons (t := 9) rfl (.cons (t := 10) rfl (.cons (t := 11) rfl .nil)))))) (.cons (t := 101) rfl (.cons (t := 102) rfl .nil)) ?_
           refine W.region ?_
           refine SL.val (O.move rfl rfl Taken.no) ?_
           refine SL.val (O.det (fun _ => by first | exact G.R.add64 rfl rfl (by omega) | exact G.R.add rfl rfl) rfl Taken.no) ?_
           refine SL.val (O.assign rfl rfl Taken.no) ?_
           refine SL.nil ?_
           refine E.again ((m + 1)) (rn []) ?_ ?_ rfl (fixL_spec rfl) ?_ ?_
           · exact (SubF.cons rfl (SubF.val rfl (by (try dsimp only); first | exact iv_bool (ea_t (by simp_all)) | exact iv_bool (ea_d (by simp_all) (by simp_all)) | exact iv_bool (ea_z (by simp_all) (by simp_all)) | exact (iv_bool (ea_t (by simp_all))).symm | exact (iv_bool (ea_d (by simp_all) (by simp_all))).symm | exact (iv_bool (ea_z (by simp_all) (by simp_all))).symm) (SubF.cons rfl (SubF.cons rfl (SubF.cons rfl (SubF.cons rfl SubF.nil))))))
           · exact (SubS.cons rfl (SubS.cons rfl SubS.nil))
           ·try dsimp only
            omega
           · (try dsimp only); omega
          ·skip
           first | have hg10p := G.gA5 hg10 | have hg10p := G.gA6 hg10 | have hg10p := hg10
           refine WH.skip (OpOk.not rfl rfl rfl hg10) ?_
           refine WH.skip (OpOk.not rfl rfl rfl hg10) ?_
           refine WH.skip (OpOk.not rfl rfl rfl hg10) ?_
           refine WH.skip (OpOk.not rfl rfl rfl hg10) ?_
           refine WH.skip (OpOk.not rfl rfl rfl hg10) ?_
           refine WH.skip (OpOk.not rfl rfl rfl hg10) ?_
           refine WH.val (O.pick_f rfl (G.ne_t hg10) rfl rfl (Taken.yes rfl rfl hg9)) rfl rfl ?_
           refine WH.val (O.pick_f rfl hg9 rfl rfl Taken.no) rfl rfl ?_
           refine WH.val (O.assign rfl rfl Taken.no) rfl rfl ?_
           refine WH.nil ?_
           refine E.inn ?_
           refine E.to ?_
           refine W.pick (.cons (t := 1) rfl (.cons (t := 2) rfl (.cons (t := 5) rfl (.cons (t := 9) rfl (.cons (t := 10) rfl (.cons (t := 11) rfl .nil)))))) (.cons (t := 101) rfl (.cons (t := 102) rfl .nil)) ?_
           refine W.region ?_
           refine SL.val (O.move rfl rfl Taken.no) ?_
           refine SL.val (O.det (fun _ => by first | exact G.R.add64 rfl rfl (by omega) | exact G.R.add rfl rfl) rfl Taken.no) ?_
           refine SL.val (O.assign rfl rfl Taken.no) ?_
           refine SL.nil ?_
           refine E.again ((m + 1)) (rn []) ?_ ?_ rfl (fixL_spec rfl) ?_ ?_
           · exact (SubF.cons rfl (SubF.val rfl (by (try dsimp only); first | exact iv_bool (ea_t (by simp_all)) | exact iv_bool (ea_d (by simp_all) (by simp_all)) | exact iv_bool (ea_z (by simp_all) (by simp_all)) | exact (iv_bool (ea_t (by simp_all))).symm | exact (iv_bool (ea_d (by simp_all) (by simp_all))).symm | exact (iv_bool (ea_z (by simp_all) (by simp_all))).symm) (SubF.cons rfl (SubF.cons rfl (SubF.cons rfl (SubF.cons rfl SubF.nil))))))
           · exact (SubS.cons rfl (SubS.cons rfl SubS.nil))
           ·try dsimp only
            omega
           · (try dsimp only); omega
         ·skip
          first | have hg9p := G.gA7 hg9 | have hg9p := G.gA8 hg9 | have hg9p := hg9
          refine WH.skip (OpOk.not rfl rfl rfl hg9) ?_
          refine WH.skip (OpOk.not rfl rfl rfl hg9) ?_
          refine WH.skip (OpOk.not rfl rfl rfl hg9) ?_
          refine WH.skip (OpOk.not rfl rfl rfl hg9) ?_
          refine WH.skip (OpOk.not rfl rfl rfl hg9) ?_
          refine WH.skip (OpOk.not rfl rfl rfl hg9) ?_
          refine WH.skip (OpOk.not rfl rfl rfl hg9) ?_
          refine WH.skip (OpOk.not rfl rfl rfl hg9) ?_
          refine WH.skip (OpOk.not rfl rfl rfl hg9) ?_
          refine WH.skip (OpOk.not rfl rfl rfl hg9) ?_
          refine WH.skip (OpOk.not rfl rfl rfl hg9) ?_
          refine WH.skip (OpOk.not rfl rfl rfl hg9) ?_
          refine WH.skip (OpOk.not2 rfl rfl rfl) ?_
          refine WH.skip (OpOk.not2 rfl rfl rfl) ?_
          refine WH.skip (OpOk.not2 rfl rfl rfl) ?_
          refine WH.skip (OpOk.not2 rfl rfl rfl) ?_
          refine WH.skip (OpOk.not2 rfl rfl rfl) ?_
          refine WH.skip (OpOk.not2 rfl rfl rfl) ?_
          refine WH.skip (OpOk.not rfl rfl rfl hg9) ?_
          refine WH.val (O.pick_t rfl (G.ne_f hg9) rfl rfl Taken.no) rfl rfl ?_
          refine WH.val (O.assign rfl rfl Taken.no) rfl rfl ?_
          refine WH.nil ?_
          refine E.inn ?_
          refine E.to ?_
          refine W.pick (.cons (t := 1) rfl (.cons (t := 2) rfl (.cons (t := 5) rfl (.cons (t := 9) rfl (.cons (t := 10) rfl (.cons (t := 11) rfl .nil)))))) (.cons (t := 101) rfl (.cons (t := 102) rfl .nil)) ?_
          refine W.region ?_
          refine SL.val (O.move rfl rfl Taken.no) ?_
          refine SL.val (O.det (fun _ => by first | exact G.R.add64 rfl rfl (by omega) | exact G.R.add rfl rfl) rfl Taken.no) ?_
          refine SL.val (O.assign rfl rfl Taken.no) ?_
          refine SL.nil ?_
          refine E.again ((m + 1)) (rn []) ?_ ?_ rfl (fixL_spec rfl) ?_ ?_
          · exact (SubF.cons rfl (SubF.val rfl (by (try dsimp only); first | exact iv_bool (ea_t (by simp_all)) | exact iv_bool (ea_d (by simp_all) (by simp_all)) | exact iv_bool (ea_z (by simp_all) (by simp_all)) | exact (iv_bool (ea_t (by simp_all))).symm | exact (iv_bool (ea_d (by simp_all) (by simp_all))).symm | exact (iv_bool (ea_z (by simp_all) (by simp_all))).symm) (SubF.cons rfl (SubF.cons rfl (SubF.cons rfl (SubF.cons rfl SubF.nil))))))
          · exact (SubS.cons rfl (SubS.cons rfl SubS.nil))
          ·try dsimp only
           omega
          · (try dsimp only); omega
        ·skip
         refine W.exit ?_
         refine E.th ?_
         refine E.th ?_
         refine E.hit ?_
         refine E.to ?_
         refine W.seq ?_
         refine W.draw [⟨[102], [], []⟩, ⟨[], [], []⟩, ⟨[102], [], []⟩, ⟨[102], [], []⟩, ⟨[102], [], []⟩, ⟨[101], [], []⟩, ⟨[101], [], []⟩, ⟨[], [], []⟩, ⟨[], [], []⟩, ⟨[], [], []⟩, ⟨[], [], []⟩, ⟨[], [], []⟩, ⟨[], [], []⟩, ⟨[102], [], []⟩, ⟨[], [], []⟩, ⟨[102], [], []⟩, ⟨[102], [], []⟩, ⟨[102], [], []⟩, ⟨[101], [], []⟩, ⟨[101], [], []⟩, ⟨[], [], []⟩, ⟨[], [], []⟩, ⟨[], [], []⟩, ⟨[], [], []⟩, ⟨[], [], []⟩, ⟨[], [], []⟩, ⟨[], [], []⟩, ⟨[102], [], []⟩, ⟨[], [], []⟩, ⟨[102], [], []⟩, ⟨[102], [], []⟩, ⟨[102], [], []⟩, ⟨[], [], []⟩, ⟨[102], [], []⟩, ⟨[], [], []⟩, ⟨[102], [], []⟩, ⟨[102], [], []⟩, ⟨[102], [], []⟩, ⟨[], [], []⟩, ⟨[], [], []⟩, ⟨[], [], []⟩, ⟨[], [], []⟩, ⟨[102], [], []⟩, ⟨[], [], []⟩, ⟨[102], [], []⟩, ⟨[102], [], []⟩, ⟨[102], [], []⟩, ⟨[], [], []⟩, ⟨[], [], []⟩, ⟨[], [], []⟩] rfl (by kernel_rfl) (by kernel_rfl) rfl rfl ?_
         refine WH.val (O.move rfl rfl Taken.no) rfl rfl ?_
         refine WH.val (O.move rfl rfl Taken.no) rfl rfl ?_
         refine WH.val (O.idx_own (i := k) rfl rfl rfl (rfl) (by rw [List.length_map, outK_len]; omega) Try.underlying54 hi66 hs66 rfl Taken.no) rfl rfl ?_
         refine WH.val (O.fld_el (o' := 0) rfl Try.underlying66 rfl (m := 0) (by kernel_rfl) rfl rfl Taken.no) rfl rfl ?_
         refine WH.val (O.ld1 (PtI.ofU (PtU.el rfl rfl (out_row (show k < s.items.length by omega)))) rfl Try.underlying3 rfl rfl Taken.no) rfl rfl ?_
         refine WH.val (O.fld_ref (o' := 1) rfl Try.underlying31 rfl (m := 0) (by kernel_rfl) rfl rfl Taken.no) rfl rfl ?_
         refine WH.val (O.ld1 (PtI.ref rfl rfl) rfl Try.underlying22 rfl rfl Taken.no) rfl rfl ?_
         refine WH.val (O.move rfl rfl Taken.no) rfl rfl ?_
         refine WH.val (O.idx_fz rfl rfl (rfl) (row_get (by omega)) Try.underlying22 hi63 hs63 rfl Taken.no) rfl rfl ?_
         refine WH.val (O.fld_fz rfl Try.underlying63 rfl (m := 0) (by kernel_rfl) rfl rfl Taken.no) rfl rfl ?_
         refine WH.val (O.ld1 (PtI.ofU (PtU.fz rfl)) rfl Try.underlying3 rfl rfl Taken.no) rfl rfl ?_
         refine WH.val (O.det (fun _ => G.R.mv (G.R.neq rfl rfl) (congrArg Value.bool (decide_eq_false (by exact fun h => h rfl)))) rfl Taken.no) rfl rfl ?_
         refine WH.val (O.move rfl rfl Taken.no) rfl rfl ?_
         have hg11 : false = false := by decide
         refine WH.val (O.move rfl rfl (Taken.yes rfl rfl hg11)) rfl rfl ?_
         refine WH.val (O.move rfl rfl (Taken.yes rfl rfl hg11)) rfl rfl ?_
         refine WH.val (O.idx_own (i := k) rfl rfl rfl (rfl) (by rw [List.length_map, outK_len]; omega) Try.underlying54 hi66 hs66 rfl (Taken.yes rfl rfl hg11)) rfl rfl ?_
         refine WH.val (O.fld_el (o' := 1) rfl Try.underlying66 rfl (m := 0) (by kernel_rfl) rfl rfl (Taken.yes rfl rfl hg11)) rfl rfl ?_
         refine WH.val (O.ld1 (PtI.ofU (PtU.el rfl rfl (out_row (show k < s.items.length by omega)))) rfl Try.underlying3 rfl rfl (Taken.yes rfl rfl hg11)) rfl rfl ?_
         refine WH.val (O.fld_ref (o' := 1) rfl Try.underlying31 rfl (m := 0) (by kernel_rfl) rfl rfl (Taken.yes rfl rfl hg11)) rfl rfl ?_
         refine WH.val (O.ld1 (PtI.ref rfl rfl) rfl Try.underlying22 rfl rfl (Taken.yes rfl rfl hg11)) rfl rfl ?_
         refine WH.val (O.move rfl rfl (Taken.yes rfl rfl hg11)) rfl rfl ?_
         refine WH.val (O.idx_fz rfl rfl (rfl) (row_get (by omega)) Try.underlying22 hi63 hs63 rfl (Taken.yes rfl rfl hg11)) rfl rfl ?_
         refine WH.val (O.fld_fz rfl Try.underlying63 rfl (m := 0) (by kernel_rfl) rfl rfl (Taken.yes rfl rfl hg11)) rfl rfl ?_
         refine WH.val (O.ld1 (PtI.ofU (PtU.fz rfl)) rfl Try.underlying3 rfl rfl (Taken.yes rfl rfl hg11)) rfl rfl ?_
         refine WH.val (O.det (fun _ => G.R.mv (G.R.neq rfl rfl) (congrArg Value.bool (decide_eq_false (by exact fun h => h rfl)))) rfl (Taken.yes rfl rfl hg11)) rfl rfl ?_
         refine WH.val (O.pick_f rfl rfl rfl rfl Taken.no) rfl rfl ?_
         refine WH.val (O.move rfl rfl Taken.no) rfl rfl ?_
         have hg12 : false = false := by decide
         refine WH.val (O.move rfl rfl (Taken.yes rfl rfl hg12)) rfl rfl ?_
         refine WH.val (O.move rfl rfl (Taken.yes rfl rfl hg12)) rfl rfl ?_
         refine WH.val (O.idx_own (i := k) rfl rfl rfl (rfl) (by rw [List.length_map, outK_len]; omega) Try.underlying54 hi66 hs66 rfl (Taken.yes rfl rfl hg12)) rfl rfl ?_
         refine WH.val (O.fld_el (o' := 2) rfl Try.underlying66 rfl (m := 0) (by kernel_rfl) rfl rfl (Taken.yes rfl rfl hg12)) rfl rfl ?_
         refine WH.val (O.ld1 (PtI.ofU (PtU.el rfl rfl (out_row (show k < s.items.length by omega)))) rfl Try.underlying3 rfl rfl (Taken.yes rfl rfl hg12)) rfl rfl ?_
         refine WH.val (O.move rfl rfl (Taken.yes rfl rfl hg12)) rfl rfl ?_
         refine WH.val (O.move rfl rfl (Taken.yes rfl rfl hg12)) rfl rfl ?_
         refine WH.val (O.move rfl rfl (Taken.yes rfl rfl hg12)) rfl rfl ?_
         refine WH.val (O.idx_own (i := k) rfl rfl rfl (rfl) (by rw [List.length_map, outK_len]; omega) Try.underlying54 hi66 hs66 rfl (Taken.yes rfl rfl hg12)) rfl rfl ?_
         refine WH.val (O.fld_el (o' := 0) rfl Try.underlying66 rfl (m := 0) (by kernel_rfl) rfl rfl (Taken.yes rfl rfl hg12)) rfl rfl ?_
         refine WH.val (O.ld1 (PtI.ofU (PtU.el rfl rfl (out_row (show k < s.items.length by omega)))) rfl Try.underlying3 rfl rfl (Taken.yes rfl rfl hg12)) rfl rfl ?_
         refine WH.val (O.callp rfl rfl rfl (refLeads_h (l := l) (id := (entryAt s l k).id)) (.cons (ArgOk.same rfl) (.cons (ArgOk.same rfl) .nil)) hcallOk33 rfl (Taken.yes rfl rfl hg12)) rfl rfl ?_
         refine WH.val (O.det (fun _ => G.R.mv (G.R.neq rfl rfl) (congrArg Value.bool (decide_eq_false (by exact fun h => h rfl)))) rfl (Taken.yes rfl rfl hg12)) rfl rfl ?_
         refine WH.val (O.pick_f rfl rfl rfl rfl Taken.no) rfl rfl ?_
         refine WH.val (O.move rfl rfl Taken.no) rfl rfl ?_
         have hg13 : false = false := by decide
         refine WH.val (O.move rfl rfl (Taken.yes rfl rfl hg13)) rfl rfl ?_
         refine WH.val (O.move rfl rfl (Taken.yes rfl rfl hg13)) rfl rfl ?_
         refine WH.val (O.idx_own (i := k) rfl rfl rfl (rfl) (by rw [List.length_map, outK_len]; omega) Try.underlying54 hi66 hs66 rfl (Taken.yes rfl rfl hg13)) rfl rfl ?_
         refine WH.val (O.fld_el (o' := 3) rfl Try.underlying66 rfl (m := 0) (by kernel_rfl) rfl rfl (Taken.yes rfl rfl hg13)) rfl rfl ?_
         refine WH.val (O.ld1 (PtI.ofU (PtU.el rfl rfl (out_row (show k < s.items.length by omega)))) rfl Try.underlying4 rfl rfl (Taken.yes rfl rfl hg13)) rfl rfl ?_
         refine WH.val (O.move rfl rfl (Taken.yes rfl rfl hg13)) rfl rfl ?_
         have hbn : (!((entryAt s l k).again == earK s l k m)) = false := by obtain rfl : m = k := (by omega); rw [earK_all]; show (!(againB s l m == againB s l m)) = false; simp
         refine WH.val (O.det (fun _ => G.R.mv (G.R.boolneq rfl rfl Try.underlying4) (congrArg Value.bool hbn)) rfl (Taken.yes rfl rfl hg13)) rfl rfl ?_
         refine WH.val (O.pick_f rfl rfl rfl rfl Taken.no) rfl rfl ?_
         refine WH.nil ?_
         refine E.to ?_
         refine W.pick (.cons (t := 1) rfl (.cons (t := 2) rfl (.cons (t := 5) rfl (.cons (t := 9) rfl (.cons (t := 143) rfl .nil))))) (.cons (t := 101) rfl (.cons (t := 102) rfl .nil)) ?_
         refine W.cond_f rfl ?_
         refine W.skip ?_
         refine E.inn ?_
         refine E.to ?_
         refine W.region ?_
         refine SL.val (O.move rfl rfl Taken.no) ?_
         refine SL.val (O.det (fun _ => by first | exact G.R.add64 rfl rfl (by omega) | exact G.R.add rfl rfl) rfl Taken.no) ?_
         refine SL.val (O.assign rfl rfl Taken.no) ?_
         refine SL.nil ?_
         refine E.again ((k + 1)) (rn []) ?_ ?_ rfl (fixL_spec rfl) ?_ ?_
         · exact (SubF.cons rfl (SubF.cons rfl (SubF.cons rfl (SubF.cons rfl SubF.nil))))
         · exact (SubS.cons rfl (SubS.cons rfl SubS.nil))
         ·try dsimp only
          omega
         · (try dsimp only); omega
       ·skip
        refine W.exit ?_
        refine E.th ?_
        refine E.th ?_
        refine E.hit ?_
        refine E.to ?_
        refine W.seq ?_
        refine W.region ?_
        refine SL.val (O.assign rfl rfl Taken.no) ?_
        refine SL.nil ?_
        refine E.to ?_
        refine W.ret ?_
        refine E.fin (rs := [_]) (rn []) (.inl rfl) rfl (.cons (ResOne.tmp rfl) .nil) ?_ ?_ rfl (fixL_spec rfl)
        ·skip
         rfl
        · exact SubS.nil
    ·skip
     first | have hg4p := G.gA7 hg4 | have hg4p := G.gA8 hg4 | have hg4p := hg4
     refine SL.skip (OpOk.not rfl rfl rfl hg4) ?_
     refine SL.skip (OpOk.not rfl rfl rfl hg4) ?_
     refine SL.skip (OpOk.not rfl rfl rfl hg4) ?_
     refine SL.val (O.pick_t rfl (G.ne_f hg4) rfl rfl Taken.no) ?_
     refine SL.nil ?_
     refine E.to ?_
     refine W.pick (.cons (t := 1) rfl (.cons (t := 2) rfl (.cons (t := 4) rfl (.cons (t := 32) rfl .nil)))) (.cons (t := 101) rfl .nil) ?_
     refine W.cond_t rfl ?_
     refine W.seq ?_
     refine W.region ?_
     refine SL.val (O.assign rfl rfl Taken.no) ?_
     refine SL.nil ?_
     refine E.to ?_
     refine W.ret ?_
     refine E.thr ?_
     refine E.fin (rs := [_]) (rn []) (.inl rfl) rfl (.cons (ResOne.tmp rfl) .nil) ?_ ?_ rfl (fixL_spec rfl)
     ·skip
      rfl
     · exact SubS.nil
   ·skip
    first | have hg3p := G.gA7 hg3 | have hg3p := G.gA8 hg3 | have hg3p := hg3
    refine SL.skip (OpOk.not rfl rfl rfl hg3) ?_
    refine SL.skip (OpOk.not rfl rfl rfl hg3) ?_
    refine SL.skip (OpOk.not rfl rfl rfl hg3) ?_
    refine SL.val (O.pick_t rfl (G.ne_f hg3) rfl rfl Taken.no) ?_
    refine SL.val (O.move rfl rfl Taken.no) ?_
    have hg14 : true ≠ false := by decide
    refine SL.skip (OpOk.not rfl rfl rfl hg14) ?_
    refine SL.skip (OpOk.not rfl rfl rfl hg14) ?_
    refine SL.skip (OpOk.not rfl rfl rfl hg14) ?_
    refine SL.val (O.pick_t rfl rfl rfl rfl Taken.no) ?_
    refine SL.nil ?_
    refine E.to ?_
    refine W.pick (.cons (t := 1) rfl (.cons (t := 2) rfl (.cons (t := 4) rfl (.cons (t := 32) rfl .nil)))) (.cons (t := 101) rfl .nil) ?_
    refine W.cond_t rfl ?_
    refine W.seq ?_
    refine W.region ?_
    refine SL.val (O.assign rfl rfl Taken.no) ?_
    refine SL.nil ?_
    refine E.to ?_
    refine W.ret ?_
    refine E.thr ?_
    refine E.fin (rs := [_]) (rn []) (.inl rfl) rfl (.cons (ResOne.tmp rfl) .nil) ?_ ?_ rfl (fixL_spec rfl)
    ·skip
     rfl
    · exact SubS.nil
  ·skip
   first | have hg2p := G.gA7 hg2 | have hg2p := G.gA8 hg2 | have hg2p := hg2
   refine SL.skip (OpOk.not rfl rfl rfl hg2) ?_
   refine SL.skip (OpOk.not rfl rfl rfl hg2) ?_
   refine SL.skip (OpOk.not rfl rfl rfl hg2) ?_
   refine SL.val (O.pick_t rfl (G.ne_f hg2) rfl rfl Taken.no) ?_
   refine SL.val (O.move rfl rfl Taken.no) ?_
   have hg15 : true ≠ false := by decide
   refine SL.skip (OpOk.not rfl rfl rfl hg15) ?_
   refine SL.skip (OpOk.not rfl rfl rfl hg15) ?_
   refine SL.skip (OpOk.not rfl rfl rfl hg15) ?_
   refine SL.val (O.pick_t rfl rfl rfl rfl Taken.no) ?_
   refine SL.val (O.move rfl rfl Taken.no) ?_
   have hg16 : true ≠ false := by decide
   refine SL.skip (OpOk.not rfl rfl rfl hg16) ?_
   refine SL.skip (OpOk.not rfl rfl rfl hg16) ?_
   refine SL.skip (OpOk.not rfl rfl rfl hg16) ?_
   refine SL.val (O.pick_t rfl rfl rfl rfl Taken.no) ?_
   refine SL.nil ?_
   refine E.to ?_
   refine W.pick (.cons (t := 1) rfl (.cons (t := 2) rfl (.cons (t := 4) rfl (.cons (t := 32) rfl .nil)))) (.cons (t := 101) rfl .nil) ?_
   refine W.cond_t rfl ?_
   refine W.seq ?_
   refine W.region ?_
   refine SL.val (O.assign rfl rfl Taken.no) ?_
   refine SL.nil ?_
   refine E.to ?_
   refine W.ret ?_
   refine E.thr ?_
   refine E.fin (rs := [_]) (rn []) (.inl rfl) rfl (.cons (ResOne.tmp rfl) .nil) ?_ ?_ rfl (fixL_spec rfl)
   ·skip
    rfl
   · exact SubS.nil

end Go.Proofs.Ytoebjajbmkdcfaa
