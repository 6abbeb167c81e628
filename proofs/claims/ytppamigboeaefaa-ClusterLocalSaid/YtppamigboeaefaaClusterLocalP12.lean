/-
  What the proof rests on: part 12 of 13.
-/
import Derived.Test.YtppamigboeaefaaClusterLocalP11
section
namespace Go.Proofs.Ytppamigboeaefaa
open Go Go.RowKit Go.H Go.D33



set_option maxRecDepth 8000 in
set_option maxHeartbeats 6400000 in
/-- (*bookplate/cluster.field).apply. -/
theorem apply_h {n : Nat} {wt : Nat → Nat → Int} {lk : Nat → Nat → Bool} {bar : List Ru} {atm : List Nat} {m : List Nat} {u : Bool} {f t : Int} (hn : n ≤ 200) (hw : ∀ i j, -1000 ≤ wt i j ∧ wt i j ≤ 1000) (ha : atm.length = n ∧ ∀ i, i < n → atm[i]! < n) (hb : ∀ x ∈ bar, 0 ≤ x.a ∧ x.a < (n : Int) ∧ 0 ≤ x.b ∧ x.b < (n : Int)) (hml : m.length = n) :
    Con Try.prog 50 [.u (.ptr [uI (n : Int), .sl 1 (gridU (gridF n fun i j => uI (wt i j))), .sl 1 (gridU (gridF n fun i j => uB (lk i j))), .sl 3 (bar.map eRu), .sl 1 (atm.map eN), .sl 1 ((List.range n).map eN)]), vL 1 (m.map eN), vA [uB u, uI f, uI t]] [] (.tup [vL 1 ((apN n lk bar atm m ⟨u, f, t⟩).map eI), vI (apG n wt lk bar atm m ⟨u, f, t⟩), vB (decide (posF n bar atm m ⟨u, f, t⟩))]) [] := by
 have hal := ha.1
 obtain ⟨i3, hi3, hz3, hs3, hb3⟩ := hinf3
 obtain ⟨i39, hi39, hz39, hs39, hb39⟩ := hinf39
 refine Con.enterL (n := 225) Try.func50 rfl rfl rfl (fun τ w ok vs hin => ?_)
 have hl1 := hin.len (i := 1) rfl
 try rw [List.length_map] at hl1
 clear hin
 refine W.seq ?_
 refine W.region ?_
 refine SL.memS (O.box (is := [_, _, _]) 101 rfl rfl (by simp) rfl rfl Taken.no) rfl rfl (S' := (101, _) :: _) rfl ?_
 refine SL.val (O.assign rfl rfl Taken.no) ?_
 refine SL.val (O.assign rfl rfl Taken.no) ?_
 refine SL.val (O.assign rfl rfl Taken.no) ?_
 refine SL.nil ?_
 refine E.to ?_
 refine W.seq ?_
 refine W.seq ?_
 refine W.draw [⟨[], [], [], [101]⟩, ⟨[101], [], [], []⟩, ⟨[], [], [], []⟩, ⟨[], [], [], []⟩, ⟨[], [], [], [101]⟩, ⟨[101], [], [], []⟩, ⟨[], [], [], []⟩, ⟨[], [], [], []⟩, ⟨[], [], [], []⟩, ⟨[], [], [], []⟩, ⟨[], [], [], []⟩, ⟨[], [], [], []⟩, ⟨[], [], [], []⟩, ⟨[], [], [], [101]⟩, ⟨[101], [], [], []⟩, ⟨[], [], [], []⟩, ⟨[], [], [], []⟩, ⟨[], [], [], []⟩, ⟨[], [], [], []⟩, ⟨[], [], [], []⟩, ⟨[], [], [], []⟩, ⟨[], [], [], []⟩, ⟨[], [], [], [101]⟩, ⟨[101], [], [], []⟩, ⟨[], [], [], []⟩, ⟨[], [], [], []⟩, ⟨[], [], [], [101]⟩, ⟨[101], [], [], []⟩, ⟨[], [], [], []⟩, ⟨[], [], [], [101]⟩, ⟨[101], [], [], []⟩, ⟨[], [], [], []⟩, ⟨[], [], [], []⟩, ⟨[], [], [], []⟩, ⟨[], [], [], []⟩] rfl (by kernel_rfl) (by kernel_rfl) rfl rfl ?_
 refine WH.val (O.fld_ref (o' := 1) rfl Try.underlying55 rfl (m := 0) (by kernel_rfl) rfl rfl Taken.no) rfl rfl ?_
 refine WH.val (O.ld1 (PtI.ref rfl rfl) rfl Try.underlying3 rfl rfl Taken.no) rfl rfl ?_
 refine WH.val (O.det (fun _ => G.R.lss rfl rfl) rfl Taken.no) rfl rfl ?_
 refine WH.val (O.move rfl rfl Taken.no) rfl rfl ?_
 refine WH.case (j := 3) (g := 29) (want := false) rfl rfl (fun hg1 => ?_) (fun hg1 => ?_)
 ·skip
  first | have hg1p := G.gA3 hg1 | have hg1p := G.gA4 hg1 | have hg1p := hg1
  refine WH.val (O.fld_ref (o' := 1) rfl Try.underlying55 rfl (m := 0) (by kernel_rfl) rfl rfl (Taken.yes rfl rfl hg1)) rfl rfl ?_
  refine WH.val (O.ld1 (PtI.ref rfl rfl) rfl Try.underlying3 rfl rfl (Taken.yes rfl rfl hg1)) rfl rfl ?_
  refine WH.val (O.move rfl rfl (Taken.yes rfl rfl hg1)) rfl rfl ?_
  refine WH.val (O.nilCheck rfl rfl rfl (Taken.yes rfl rfl hg1)) rfl rfl ?_
  refine WH.val (O.fld_fz rfl Try.underlying78 rfl (m := 0) (by kernel_rfl) rfl rfl (Taken.yes rfl rfl hg1)) rfl rfl ?_
  refine WH.val (O.ld1 (PtI.ofU (PtU.fz rfl)) rfl Try.underlying3 rfl rfl (Taken.yes rfl rfl hg1)) rfl rfl ?_
  refine WH.val (O.det (fun _ => G.R.geq rfl rfl) rfl (Taken.yes rfl rfl hg1)) rfl rfl ?_
  refine WH.val (O.pick_f rfl hg1 rfl rfl Taken.no) rfl rfl ?_
  refine WH.val (O.move rfl rfl Taken.no) rfl rfl ?_
  refine WH.case (j := 12) (g := 38) (want := false) rfl rfl (fun hg2 => ?_) (fun hg2 => ?_)
  ·skip
   first | have hg2p := G.gA3 hg2 | have hg2p := G.gA4 hg2 | have hg2p := hg2
   refine WH.val (O.fld_ref (o' := 2) rfl Try.underlying55 rfl (m := 0) (by kernel_rfl) rfl rfl (Taken.yes rfl rfl hg2)) rfl rfl ?_
   refine WH.val (O.ld1 (PtI.ref rfl rfl) rfl Try.underlying3 rfl rfl (Taken.yes rfl rfl hg2)) rfl rfl ?_
   refine WH.val (O.move rfl rfl (Taken.yes rfl rfl hg2)) rfl rfl ?_
   refine WH.val (O.nilCheck rfl rfl rfl (Taken.yes rfl rfl hg2)) rfl rfl ?_
   refine WH.val (O.fld_fz rfl Try.underlying78 rfl (m := 0) (by kernel_rfl) rfl rfl (Taken.yes rfl rfl hg2)) rfl rfl ?_
   refine WH.val (O.ld1 (PtI.ofU (PtU.fz rfl)) rfl Try.underlying3 rfl rfl (Taken.yes rfl rfl hg2)) rfl rfl ?_
   refine WH.val (O.det (fun _ => G.R.geq rfl rfl) rfl (Taken.yes rfl rfl hg2)) rfl rfl ?_
   refine WH.val (O.pick_f rfl hg2 rfl rfl Taken.no) rfl rfl ?_
   refine WH.val (O.move rfl rfl Taken.no) rfl rfl ?_
   refine WH.case (j := 21) (g := 47) (want := false) rfl rfl (fun hg3 => ?_) (fun hg3 => ?_)
   ·skip
    first | have hg3p := G.gA3 hg3 | have hg3p := G.gA4 hg3 | have hg3p := hg3
    refine WH.val (O.fld_ref (o' := 2) rfl Try.underlying55 rfl (m := 0) (by kernel_rfl) rfl rfl (Taken.yes rfl rfl hg3)) rfl rfl ?_
    refine WH.val (O.ld1 (PtI.ref rfl rfl) rfl Try.underlying3 rfl rfl (Taken.yes rfl rfl hg3)) rfl rfl ?_
    refine WH.val (O.det (fun _ => G.R.lss rfl rfl) rfl (Taken.yes rfl rfl hg3)) rfl rfl ?_
    refine WH.val (O.move rfl rfl (Taken.yes rfl rfl hg3)) rfl rfl ?_
    refine WH.case (j := 25) (g := 51) (want := true) rfl rfl (fun hg4 => ?_) (fun hg4 => ?_)
    ·skip
     first | have hg4p := G.gA1 hg4 | have hg4p := G.gA2 hg4 | have hg4p := hg4
     refine WH.val (O.fld_ref (o' := 0) rfl Try.underlying55 rfl (m := 0) (by kernel_rfl) rfl rfl (Taken.yes rfl rfl hg4)) rfl rfl ?_
     refine WH.val (O.ld1 (PtI.ref rfl rfl) rfl Try.underlying4 rfl rfl (Taken.yes rfl rfl hg4)) rfl rfl ?_
     refine WH.val (O.move rfl rfl (Taken.yes rfl rfl hg4)) rfl rfl ?_
     refine WH.case (j := 28) (g := 54) (want := false) rfl rfl (fun hg5 => ?_) (fun hg5 => ?_)
     ·skip
      first | have hg5p := G.gA3 hg5 | have hg5p := G.gA4 hg5 | have hg5p := hg5
      refine WH.val (O.fld_ref (o' := 2) rfl Try.underlying55 rfl (m := 0) (by kernel_rfl) rfl rfl (Taken.yes rfl rfl hg5)) rfl rfl ?_
      refine WH.val (O.ld1 (PtI.ref rfl rfl) rfl Try.underlying3 rfl rfl (Taken.yes rfl rfl hg5)) rfl rfl ?_
      refine WH.val (O.det (fun _ => G.R.neq rfl rfl) rfl (Taken.yes rfl rfl hg5)) rfl rfl ?_
      refine WH.val (O.pick_f rfl hg5 rfl rfl (Taken.yes rfl rfl hg4)) rfl rfl ?_
      refine WH.val (O.pick_t rfl hg4 rfl rfl (Taken.yes rfl rfl hg3)) rfl rfl ?_
      refine WH.val (O.pick_f rfl hg3 rfl rfl Taken.no) rfl rfl ?_
      refine WH.nil ?_
      refine E.to ?_
      refine W.pick (.cons (t := 0) rfl (.cons (t := 1) rfl (.cons (t := 5) rfl (.cons (t := 6) rfl (.cons (t := 7) rfl (.cons (t := 8) rfl (.cons (t := 60) rfl .nil))))))) (.cons (t := 101) rfl .nil) ?_
      first | refine W.cond_d rfl (fun hc6 => ?_) (fun hc6 => ?_) | refine W.cond_nd rfl (fun hc6 => ?_) (fun hc6 => ?_) | refine W.cond rfl (fun hc6 => ?_) (fun hc6 => ?_)
      ·skip
       refine W.seq ?_
       refine W.region ?_
       refine SL.val (O.assign rfl rfl Taken.no) ?_
       refine SL.val (O.assign rfl rfl Taken.no) ?_
       refine SL.val (O.assign rfl rfl Taken.no) ?_
       refine SL.nil ?_
       refine E.to ?_
       refine W.ret ?_
       refine E.thr ?_
       refine E.nilsl 6 1 rfl ?_
       refine E.fin (rs := [_, _, _]) (rn []) (.inl rfl) rfl (.cons (ResOne.tmp rfl) (.cons (ResOne.tmp rfl) (.cons (ResOne.tmp rfl) .nil))) ?_ ?_ rfl (fixL_spec rfl)
       ·skip
        first | ((have hno : ¬ posF n bar atm m ⟨u, f, t⟩ := fun q => by ((obtain ⟨⟨⟨q1, q2, q3, q4, q5⟩, q6, q7, q8⟩, q9⟩ := posF_iff.1 q); (try simp only [Int.toNat_natCast] at q6 q7 q8); (first | omega | (have q5 := q5 (by omega); simp_all)))); rw [apN_n hno, apG_n hno, dec_f hno]; rfl)
       · exact SubS.nil
      ·skip
       refine W.skip ?_
       refine E.to ?_
       refine W.seq ?_
       refine W.region ?_
       obtain rfl : t = -1 := by omega
       obtain rfl : u = false := by simp_all
       have hvb2 := valF_b hw (l := []) (by simp)
       obtain ⟨f, rfl⟩ : ∃ k : Nat, f = (k : Int) := ⟨f.toNat, by omega⟩
       have hul := units_len m m[f]!
       have hvb1 := valF_b hw (l := (unitsL m m[f]!)) (by omega)
       have hHn : ∀ u ∈ (unitsL m m[f]!), u < n := fun u hu => ((mem_here hml).1 hu).1
       refine SL.val (O.move rfl rfl Taken.no) ?_
       refine SL.val (O.move rfl rfl Taken.no) ?_
       refine SL.val (O.fld_ref (o' := 1) rfl Try.underlying55 rfl (m := 0) (by kernel_rfl) rfl rfl Taken.no) ?_
       refine SL.val (O.ld1 (PtI.ref rfl rfl) rfl Try.underlying3 rfl rfl Taken.no) ?_
       refine SL.val (O.idx_fz (i := f) rfl rfl (rfl) (row_get (by omega)) Try.underlying39 hi3 hs3 rfl Taken.no) ?_
       refine SL.val (O.ld1 (PtI.ofU (PtU.fz rfl)) rfl Try.underlying3 rfl rfl Taken.no) ?_
       refine SL.memS (O.call (rn [(0, 102)]) [] rfl rfl rfl (units_h (l := m) (c := m[f]!) (by omega)) (.cons (ArgOk.same rfl) (.cons (ArgOk.same rfl) .nil)) SubS.nil rfl rfl rfl rfl rfl (.inl rfl) hcallOk46 (r' := .own 102) rfl rfl Taken.no) rfl rfl (S' := (102, .data _ _ _) :: _) rfl ?_
       refine SL.val (O.assign rfl rfl Taken.no) ?_
       refine SL.nil ?_
       refine E.to ?_
       refine W.seq ?_
       refine W.region ?_
       refine SL.val (O.assign rfl rfl Taken.no) ?_
       refine SL.nil ?_
       refine E.to ?_
       refine W.seq ?_
       refine W.seq ?_
       refine W.region ?_
       refine SL.val (O.fld_ref (o' := 2) rfl Try.underlying55 rfl (m := 0) (by kernel_rfl) rfl rfl Taken.no) ?_
       refine SL.val (O.ld1 (PtI.ref rfl rfl) rfl Try.underlying3 rfl rfl Taken.no) ?_
       refine SL.val (O.det (fun _ => G.R.geq rfl rfl) rfl Taken.no) ?_
       refine SL.nil ?_
       refine E.to ?_
       first | refine W.cond_d rfl (fun hc7 => ?_) (fun hc7 => ?_) | refine W.cond_nd rfl (fun hc7 => ?_) (fun hc7 => ?_) | refine W.cond rfl (fun hc7 => ?_) (fun hc7 => ?_)
       ·skip
        omega
       ·skip
        refine W.skip ?_
        refine E.to ?_
        refine W.seq ?_
        refine W.region ?_
        refine SL.val (O.move rfl rfl Taken.no) ?_
        refine SL.val (O.move rfl rfl Taken.no) ?_
        refine SL.memS (O.call (rn []) [102] rfl rfl rfl (value_h (l := (unitsL m m[f]!)) hw (by omega) hHn) (.cons (ArgOk.same rfl) (.cons (ArgOk.own rfl rfl) .nil)) SubS.nil rfl rfl rfl rfl rfl (.inr ⟨rfl, fun x hx => by simp at hx⟩) hcallOk45 (r' := .u _) rfl rfl Taken.no) rfl rfl (S' := _) rfl ?_
        refine SL.val (O.move rfl rfl Taken.no) ?_
        refine SL.val (O.move rfl rfl Taken.no) ?_
        refine SL.val (O.callp rfl rfl rfl (value_h (l := []) hw (by simp) (fun u hu => by cases hu)) (.cons (ArgOk.same rfl) (.cons ArgOk.nil .nil)) hcallOk45 rfl Taken.no) ?_
        refine SL.val (O.det (fun _ => by first | exact G.R.add64 rfl rfl (by omega) | exact G.R.add rfl rfl) rfl Taken.no) ?_
        refine SL.val (O.assign rfl rfl Taken.no) ?_
        refine SL.nil ?_
        refine E.to ?_
        refine W.pick (.cons (t := 0) rfl (.cons (t := 1) rfl (.cons (t := 5) rfl (.cons (t := 6) rfl (.cons (t := 7) rfl (.cons (t := 8) rfl (.cons (t := 9) rfl (.cons (t := 10) rfl (.cons (t := 11) rfl .nil))))))))) (.cons (t := 101) rfl (.cons (t := 102) rfl .nil)) ?_
        refine W.seq ?_
        refine W.region ?_
        refine SL.memS (O.alloc (z := .agg #[.slice none 0 0, .slice none 0 0]) (is := [.u (.sc (.slice none 0 0)), .u (.sc (.slice none 0 0))]) 103 (by kernel_rfl) rfl rfl rfl Taken.no) rfl rfl (S' := (103, _) :: _) rfl ?_
        refine SL.nil ?_
        refine E.to ?_
        refine W.seq ?_
        refine W.seq ?_
        refine W.region ?_
        refine SL.val (O.fld_ref (o' := 0) rfl Try.underlying55 rfl (m := 0) (by kernel_rfl) rfl rfl Taken.no) ?_
        refine SL.val (O.ld1 (PtI.ref rfl rfl) rfl Try.underlying4 rfl rfl Taken.no) ?_
        refine SL.nil ?_
        refine E.to ?_
        refine W.cond_f rfl ?_
        refine W.seq ?_
        refine W.seq ?_
        refine W.draw [⟨[], [], [], []⟩, ⟨[], [], [], []⟩, ⟨[], [], [], []⟩, ⟨[], [], [], []⟩, ⟨[], [], [], [101]⟩, ⟨[101], [], [], []⟩, ⟨[], [], [], []⟩, ⟨[], [], [], []⟩, ⟨[], [], [], [101]⟩, ⟨[101], [], [], []⟩, ⟨[], [], [], []⟩] rfl (by kernel_rfl) (by kernel_rfl) rfl rfl ?_
        refine WH.val (O.move rfl rfl Taken.no) rfl rfl ?_
        refine WH.val (O.nilCheck rfl rfl rfl Taken.no) rfl rfl ?_
        refine WH.val (O.fld_fz rfl Try.underlying78 rfl (m := 0) (by kernel_rfl) rfl rfl Taken.no) rfl rfl ?_
        refine WH.val (O.ld1 (PtI.ofU (PtU.fz rfl)) rfl Try.underlying39 rfl rfl Taken.no) rfl rfl ?_
        refine WH.val (O.fld_ref (o' := 1) rfl Try.underlying55 rfl (m := 0) (by kernel_rfl) rfl rfl Taken.no) rfl rfl ?_
        refine WH.val (O.ld1 (PtI.ref rfl rfl) rfl Try.underlying3 rfl rfl Taken.no) rfl rfl ?_
        refine WH.val (O.idx_fz (i := f) rfl rfl (rfl) (row_get (by omega)) Try.underlying39 hi3 hs3 rfl Taken.no) rfl rfl ?_
        refine WH.val (O.ld1 (PtI.ofU (PtU.fz rfl)) rfl Try.underlying3 rfl rfl Taken.no) rfl rfl ?_
        refine WH.val (O.fld_ref (o' := 1) rfl Try.underlying55 rfl (m := 0) (by kernel_rfl) rfl rfl Taken.no) rfl rfl ?_
        refine WH.val (O.ld1 (PtI.ref rfl rfl) rfl Try.underlying3 rfl rfl Taken.no) rfl rfl ?_
        refine WH.val (O.det (fun _ => G.R.neq rfl rfl) rfl Taken.no) rfl rfl ?_
        refine WH.nil ?_
        refine E.to ?_
        first | refine W.cond_d rfl (fun hc8 => ?_) (fun hc8 => ?_) | refine W.cond_nd rfl (fun hc8 => ?_) (fun hc8 => ?_) | refine W.cond rfl (fun hc8 => ?_) (fun hc8 => ?_)
        ·skip
         refine W.seq ?_
         refine W.region ?_
         refine SL.val (O.assign rfl rfl Taken.no) ?_
         refine SL.val (O.assign rfl rfl Taken.no) ?_
         refine SL.val (O.assign rfl rfl Taken.no) ?_
         refine SL.nil ?_
         refine E.to ?_
         refine W.pick (.cons (t := 0) rfl (.cons (t := 1) rfl (.cons (t := 5) rfl (.cons (t := 6) rfl (.cons (t := 7) rfl (.cons (t := 8) rfl (.cons (t := 9) rfl (.cons (t := 10) rfl (.cons (t := 11) rfl (.cons (t := 12) rfl .nil)))))))))) (.cons (t := 101) rfl (.cons (t := 102) rfl (.cons (t := 103) rfl .nil))) ?_
         refine W.ret ?_
         refine E.thr ?_
         refine E.thr ?_
         refine E.nilsl 6 1 rfl ?_
         refine E.fin (rs := [_, _, _]) (rn []) (.inl rfl) rfl (.cons (ResOne.tmp rfl) (.cons (ResOne.tmp rfl) (.cons (ResOne.tmp rfl) .nil))) ?_ ?_ rfl (fixL_spec rfl)
         ·skip
          first | ((have hno : ¬ posF n bar atm m ⟨false, (f : Int), (t : Int)⟩ := fun q => by ((obtain ⟨⟨⟨q1, q2, q3, q4, q5⟩, q6, q7, q8⟩, q9⟩ := posF_iff.1 q); (try simp only [Int.toNat_natCast] at q6 q7 q8); (have q8 := (q8 (by trivial)).1; omega))); rw [apN_n hno, apG_n hno, dec_f hno]; rfl) | ((have hno : ¬ posF n bar atm m ⟨false, (f : Int), -1⟩ := fun q => by ((obtain ⟨⟨⟨q1, q2, q3, q4, q5⟩, q6, q7, q8⟩, q9⟩ := posF_iff.1 q); (try simp only [Int.toNat_natCast] at q6 q7 q8); (have q8 := (q8 (by trivial)).1; omega))); rw [apN_n hno, apG_n hno, dec_f hno]; rfl)
         · exact SubS.nil
        ·skip
         refine W.skip ?_
         refine E.to ?_
         refine W.seq ?_
         refine W.region ?_
         refine SL.val (O.move rfl rfl Taken.no) ?_
         refine SL.val (O.idx_ref (i := 0) (m := 1) rfl rfl (rfl) (by decide) Try.underlying106 (by kernel_rfl) rfl rfl Taken.no) ?_
         refine SL.effS (O.st_ref (m := 1) rfl rfl rfl (js := [_]) rfl rfl (by kernel_rfl) (by simp) (Nat.le_of_ble_eq_true rfl) rfl (is' := [_, _]) rfl Taken.no) (S' := (103, _) :: _) rfl ?_
         refine SL.nil ?_
         refine E.to ?_
         refine W.pick (.cons (t := 0) rfl (.cons (t := 1) rfl (.cons (t := 5) rfl (.cons (t := 6) rfl (.cons (t := 7) rfl (.cons (t := 8) rfl (.cons (t := 9) rfl (.cons (t := 11) rfl (.cons (t := 12) rfl .nil))))))))) (.cons (t := 101) rfl (.cons (t := 102) rfl (.cons (t := 103) rfl .nil))) ?_
         refine W.seq ?_
         refine W.seq ?_
         refine W.region ?_
         refine SL.val (O.move rfl rfl Taken.no) ?_
         refine SL.val (O.lenE (SlOf.own rfl rfl) (by first | exact List.length_map _ | rfl) Try.underlying39 rfl Taken.no) ?_
         refine SL.val (O.move rfl rfl Taken.no) ?_
         refine SL.nil ?_
         refine E.to ?_
         refine W.block ?_
         refine W.adoptC 103 0 106 3 1 (is' := [_, _]) (by decide) rfl rfl rfl rfl rfl ?_
         refine W.adoptC 103 1 107 3 1 (is' := [_, _]) (by decide) rfl rfl rfl rfl rfl ?_
         refine W.loopx1 (fun (k : Nat) => [(136, vI (k : Int))]) (fun (k : Nat) => [(104, .data 3 1 (((thereL m (-1)) ++ ((unitsL m m[f]!).take k).filter (fun u => decide (atm[u]! = f))).map eN)), (105, .data 3 1 ((((unitsL m m[f]!).take k).filter (fun u => !decide (atm[u]! = f))).map eN)), (103, .cells 106 [.own 104, .own 105])]) (fun (k : Nat) => k ≤ (unitsL m m[f]!).length) (fun (k : Nat) => (unitsL m m[f]!).length - k) (0) (rn [(104, 106), (105, 107)]) (.cons (t := 0) rfl (.cons (t := 1) rfl (.cons (t := 5) rfl (.cons (t := 6) rfl (.cons (t := 7) rfl (.cons (t := 8) rfl (.cons (t := 11) rfl (.cons (t := 12) rfl (.cons (t := 134) rfl (.cons (t := 135) rfl .nil)))))))))) (.cons (t := 101) rfl (.cons (t := 102) rfl .nil)) rfl ?_ ?_ rfl rfl ?_ ?_
         · exact (SubF.cons rfl SubF.nil)
         · exact (SubS.val rfl (by exact sb_data (by rw [List.take_zero, List.filter_nil, List.append_nil]; rfl)) (SubS.val rfl (by exact sb_data (by rw [List.take_zero, List.filter_nil]; rfl)) (SubS.cons rfl SubS.nil)))
         ·skip
          omega
         intro k hinv
         have hk := hinv
         have hf0 := List.length_filter_le (fun u => decide (atm[u]! = f)) ((unitsL m m[f]!).take k)
         have hf1 := List.length_filter_le (fun u => !decide (atm[u]! = f)) ((unitsL m m[f]!).take k)
         rw [List.length_take] at hf0 hf1
         have hthl := there_len m (-1)
         refine W.seq ?_
         refine W.region ?_
         refine SL.val (O.det (fun _ => G.R.lss rfl rfl) rfl Taken.no) ?_
         refine SL.nil ?_
         refine E.to ?_
         refine W.seq ?_
         first | refine W.cond_d rfl (fun hc9 => ?_) (fun hc9 => ?_) | refine W.cond_nd rfl (fun hc9 => ?_) (fun hc9 => ?_) | refine W.cond rfl (fun hc9 => ?_) (fun hc9 => ?_)
         ·skip
          have hHk := hHn (unitsL m m[f]!)[k]! (mem_at (by omega))
          refine W.skip ?_
          refine E.to ?_
          refine W.seq ?_
          refine W.block ?_
          refine W.seq ?_
          refine W.region ?_
          refine SL.val (O.idx_own (i := k) rfl rfl rfl (rfl) (by rw [List.length_map]; omega) Try.underlying39 hi3 hs3 rfl Taken.no) ?_
          refine SL.val (O.ld1 (PtI.ofU (PtU.el rfl rfl (row_get (by omega)))) rfl Try.underlying3 rfl rfl Taken.no) ?_
          refine SL.val (O.assign rfl rfl Taken.no) ?_
          refine SL.nil ?_
          refine E.to ?_
          refine W.seq ?_
          refine W.region ?_
          refine SL.val (O.assign rfl rfl Taken.no) ?_
          refine SL.nil ?_
          refine E.to ?_
          refine W.seq ?_
          refine W.seq ?_
          refine W.draw [⟨[], [], [], []⟩, ⟨[], [], [], []⟩, ⟨[], [], [], []⟩, ⟨[], [], [], []⟩, ⟨[], [], [], []⟩, ⟨[], [], [], []⟩, ⟨[], [], [], []⟩, ⟨[], [], [], [101]⟩, ⟨[101], [], [], []⟩, ⟨[], [], [], []⟩] rfl (by kernel_rfl) (by kernel_rfl) rfl rfl ?_
          refine WH.val (O.move rfl rfl Taken.no) rfl rfl ?_
          refine WH.val (O.nilCheck rfl rfl rfl Taken.no) rfl rfl ?_
          refine WH.val (O.fld_fz rfl Try.underlying78 rfl (m := 0) (by kernel_rfl) rfl rfl Taken.no) rfl rfl ?_
          refine WH.val (O.ld1 (PtI.ofU (PtU.fz rfl)) rfl Try.underlying39 rfl rfl Taken.no) rfl rfl ?_
          refine WH.val (O.move rfl rfl Taken.no) rfl rfl ?_
          refine WH.val (O.idx_fz (i := ((unitsL m m[f]!)[k]!)) rfl rfl (rfl) (row_get (by omega)) Try.underlying39 hi3 hs3 rfl Taken.no) rfl rfl ?_
          refine WH.val (O.ld1 (PtI.ofU (PtU.fz rfl)) rfl Try.underlying3 rfl rfl Taken.no) rfl rfl ?_
          refine WH.val (O.fld_ref (o' := 1) rfl Try.underlying55 rfl (m := 0) (by kernel_rfl) rfl rfl Taken.no) rfl rfl ?_
          refine WH.val (O.ld1 (PtI.ref rfl rfl) rfl Try.underlying3 rfl rfl Taken.no) rfl rfl ?_
          refine WH.val (O.det (fun _ => G.R.eql rfl rfl) rfl Taken.no) rfl rfl ?_
          refine WH.nil ?_
          refine E.to ?_
          refine W.pick (.cons (t := 0) rfl (.cons (t := 1) rfl (.cons (t := 5) rfl (.cons (t := 6) rfl (.cons (t := 7) rfl (.cons (t := 8) rfl (.cons (t := 11) rfl (.cons (t := 12) rfl (.cons (t := 14) rfl (.cons (t := 15) rfl (.cons (t := 134) rfl (.cons (t := 135) rfl (.cons (t := 136) rfl (.cons (t := 149) rfl .nil)))))))))))))) (.cons (t := 101) rfl (.cons (t := 102) rfl (.cons (t := 103) rfl (.cons (t := 104) rfl (.cons (t := 105) rfl .nil))))) ?_
          first | refine W.cond_d rfl (fun hc10 => ?_) (fun hc10 => ?_) | refine W.cond_nd rfl (fun hc10 => ?_) (fun hc10 => ?_) | refine W.cond rfl (fun hc10 => ?_) (fun hc10 => ?_)
          ·skip
           have hp0 : (fun u => decide (atm[u]! = f)) (unitsL m m[f]!)[k]! = true := decide_eq_true (by omega)
           have hp1 : (fun u => !decide (atm[u]! = f)) (unitsL m m[f]!)[k]! = false := by show (!decide _) = false; rw [decide_eq_true (by omega)]; rfl
           refine W.region ?_
           refine SL.val (O.assign rfl rfl Taken.no) ?_
           refine SL.nil ?_
           refine E.to ?_
           refine W.region ?_
           refine SL.val (O.move rfl rfl Taken.no) ?_
           refine SL.val (O.move rfl rfl Taken.no) ?_
           refine SL.val (O.idx_ref (i := 0) (m := 1) rfl rfl (rfl) (by decide) Try.underlying106 (by kernel_rfl) rfl rfl Taken.no) ?_
           refine SL.val (O.ld1 (PtI.ref rfl rfl) rfl Try.underlying39 rfl rfl Taken.no) ?_
           refine SL.val (O.move rfl rfl Taken.no) ?_
           refine SL.memS (O.buildSlice 108 (rows := [(unitsL m m[f]!)[k]!].map eN) rfl rfl Try.underlying39 hi3 hz3 hs3 (by decide) rfl (by decide) rfl rfl rfl Taken.no) rfl rfl (S' := (108, .data 3 1 ([(unitsL m m[f]!)[k]!].map eN)) :: _) rfl ?_
           refine SL.memS (O.app (k' := 109) rfl rfl (SlOf.own rfl rfl) Try.underlying39 hi3 hz3 hs3 rfl rfl (by exact app_map) (by rw [hb3]; (simp only [List.length_map, List.length_singleton, List.length_append]; omega)) (by (simp only [List.length_map, List.length_singleton, List.length_append]; omega)) rfl Taken.no) rfl rfl (S' := (109, _) :: (104, .dead) :: _) rfl ?_
           refine SL.val (O.idx_ref (i := 0) (m := 1) rfl rfl (rfl) (by decide) Try.underlying106 (by kernel_rfl) rfl rfl Taken.no) ?_
           refine SL.effS (O.st_ref (m := 1) rfl rfl rfl (js := [_]) rfl rfl (by kernel_rfl) (by simp) (Nat.le_of_ble_eq_true rfl) rfl (is' := [_, _]) rfl Taken.no) (S' := (103, _) :: _) rfl ?_
           refine SL.nil ?_
           refine E.inn ?_
           refine E.to ?_
           refine W.region ?_
           refine SL.val (O.det (fun _ => by first | exact G.R.add64 rfl rfl (by omega) | exact G.R.add rfl rfl) rfl Taken.no) ?_
           refine SL.val (O.move rfl rfl Taken.no) ?_
           refine SL.nil ?_
           refine E.again ((k + 1)) (rn [(104, 109)]) ?_ ?_ rfl (fixL_spec rfl) ?_ ?_
           · exact (SubF.cons rfl (SubF.cons rfl (SubF.cons rfl (SubF.cons rfl (SubF.cons rfl (SubF.cons rfl (SubF.cons rfl (SubF.cons rfl (SubF.cons rfl (SubF.cons rfl (SubF.cons rfl SubF.nil)))))))))))
           · exact (SubS.val rfl (by (try dsimp only); first | exact sb_data (by rw [filt_y (by omega) hp0, ← List.append_assoc]) | exact sb_data (by rw [filt_n (by omega) hp0])) (SubS.val rfl (by (try dsimp only); first | exact sb_data (by rw [filt_n (by omega) hp1]) | exact sb_data (by rw [filt_y (by omega) hp1])) (SubS.cons rfl (SubS.cons rfl (SubS.cons rfl SubS.nil)))))
           ·try dsimp only
            omega
           · (try dsimp only); omega
          ·skip
           have hp0 : (fun u => decide (atm[u]! = f)) (unitsL m m[f]!)[k]! = false := decide_eq_false (by omega)
           have hp1 : (fun u => !decide (atm[u]! = f)) (unitsL m m[f]!)[k]! = true := by show (!decide _) = true; rw [decide_eq_false (by omega)]; rfl
           refine W.skip ?_
           refine E.to ?_
           refine W.region ?_
           refine SL.val (O.move rfl rfl Taken.no) ?_
           refine SL.val (O.move rfl rfl Taken.no) ?_
           refine SL.val (O.idx_ref (i := 1) (m := 1) rfl rfl (rfl) (by decide) Try.underlying106 (by kernel_rfl) rfl rfl Taken.no) ?_
           refine SL.val (O.ld1 (PtI.ref rfl rfl) rfl Try.underlying39 rfl rfl Taken.no) ?_
           refine SL.val (O.move rfl rfl Taken.no) ?_
           refine SL.memS (O.buildSlice 110 (rows := [(unitsL m m[f]!)[k]!].map eN) rfl rfl Try.underlying39 hi3 hz3 hs3 (by decide) rfl (by decide) rfl rfl rfl Taken.no) rfl rfl (S' := (110, .data 3 1 ([(unitsL m m[f]!)[k]!].map eN)) :: _) rfl ?_
           refine SL.memS (O.app (k' := 111) rfl rfl (SlOf.own rfl rfl) Try.underlying39 hi3 hz3 hs3 rfl rfl (by exact app_map) (by rw [hb3]; (simp only [List.length_map, List.length_singleton]; omega)) (by (simp only [List.length_map, List.length_singleton]; omega)) rfl Taken.no) rfl rfl (S' := (111, _) :: (105, .dead) :: _) rfl ?_
           refine SL.val (O.idx_ref (i := 1) (m := 1) rfl rfl (rfl) (by decide) Try.underlying106 (by kernel_rfl) rfl rfl Taken.no) ?_
           refine SL.effS (O.st_ref (m := 1) rfl rfl rfl (js := [_]) rfl rfl (by kernel_rfl) (by simp) (Nat.le_of_ble_eq_true rfl) rfl (is' := [_, _]) rfl Taken.no) (S' := (103, _) :: _) rfl ?_
           refine SL.nil ?_
           refine E.inn ?_
           refine E.to ?_
           refine W.region ?_
           refine SL.val (O.det (fun _ => by first | exact G.R.add64 rfl rfl (by omega) | exact G.R.add rfl rfl) rfl Taken.no) ?_
           refine SL.val (O.move rfl rfl Taken.no) ?_
           refine SL.nil ?_
           refine E.again ((k + 1)) (rn [(105, 111)]) ?_ ?_ rfl (fixL_spec rfl) ?_ ?_
           · exact (SubF.cons rfl (SubF.cons rfl (SubF.cons rfl (SubF.cons rfl (SubF.cons rfl (SubF.cons rfl (SubF.cons rfl (SubF.cons rfl (SubF.cons rfl (SubF.cons rfl (SubF.cons rfl SubF.nil)))))))))))
           · exact (SubS.val rfl (by (try dsimp only); first | exact sb_data (by rw [filt_y (by omega) hp0, ← List.append_assoc]) | exact sb_data (by rw [filt_n (by omega) hp0])) (SubS.val rfl (by (try dsimp only); first | exact sb_data (by rw [filt_n (by omega) hp1]) | exact sb_data (by rw [filt_y (by omega) hp1])) (SubS.cons rfl (SubS.cons rfl (SubS.cons rfl SubS.nil)))))
           ·try dsimp only
            omega
           · (try dsimp only); omega
         ·skip
          refine W.exit ?_
          refine E.th ?_
          refine E.th ?_
          refine E.hit ?_
          refine E.to ?_
          refine W.seq ?_
          refine W.region ?_
          refine SL.val (O.fld_ref (o' := 2) rfl Try.underlying55 rfl (m := 0) (by kernel_rfl) rfl rfl Taken.no) ?_
          refine SL.val (O.ld1 (PtI.ref rfl rfl) rfl Try.underlying3 rfl rfl Taken.no) ?_
          refine SL.val (O.det (fun _ => G.R.mv (G.R.eql rfl rfl) (congrArg Value.bool (decide_eq_true (by rfl)))) rfl Taken.no) ?_
          refine SL.val (O.move rfl rfl Taken.no) ?_
          have hg11 : true = true := by decide
          refine SL.val (O.idx_ref (i := 1) (m := 1) rfl rfl (rfl) (by decide) Try.underlying106 (by kernel_rfl) rfl rfl (Taken.yes rfl rfl hg11)) ?_
          refine SL.val (O.ld1 (PtI.ref rfl rfl) rfl Try.underlying39 rfl rfl (Taken.yes rfl rfl hg11)) ?_
          refine SL.val (O.lenE (SlOf.own rfl rfl) (by first | exact List.length_map _ | rfl) Try.underlying39 rfl (Taken.yes rfl rfl hg11)) ?_
          refine SL.val (O.det (fun _ => G.R.eql rfl rfl) rfl (Taken.yes rfl rfl hg11)) ?_
          refine SL.val (O.pick_t rfl rfl rfl rfl Taken.no) ?_
          refine SL.nil ?_
          refine E.to ?_
          first | refine W.cond_d rfl (fun hc12 => ?_) (fun hc12 => ?_) | refine W.cond_nd rfl (fun hc12 => ?_) (fun hc12 => ?_) | refine W.cond rfl (fun hc12 => ?_) (fun hc12 => ?_)
          ·skip
           refine W.seq ?_
           refine W.region ?_
           refine SL.val (O.assign rfl rfl Taken.no) ?_
           refine SL.val (O.assign rfl rfl Taken.no) ?_
           refine SL.val (O.assign rfl rfl Taken.no) ?_
           refine SL.nil ?_
           refine E.to ?_
           refine W.ret ?_
           refine E.thr ?_
           refine E.nilsl 6 1 rfl ?_
           refine E.fin (rs := [_, _, _]) (rn []) (.inl rfl) rfl (.cons (ResOne.tmp rfl) (.cons (ResOne.tmp rfl) (.cons (ResOne.tmp rfl) .nil))) ?_ ?_ rfl (fixL_spec rfl)
           ·skip
            first | ((have hno : ¬ posF n bar atm m ⟨false, (f : Int), -1⟩ := fun q => by ((obtain ⟨⟨⟨q1, q2, q3, q4, q5⟩, q6, q7, q8⟩, q9⟩ := posF_iff.1 q); (try simp only [Int.toNat_natCast] at q6 q7 q8); (refine (q8 (by trivial)).2 (by omega) ?_; show (unitsL m m[f]!).filter (fun u => !decide (atm[u]! = f)) = []; rw [← List.take_length (l := unitsL m m[f]!), show (unitsL m m[f]!).length = k by omega]; exact List.eq_nil_of_length_eq_zero (by omega)))); rw [apN_n hno, apG_n hno, dec_f hno]; rfl)
           · exact SubS.nil
          ·skip
           refine W.skip ?_
           refine E.to ?_
           refine W.seq ?_
           refine W.freezeC 103 0 104 (is' := [_, _]) rfl rfl rfl rfl ?_
           refine W.freezeC 103 1 105 (is' := [_, _]) rfl rfl rfl rfl ?_
           refine W.region ?_
           have hkH : k = (unitsL m m[f]!).length := by omega
           obtain ⟨s, hs⟩ : ∃ s : Stp, s = ⟨false, (f : Int), -1⟩ := ⟨_, rfl⟩
           have hfe : s.f.toNat = f := by rw [hs]; rfl
           have hth : thereL m s.t = [] := by rw [hs]; exact there_neg m
           have hg0 : ((thereL m (-1)) ++ ((unitsL m m[f]!).take k).filter (fun u => decide (atm[u]! = f))) = g0L m atm s := by rw [hkH, List.take_length, hs]; rfl
           have hg1 : (((unitsL m m[f]!).take k).filter (fun u => !decide (atm[u]! = f))) = g1L m atm s := by rw [hkH, List.take_length, hs]; rfl
           have hpre : preF n atm m s := by rw [hs]; exact ⟨⟨by show (0 : Int) ≤ f; omega, by show (f : Int) < n; omega, by show (-1 : Int) < (n : Int); omega, by show -1 ≤ (-1 : Int); omega, fun h => rfl⟩, fun h => ⟨by exfalso; have h2 : (0 : Int) ≤ -1 := h; omega, by exfalso; have h2 : (0 : Int) ≤ -1 := h; omega⟩, fun h => (by cases h), fun h => ⟨by show atm[f]! = f; omega, fun _ e => by have e2 := congrArg List.length e; rw [← hs, ← hg1] at e2; rw [List.length_nil] at e2; omega⟩⟩
           have hgb := g_b (atm := atm) (s := s) hml
           have hl0 : (partsL lk (g0L m atm s)).length ≤ (g0L m atm s).length := partsN_len
           have hl1 : (partsL lk (g1L m atm s)).length ≤ (g1L m atm s).length := partsN_len
           rw [hg0]
           refine SL.val (O.move rfl rfl Taken.no) ?_
           refine SL.memS (O.call (rn [(0, 112)]) [] rfl rfl rfl (clone_h (rows := m.map eN) (by rw [List.length_map]; omega)) (.cons (ArgOk.same rfl) .nil) SubS.nil rfl rfl rfl rfl rfl (.inl rfl) hcallOk39 (r' := .own 112) rfl rfl Taken.no) rfl rfl (S' := (112, .data _ _ _) :: _) rfl ?_
           refine SL.memS (O.alloc (z := .slice none 0 0) (is := [.u (.sc (.slice none 0 0))]) 113 (by kernel_rfl) rfl rfl rfl Taken.no) rfl rfl (S' := (113, _) :: _) rfl ?_
           refine SL.effS (O.st_ref (m := 1) rfl rfl rfl (js := [_]) rfl rfl (by kernel_rfl) (by simp) (Nat.le_of_ble_eq_true rfl) rfl (is' := [_]) rfl Taken.no) (S' := (113, _) :: _) rfl ?_
           refine SL.nil ?_
           refine E.to ?_
           refine W.seq ?_
           refine W.seq ?_
           refine W.region ?_
           refine SL.val (O.idx_ref (i := 0) (m := 1) rfl rfl (rfl) (by decide) Try.underlying106 (by kernel_rfl) rfl rfl Taken.no) ?_
           refine SL.val (O.ld1 (PtI.ref rfl rfl) rfl Try.underlying39 rfl rfl Taken.no) ?_
           refine SL.val (O.lenE (SlOf.fz rfl (by decide)) (by first | exact List.length_map _ | rfl) Try.underlying39 rfl Taken.no) ?_
           refine SL.val (O.move rfl rfl Taken.no) ?_
           refine SL.nil ?_
           refine E.to ?_
           refine W.pick (.cons (t := 0) rfl (.cons (t := 6) rfl (.cons (t := 7) rfl (.cons (t := 8) rfl (.cons (t := 11) rfl (.cons (t := 12) rfl (.cons (t := 16) rfl (.cons (t := 171) rfl (.cons (t := 172) rfl (.cons (t := 173) rfl .nil)))))))))) (.cons (t := 101) rfl (.cons (t := 102) rfl (.cons (t := 103) rfl (.cons (t := 112) rfl (.cons (t := 113) rfl .nil))))) ?_
           refine W.block ?_
           refine W.loopx1 (fun (j : Nat) => [(173, vI (j : Int))]) (fun (j : Nat) => [(114, .data 3 1 ((setAll (m.map (fun x : Nat => (x : Int))) ((g0L m atm s).take j) (-1)).map eI)), (113, .cells 39 [.own 114])]) (fun (j : Nat) => j ≤ (g0L m atm s).length) (fun (j : Nat) => (g0L m atm s).length - j) (0) (rn [(114, 112)]) (.cons (t := 0) rfl (.cons (t := 6) rfl (.cons (t := 7) rfl (.cons (t := 8) rfl (.cons (t := 11) rfl (.cons (t := 12) rfl (.cons (t := 16) rfl (.cons (t := 171) rfl (.cons (t := 172) rfl .nil))))))))) (.cons (t := 101) rfl (.cons (t := 102) rfl (.cons (t := 103) rfl .nil))) rfl ?_ ?_ rfl rfl ?_ ?_
           · exact (SubF.cons rfl SubF.nil)
           · exact (SubS.val rfl (by exact sb_data (by rw [List.take_zero]; exact (eI_eN m).symm)) (SubS.cons rfl SubS.nil))
           ·skip
            omega
           intro j hinv
           have hj := hinv
           have hnl : (setAll (m.map (fun x : Nat => (x : Int))) ((g0L m atm s).take j) (-1)).length = n := by rw [setAll_len, List.length_map]; exact hml
           refine W.seq ?_
           refine W.region ?_
           refine SL.val (O.det (fun _ => G.R.lss rfl rfl) rfl Taken.no) ?_
           refine SL.nil ?_
           refine E.to ?_
           refine W.seq ?_
           first | refine W.cond_d rfl (fun hc13 => ?_) (fun hc13 => ?_) | refine W.cond_nd rfl (fun hc13 => ?_) (fun hc13 => ?_) | refine W.cond rfl (fun hc13 => ?_) (fun hc13 => ?_)
           ·skip
            have hGj := hgb.2.1 (g0L m atm s)[j]! (mem_at (by omega))
            refine W.skip ?_
            refine E.to ?_
            refine W.seq ?_
            refine W.block ?_
            refine W.seq ?_
            refine W.region ?_
            refine SL.val (O.idx_fz (i := j) rfl rfl (rfl) (row_get (by omega)) Try.underlying39 hi3 hs3 rfl Taken.no) ?_
            refine SL.val (O.ld1 (PtI.ofU (PtU.fz rfl)) rfl Try.underlying3 rfl rfl Taken.no) ?_
            refine SL.val (O.assign rfl rfl Taken.no) ?_
            refine SL.nil ?_
            refine E.to ?_
            refine W.region ?_
            refine SL.val (O.ld1 (PtI.ref rfl rfl) rfl Try.underlying39 rfl rfl Taken.no) ?_
            refine SL.val (O.move rfl rfl Taken.no) ?_
            refine SL.val (O.idx_own (i := ((g0L m atm s)[j]!)) rfl rfl rfl (rfl) (by rw [List.length_map]; omega) Try.underlying39 hi3 hs3 rfl Taken.no) ?_
            refine SL.effS (O.st_els (m := 1) rfl rfl rfl (us := [_]) rfl rfl (by kernel_rfl) (by simp) (row_get (by omega)) (by exact Nat.le_of_ble_eq_true rfl) rfl rfl (rows' := ((setAll (m.map (fun x : Nat => (x : Int))) ((g0L m atm s).take j) (-1)).set ((g0L m atm s)[j]!) (-1)).map eI) (by exact set_map rfl) Taken.no) (S' := (114, _) :: _) rfl ?_
            refine SL.nil ?_
            refine E.inn ?_
            refine E.to ?_
            refine W.region ?_
            refine SL.val (O.det (fun _ => by first | exact G.R.add64 rfl rfl (by omega) | exact G.R.add rfl rfl) rfl Taken.no) ?_
            refine SL.val (O.move rfl rfl Taken.no) ?_
            refine SL.nil ?_
            refine E.again ((j + 1)) (rn []) ?_ ?_ rfl (fixL_spec rfl) ?_ ?_
            · exact (SubF.cons rfl (SubF.cons rfl (SubF.cons rfl (SubF.cons rfl (SubF.cons rfl (SubF.cons rfl (SubF.cons rfl (SubF.cons rfl (SubF.cons rfl (SubF.cons rfl SubF.nil))))))))))
            · exact (SubS.val rfl (by (try dsimp only); exact sb_data (by rw [setAll_sG (by omega)])) (SubS.cons rfl (SubS.cons rfl (SubS.cons rfl (SubS.cons rfl SubS.nil)))))
            ·try dsimp only
             omega
            · (try dsimp only); omega
           ·skip
            refine W.exit ?_
            refine E.th ?_
            refine E.th ?_
            refine E.hit ?_
            refine E.to ?_
            refine W.seq ?_
            refine W.seq ?_
            have hjG : j = (g0L m atm s).length := by omega
            rw [hjG, List.take_length]
            refine W.region ?_
            refine SL.val (O.move rfl rfl Taken.no) ?_
            refine SL.val (O.nilCheck rfl rfl rfl Taken.no) ?_
            refine SL.val (O.fld_fz rfl Try.underlying78 rfl (m := 0) (by kernel_rfl) rfl rfl Taken.no) ?_
            refine SL.val (O.ld1 (PtI.ofU (PtU.fz rfl)) rfl Try.underlying23 rfl rfl Taken.no) ?_
            refine SL.val (O.makeFunc rfl rfl rfl Taken.no) ?_
            refine SL.memS (O.call (rn [(0, 113), (1, 114)]) [] rfl rfl rfl (containsFuncN (nm := (nm0 m atm s)) (q := bar) (by rw [nm0_len, hml]; exact hb)) (.cons (ArgOk.same rfl) (.cons (ArgOk.same rfl) .nil)) (SubS.cons rfl (SubS.cons rfl SubS.nil)) rfl rfl rfl rfl rfl (.inl rfl) hcallOk63 (r' := .u _) rfl rfl Taken.no) rfl rfl (S' := (113, .cells _ [.own 114]) :: (114, .data _ _ _) :: _) rfl ?_
            refine SL.nil ?_
            refine E.to ?_
            first | refine W.cond_d rfl (fun hc14 => ?_) (fun hc14 => ?_) | refine W.cond_nd rfl (fun hc14 => ?_) (fun hc14 => ?_) | refine W.cond rfl (fun hc14 => ?_) (fun hc14 => ?_)
            ·skip
             refine W.seq ?_
             refine W.region ?_
             refine SL.val (O.assign rfl rfl Taken.no) ?_
             refine SL.val (O.assign rfl rfl Taken.no) ?_
             refine SL.val (O.assign rfl rfl Taken.no) ?_
             refine SL.nil ?_
             refine E.to ?_
             refine W.ret ?_
             refine E.thr ?_
             refine E.nilsl 6 1 rfl ?_
             refine E.fin (rs := [_, _, _]) (rn []) (.inl rfl) rfl (.cons (ResOne.tmp rfl) (.cons (ResOne.tmp rfl) (.cons (ResOne.tmp rfl) .nil))) ?_ ?_ rfl (fixL_spec rfl)
             ·skip
              have hcl : bar.any (nmHit (nm0 m atm s)) = true := by assumption
              have hno : ¬ posF n bar atm m s := fun q => by rw [hit_eq hml hb, q.2] at hcl; cases hcl
              rw [← hs, apN_n hno, apG_n hno, dec_f hno]; rfl
             · exact SubS.nil
            ·skip
             refine W.skip ?_
             refine E.to ?_
             refine W.seq ?_
             refine W.region ?_
             refine SL.val (O.assign rfl rfl Taken.no) ?_
             refine SL.nil ?_
             refine E.to ?_
             refine W.seq ?_
             refine W.seq ?_
             refine W.region ?_
             have hcl : bar.any (nmHit (nm0 m atm s)) = false := by first | assumption | simp_all
             have hL : ∀ p ∈ gL lk m atm s, p.length ≤ 1000 := fun p hp => by rcases List.mem_append.1 hp with z | z <;> (have := (partsN_units z).2.1; omega)
             refine SL.val (O.ldN (m := 2) (PtI.ref rfl rfl) (js := [_, _]) rfl (Nat.le_of_ble_eq_true rfl) Try.underlying106 rfl (by kernel_rfl) rfl Taken.no) ?_
             refine SL.val (O.move rfl rfl Taken.no) ?_
             refine SL.nil ?_
             refine E.to ?_
             refine W.block ?_
             refine W.unroll ?_
             refine W.seq ?_
             refine W.region ?_
             refine SL.val (O.det (fun _ => G.R.mv (G.R.lss rfl rfl) (congrArg Value.bool (decide_eq_true (by decide)))) rfl Taken.no) ?_
             refine SL.nil ?_
             refine E.to ?_
             refine W.seq ?_
             refine W.cond_t rfl ?_
             refine W.skip ?_
             refine E.to ?_
             refine W.seq ?_
             refine W.block ?_
             refine W.seq ?_
             refine W.region ?_
             refine SL.val (O.idxval (i := 0) rfl rfl (by rfl) (by decide) (by rfl) Try.underlying106 (by kernel_rfl) Try.underlying39 rfl rfl Taken.no) ?_
             refine SL.val (O.assign rfl rfl Taken.no) ?_
             refine SL.nil ?_
             refine E.to ?_
             refine W.seq ?_
             refine W.region ?_
             refine SL.val (O.move rfl rfl Taken.no) ?_
             refine SL.val (O.move rfl rfl Taken.no) ?_
             refine SL.val (O.nilCheck rfl rfl rfl Taken.no) ?_
             refine SL.val (O.fld_fz rfl Try.underlying78 rfl (m := 0) (by kernel_rfl) rfl rfl Taken.no) ?_
             refine SL.val (O.ld1 (PtI.ofU (PtU.fz rfl)) rfl Try.underlying76 rfl rfl Taken.no) ?_
             refine SL.val (O.callp rfl rfl rfl (parts_h (n := n) (us := (g0L m atm s)) (by omega) hgb.2.1) (.cons (ArgOk.same rfl) (.cons (ArgOk.same rfl) .nil)) hcallOk42 rfl Taken.no) ?_
             refine SL.val (O.lenE (SlOf.fz rfl (by decide)) (by first | exact List.length_map _ | rfl) Try.underlying75 rfl Taken.no) ?_
             refine SL.val (O.move rfl rfl Taken.no) ?_
             refine SL.nil ?_
             refine E.to ?_
             refine W.pick (.cons (t := 0) rfl (.cons (t := 6) rfl (.cons (t := 7) rfl (.cons (t := 8) rfl (.cons (t := 11) rfl (.cons (t := 16) rfl (.cons (t := 19) rfl (.cons (t := 21) rfl (.cons (t := 187) rfl (.cons (t := 188) rfl (.cons (t := 189) rfl (.cons (t := 190) rfl (.cons (t := 191) rfl (.cons (t := 192) rfl (.cons (t := 193) rfl (.cons (t := 194) rfl (.cons (t := 195) rfl (.cons (t := 196) rfl (.cons (t := 197) rfl (.cons (t := 198) rfl .nil)))))))))))))))))))) (.cons (t := 101) rfl (.cons (t := 102) rfl (.cons (t := 103) rfl (.cons (t := 113) rfl (.cons (t := 114) rfl .nil))))) ?_
             refine W.block ?_
             refine W.loopx1 (fun (p : Nat) => [(198, vI (p : Int)), (19, vI (sumV wt ((partsL lk (g0L m atm s)).take p)))]) (fun (p : Nat) => [(115, .data 3 1 ((nameF (fun x : Nat => (x : Int)) (nm0 m atm s) ((partsL lk (g0L m atm s)).take p)).map eI)), (113, .cells 39 [.own 115])]) (fun (p : Nat) => p ≤ (partsL lk (g0L m atm s)).length) (fun (p : Nat) => (partsL lk (g0L m atm s)).length - p) (0) (rn [(115, 114)]) (.cons (t := 0) rfl (.cons (t := 6) rfl (.cons (t := 7) rfl (.cons (t := 8) rfl (.cons (t := 11) rfl (.cons (t := 16) rfl (.cons (t := 21) rfl (.cons (t := 187) rfl (.cons (t := 188) rfl (.cons (t := 189) rfl (.cons (t := 190) rfl (.cons (t := 191) rfl (.cons (t := 192) rfl (.cons (t := 193) rfl (.cons (t := 194) rfl (.cons (t := 195) rfl (.cons (t := 196) rfl (.cons (t := 197) rfl .nil)))))))))))))))))) (.cons (t := 101) rfl (.cons (t := 102) rfl (.cons (t := 103) rfl .nil))) rfl ?_ ?_ rfl rfl ?_ ?_
             · exact (SubF.cons rfl (SubF.val rfl (by exact iv_int rfl) SubF.nil))
             · exact (SubS.val rfl (by exact sb_data (by rw [List.take_zero]; rfl)) (SubS.cons rfl SubS.nil))
             ·skip
              omega
             intro p hinv
             have hp := hinv
             have hpl : ((partsL lk (g0L m atm s)).take p).length ≤ 400 := by (try rw [List.length_append]); rw [List.length_take]; omega
             have hvb := sumV_b2 hw (L := ((partsL lk (g0L m atm s)).take p)) (fun p hp => hL p (List.mem_append_left _ (List.mem_of_mem_take hp)))
             refine W.seq ?_
             refine W.region ?_
             refine SL.val (O.det (fun _ => G.R.lss rfl rfl) rfl Taken.no) ?_
             refine SL.nil ?_
             refine E.to ?_
             refine W.seq ?_
             first | refine W.cond_d rfl (fun hc15 => ?_) (fun hc15 => ?_) | refine W.cond_nd rfl (fun hc15 => ?_) (fun hc15 => ?_) | refine W.cond rfl (fun hc15 => ?_) (fun hc15 => ?_)
             ·skip
              have hpu := partsN_units (mem_at (l := (partsL lk (g0L m atm s))) (i := p) (by omega))
              have hvp := valF_b hw (l := ((partsL lk (g0L m atm s))[p]!)) (by omega)
              refine W.skip ?_
              refine E.to ?_
              refine W.seq ?_
              refine W.block ?_
              refine W.seq ?_
              refine W.region ?_
              refine SL.val (O.idx_fz (i := p) rfl rfl (rfl) (row_get (by omega)) Try.underlying75 hi39 hs39 rfl Taken.no) ?_
              refine SL.val (O.ld1 (PtI.ofU (PtU.fz rfl)) rfl Try.underlying39 rfl rfl Taken.no) ?_
              refine SL.val (O.assign rfl rfl Taken.no) ?_
              refine SL.nil ?_
              refine E.to ?_
              refine W.seq ?_
              refine W.region ?_
              refine SL.val (O.move rfl rfl Taken.no) ?_
              refine SL.val (O.move rfl rfl Taken.no) ?_
              refine SL.val (O.move rfl rfl Taken.no) ?_
              refine SL.val (O.callp rfl rfl rfl (value_h (l := ((partsL lk (g0L m atm s))[p]!)) hw (by omega) (fun u hu => hgb.2.1 u (hpu.2.2 u hu))) (.cons (ArgOk.same rfl) (.cons (ArgOk.same rfl) .nil)) hcallOk45 rfl Taken.no) ?_
              refine SL.val (O.det (fun _ => by first | exact G.R.add64 rfl rfl (by omega) | exact G.R.add rfl rfl) rfl Taken.no) ?_
              refine SL.val (O.assign rfl rfl Taken.no) ?_
              refine SL.nil ?_
              refine E.to ?_
              refine W.pick (.cons (t := 0) rfl (.cons (t := 6) rfl (.cons (t := 7) rfl (.cons (t := 8) rfl (.cons (t := 11) rfl (.cons (t := 16) rfl (.cons (t := 19) rfl (.cons (t := 21) rfl (.cons (t := 23) rfl (.cons (t := 187) rfl (.cons (t := 188) rfl (.cons (t := 189) rfl (.cons (t := 190) rfl (.cons (t := 191) rfl (.cons (t := 192) rfl (.cons (t := 193) rfl (.cons (t := 194) rfl (.cons (t := 195) rfl (.cons (t := 196) rfl (.cons (t := 197) rfl (.cons (t := 198) rfl (.cons (t := 199) rfl (.cons (t := 200) rfl (.cons (t := 201) rfl (.cons (t := 202) rfl (.cons (t := 203) rfl (.cons (t := 204) rfl (.cons (t := 205) rfl (.cons (t := 206) rfl .nil))))))))))))))))))))))))))))) (.cons (t := 101) rfl (.cons (t := 102) rfl (.cons (t := 103) rfl (.cons (t := 113) rfl (.cons (t := 115) rfl .nil))))) ?_
              refine W.seq ?_
              refine W.region ?_
              refine SL.val (O.move rfl rfl Taken.no) ?_
              refine SL.val (O.lenE (SlOf.fz rfl (by decide)) (by first | exact List.length_map _ | rfl) Try.underlying39 rfl Taken.no) ?_
              refine SL.val (O.move rfl rfl Taken.no) ?_
              refine SL.nil ?_
              refine E.to ?_
              refine W.pick (.cons (t := 0) rfl (.cons (t := 6) rfl (.cons (t := 7) rfl (.cons (t := 8) rfl (.cons (t := 11) rfl (.cons (t := 16) rfl (.cons (t := 19) rfl (.cons (t := 21) rfl (.cons (t := 23) rfl (.cons (t := 187) rfl (.cons (t := 188) rfl (.cons (t := 189) rfl (.cons (t := 190) rfl (.cons (t := 191) rfl (.cons (t := 192) rfl (.cons (t := 193) rfl (.cons (t := 194) rfl (.cons (t := 195) rfl (.cons (t := 196) rfl (.cons (t := 197) rfl (.cons (t := 198) rfl (.cons (t := 199) rfl (.cons (t := 200) rfl (.cons (t := 201) rfl (.cons (t := 202) rfl (.cons (t := 203) rfl (.cons (t := 204) rfl (.cons (t := 205) rfl (.cons (t := 206) rfl (.cons (t := 207) rfl (.cons (t := 208) rfl (.cons (t := 209) rfl .nil)))))))))))))))))))))))))))))))) (.cons (t := 101) rfl (.cons (t := 102) rfl (.cons (t := 103) rfl (.cons (t := 113) rfl (.cons (t := 115) rfl .nil))))) ?_
              refine W.block ?_
              refine W.loopx1 (fun (j : Nat) => [(209, vI (j : Int))]) (fun (j : Nat) => [(116, .data 3 1 ((setAll (nameF (fun x : Nat => (x : Int)) (nm0 m atm s) ((partsL lk (g0L m atm s)).take p)) (((partsL lk (g0L m atm s))[p]!).take j) ((minL ((partsL lk (g0L m atm s))[p]!) : Nat) : Int)).map eI)), (113, .cells 39 [.own 116])]) (fun (j : Nat) => j ≤ ((partsL lk (g0L m atm s))[p]!).length) (fun (j : Nat) => ((partsL lk (g0L m atm s))[p]!).length - j) (0) (rn [(116, 115)]) (.cons (t := 0) rfl (.cons (t := 6) rfl (.cons (t := 7) rfl (.cons (t := 8) rfl (.cons (t := 11) rfl (.cons (t := 16) rfl (.cons (t := 19) rfl (.cons (t := 21) rfl (.cons (t := 23) rfl (.cons (t := 187) rfl (.cons (t := 188) rfl (.cons (t := 189) rfl (.cons (t := 190) rfl (.cons (t := 191) rfl (.cons (t := 192) rfl (.cons (t := 193) rfl (.cons (t := 194) rfl (.cons (t := 195) rfl (.cons (t := 196) rfl (.cons (t := 197) rfl (.cons (t := 198) rfl (.cons (t := 199) rfl (.cons (t := 200) rfl (.cons (t := 201) rfl (.cons (t := 202) rfl (.cons (t := 203) rfl (.cons (t := 204) rfl (.cons (t := 205) rfl (.cons (t := 206) rfl (.cons (t := 207) rfl (.cons (t := 208) rfl .nil))))))))))))))))))))))))))))))) (.cons (t := 101) rfl (.cons (t := 102) rfl (.cons (t := 103) rfl .nil))) rfl ?_ ?_ rfl rfl ?_ ?_
              · exact (SubF.cons rfl SubF.nil)
              · exact (SubS.val rfl (by exact sb_data (by rw [List.take_zero]; rfl)) (SubS.cons rfl SubS.nil))
              ·skip
               omega
              intro j hinv
              have hj := hinv
              have hnl : (setAll (nameF (fun x : Nat => (x : Int)) (nm0 m atm s) ((partsL lk (g0L m atm s)).take p)) (((partsL lk (g0L m atm s))[p]!).take j) ((minL ((partsL lk (g0L m atm s))[p]!) : Nat) : Int)).length = n := by rw [setAll_len, nameF_len, nm0_len]; exact hml
              refine W.seq ?_
              refine W.region ?_
              refine SL.val (O.det (fun _ => G.R.lss rfl rfl) rfl Taken.no) ?_
              refine SL.nil ?_
              refine E.to ?_
              refine W.pick (.cons (t := 0) rfl (.cons (t := 6) rfl (.cons (t := 7) rfl (.cons (t := 8) rfl (.cons (t := 11) rfl (.cons (t := 16) rfl (.cons (t := 19) rfl (.cons (t := 21) rfl (.cons (t := 23) rfl (.cons (t := 187) rfl (.cons (t := 188) rfl (.cons (t := 189) rfl (.cons (t := 190) rfl (.cons (t := 191) rfl (.cons (t := 192) rfl (.cons (t := 193) rfl (.cons (t := 194) rfl (.cons (t := 195) rfl (.cons (t := 196) rfl (.cons (t := 197) rfl (.cons (t := 198) rfl (.cons (t := 199) rfl (.cons (t := 200) rfl (.cons (t := 201) rfl (.cons (t := 202) rfl (.cons (t := 203) rfl (.cons (t := 204) rfl (.cons (t := 205) rfl (.cons (t := 206) rfl (.cons (t := 207) rfl (.cons (t := 208) rfl (.cons (t := 209) rfl (.cons (t := 210) rfl .nil))))))))))))))))))))))))))))))))) (.cons (t := 101) rfl (.cons (t := 102) rfl (.cons (t := 103) rfl (.cons (t := 113) rfl (.cons (t := 116) rfl .nil))))) ?_
              refine W.seq ?_
              first | refine W.cond_d rfl (fun hc16 => ?_) (fun hc16 => ?_) | refine W.cond_nd rfl (fun hc16 => ?_) (fun hc16 => ?_) | refine W.cond rfl (fun hc16 => ?_) (fun hc16 => ?_)
              ·skip
               have hun := hgb.2.1 _ (hpu.2.2 ((partsL lk (g0L m atm s))[p]!)[j]! (mem_at (by omega)))
               refine W.skip ?_
               refine E.to ?_
               refine W.pick (.cons (t := 0) rfl (.cons (t := 6) rfl (.cons (t := 7) rfl (.cons (t := 8) rfl (.cons (t := 11) rfl (.cons (t := 16) rfl (.cons (t := 19) rfl (.cons (t := 21) rfl (.cons (t := 23) rfl (.cons (t := 187) rfl (.cons (t := 188) rfl (.cons (t := 189) rfl (.cons (t := 190) rfl (.cons (t := 191) rfl (.cons (t := 192) rfl (.cons (t := 193) rfl (.cons (t := 194) rfl (.cons (t := 195) rfl (.cons (t := 196) rfl (.cons (t := 197) rfl (.cons (t := 198) rfl (.cons (t := 199) rfl (.cons (t := 200) rfl (.cons (t := 201) rfl (.cons (t := 202) rfl (.cons (t := 203) rfl (.cons (t := 204) rfl (.cons (t := 205) rfl (.cons (t := 206) rfl (.cons (t := 207) rfl (.cons (t := 208) rfl (.cons (t := 209) rfl (.cons (t := 210) rfl .nil))))))))))))))))))))))))))))))))) (.cons (t := 101) rfl (.cons (t := 102) rfl (.cons (t := 103) rfl (.cons (t := 113) rfl (.cons (t := 116) rfl .nil))))) ?_
               refine W.seq ?_
               refine W.block ?_
               refine W.seq ?_
               refine W.region ?_
               refine SL.val (O.idx_fz (i := j) rfl rfl (rfl) (row_get (by omega)) Try.underlying39 hi3 hs3 rfl Taken.no) ?_
               refine SL.val (O.ld1 (PtI.ofU (PtU.fz rfl)) rfl Try.underlying3 rfl rfl Taken.no) ?_
               refine SL.val (O.assign rfl rfl Taken.no) ?_
               refine SL.nil ?_
               refine E.to ?_
               refine W.pick (.cons (t := 0) rfl (.cons (t := 6) rfl (.cons (t := 7) rfl (.cons (t := 8) rfl (.cons (t := 11) rfl (.cons (t := 16) rfl (.cons (t := 19) rfl (.cons (t := 21) rfl (.cons (t := 23) rfl (.cons (t := 25) rfl (.cons (t := 187) rfl (.cons (t := 188) rfl (.cons (t := 189) rfl (.cons (t := 190) rfl (.cons (t := 191) rfl (.cons (t := 192) rfl (.cons (t := 193) rfl (.cons (t := 194) rfl (.cons (t := 195) rfl (.cons (t := 196) rfl (.cons (t := 197) rfl (.cons (t := 198) rfl (.cons (t := 199) rfl (.cons (t := 200) rfl (.cons (t := 201) rfl (.cons (t := 202) rfl (.cons (t := 203) rfl (.cons (t := 204) rfl (.cons (t := 205) rfl (.cons (t := 206) rfl (.cons (t := 207) rfl (.cons (t := 208) rfl (.cons (t := 209) rfl (.cons (t := 210) rfl (.cons (t := 211) rfl (.cons (t := 212) rfl .nil)))))))))))))))))))))))))))))))))))) (.cons (t := 101) rfl (.cons (t := 102) rfl (.cons (t := 103) rfl (.cons (t := 113) rfl (.cons (t := 116) rfl .nil))))) ?_
               refine W.draw [⟨[113], [], [], [116]⟩, ⟨[], [], [], []⟩, ⟨[], [], [], []⟩, ⟨[], [], [], []⟩, ⟨[116], [], [], []⟩, ⟨[116], [116], [], []⟩] rfl (by kernel_rfl) (by kernel_rfl) rfl rfl ?_
               refine WH.val (O.ld1 (PtI.ref rfl rfl) rfl Try.underlying39 rfl rfl Taken.no) rfl rfl ?_
               refine WH.val (O.move rfl rfl Taken.no) rfl rfl ?_
               refine WH.val (O.move rfl rfl Taken.no) rfl rfl ?_
               refine WH.val (O.callp rfl rfl rfl (min_h (l := ((partsL lk (g0L m atm s))[p]!)) (by omega)) (.cons (ArgOk.same rfl) .nil) hcallOk62 rfl Taken.no) rfl rfl ?_
               refine WH.val (O.idx_own (i := (((partsL lk (g0L m atm s))[p]!)[j]!)) rfl rfl rfl (rfl) (by rw [List.length_map]; omega) Try.underlying39 hi3 hs3 rfl Taken.no) rfl rfl ?_
               refine WH.effS (O.st_els (m := 1) rfl rfl rfl (us := [_]) rfl rfl (by kernel_rfl) (by simp) (row_get (by omega)) (by exact Nat.le_of_ble_eq_true rfl) rfl rfl (rows' := ((setAll (nameF (fun x : Nat => (x : Int)) (nm0 m atm s) ((partsL lk (g0L m atm s)).take p)) (((partsL lk (g0L m atm s))[p]!).take j) ((minL ((partsL lk (g0L m atm s))[p]!) : Nat) : Int)).set (((partsL lk (g0L m atm s))[p]!)[j]!) ((minL ((partsL lk (g0L m atm s))[p]!) : Nat) : Int)).map eI) (by exact set_map rfl) Taken.no) rfl rfl rfl (S' := (116, _) :: _) rfl ?_
               refine WH.nil ?_
               refine E.inn ?_
               refine E.to ?_
               refine W.pick (.cons (t := 0) rfl (.cons (t := 6) rfl (.cons (t := 7) rfl (.cons (t := 8) rfl (.cons (t := 11) rfl (.cons (t := 16) rfl (.cons (t := 19) rfl (.cons (t := 21) rfl (.cons (t := 23) rfl (.cons (t := 25) rfl (.cons (t := 187) rfl (.cons (t := 188) rfl (.cons (t := 189) rfl (.cons (t := 190) rfl (.cons (t := 191) rfl (.cons (t := 192) rfl (.cons (t := 193) rfl (.cons (t := 194) rfl (.cons (t := 195) rfl (.cons (t := 196) rfl (.cons (t := 197) rfl (.cons (t := 198) rfl (.cons (t := 199) rfl (.cons (t := 200) rfl (.cons (t := 201) rfl (.cons (t := 202) rfl (.cons (t := 203) rfl (.cons (t := 204) rfl (.cons (t := 205) rfl (.cons (t := 206) rfl (.cons (t := 207) rfl (.cons (t := 208) rfl (.cons (t := 209) rfl (.cons (t := 210) rfl (.cons (t := 211) rfl (.cons (t := 212) rfl (.cons (t := 213) rfl (.cons (t := 214) rfl (.cons (t := 215) rfl (.cons (t := 216) rfl (.cons (t := 217) rfl .nil))))))))))))))))))))))))))))))))))))))))) (.cons (t := 101) rfl (.cons (t := 102) rfl (.cons (t := 103) rfl (.cons (t := 113) rfl (.cons (t := 116) rfl .nil))))) ?_
               refine W.region ?_
               refine SL.val (O.det (fun _ => by first | exact G.R.add64 rfl rfl (by omega) | exact G.R.add rfl rfl) rfl Taken.no) ?_
               refine SL.val (O.move rfl rfl Taken.no) ?_
               refine SL.nil ?_
               refine E.again ((j + 1)) (rn []) ?_ ?_ rfl (fixL_spec rfl) ?_ ?_
               · exact (SubF.cons rfl (SubF.cons rfl (SubF.cons rfl (SubF.cons rfl (SubF.cons rfl (SubF.cons rfl (SubF.cons rfl (SubF.cons rfl (SubF.cons rfl (SubF.cons rfl (SubF.cons rfl (SubF.cons rfl (SubF.cons rfl (SubF.cons rfl (SubF.cons rfl (SubF.cons rfl (SubF.cons rfl (SubF.cons rfl (SubF.cons rfl (SubF.cons rfl (SubF.cons rfl (SubF.cons rfl (SubF.cons rfl (SubF.cons rfl (SubF.cons rfl (SubF.cons rfl (SubF.cons rfl (SubF.cons rfl (SubF.cons rfl (SubF.cons rfl (SubF.cons rfl (SubF.cons rfl SubF.nil))))))))))))))))))))))))))))))))
               · exact (SubS.val rfl (by (try dsimp only); exact sb_data (by rw [setAll_sG (by omega)])) (SubS.cons rfl (SubS.cons rfl (SubS.cons rfl (SubS.cons rfl SubS.nil)))))
               ·try dsimp only
                omega
               · (try dsimp only); omega
              ·skip
               refine W.exit ?_
               refine E.th ?_
               refine E.th ?_
               refine E.hit ?_
               refine E.inn ?_
               refine E.to ?_
               refine W.pick (.cons (t := 0) rfl (.cons (t := 6) rfl (.cons (t := 7) rfl (.cons (t := 8) rfl (.cons (t := 11) rfl (.cons (t := 16) rfl (.cons (t := 19) rfl (.cons (t := 21) rfl (.cons (t := 23) rfl (.cons (t := 187) rfl (.cons (t := 188) rfl (.cons (t := 189) rfl (.cons (t := 190) rfl (.cons (t := 191) rfl (.cons (t := 192) rfl (.cons (t := 193) rfl (.cons (t := 194) rfl (.cons (t := 195) rfl (.cons (t := 196) rfl (.cons (t := 197) rfl (.cons (t := 198) rfl (.cons (t := 199) rfl (.cons (t := 200) rfl (.cons (t := 201) rfl (.cons (t := 202) rfl (.cons (t := 203) rfl (.cons (t := 204) rfl (.cons (t := 205) rfl (.cons (t := 206) rfl (.cons (t := 207) rfl (.cons (t := 208) rfl (.cons (t := 209) rfl (.cons (t := 210) rfl .nil))))))))))))))))))))))))))))))))) (.cons (t := 101) rfl (.cons (t := 102) rfl (.cons (t := 103) rfl (.cons (t := 113) rfl (.cons (t := 116) rfl .nil))))) ?_
               refine W.region ?_
               refine SL.val (O.det (fun _ => by first | exact G.R.add64 rfl rfl (by omega) | exact G.R.add rfl rfl) rfl Taken.no) ?_
               refine SL.val (O.move rfl rfl Taken.no) ?_
               refine SL.nil ?_
               refine E.again ((p + 1)) (rn [(115, 116)]) ?_ ?_ rfl (fixL_spec rfl) ?_ ?_
               · exact (SubF.cons rfl (SubF.val rfl (by (try dsimp only); exact iv_int (by rw [snocP (l := (partsL lk (g0L m atm s))) (by omega), sumV_snoc])) (SubF.cons rfl (SubF.cons rfl (SubF.cons rfl (SubF.cons rfl (SubF.cons rfl (SubF.cons rfl (SubF.cons rfl (SubF.cons rfl (SubF.cons rfl (SubF.cons rfl (SubF.cons rfl (SubF.cons rfl (SubF.cons rfl (SubF.cons rfl (SubF.cons rfl (SubF.cons rfl (SubF.cons rfl (SubF.cons rfl SubF.nil))))))))))))))))))))
               · exact (SubS.val rfl (by (try dsimp only); exact sb_data (by rw [snocP (l := (partsL lk (g0L m atm s))) (by omega), nameF_snoc, show j = ((partsL lk (g0L m atm s))[p]!).length by omega, List.take_length])) (SubS.cons rfl (SubS.cons rfl (SubS.cons rfl (SubS.cons rfl SubS.nil)))))
               ·try dsimp only
                omega
               · (try dsimp only); omega
             ·skip
              refine W.exit ?_
              refine E.th ?_
              refine E.th ?_
              refine E.hit ?_
              refine E.inn ?_
              refine E.to ?_
              refine W.region ?_
              refine SL.val (O.det (fun _ => by first | exact G.R.add64 rfl rfl (by omega) | exact G.R.add rfl rfl) rfl Taken.no) ?_
              refine SL.val (O.move rfl rfl Taken.no) ?_
              refine SL.nil ?_
              refine E.reround ?_
              refine W.pick (.cons (t := 0) rfl (.cons (t := 6) rfl (.cons (t := 7) rfl (.cons (t := 8) rfl (.cons (t := 11) rfl (.cons (t := 16) rfl (.cons (t := 19) rfl (.cons (t := 21) rfl (.cons (t := 187) rfl (.cons (t := 188) rfl (.cons (t := 189) rfl (.cons (t := 190) rfl (.cons (t := 191) rfl (.cons (t := 192) rfl (.cons (t := 193) rfl (.cons (t := 194) rfl (.cons (t := 195) rfl (.cons (t := 196) rfl (.cons (t := 197) rfl (.cons (t := 198) rfl (.cons (t := 199) rfl (.cons (t := 220) rfl .nil)))))))))))))))))))))) (.cons (t := 101) rfl (.cons (t := 102) rfl (.cons (t := 103) rfl (.cons (t := 113) rfl (.cons (t := 115) rfl .nil))))) ?_
              refine W.seq ?_
              refine W.region ?_
              refine SL.val (O.det (fun _ => G.R.mv (G.R.lss rfl rfl) (congrArg Value.bool (decide_eq_true (by decide)))) rfl Taken.no) ?_
              refine SL.nil ?_
              refine E.to ?_
              refine W.seq ?_
              refine W.cond_t rfl ?_
              refine W.skip ?_
              refine E.to ?_
              refine W.seq ?_
              refine W.block ?_
              refine W.seq ?_
              refine W.region ?_
              refine SL.val (O.idxval (i := 1) rfl rfl (by rfl) (by decide) (by rfl) Try.underlying106 (by kernel_rfl) Try.underlying39 rfl rfl Taken.no) ?_
              refine SL.val (O.assign rfl rfl Taken.no) ?_
              refine SL.as (i' := vL 1 ((g1L m atm s).map eN)) 21 rfl (by (rw [← hg1]; try rfl)) ?_
              refine SL.nil ?_
              refine E.to ?_
              refine W.pick (.cons (t := 0) rfl (.cons (t := 6) rfl (.cons (t := 7) rfl (.cons (t := 8) rfl (.cons (t := 11) rfl (.cons (t := 16) rfl (.cons (t := 19) rfl (.cons (t := 21) rfl (.cons (t := 187) rfl (.cons (t := 188) rfl (.cons (t := 189) rfl (.cons (t := 190) rfl (.cons (t := 191) rfl (.cons (t := 192) rfl (.cons (t := 193) rfl (.cons (t := 194) rfl (.cons (t := 195) rfl (.cons (t := 196) rfl (.cons (t := 197) rfl (.cons (t := 198) rfl (.cons (t := 199) rfl (.cons (t := 220) rfl .nil)))))))))))))))))))))) (.cons (t := 101) rfl (.cons (t := 102) rfl (.cons (t := 103) rfl (.cons (t := 113) rfl (.cons (t := 115) rfl .nil))))) ?_
              refine W.seq ?_
              refine W.region ?_
              refine SL.val (O.move rfl rfl Taken.no) ?_
              refine SL.val (O.move rfl rfl Taken.no) ?_
              refine SL.val (O.nilCheck rfl rfl rfl Taken.no) ?_
              refine SL.val (O.fld_fz rfl Try.underlying78 rfl (m := 0) (by kernel_rfl) rfl rfl Taken.no) ?_
              refine SL.val (O.ld1 (PtI.ofU (PtU.fz rfl)) rfl Try.underlying76 rfl rfl Taken.no) ?_
              refine SL.val (O.callp rfl rfl rfl (parts_h (n := n) (us := (g1L m atm s)) (by omega) hgb.2.2) (.cons (ArgOk.same rfl) (.cons (ArgOk.same rfl) .nil)) hcallOk42 rfl Taken.no) ?_
              refine SL.val (O.lenE (SlOf.fz rfl (by decide)) (by first | exact List.length_map _ | rfl) Try.underlying75 rfl Taken.no) ?_
              refine SL.val (O.move rfl rfl Taken.no) ?_
              refine SL.nil ?_
              refine E.to ?_
              refine W.pick (.cons (t := 0) rfl (.cons (t := 6) rfl (.cons (t := 7) rfl (.cons (t := 8) rfl (.cons (t := 11) rfl (.cons (t := 16) rfl (.cons (t := 19) rfl (.cons (t := 21) rfl (.cons (t := 187) rfl (.cons (t := 188) rfl (.cons (t := 189) rfl (.cons (t := 190) rfl (.cons (t := 191) rfl (.cons (t := 192) rfl (.cons (t := 193) rfl (.cons (t := 194) rfl (.cons (t := 195) rfl (.cons (t := 196) rfl (.cons (t := 197) rfl (.cons (t := 198) rfl (.cons (t := 199) rfl (.cons (t := 220) rfl .nil)))))))))))))))))))))) (.cons (t := 101) rfl (.cons (t := 102) rfl (.cons (t := 103) rfl (.cons (t := 113) rfl (.cons (t := 115) rfl .nil))))) ?_
              refine W.block ?_
              refine W.loopx1 (fun (q : Nat) => [(198, vI (q : Int)), (19, vI (sumV wt ((partsL lk (g0L m atm s)) ++ (partsL lk (g1L m atm s)).take q)))]) (fun (q : Nat) => [(117, .data 3 1 ((nameF (fun x : Nat => (x : Int)) (nm0 m atm s) ((partsL lk (g0L m atm s)) ++ (partsL lk (g1L m atm s)).take q)).map eI)), (113, .cells 39 [.own 117])]) (fun (q : Nat) => q ≤ (partsL lk (g1L m atm s)).length) (fun (q : Nat) => (partsL lk (g1L m atm s)).length - q) (0) (rn [(117, 115)]) (.cons (t := 0) rfl (.cons (t := 6) rfl (.cons (t := 7) rfl (.cons (t := 8) rfl (.cons (t := 11) rfl (.cons (t := 16) rfl (.cons (t := 21) rfl (.cons (t := 187) rfl (.cons (t := 188) rfl (.cons (t := 189) rfl (.cons (t := 190) rfl (.cons (t := 191) rfl (.cons (t := 192) rfl (.cons (t := 193) rfl (.cons (t := 194) rfl (.cons (t := 195) rfl (.cons (t := 196) rfl (.cons (t := 197) rfl (.cons (t := 220) rfl .nil))))))))))))))))))) (.cons (t := 101) rfl (.cons (t := 102) rfl (.cons (t := 103) rfl .nil))) rfl ?_ ?_ rfl rfl ?_ ?_
              · exact (SubF.cons rfl (SubF.val rfl (by exact iv_int (by rw [List.take_zero, List.append_nil, show p = (partsL lk (g0L m atm s)).length by omega, List.take_length])) SubF.nil))
              · exact (SubS.val rfl (by exact sb_data (by rw [List.take_zero, List.append_nil, show p = (partsL lk (g0L m atm s)).length by omega, List.take_length])) (SubS.cons rfl SubS.nil))
              ·skip
               omega
              intro q hinv
              have hq := hinv
              have hpl : ((partsL lk (g0L m atm s)) ++ (partsL lk (g1L m atm s)).take q).length ≤ 400 := by (try rw [List.length_append]); rw [List.length_take]; omega
              have hvb := sumV_b2 hw (L := ((partsL lk (g0L m atm s)) ++ (partsL lk (g1L m atm s)).take q)) (fun p hp => hL p ((List.mem_append.1 hp).elim (fun z => List.mem_append_left _ z) fun z => List.mem_append_right _ (List.mem_of_mem_take z)))
              refine W.seq ?_
              refine W.region ?_
              refine SL.val (O.det (fun _ => G.R.lss rfl rfl) rfl Taken.no) ?_
              refine SL.nil ?_
              refine E.to ?_
              refine W.seq ?_
              first | refine W.cond_d rfl (fun hc17 => ?_) (fun hc17 => ?_) | refine W.cond_nd rfl (fun hc17 => ?_) (fun hc17 => ?_) | refine W.cond rfl (fun hc17 => ?_) (fun hc17 => ?_)
              ·skip
               have hpu := partsN_units (mem_at (l := (partsL lk (g1L m atm s))) (i := q) (by omega))
               have hvp := valF_b hw (l := ((partsL lk (g1L m atm s))[q]!)) (by omega)
               refine W.skip ?_
               refine E.to ?_
               refine W.seq ?_
               refine W.block ?_
               refine W.seq ?_
               refine W.region ?_
               refine SL.val (O.idx_fz (i := q) rfl rfl (rfl) (row_get (by omega)) Try.underlying75 hi39 hs39 rfl Taken.no) ?_
               refine SL.val (O.ld1 (PtI.ofU (PtU.fz rfl)) rfl Try.underlying39 rfl rfl Taken.no) ?_
               refine SL.val (O.assign rfl rfl Taken.no) ?_
               refine SL.nil ?_
               refine E.to ?_
               refine W.pick (.cons (t := 0) rfl (.cons (t := 6) rfl (.cons (t := 7) rfl (.cons (t := 8) rfl (.cons (t := 11) rfl (.cons (t := 16) rfl (.cons (t := 19) rfl (.cons (t := 21) rfl (.cons (t := 23) rfl (.cons (t := 187) rfl (.cons (t := 188) rfl (.cons (t := 189) rfl (.cons (t := 190) rfl (.cons (t := 191) rfl (.cons (t := 192) rfl (.cons (t := 193) rfl (.cons (t := 194) rfl (.cons (t := 195) rfl (.cons (t := 196) rfl (.cons (t := 197) rfl (.cons (t := 198) rfl (.cons (t := 199) rfl (.cons (t := 200) rfl (.cons (t := 201) rfl (.cons (t := 220) rfl .nil))))))))))))))))))))))))) (.cons (t := 101) rfl (.cons (t := 102) rfl (.cons (t := 103) rfl (.cons (t := 113) rfl (.cons (t := 117) rfl .nil))))) ?_
               refine W.seq ?_
               refine W.region ?_
               refine SL.val (O.move rfl rfl Taken.no) ?_
               refine SL.val (O.move rfl rfl Taken.no) ?_
               refine SL.val (O.move rfl rfl Taken.no) ?_
               refine SL.val (O.callp rfl rfl rfl (value_h (l := ((partsL lk (g1L m atm s))[q]!)) hw (by omega) (fun u hu => hgb.2.2 u (hpu.2.2 u hu))) (.cons (ArgOk.same rfl) (.cons (ArgOk.same rfl) .nil)) hcallOk45 rfl Taken.no) ?_
               refine SL.val (O.det (fun _ => by first | exact G.R.add64 rfl rfl (by omega) | exact G.R.add rfl rfl) rfl Taken.no) ?_
               refine SL.val (O.assign rfl rfl Taken.no) ?_
               refine SL.nil ?_
               refine E.to ?_
               refine W.pick (.cons (t := 0) rfl (.cons (t := 6) rfl (.cons (t := 7) rfl (.cons (t := 8) rfl (.cons (t := 11) rfl (.cons (t := 16) rfl (.cons (t := 19) rfl (.cons (t := 21) rfl (.cons (t := 23) rfl (.cons (t := 187) rfl (.cons (t := 188) rfl (.cons (t := 189) rfl (.cons (t := 190) rfl (.cons (t := 191) rfl (.cons (t := 192) rfl (.cons (t := 193) rfl (.cons (t := 194) rfl (.cons (t := 195) rfl (.cons (t := 196) rfl (.cons (t := 197) rfl (.cons (t := 198) rfl (.cons (t := 199) rfl (.cons (t := 200) rfl (.cons (t := 201) rfl (.cons (t := 202) rfl (.cons (t := 203) rfl (.cons (t := 204) rfl (.cons (t := 205) rfl (.cons (t := 206) rfl (.cons (t := 220) rfl .nil)))))))))))))))))))))))))))))) (.cons (t := 101) rfl (.cons (t := 102) rfl (.cons (t := 103) rfl (.cons (t := 113) rfl (.cons (t := 117) rfl .nil))))) ?_
               refine W.seq ?_
               refine W.region ?_
               refine SL.val (O.move rfl rfl Taken.no) ?_
               refine SL.val (O.lenE (SlOf.fz rfl (by decide)) (by first | exact List.length_map _ | rfl) Try.underlying39 rfl Taken.no) ?_
               refine SL.val (O.move rfl rfl Taken.no) ?_
               refine SL.nil ?_
               refine E.to ?_
               refine W.pick (.cons (t := 0) rfl (.cons (t := 6) rfl (.cons (t := 7) rfl (.cons (t := 8) rfl (.cons (t := 11) rfl (.cons (t := 16) rfl (.cons (t := 19) rfl (.cons (t := 21) rfl (.cons (t := 23) rfl (.cons (t := 187) rfl (.cons (t := 188) rfl (.cons (t := 189) rfl (.cons (t := 190) rfl (.cons (t := 191) rfl (.cons (t := 192) rfl (.cons (t := 193) rfl (.cons (t := 194) rfl (.cons (t := 195) rfl (.cons (t := 196) rfl (.cons (t := 197) rfl (.cons (t := 198) rfl (.cons (t := 199) rfl (.cons (t := 200) rfl (.cons (t := 201) rfl (.cons (t := 202) rfl (.cons (t := 203) rfl (.cons (t := 204) rfl (.cons (t := 205) rfl (.cons (t := 206) rfl (.cons (t := 207) rfl (.cons (t := 208) rfl (.cons (t := 209) rfl (.cons (t := 220) rfl .nil))))))))))))))))))))))))))))))))) (.cons (t := 101) rfl (.cons (t := 102) rfl (.cons (t := 103) rfl (.cons (t := 113) rfl (.cons (t := 117) rfl .nil))))) ?_
               refine W.block ?_
               refine W.loopx1 (fun (j : Nat) => [(209, vI (j : Int))]) (fun (j : Nat) => [(118, .data 3 1 ((setAll (nameF (fun x : Nat => (x : Int)) (nm0 m atm s) ((partsL lk (g0L m atm s)) ++ (partsL lk (g1L m atm s)).take q)) (((partsL lk (g1L m atm s))[q]!).take j) ((minL ((partsL lk (g1L m atm s))[q]!) : Nat) : Int)).map eI)), (113, .cells 39 [.own 118])]) (fun (j : Nat) => j ≤ ((partsL lk (g1L m atm s))[q]!).length) (fun (j : Nat) => ((partsL lk (g1L m atm s))[q]!).length - j) (0) (rn [(118, 117)]) (.cons (t := 0) rfl (.cons (t := 6) rfl (.cons (t := 7) rfl (.cons (t := 8) rfl (.cons (t := 11) rfl (.cons (t := 16) rfl (.cons (t := 19) rfl (.cons (t := 21) rfl (.cons (t := 23) rfl (.cons (t := 187) rfl (.cons (t := 188) rfl (.cons (t := 189) rfl (.cons (t := 190) rfl (.cons (t := 191) rfl (.cons (t := 192) rfl (.cons (t := 193) rfl (.cons (t := 194) rfl (.cons (t := 195) rfl (.cons (t := 196) rfl (.cons (t := 197) rfl (.cons (t := 198) rfl (.cons (t := 199) rfl (.cons (t := 200) rfl (.cons (t := 201) rfl (.cons (t := 202) rfl (.cons (t := 203) rfl (.cons (t := 204) rfl (.cons (t := 205) rfl (.cons (t := 206) rfl (.cons (t := 207) rfl (.cons (t := 208) rfl (.cons (t := 220) rfl .nil)))))))))))))))))))))))))))))))) (.cons (t := 101) rfl (.cons (t := 102) rfl (.cons (t := 103) rfl .nil))) rfl ?_ ?_ rfl rfl ?_ ?_
               · exact (SubF.cons rfl SubF.nil)
               · exact (SubS.val rfl (by exact sb_data (by rw [List.take_zero]; rfl)) (SubS.cons rfl SubS.nil))
               ·skip
                omega
               intro j hinv
               have hj := hinv
               have hnl : (setAll (nameF (fun x : Nat => (x : Int)) (nm0 m atm s) ((partsL lk (g0L m atm s)) ++ (partsL lk (g1L m atm s)).take q)) (((partsL lk (g1L m atm s))[q]!).take j) ((minL ((partsL lk (g1L m atm s))[q]!) : Nat) : Int)).length = n := by rw [setAll_len, nameF_len, nm0_len]; exact hml
               refine W.seq ?_
               refine W.region ?_
               refine SL.val (O.det (fun _ => G.R.lss rfl rfl) rfl Taken.no) ?_
               refine SL.nil ?_
               refine E.to ?_
               refine W.pick (.cons (t := 0) rfl (.cons (t := 6) rfl (.cons (t := 7) rfl (.cons (t := 8) rfl (.cons (t := 11) rfl (.cons (t := 16) rfl (.cons (t := 19) rfl (.cons (t := 21) rfl (.cons (t := 23) rfl (.cons (t := 187) rfl (.cons (t := 188) rfl (.cons (t := 189) rfl (.cons (t := 190) rfl (.cons (t := 191) rfl (.cons (t := 192) rfl (.cons (t := 193) rfl (.cons (t := 194) rfl (.cons (t := 195) rfl (.cons (t := 196) rfl (.cons (t := 197) rfl (.cons (t := 198) rfl (.cons (t := 199) rfl (.cons (t := 200) rfl (.cons (t := 201) rfl (.cons (t := 202) rfl (.cons (t := 203) rfl (.cons (t := 204) rfl (.cons (t := 205) rfl (.cons (t := 206) rfl (.cons (t := 207) rfl (.cons (t := 208) rfl (.cons (t := 209) rfl (.cons (t := 210) rfl (.cons (t := 220) rfl .nil)))))))))))))))))))))))))))))))))) (.cons (t := 101) rfl (.cons (t := 102) rfl (.cons (t := 103) rfl (.cons (t := 113) rfl (.cons (t := 118) rfl .nil))))) ?_
               refine W.seq ?_
               first | refine W.cond_d rfl (fun hc18 => ?_) (fun hc18 => ?_) | refine W.cond_nd rfl (fun hc18 => ?_) (fun hc18 => ?_) | refine W.cond rfl (fun hc18 => ?_) (fun hc18 => ?_)
               ·skip
                have hun := hgb.2.2 _ (hpu.2.2 ((partsL lk (g1L m atm s))[q]!)[j]! (mem_at (by omega)))
                refine W.skip ?_
                refine E.to ?_
                refine W.pick (.cons (t := 0) rfl (.cons (t := 6) rfl (.cons (t := 7) rfl (.cons (t := 8) rfl (.cons (t := 11) rfl (.cons (t := 16) rfl (.cons (t := 19) rfl (.cons (t := 21) rfl (.cons (t := 23) rfl (.cons (t := 187) rfl (.cons (t := 188) rfl (.cons (t := 189) rfl (.cons (t := 190) rfl (.cons (t := 191) rfl (.cons (t := 192) rfl (.cons (t := 193) rfl (.cons (t := 194) rfl (.cons (t := 195) rfl (.cons (t := 196) rfl (.cons (t := 197) rfl (.cons (t := 198) rfl (.cons (t := 199) rfl (.cons (t := 200) rfl (.cons (t := 201) rfl (.cons (t := 202) rfl (.cons (t := 203) rfl (.cons (t := 204) rfl (.cons (t := 205) rfl (.cons (t := 206) rfl (.cons (t := 207) rfl (.cons (t := 208) rfl (.cons (t := 209) rfl (.cons (t := 210) rfl (.cons (t := 220) rfl .nil)))))))))))))))))))))))))))))))))) (.cons (t := 101) rfl (.cons (t := 102) rfl (.cons (t := 103) rfl (.cons (t := 113) rfl (.cons (t := 118) rfl .nil))))) ?_
                refine W.seq ?_
                refine W.block ?_
                refine W.seq ?_
                refine W.region ?_
                refine SL.val (O.idx_fz (i := j) rfl rfl (rfl) (row_get (by omega)) Try.underlying39 hi3 hs3 rfl Taken.no) ?_
                refine SL.val (O.ld1 (PtI.ofU (PtU.fz rfl)) rfl Try.underlying3 rfl rfl Taken.no) ?_
                refine SL.val (O.assign rfl rfl Taken.no) ?_
                refine SL.nil ?_
                refine E.to ?_
                refine W.pick (.cons (t := 0) rfl (.cons (t := 6) rfl (.cons (t := 7) rfl (.cons (t := 8) rfl (.cons (t := 11) rfl (.cons (t := 16) rfl (.cons (t := 19) rfl (.cons (t := 21) rfl (.cons (t := 23) rfl (.cons (t := 25) rfl (.cons (t := 187) rfl (.cons (t := 188) rfl (.cons (t := 189) rfl (.cons (t := 190) rfl (.cons (t := 191) rfl (.cons (t := 192) rfl (.cons (t := 193) rfl (.cons (t := 194) rfl (.cons (t := 195) rfl (.cons (t := 196) rfl (.cons (t := 197) rfl (.cons (t := 198) rfl (.cons (t := 199) rfl (.cons (t := 200) rfl (.cons (t := 201) rfl (.cons (t := 202) rfl (.cons (t := 203) rfl (.cons (t := 204) rfl (.cons (t := 205) rfl (.cons (t := 206) rfl (.cons (t := 207) rfl (.cons (t := 208) rfl (.cons (t := 209) rfl (.cons (t := 210) rfl (.cons (t := 211) rfl (.cons (t := 212) rfl (.cons (t := 220) rfl .nil))))))))))))))))))))))))))))))))))))) (.cons (t := 101) rfl (.cons (t := 102) rfl (.cons (t := 103) rfl (.cons (t := 113) rfl (.cons (t := 118) rfl .nil))))) ?_
                refine W.draw [⟨[113], [], [], [118]⟩, ⟨[], [], [], []⟩, ⟨[], [], [], []⟩, ⟨[], [], [], []⟩, ⟨[118], [], [], []⟩, ⟨[118], [118], [], []⟩] rfl (by kernel_rfl) (by kernel_rfl) rfl rfl ?_
                refine WH.val (O.ld1 (PtI.ref rfl rfl) rfl Try.underlying39 rfl rfl Taken.no) rfl rfl ?_
                refine WH.val (O.move rfl rfl Taken.no) rfl rfl ?_
                refine WH.val (O.move rfl rfl Taken.no) rfl rfl ?_
                refine WH.val (O.callp rfl rfl rfl (min_h (l := ((partsL lk (g1L m atm s))[q]!)) (by omega)) (.cons (ArgOk.same rfl) .nil) hcallOk62 rfl Taken.no) rfl rfl ?_
                refine WH.val (O.idx_own (i := (((partsL lk (g1L m atm s))[q]!)[j]!)) rfl rfl rfl (rfl) (by rw [List.length_map]; omega) Try.underlying39 hi3 hs3 rfl Taken.no) rfl rfl ?_
                refine WH.effS (O.st_els (m := 1) rfl rfl rfl (us := [_]) rfl rfl (by kernel_rfl) (by simp) (row_get (by omega)) (by exact Nat.le_of_ble_eq_true rfl) rfl rfl (rows' := ((setAll (nameF (fun x : Nat => (x : Int)) (nm0 m atm s) ((partsL lk (g0L m atm s)) ++ (partsL lk (g1L m atm s)).take q)) (((partsL lk (g1L m atm s))[q]!).take j) ((minL ((partsL lk (g1L m atm s))[q]!) : Nat) : Int)).set (((partsL lk (g1L m atm s))[q]!)[j]!) ((minL ((partsL lk (g1L m atm s))[q]!) : Nat) : Int)).map eI) (by exact set_map rfl) Taken.no) rfl rfl rfl (S' := (118, _) :: _) rfl ?_
                refine WH.nil ?_
                refine E.inn ?_
                refine E.to ?_
                refine W.pick (.cons (t := 0) rfl (.cons (t := 6) rfl (.cons (t := 7) rfl (.cons (t := 8) rfl (.cons (t := 11) rfl (.cons (t := 16) rfl (.cons (t := 19) rfl (.cons (t := 21) rfl (.cons (t := 23) rfl (.cons (t := 25) rfl (.cons (t := 187) rfl (.cons (t := 188) rfl (.cons (t := 189) rfl (.cons (t := 190) rfl (.cons (t := 191) rfl (.cons (t := 192) rfl (.cons (t := 193) rfl (.cons (t := 194) rfl (.cons (t := 195) rfl (.cons (t := 196) rfl (.cons (t := 197) rfl (.cons (t := 198) rfl (.cons (t := 199) rfl (.cons (t := 200) rfl (.cons (t := 201) rfl (.cons (t := 202) rfl (.cons (t := 203) rfl (.cons (t := 204) rfl (.cons (t := 205) rfl (.cons (t := 206) rfl (.cons (t := 207) rfl (.cons (t := 208) rfl (.cons (t := 209) rfl (.cons (t := 210) rfl (.cons (t := 211) rfl (.cons (t := 212) rfl (.cons (t := 213) rfl (.cons (t := 214) rfl (.cons (t := 215) rfl (.cons (t := 216) rfl (.cons (t := 217) rfl (.cons (t := 220) rfl .nil)))))))))))))))))))))))))))))))))))))))))) (.cons (t := 101) rfl (.cons (t := 102) rfl (.cons (t := 103) rfl (.cons (t := 113) rfl (.cons (t := 118) rfl .nil))))) ?_
                refine W.region ?_
                refine SL.val (O.det (fun _ => by first | exact G.R.add64 rfl rfl (by omega) | exact G.R.add rfl rfl) rfl Taken.no) ?_
                refine SL.val (O.move rfl rfl Taken.no) ?_
                refine SL.nil ?_
                refine E.again ((j + 1)) (rn []) ?_ ?_ rfl (fixL_spec rfl) ?_ ?_
                · exact (SubF.cons rfl (SubF.cons rfl (SubF.cons rfl (SubF.cons rfl (SubF.cons rfl (SubF.cons rfl (SubF.cons rfl (SubF.cons rfl (SubF.cons rfl (SubF.cons rfl (SubF.cons rfl (SubF.cons rfl (SubF.cons rfl (SubF.cons rfl (SubF.cons rfl (SubF.cons rfl (SubF.cons rfl (SubF.cons rfl (SubF.cons rfl (SubF.cons rfl (SubF.cons rfl (SubF.cons rfl (SubF.cons rfl (SubF.cons rfl (SubF.cons rfl (SubF.cons rfl (SubF.cons rfl (SubF.cons rfl (SubF.cons rfl (SubF.cons rfl (SubF.cons rfl (SubF.cons rfl (SubF.cons rfl SubF.nil)))))))))))))))))))))))))))))))))
                · exact (SubS.val rfl (by (try dsimp only); exact sb_data (by rw [setAll_sG (by omega)])) (SubS.cons rfl (SubS.cons rfl (SubS.cons rfl (SubS.cons rfl SubS.nil)))))
                ·try dsimp only
                 omega
                · (try dsimp only); omega
               ·skip
                refine W.exit ?_
                refine E.th ?_
                refine E.th ?_
                refine E.hit ?_
                refine E.inn ?_
                refine E.to ?_
                refine W.pick (.cons (t := 0) rfl (.cons (t := 6) rfl (.cons (t := 7) rfl (.cons (t := 8) rfl (.cons (t := 11) rfl (.cons (t := 16) rfl (.cons (t := 19) rfl (.cons (t := 21) rfl (.cons (t := 23) rfl (.cons (t := 187) rfl (.cons (t := 188) rfl (.cons (t := 189) rfl (.cons (t := 190) rfl (.cons (t := 191) rfl (.cons (t := 192) rfl (.cons (t := 193) rfl (.cons (t := 194) rfl (.cons (t := 195) rfl (.cons (t := 196) rfl (.cons (t := 197) rfl (.cons (t := 198) rfl (.cons (t := 199) rfl (.cons (t := 200) rfl (.cons (t := 201) rfl (.cons (t := 202) rfl (.cons (t := 203) rfl (.cons (t := 204) rfl (.cons (t := 205) rfl (.cons (t := 206) rfl (.cons (t := 207) rfl (.cons (t := 208) rfl (.cons (t := 209) rfl (.cons (t := 210) rfl (.cons (t := 220) rfl .nil)))))))))))))))))))))))))))))))))) (.cons (t := 101) rfl (.cons (t := 102) rfl (.cons (t := 103) rfl (.cons (t := 113) rfl (.cons (t := 118) rfl .nil))))) ?_
                refine W.region ?_
                refine SL.val (O.det (fun _ => by first | exact G.R.add64 rfl rfl (by omega) | exact G.R.add rfl rfl) rfl Taken.no) ?_
                refine SL.val (O.move rfl rfl Taken.no) ?_
                refine SL.nil ?_
                refine E.again ((q + 1)) (rn [(117, 118)]) ?_ ?_ rfl (fixL_spec rfl) ?_ ?_
                · exact (SubF.cons rfl (SubF.val rfl (by (try dsimp only); exact iv_int (by rw [snocP (l := (partsL lk (g1L m atm s))) (by omega), ← List.append_assoc, sumV_snoc])) (SubF.cons rfl (SubF.cons rfl (SubF.cons rfl (SubF.cons rfl (SubF.cons rfl (SubF.cons rfl (SubF.cons rfl (SubF.cons rfl (SubF.cons rfl (SubF.cons rfl (SubF.cons rfl (SubF.cons rfl (SubF.cons rfl (SubF.cons rfl (SubF.cons rfl (SubF.cons rfl (SubF.cons rfl (SubF.cons rfl (SubF.cons rfl SubF.nil)))))))))))))))))))))
                · exact (SubS.val rfl (by (try dsimp only); exact sb_data (by rw [snocP (l := (partsL lk (g1L m atm s))) (by omega), ← List.append_assoc, nameF_snoc, show j = ((partsL lk (g1L m atm s))[q]!).length by omega, List.take_length])) (SubS.cons rfl (SubS.cons rfl (SubS.cons rfl (SubS.cons rfl SubS.nil)))))
                ·try dsimp only
                 omega
                · (try dsimp only); omega
              ·skip
               refine W.exit ?_
               refine E.th ?_
               refine E.th ?_
               refine E.hit ?_
               refine E.inn ?_
               refine E.to ?_
               refine W.region ?_
               refine SL.val (O.det (fun _ => by first | exact G.R.add64 rfl rfl (by omega) | exact G.R.add rfl rfl) rfl Taken.no) ?_
               refine SL.val (O.move rfl rfl Taken.no) ?_
               refine SL.nil ?_
               refine E.reround ?_
               refine W.pick (.cons (t := 0) rfl (.cons (t := 6) rfl (.cons (t := 7) rfl (.cons (t := 8) rfl (.cons (t := 11) rfl (.cons (t := 16) rfl (.cons (t := 19) rfl (.cons (t := 21) rfl (.cons (t := 187) rfl (.cons (t := 188) rfl (.cons (t := 189) rfl (.cons (t := 190) rfl (.cons (t := 191) rfl (.cons (t := 192) rfl (.cons (t := 193) rfl (.cons (t := 194) rfl (.cons (t := 195) rfl (.cons (t := 196) rfl (.cons (t := 197) rfl (.cons (t := 198) rfl (.cons (t := 199) rfl (.cons (t := 220) rfl .nil)))))))))))))))))))))) (.cons (t := 101) rfl (.cons (t := 102) rfl (.cons (t := 103) rfl (.cons (t := 113) rfl (.cons (t := 117) rfl .nil))))) ?_
               refine W.seq ?_
               refine W.region ?_
               refine SL.val (O.det (fun _ => G.R.mv (G.R.lss rfl rfl) (congrArg Value.bool (decide_eq_false (by decide)))) rfl Taken.no) ?_
               refine SL.nil ?_
               refine E.to ?_
               refine W.seq ?_
               refine W.cond_f rfl ?_
               refine W.exit ?_
               refine E.th ?_
               refine E.th ?_
               refine E.hit ?_
               refine E.to ?_
               refine W.seq ?_
               refine W.region ?_
               refine SL.val (O.ld1 (PtI.ref rfl rfl) rfl Try.underlying39 rfl rfl Taken.no) ?_
               refine SL.val (O.move rfl rfl Taken.no) ?_
               refine SL.val (O.move rfl rfl Taken.no) ?_
               refine SL.val (O.det (fun _ => by first | exact G.R.sub64 rfl rfl (by omega) | exact G.R.sub rfl rfl) rfl Taken.no) ?_
               refine SL.val (O.assign rfl rfl Taken.no) ?_
               refine SL.val (O.assign rfl rfl Taken.no) ?_
               refine SL.val (O.assign rfl rfl Taken.no) ?_
               refine SL.nil ?_
               refine E.to ?_
               refine W.pick (.cons (t := 6) rfl (.cons (t := 7) rfl (.cons (t := 8) rfl .nil))) (.cons (t := 101) rfl (.cons (t := 102) rfl (.cons (t := 103) rfl (.cons (t := 113) rfl (.cons (t := 117) rfl .nil))))) ?_
               refine W.ret ?_
               refine E.freeze 117 rfl (F' := [(6, _)]) (⟨⟨_, rfl, rfl⟩, trivial⟩) ?_
               refine E.fin (rs := [_, _, _]) (rn []) (.inl rfl) rfl (.cons (ResOne.tmp rfl) (.cons (ResOne.tmp rfl) (.cons (ResOne.tmp rfl) .nil))) ?_ ?_ rfl (fixL_spec rfl)
               ·skip
                have hyes : posF n bar atm m s := ⟨hpre, by rw [← hit_eq hml hb]; exact hcl⟩
                rw [← hs, apN_y hyes, apG_y hyes, dec_t hyes, gnF, hfe, hth, show q = (partsL lk (g1L m atm s)).length by omega, List.take_length]; rfl
               · exact SubS.nil
     ·skip
      first | have hg5p := G.gA7 hg5 | have hg5p := G.gA8 hg5 | have hg5p := hg5
      refine WH.skip (OpOk.not rfl rfl rfl hg5) ?_
      refine WH.skip (OpOk.not rfl rfl rfl hg5) ?_
      refine WH.skip (OpOk.not rfl rfl rfl hg5) ?_
      refine WH.val (O.pick_t rfl (G.ne_f hg5) rfl rfl (Taken.yes rfl rfl hg4)) rfl rfl ?_
      refine WH.val (O.pick_t rfl hg4 rfl rfl (Taken.yes rfl rfl hg3)) rfl rfl ?_
      refine WH.val (O.pick_f rfl hg3 rfl rfl Taken.no) rfl rfl ?_
      refine WH.nil ?_
      refine E.to ?_
      refine W.pick (.cons (t := 0) rfl (.cons (t := 1) rfl (.cons (t := 5) rfl (.cons (t := 6) rfl (.cons (t := 7) rfl (.cons (t := 8) rfl (.cons (t := 60) rfl .nil))))))) (.cons (t := 101) rfl .nil) ?_
      refine W.cond_t rfl ?_
      refine W.seq ?_
      refine W.region ?_
      refine SL.val (O.assign rfl rfl Taken.no) ?_
      refine SL.val (O.assign rfl rfl Taken.no) ?_
      refine SL.val (O.assign rfl rfl Taken.no) ?_
      refine SL.nil ?_
      refine E.to ?_
      refine W.ret ?_
      refine E.thr ?_
      refine E.nilsl 6 1 rfl ?_
      refine E.fin (rs := [_, _, _]) (rn []) (.inl rfl) rfl (.cons (ResOne.tmp rfl) (.cons (ResOne.tmp rfl) (.cons (ResOne.tmp rfl) .nil))) ?_ ?_ rfl (fixL_spec rfl)
      ·skip
       first | ((have hno : ¬ posF n bar atm m ⟨u, f, t⟩ := fun q => by ((obtain ⟨⟨⟨q1, q2, q3, q4, q5⟩, q6, q7, q8⟩, q9⟩ := posF_iff.1 q); (try simp only [Int.toNat_natCast] at q6 q7 q8); (first | omega | (have q5 := q5 (by omega); simp_all)))); rw [apN_n hno, apG_n hno, dec_f hno]; rfl)
      · exact SubS.nil
    ·skip
     first | have hg4p := G.gA5 hg4 | have hg4p := G.gA6 hg4 | have hg4p := hg4
     refine WH.skip (OpOk.not rfl rfl rfl hg4) ?_
     refine WH.skip (OpOk.not rfl rfl rfl hg4) ?_
     refine WH.skip (OpOk.not rfl rfl rfl hg4) ?_
     refine WH.skip (OpOk.not2 rfl rfl rfl) ?_
     refine WH.skip (OpOk.not2 rfl rfl rfl) ?_
     refine WH.skip (OpOk.not2 rfl rfl rfl) ?_
     refine WH.skip (OpOk.not rfl rfl rfl hg4) ?_
     refine WH.val (O.pick_f rfl (G.ne_t hg4) rfl rfl (Taken.yes rfl rfl hg3)) rfl rfl ?_
     refine WH.val (O.pick_f rfl hg3 rfl rfl Taken.no) rfl rfl ?_
     refine WH.nil ?_
     refine E.to ?_
     refine W.pick (.cons (t := 0) rfl (.cons (t := 1) rfl (.cons (t := 5) rfl (.cons (t := 6) rfl (.cons (t := 7) rfl (.cons (t := 8) rfl (.cons (t := 60) rfl .nil))))))) (.cons (t := 101) rfl .nil) ?_
     refine W.cond_f rfl ?_
     refine W.skip ?_
     refine E.to ?_
     refine W.seq ?_
     refine W.region ?_
     obtain ⟨t, rfl⟩ : ∃ k : Nat, t = (k : Int) := ⟨t.toNat, by omega⟩
     have hul2 := units_len m t
     have hvb2 := valF_b hw (l := unitsL m t) (by omega)
     have hTn : ∀ u ∈ unitsL m t, u < n := fun u hu => ((mem_here hml).1 hu).1
     obtain ⟨f, rfl⟩ : ∃ k : Nat, f = (k : Int) := ⟨f.toNat, by omega⟩
     have hul := units_len m m[f]!
     have hvb1 := valF_b hw (l := (unitsL m m[f]!)) (by omega)
     have hHn : ∀ u ∈ (unitsL m m[f]!), u < n := fun u hu => ((mem_here hml).1 hu).1
     refine SL.val (O.move rfl rfl Taken.no) ?_
     refine SL.val (O.move rfl rfl Taken.no) ?_
     refine SL.val (O.fld_ref (o' := 1) rfl Try.underlying55 rfl (m := 0) (by kernel_rfl) rfl rfl Taken.no) ?_
     refine SL.val (O.ld1 (PtI.ref rfl rfl) rfl Try.underlying3 rfl rfl Taken.no) ?_
     refine SL.val (O.idx_fz (i := f) rfl rfl (rfl) (row_get (by omega)) Try.underlying39 hi3 hs3 rfl Taken.no) ?_
     refine SL.val (O.ld1 (PtI.ofU (PtU.fz rfl)) rfl Try.underlying3 rfl rfl Taken.no) ?_
     refine SL.memS (O.call (rn [(0, 119)]) [] rfl rfl rfl (units_h (l := m) (c := m[f]!) (by omega)) (.cons (ArgOk.same rfl) (.cons (ArgOk.same rfl) .nil)) SubS.nil rfl rfl rfl rfl rfl (.inl rfl) hcallOk46 (r' := .own 119) rfl rfl Taken.no) rfl rfl (S' := (119, .data _ _ _) :: _) rfl ?_
     refine SL.val (O.assign rfl rfl Taken.no) ?_
     refine SL.nil ?_
     refine E.to ?_
     refine W.seq ?_
     refine W.region ?_
     refine SL.val (O.assign rfl rfl Taken.no) ?_
     refine SL.nil ?_
     refine E.to ?_
     refine W.seq ?_
     refine W.seq ?_
     refine W.region ?_
     refine SL.val (O.fld_ref (o' := 2) rfl Try.underlying55 rfl (m := 0) (by kernel_rfl) rfl rfl Taken.no) ?_
     refine SL.val (O.ld1 (PtI.ref rfl rfl) rfl Try.underlying3 rfl rfl Taken.no) ?_
     refine SL.val (O.det (fun _ => G.R.geq rfl rfl) rfl Taken.no) ?_
     refine SL.nil ?_
     refine E.to ?_
     first | refine W.cond_d rfl (fun hc19 => ?_) (fun hc19 => ?_) | refine W.cond_nd rfl (fun hc19 => ?_) (fun hc19 => ?_) | refine W.cond rfl (fun hc19 => ?_) (fun hc19 => ?_)
     ·skip
      refine W.seq ?_
      refine W.seq ?_
      refine W.draw [⟨[], [], [], []⟩, ⟨[], [], [], [101]⟩, ⟨[101], [], [], []⟩, ⟨[], [], [], []⟩, ⟨[], [], [], []⟩, ⟨[], [], [], [101]⟩, ⟨[101], [], [], []⟩, ⟨[], [], [], []⟩, ⟨[], [], [], []⟩, ⟨[], [], [], []⟩, ⟨[], [], [], [101]⟩, ⟨[101], [], [], []⟩, ⟨[], [], [], []⟩, ⟨[], [], [], []⟩, ⟨[], [], [], [101]⟩, ⟨[101], [], [], []⟩, ⟨[], [], [], []⟩, ⟨[], [], [], []⟩] rfl (by kernel_rfl) (by kernel_rfl) rfl rfl ?_
      refine WH.val (O.move rfl rfl Taken.no) rfl rfl ?_
      refine WH.val (O.fld_ref (o' := 2) rfl Try.underlying55 rfl (m := 0) (by kernel_rfl) rfl rfl Taken.no) rfl rfl ?_
      refine WH.val (O.ld1 (PtI.ref rfl rfl) rfl Try.underlying3 rfl rfl Taken.no) rfl rfl ?_
      refine WH.val (O.idx_fz (i := t) rfl rfl (rfl) (row_get (by omega)) Try.underlying39 hi3 hs3 rfl Taken.no) rfl rfl ?_
      refine WH.val (O.ld1 (PtI.ofU (PtU.fz rfl)) rfl Try.underlying3 rfl rfl Taken.no) rfl rfl ?_
      refine WH.val (O.fld_ref (o' := 2) rfl Try.underlying55 rfl (m := 0) (by kernel_rfl) rfl rfl Taken.no) rfl rfl ?_
      refine WH.val (O.ld1 (PtI.ref rfl rfl) rfl Try.underlying3 rfl rfl Taken.no) rfl rfl ?_
      refine WH.val (O.det (fun _ => G.R.neq rfl rfl) rfl Taken.no) rfl rfl ?_
      refine WH.val (O.move rfl rfl Taken.no) rfl rfl ?_
      refine WH.case (j := 8) (g := 79) (want := false) rfl rfl (fun hg20 => ?_) (fun hg20 => ?_)
      ·skip
       first | have hg20p := G.gA3 hg20 | have hg20p := G.gA4 hg20 | have hg20p := hg20
       refine WH.val (O.move rfl rfl (Taken.yes rfl rfl hg20)) rfl rfl ?_
       refine WH.val (O.fld_ref (o' := 1) rfl Try.underlying55 rfl (m := 0) (by kernel_rfl) rfl rfl (Taken.yes rfl rfl hg20)) rfl rfl ?_
       refine WH.val (O.ld1 (PtI.ref rfl rfl) rfl Try.underlying3 rfl rfl (Taken.yes rfl rfl hg20)) rfl rfl ?_
       refine WH.val (O.idx_fz (i := f) rfl rfl (rfl) (row_get (by omega)) Try.underlying39 hi3 hs3 rfl (Taken.yes rfl rfl hg20)) rfl rfl ?_
       refine WH.val (O.ld1 (PtI.ofU (PtU.fz rfl)) rfl Try.underlying3 rfl rfl (Taken.yes rfl rfl hg20)) rfl rfl ?_
       refine WH.val (O.fld_ref (o' := 2) rfl Try.underlying55 rfl (m := 0) (by kernel_rfl) rfl rfl (Taken.yes rfl rfl hg20)) rfl rfl ?_
       refine WH.val (O.ld1 (PtI.ref rfl rfl) rfl Try.underlying3 rfl rfl (Taken.yes rfl rfl hg20)) rfl rfl ?_
       refine WH.val (O.det (fun _ => G.R.eql rfl rfl) rfl (Taken.yes rfl rfl hg20)) rfl rfl ?_
       refine WH.val (O.pick_f rfl hg20 rfl rfl Taken.no) rfl rfl ?_
       refine WH.nil ?_
       refine E.to ?_
       refine W.pick (.cons (t := 0) rfl (.cons (t := 1) rfl (.cons (t := 5) rfl (.cons (t := 6) rfl (.cons (t := 7) rfl (.cons (t := 8) rfl (.cons (t := 9) rfl (.cons (t := 10) rfl (.cons (t := 88) rfl .nil))))))))) (.cons (t := 101) rfl (.cons (t := 119) rfl .nil)) ?_
       first | refine W.cond_d rfl (fun hc21 => ?_) (fun hc21 => ?_) | refine W.cond_nd rfl (fun hc21 => ?_) (fun hc21 => ?_) | refine W.cond rfl (fun hc21 => ?_) (fun hc21 => ?_)
       ·skip
        refine W.seq ?_
        refine W.region ?_
        refine SL.val (O.assign rfl rfl Taken.no) ?_
        refine SL.val (O.assign rfl rfl Taken.no) ?_
        refine SL.val (O.assign rfl rfl Taken.no) ?_
        refine SL.nil ?_
        refine E.to ?_
        refine W.ret ?_
        refine E.thr ?_
        refine E.thr ?_
        refine E.nilsl 6 1 rfl ?_
        refine E.fin (rs := [_, _, _]) (rn []) (.inl rfl) rfl (.cons (ResOne.tmp rfl) (.cons (ResOne.tmp rfl) (.cons (ResOne.tmp rfl) .nil))) ?_ ?_ rfl (fixL_spec rfl)
        ·skip
         first | ((have hno : ¬ posF n bar atm m ⟨u, (f : Int), (t : Int)⟩ := fun q => by ((obtain ⟨⟨⟨q1, q2, q3, q4, q5⟩, q6, q7, q8⟩, q9⟩ := posF_iff.1 q); (try simp only [Int.toNat_natCast] at q6 q7 q8); (have q6 := q6 (by omega); omega))); rw [apN_n hno, apG_n hno, dec_f hno]; rfl)
        · exact SubS.nil
       ·skip
        refine W.skip ?_
        refine E.to ?_
        refine W.region ?_
        refine SL.val (O.move rfl rfl Taken.no) ?_
        refine SL.val (O.fld_ref (o' := 2) rfl Try.underlying55 rfl (m := 0) (by kernel_rfl) rfl rfl Taken.no) ?_
        refine SL.val (O.ld1 (PtI.ref rfl rfl) rfl Try.underlying3 rfl rfl Taken.no) ?_
        refine SL.memS (O.call (rn [(0, 120)]) [] rfl rfl rfl (units_h (l := m) (c := t) (by omega)) (.cons (ArgOk.same rfl) (.cons (ArgOk.same rfl) .nil)) SubS.nil rfl rfl rfl rfl rfl (.inl rfl) hcallOk46 (r' := .own 120) rfl rfl Taken.no) rfl rfl (S' := (120, .data _ _ _) :: _) rfl ?_
        refine SL.val (O.assign rfl rfl Taken.no) ?_
        refine SL.nil ?_
        refine E.to ?_
        refine W.seq ?_
        refine W.region ?_
        refine SL.val (O.move rfl rfl Taken.no) ?_
        refine SL.val (O.move rfl rfl Taken.no) ?_
        refine SL.memS (O.call (rn []) [119] rfl rfl rfl (value_h (l := (unitsL m m[f]!)) hw (by omega) hHn) (.cons (ArgOk.same rfl) (.cons (ArgOk.own rfl rfl) .nil)) SubS.nil rfl rfl rfl rfl rfl (.inr ⟨rfl, fun x hx => by simp at hx⟩) hcallOk45 (r' := .u _) rfl rfl Taken.no) rfl rfl (S' := _) rfl ?_
        refine SL.val (O.move rfl rfl Taken.no) ?_
        refine SL.val (O.move rfl rfl Taken.no) ?_
        refine SL.memS (O.call (rn []) [120] rfl rfl rfl (value_h (l := unitsL m t) hw (by omega) hTn) (.cons (ArgOk.same rfl) (.cons (ArgOk.own rfl rfl) .nil)) SubS.nil rfl rfl rfl rfl rfl (.inr ⟨rfl, fun x hx => by simp at hx⟩) hcallOk45 (r' := .u _) rfl rfl Taken.no) rfl rfl (S' := _) rfl ?_
        refine SL.val (O.det (fun _ => by first | exact G.R.add64 rfl rfl (by omega) | exact G.R.add rfl rfl) rfl Taken.no) ?_
        refine SL.val (O.assign rfl rfl Taken.no) ?_
        refine SL.nil ?_
        refine E.to ?_
        refine W.seq ?_
        refine W.region ?_
        refine SL.memS (O.alloc (z := .agg #[.slice none 0 0, .slice none 0 0]) (is := [.u (.sc (.slice none 0 0)), .u (.sc (.slice none 0 0))]) 121 (by kernel_rfl) rfl rfl rfl Taken.no) rfl rfl (S' := (121, _) :: _) rfl ?_
        refine SL.nil ?_
        refine E.to ?_
        refine W.seq ?_
        refine W.seq ?_
        refine W.region ?_
        refine SL.val (O.fld_ref (o' := 0) rfl Try.underlying55 rfl (m := 0) (by kernel_rfl) rfl rfl Taken.no) ?_
        refine SL.val (O.ld1 (PtI.ref rfl rfl) rfl Try.underlying4 rfl rfl Taken.no) ?_
        refine SL.nil ?_
        refine E.to ?_
        refine W.pick (.cons (t := 0) rfl (.cons (t := 1) rfl (.cons (t := 5) rfl (.cons (t := 6) rfl (.cons (t := 7) rfl (.cons (t := 8) rfl (.cons (t := 9) rfl (.cons (t := 10) rfl (.cons (t := 11) rfl (.cons (t := 12) rfl (.cons (t := 101) rfl .nil))))))))))) (.cons (t := 101) rfl (.cons (t := 119) rfl (.cons (t := 120) rfl (.cons (t := 121) rfl .nil)))) ?_
        first | refine W.cond_d rfl (fun hc22 => ?_) (fun hc22 => ?_) | refine W.cond_nd rfl (fun hc22 => ?_) (fun hc22 => ?_) | refine W.cond rfl (fun hc22 => ?_) (fun hc22 => ?_)
        ·skip
         obtain rfl : u = true := by simp_all
         refine W.seq ?_
         refine W.seq ?_
         refine W.draw [⟨[], [], [], []⟩, ⟨[], [], [], [101]⟩, ⟨[101], [], [], []⟩, ⟨[], [], [], []⟩, ⟨[], [], [], []⟩, ⟨[], [], [], [101]⟩, ⟨[101], [], [], []⟩, ⟨[], [], [], []⟩, ⟨[], [], [], []⟩, ⟨[], [], [], [101]⟩, ⟨[101], [], [], []⟩, ⟨[], [], [], [101]⟩, ⟨[101], [], [], []⟩, ⟨[], [], [], []⟩, ⟨[], [], [], []⟩] rfl (by kernel_rfl) (by kernel_rfl) rfl rfl ?_
         refine WH.val (O.move rfl rfl Taken.no) rfl rfl ?_
         refine WH.val (O.fld_ref (o' := 1) rfl Try.underlying55 rfl (m := 0) (by kernel_rfl) rfl rfl Taken.no) rfl rfl ?_
         refine WH.val (O.ld1 (PtI.ref rfl rfl) rfl Try.underlying3 rfl rfl Taken.no) rfl rfl ?_
         refine WH.val (O.idx_fz (i := f) rfl rfl (rfl) (row_get (by omega)) Try.underlying39 hi3 hs3 rfl Taken.no) rfl rfl ?_
         refine WH.val (O.ld1 (PtI.ofU (PtU.fz rfl)) rfl Try.underlying3 rfl rfl Taken.no) rfl rfl ?_
         refine WH.val (O.fld_ref (o' := 1) rfl Try.underlying55 rfl (m := 0) (by kernel_rfl) rfl rfl Taken.no) rfl rfl ?_
         refine WH.val (O.ld1 (PtI.ref rfl rfl) rfl Try.underlying3 rfl rfl Taken.no) rfl rfl ?_
         refine WH.val (O.det (fun _ => G.R.neq rfl rfl) rfl Taken.no) rfl rfl ?_
         refine WH.val (O.move rfl rfl Taken.no) rfl rfl ?_
         refine WH.case (j := 8) (g := 110) (want := false) rfl rfl (fun hg23 => ?_) (fun hg23 => ?_)
         ·skip
          first | have hg23p := G.gA3 hg23 | have hg23p := G.gA4 hg23 | have hg23p := hg23
          refine WH.val (O.fld_ref (o' := 1) rfl Try.underlying55 rfl (m := 0) (by kernel_rfl) rfl rfl (Taken.yes rfl rfl hg23)) rfl rfl ?_
          refine WH.val (O.ld1 (PtI.ref rfl rfl) rfl Try.underlying3 rfl rfl (Taken.yes rfl rfl hg23)) rfl rfl ?_
          refine WH.val (O.fld_ref (o' := 2) rfl Try.underlying55 rfl (m := 0) (by kernel_rfl) rfl rfl (Taken.yes rfl rfl hg23)) rfl rfl ?_
          refine WH.val (O.ld1 (PtI.ref rfl rfl) rfl Try.underlying3 rfl rfl (Taken.yes rfl rfl hg23)) rfl rfl ?_
          refine WH.val (O.det (fun _ => G.R.geq rfl rfl) rfl (Taken.yes rfl rfl hg23)) rfl rfl ?_
          refine WH.val (O.pick_f rfl hg23 rfl rfl Taken.no) rfl rfl ?_
          refine WH.nil ?_
          refine E.to ?_
          refine W.pick (.cons (t := 0) rfl (.cons (t := 1) rfl (.cons (t := 6) rfl (.cons (t := 7) rfl (.cons (t := 8) rfl (.cons (t := 9) rfl (.cons (t := 10) rfl (.cons (t := 11) rfl (.cons (t := 12) rfl (.cons (t := 116) rfl .nil)))))))))) (.cons (t := 101) rfl (.cons (t := 119) rfl (.cons (t := 120) rfl (.cons (t := 121) rfl .nil)))) ?_
          first | refine W.cond_d rfl (fun hc24 => ?_) (fun hc24 => ?_) | refine W.cond_nd rfl (fun hc24 => ?_) (fun hc24 => ?_) | refine W.cond rfl (fun hc24 => ?_) (fun hc24 => ?_)
          ·skip
           refine W.seq ?_
           refine W.region ?_
           refine SL.val (O.assign rfl rfl Taken.no) ?_
           refine SL.val (O.assign rfl rfl Taken.no) ?_
           refine SL.val (O.assign rfl rfl Taken.no) ?_
           refine SL.nil ?_
           refine E.to ?_
           refine W.ret ?_
           refine E.thr ?_
           refine E.thr ?_
           refine E.nilsl 6 1 rfl ?_
           refine E.fin (rs := [_, _, _]) (rn []) (.inl rfl) rfl (.cons (ResOne.tmp rfl) (.cons (ResOne.tmp rfl) (.cons (ResOne.tmp rfl) .nil))) ?_ ?_ rfl (fixL_spec rfl)
           ·skip
            first | ((have hno : ¬ posF n bar atm m ⟨true, (f : Int), (t : Int)⟩ := fun q => by ((obtain ⟨⟨⟨q1, q2, q3, q4, q5⟩, q6, q7, q8⟩, q9⟩ := posF_iff.1 q); (try simp only [Int.toNat_natCast] at q6 q7 q8); (have q7 := q7 (by trivial); omega))); rw [apN_n hno, apG_n hno, dec_f hno]; rfl)
           · exact SubS.nil
          ·skip
           refine W.skip ?_
           refine E.to ?_
           refine W.region ?_
           refine SL.val (O.move rfl rfl Taken.no) ?_
           refine SL.val (O.move rfl rfl Taken.no) ?_
           refine SL.memS (O.app (k' := 122) rfl rfl (SlOf.own rfl rfl) Try.underlying39 hi3 hz3 hs3 rfl rfl (by exact app_map) (by rw [hb3]; (simp only [List.length_map]; omega)) (by (simp only [List.length_map]; omega)) rfl Taken.no) rfl rfl (S' := (122, _) :: (119, .dead) :: _) rfl ?_
           refine SL.val (O.idx_ref (i := 0) (m := 1) rfl rfl (rfl) (by decide) Try.underlying106 (by kernel_rfl) rfl rfl Taken.no) ?_
           refine SL.effS (O.st_ref (m := 1) rfl rfl rfl (js := [_]) rfl rfl (by kernel_rfl) (by simp) (Nat.le_of_ble_eq_true rfl) rfl (is' := [_, _]) rfl Taken.no) (S' := (121, _) :: _) rfl ?_
           refine SL.nil ?_
           refine E.to ?_
           refine W.seq ?_
           refine W.freezeC 121 0 122 (is' := [_, _]) rfl rfl rfl rfl ?_
           refine W.nilslC 121 1 1 (is' := [_, _]) rfl rfl rfl ?_
           refine W.region ?_
           obtain ⟨s, hs⟩ : ∃ s : Stp, s = ⟨true, (f : Int), (t : Int)⟩ := ⟨_, rfl⟩
           have hfe : s.f.toNat = f := by rw [hs]; rfl
           have hth : thereL m s.t = unitsL m t := by rw [hs]; exact there_nat m t
           have hg0 : ((unitsL m m[f]!) ++ unitsL m t) = g0L m atm s := by rw [hs]; show _ = unitsL m m[f]! ++ thereL m (t : Int); rw [there_nat]
           have hg1 : ([] : List Nat) = g1L m atm s := by rw [hs]; rfl
           have hpre : preF n atm m s := by rw [hs]; exact ⟨⟨by show (0 : Int) ≤ f; omega, by show (f : Int) < n; omega, by show (t : Int) < (n : Int); omega, by show -1 ≤ (t : Int); omega, fun h => by exfalso; have h2 : (t : Int) < 0 := h; omega⟩, fun h => ⟨by show m[t]! = t; omega, by show m[f]! ≠ t; omega⟩, fun h => ⟨by show m[f]! = f; omega, by show (f : Int) < t; omega⟩, fun h => by cases h⟩
           have hgb := g_b (atm := atm) (s := s) hml
           have hl0 : (partsL lk (g0L m atm s)).length ≤ (g0L m atm s).length := partsN_len
           have hl1 : (partsL lk (g1L m atm s)).length ≤ (g1L m atm s).length := partsN_len
           rw [hg0]
           refine SL.val (O.move rfl rfl Taken.no) ?_
           refine SL.memS (O.call (rn [(0, 123)]) [] rfl rfl rfl (clone_h (rows := m.map eN) (by rw [List.length_map]; omega)) (.cons (ArgOk.same rfl) .nil) SubS.nil rfl rfl rfl rfl rfl (.inl rfl) hcallOk39 (r' := .own 123) rfl rfl Taken.no) rfl rfl (S' := (123, .data _ _ _) :: _) rfl ?_
           refine SL.memS (O.alloc (z := .slice none 0 0) (is := [.u (.sc (.slice none 0 0))]) 124 (by kernel_rfl) rfl rfl rfl Taken.no) rfl rfl (S' := (124, _) :: _) rfl ?_
           refine SL.effS (O.st_ref (m := 1) rfl rfl rfl (js := [_]) rfl rfl (by kernel_rfl) (by simp) (Nat.le_of_ble_eq_true rfl) rfl (is' := [_]) rfl Taken.no) (S' := (124, _) :: _) rfl ?_
           refine SL.nil ?_
           refine E.to ?_
           refine W.seq ?_
           refine W.seq ?_
           refine W.region ?_
           refine SL.val (O.idx_ref (i := 0) (m := 1) rfl rfl (rfl) (by decide) Try.underlying106 (by kernel_rfl) rfl rfl Taken.no) ?_
           refine SL.val (O.ld1 (PtI.ref rfl rfl) rfl Try.underlying39 rfl rfl Taken.no) ?_
           refine SL.val (O.lenE (SlOf.fz rfl (by decide)) (by first | exact List.length_map _ | rfl) Try.underlying39 rfl Taken.no) ?_
           refine SL.val (O.move rfl rfl Taken.no) ?_
           refine SL.nil ?_
           refine E.to ?_
           refine W.block ?_
           refine W.loopx1 (fun (j : Nat) => [(173, vI (j : Int))]) (fun (j : Nat) => [(125, .data 3 1 ((setAll (m.map (fun x : Nat => (x : Int))) ((g0L m atm s).take j) (-1)).map eI)), (124, .cells 39 [.own 125])]) (fun (j : Nat) => j ≤ (g0L m atm s).length) (fun (j : Nat) => (g0L m atm s).length - j) (0) (rn [(125, 123)]) (.cons (t := 0) rfl (.cons (t := 6) rfl (.cons (t := 7) rfl (.cons (t := 8) rfl (.cons (t := 11) rfl (.cons (t := 12) rfl (.cons (t := 16) rfl (.cons (t := 171) rfl (.cons (t := 172) rfl .nil))))))))) (.cons (t := 101) rfl (.cons (t := 120) rfl (.cons (t := 121) rfl .nil))) rfl ?_ ?_ rfl rfl ?_ ?_
           · exact (SubF.cons rfl SubF.nil)
           · exact (SubS.val rfl (by exact sb_data (by rw [List.take_zero]; exact (eI_eN m).symm)) (SubS.cons rfl SubS.nil))
           ·skip
            omega
           intro j hinv
           have hj := hinv
           have hnl : (setAll (m.map (fun x : Nat => (x : Int))) ((g0L m atm s).take j) (-1)).length = n := by rw [setAll_len, List.length_map]; exact hml
           refine W.seq ?_
           refine W.region ?_
           refine SL.val (O.det (fun _ => G.R.lss rfl rfl) rfl Taken.no) ?_
           refine SL.nil ?_
           refine E.to ?_
           refine W.seq ?_
           first | refine W.cond_d rfl (fun hc25 => ?_) (fun hc25 => ?_) | refine W.cond_nd rfl (fun hc25 => ?_) (fun hc25 => ?_) | refine W.cond rfl (fun hc25 => ?_) (fun hc25 => ?_)
           ·skip
            have hGj := hgb.2.1 (g0L m atm s)[j]! (mem_at (by omega))
            refine W.skip ?_
            refine E.to ?_
            refine W.seq ?_
            refine W.block ?_
            refine W.seq ?_
            refine W.region ?_
            refine SL.val (O.idx_fz (i := j) rfl rfl (rfl) (row_get (by omega)) Try.underlying39 hi3 hs3 rfl Taken.no) ?_
            refine SL.val (O.ld1 (PtI.ofU (PtU.fz rfl)) rfl Try.underlying3 rfl rfl Taken.no) ?_
            refine SL.val (O.assign rfl rfl Taken.no) ?_
            refine SL.nil ?_
            refine E.to ?_
            refine W.region ?_
            refine SL.val (O.ld1 (PtI.ref rfl rfl) rfl Try.underlying39 rfl rfl Taken.no) ?_
            refine SL.val (O.move rfl rfl Taken.no) ?_
            refine SL.val (O.idx_own (i := ((g0L m atm s)[j]!)) rfl rfl rfl (rfl) (by rw [List.length_map]; omega) Try.underlying39 hi3 hs3 rfl Taken.no) ?_
            refine SL.effS (O.st_els (m := 1) rfl rfl rfl (us := [_]) rfl rfl (by kernel_rfl) (by simp) (row_get (by omega)) (by exact Nat.le_of_ble_eq_true rfl) rfl rfl (rows' := ((setAll (m.map (fun x : Nat => (x : Int))) ((g0L m atm s).take j) (-1)).set ((g0L m atm s)[j]!) (-1)).map eI) (by exact set_map rfl) Taken.no) (S' := (125, _) :: _) rfl ?_
            refine SL.nil ?_
            refine E.inn ?_
            refine E.to ?_
            refine W.region ?_
            refine SL.val (O.det (fun _ => by first | exact G.R.add64 rfl rfl (by omega) | exact G.R.add rfl rfl) rfl Taken.no) ?_
            refine SL.val (O.move rfl rfl Taken.no) ?_
            refine SL.nil ?_
            refine E.again ((j + 1)) (rn []) ?_ ?_ rfl (fixL_spec rfl) ?_ ?_
            · exact (SubF.cons rfl (SubF.cons rfl (SubF.cons rfl (SubF.cons rfl (SubF.cons rfl (SubF.cons rfl (SubF.cons rfl (SubF.cons rfl (SubF.cons rfl (SubF.cons rfl SubF.nil))))))))))
            · exact (SubS.val rfl (by (try dsimp only); exact sb_data (by rw [setAll_sG (by omega)])) (SubS.cons rfl (SubS.cons rfl (SubS.cons rfl (SubS.cons rfl SubS.nil)))))
            ·try dsimp only
             omega
            · (try dsimp only); omega
           ·skip
            refine W.exit ?_
            refine E.th ?_
            refine E.th ?_
            refine E.hit ?_
            refine E.to ?_
            refine W.seq ?_
            refine W.seq ?_
            have hjG : j = (g0L m atm s).length := by omega
            rw [hjG, List.take_length]
            refine W.region ?_
            refine SL.val (O.move rfl rfl Taken.no) ?_
            refine SL.val (O.nilCheck rfl rfl rfl Taken.no) ?_
            refine SL.val (O.fld_fz rfl Try.underlying78 rfl (m := 0) (by kernel_rfl) rfl rfl Taken.no) ?_
            refine SL.val (O.ld1 (PtI.ofU (PtU.fz rfl)) rfl Try.underlying23 rfl rfl Taken.no) ?_
            refine SL.val (O.makeFunc rfl rfl rfl Taken.no) ?_
            refine SL.memS (O.call (rn [(0, 124), (1, 125)]) [] rfl rfl rfl (containsFuncN (nm := (nm0 m atm s)) (q := bar) (by rw [nm0_len, hml]; exact hb)) (.cons (ArgOk.same rfl) (.cons (ArgOk.same rfl) .nil)) (SubS.cons rfl (SubS.cons rfl SubS.nil)) rfl rfl rfl rfl rfl (.inl rfl) hcallOk63 (r' := .u _) rfl rfl Taken.no) rfl rfl (S' := (124, .cells _ [.own 125]) :: (125, .data _ _ _) :: _) rfl ?_
            refine SL.nil ?_
            refine E.to ?_
            first | refine W.cond_d rfl (fun hc26 => ?_) (fun hc26 => ?_) | refine W.cond_nd rfl (fun hc26 => ?_) (fun hc26 => ?_) | refine W.cond rfl (fun hc26 => ?_) (fun hc26 => ?_)
            ·skip
             refine W.seq ?_
             refine W.region ?_
             refine SL.val (O.assign rfl rfl Taken.no) ?_
             refine SL.val (O.assign rfl rfl Taken.no) ?_
             refine SL.val (O.assign rfl rfl Taken.no) ?_
             refine SL.nil ?_
             refine E.to ?_
             refine W.ret ?_
             refine E.thr ?_
             refine E.nilsl 6 1 rfl ?_
             refine E.fin (rs := [_, _, _]) (rn []) (.inl rfl) rfl (.cons (ResOne.tmp rfl) (.cons (ResOne.tmp rfl) (.cons (ResOne.tmp rfl) .nil))) ?_ ?_ rfl (fixL_spec rfl)
             ·skip
              have hcl : bar.any (nmHit (nm0 m atm s)) = true := by assumption
              have hno : ¬ posF n bar atm m s := fun q => by rw [hit_eq hml hb, q.2] at hcl; cases hcl
              rw [← hs, apN_n hno, apG_n hno, dec_f hno]; rfl
             · exact SubS.nil
            ·skip
             refine W.skip ?_
             refine E.to ?_
             refine W.seq ?_
             refine W.region ?_
             refine SL.val (O.assign rfl rfl Taken.no) ?_
             refine SL.nil ?_
             refine E.to ?_
             refine W.seq ?_
             refine W.seq ?_
             refine W.region ?_
             have hcl : bar.any (nmHit (nm0 m atm s)) = false := by first | assumption | simp_all
             have hL : ∀ p ∈ gL lk m atm s, p.length ≤ 1000 := fun p hp => by rcases List.mem_append.1 hp with z | z <;> (have := (partsN_units z).2.1; omega)
             refine SL.val (O.ldN (m := 2) (PtI.ref rfl rfl) (js := [_, _]) rfl (Nat.le_of_ble_eq_true rfl) Try.underlying106 rfl (by kernel_rfl) rfl Taken.no) ?_
             refine SL.val (O.move rfl rfl Taken.no) ?_
             refine SL.nil ?_
             refine E.to ?_
             refine W.block ?_
             refine W.unroll ?_
             refine W.seq ?_
             refine W.region ?_
             refine SL.val (O.det (fun _ => G.R.mv (G.R.lss rfl rfl) (congrArg Value.bool (decide_eq_true (by decide)))) rfl Taken.no) ?_
             refine SL.nil ?_
             refine E.to ?_
             refine W.seq ?_
             refine W.cond_t rfl ?_
             refine W.skip ?_
             refine E.to ?_
             refine W.seq ?_
             refine W.block ?_
             refine W.seq ?_
             refine W.region ?_
             refine SL.val (O.idxval (i := 0) rfl rfl (by rfl) (by decide) (by rfl) Try.underlying106 (by kernel_rfl) Try.underlying39 rfl rfl Taken.no) ?_
             refine SL.val (O.assign rfl rfl Taken.no) ?_
             refine SL.nil ?_
             refine E.to ?_
             refine W.seq ?_
             refine W.region ?_
             refine SL.val (O.move rfl rfl Taken.no) ?_
             refine SL.val (O.move rfl rfl Taken.no) ?_
             refine SL.val (O.nilCheck rfl rfl rfl Taken.no) ?_
             refine SL.val (O.fld_fz rfl Try.underlying78 rfl (m := 0) (by kernel_rfl) rfl rfl Taken.no) ?_
             refine SL.val (O.ld1 (PtI.ofU (PtU.fz rfl)) rfl Try.underlying76 rfl rfl Taken.no) ?_
             refine SL.val (O.callp rfl rfl rfl (parts_h (n := n) (us := (g0L m atm s)) (by omega) hgb.2.1) (.cons (ArgOk.same rfl) (.cons (ArgOk.same rfl) .nil)) hcallOk42 rfl Taken.no) ?_
             refine SL.val (O.lenE (SlOf.fz rfl (by decide)) (by first | exact List.length_map _ | rfl) Try.underlying75 rfl Taken.no) ?_
             refine SL.val (O.move rfl rfl Taken.no) ?_
             refine SL.nil ?_
             refine E.to ?_
             refine W.pick (.cons (t := 0) rfl (.cons (t := 6) rfl (.cons (t := 7) rfl (.cons (t := 8) rfl (.cons (t := 11) rfl (.cons (t := 16) rfl (.cons (t := 19) rfl (.cons (t := 21) rfl (.cons (t := 187) rfl (.cons (t := 188) rfl (.cons (t := 189) rfl (.cons (t := 190) rfl (.cons (t := 191) rfl (.cons (t := 192) rfl (.cons (t := 193) rfl (.cons (t := 194) rfl (.cons (t := 195) rfl (.cons (t := 196) rfl (.cons (t := 197) rfl (.cons (t := 198) rfl .nil)))))))))))))))))))) (.cons (t := 101) rfl (.cons (t := 120) rfl (.cons (t := 121) rfl (.cons (t := 124) rfl (.cons (t := 125) rfl .nil))))) ?_
             refine W.block ?_
             refine W.loopx1 (fun (p : Nat) => [(198, vI (p : Int)), (19, vI (sumV wt ((partsL lk (g0L m atm s)).take p)))]) (fun (p : Nat) => [(126, .data 3 1 ((nameF (fun x : Nat => (x : Int)) (nm0 m atm s) ((partsL lk (g0L m atm s)).take p)).map eI)), (124, .cells 39 [.own 126])]) (fun (p : Nat) => p ≤ (partsL lk (g0L m atm s)).length) (fun (p : Nat) => (partsL lk (g0L m atm s)).length - p) (0) (rn [(126, 125)]) (.cons (t := 0) rfl (.cons (t := 6) rfl (.cons (t := 7) rfl (.cons (t := 8) rfl (.cons (t := 11) rfl (.cons (t := 16) rfl (.cons (t := 21) rfl (.cons (t := 187) rfl (.cons (t := 188) rfl (.cons (t := 189) rfl (.cons (t := 190) rfl (.cons (t := 191) rfl (.cons (t := 192) rfl (.cons (t := 193) rfl (.cons (t := 194) rfl (.cons (t := 195) rfl (.cons (t := 196) rfl (.cons (t := 197) rfl .nil)))))))))))))))))) (.cons (t := 101) rfl (.cons (t := 120) rfl (.cons (t := 121) rfl .nil))) rfl ?_ ?_ rfl rfl ?_ ?_
             · exact (SubF.cons rfl (SubF.val rfl (by exact iv_int rfl) SubF.nil))
             · exact (SubS.val rfl (by exact sb_data (by rw [List.take_zero]; rfl)) (SubS.cons rfl SubS.nil))
             ·skip
              omega
             intro p hinv
             have hp := hinv
             have hpl : ((partsL lk (g0L m atm s)).take p).length ≤ 400 := by (try rw [List.length_append]); rw [List.length_take]; omega
             have hvb := sumV_b2 hw (L := ((partsL lk (g0L m atm s)).take p)) (fun p hp => hL p (List.mem_append_left _ (List.mem_of_mem_take hp)))
             refine W.seq ?_
             refine W.region ?_
             refine SL.val (O.det (fun _ => G.R.lss rfl rfl) rfl Taken.no) ?_
             refine SL.nil ?_
             refine E.to ?_
             refine W.seq ?_
             first | refine W.cond_d rfl (fun hc27 => ?_) (fun hc27 => ?_) | refine W.cond_nd rfl (fun hc27 => ?_) (fun hc27 => ?_) | refine W.cond rfl (fun hc27 => ?_) (fun hc27 => ?_)
             ·skip
              have hpu := partsN_units (mem_at (l := (partsL lk (g0L m atm s))) (i := p) (by omega))
              have hvp := valF_b hw (l := ((partsL lk (g0L m atm s))[p]!)) (by omega)
              refine W.skip ?_
              refine E.to ?_
              refine W.seq ?_
              refine W.block ?_
              refine W.seq ?_
              refine W.region ?_
              refine SL.val (O.idx_fz (i := p) rfl rfl (rfl) (row_get (by omega)) Try.underlying75 hi39 hs39 rfl Taken.no) ?_
              refine SL.val (O.ld1 (PtI.ofU (PtU.fz rfl)) rfl Try.underlying39 rfl rfl Taken.no) ?_
              refine SL.val (O.assign rfl rfl Taken.no) ?_
              refine SL.nil ?_
              refine E.to ?_
              refine W.seq ?_
              refine W.region ?_
              refine SL.val (O.move rfl rfl Taken.no) ?_
              refine SL.val (O.move rfl rfl Taken.no) ?_
              refine SL.val (O.move rfl rfl Taken.no) ?_
              refine SL.val (O.callp rfl rfl rfl (value_h (l := ((partsL lk (g0L m atm s))[p]!)) hw (by omega) (fun u hu => hgb.2.1 u (hpu.2.2 u hu))) (.cons (ArgOk.same rfl) (.cons (ArgOk.same rfl) .nil)) hcallOk45 rfl Taken.no) ?_
              refine SL.val (O.det (fun _ => by first | exact G.R.add64 rfl rfl (by omega) | exact G.R.add rfl rfl) rfl Taken.no) ?_
              refine SL.val (O.assign rfl rfl Taken.no) ?_
              refine SL.nil ?_
              refine E.to ?_
              refine W.pick (.cons (t := 0) rfl (.cons (t := 6) rfl (.cons (t := 7) rfl (.cons (t := 8) rfl (.cons (t := 11) rfl (.cons (t := 16) rfl (.cons (t := 19) rfl (.cons (t := 21) rfl (.cons (t := 23) rfl (.cons (t := 187) rfl (.cons (t := 188) rfl (.cons (t := 189) rfl (.cons (t := 190) rfl (.cons (t := 191) rfl (.cons (t := 192) rfl (.cons (t := 193) rfl (.cons (t := 194) rfl (.cons (t := 195) rfl (.cons (t := 196) rfl (.cons (t := 197) rfl (.cons (t := 198) rfl (.cons (t := 199) rfl (.cons (t := 200) rfl (.cons (t := 201) rfl (.cons (t := 202) rfl (.cons (t := 203) rfl (.cons (t := 204) rfl (.cons (t := 205) rfl (.cons (t := 206) rfl .nil))))))))))))))))))))))))))))) (.cons (t := 101) rfl (.cons (t := 120) rfl (.cons (t := 121) rfl (.cons (t := 124) rfl (.cons (t := 126) rfl .nil))))) ?_
              refine W.seq ?_
              refine W.region ?_
              refine SL.val (O.move rfl rfl Taken.no) ?_
              refine SL.val (O.lenE (SlOf.fz rfl (by decide)) (by first | exact List.length_map _ | rfl) Try.underlying39 rfl Taken.no) ?_
              refine SL.val (O.move rfl rfl Taken.no) ?_
              refine SL.nil ?_
              refine E.to ?_
              refine W.pick (.cons (t := 0) rfl (.cons (t := 6) rfl (.cons (t := 7) rfl (.cons (t := 8) rfl (.cons (t := 11) rfl (.cons (t := 16) rfl (.cons (t := 19) rfl (.cons (t := 21) rfl (.cons (t := 23) rfl (.cons (t := 187) rfl (.cons (t := 188) rfl (.cons (t := 189) rfl (.cons (t := 190) rfl (.cons (t := 191) rfl (.cons (t := 192) rfl (.cons (t := 193) rfl (.cons (t := 194) rfl (.cons (t := 195) rfl (.cons (t := 196) rfl (.cons (t := 197) rfl (.cons (t := 198) rfl (.cons (t := 199) rfl (.cons (t := 200) rfl (.cons (t := 201) rfl (.cons (t := 202) rfl (.cons (t := 203) rfl (.cons (t := 204) rfl (.cons (t := 205) rfl (.cons (t := 206) rfl (.cons (t := 207) rfl (.cons (t := 208) rfl (.cons (t := 209) rfl .nil)))))))))))))))))))))))))))))))) (.cons (t := 101) rfl (.cons (t := 120) rfl (.cons (t := 121) rfl (.cons (t := 124) rfl (.cons (t := 126) rfl .nil))))) ?_
              refine W.block ?_
              refine W.loopx1 (fun (j : Nat) => [(209, vI (j : Int))]) (fun (j : Nat) => [(127, .data 3 1 ((setAll (nameF (fun x : Nat => (x : Int)) (nm0 m atm s) ((partsL lk (g0L m atm s)).take p)) (((partsL lk (g0L m atm s))[p]!).take j) ((minL ((partsL lk (g0L m atm s))[p]!) : Nat) : Int)).map eI)), (124, .cells 39 [.own 127])]) (fun (j : Nat) => j ≤ ((partsL lk (g0L m atm s))[p]!).length) (fun (j : Nat) => ((partsL lk (g0L m atm s))[p]!).length - j) (0) (rn [(127, 126)]) (.cons (t := 0) rfl (.cons (t := 6) rfl (.cons (t := 7) rfl (.cons (t := 8) rfl (.cons (t := 11) rfl (.cons (t := 16) rfl (.cons (t := 19) rfl (.cons (t := 21) rfl (.cons (t := 23) rfl (.cons (t := 187) rfl (.cons (t := 188) rfl (.cons (t := 189) rfl (.cons (t := 190) rfl (.cons (t := 191) rfl (.cons (t := 192) rfl (.cons (t := 193) rfl (.cons (t := 194) rfl (.cons (t := 195) rfl (.cons (t := 196) rfl (.cons (t := 197) rfl (.cons (t := 198) rfl (.cons (t := 199) rfl (.cons (t := 200) rfl (.cons (t := 201) rfl (.cons (t := 202) rfl (.cons (t := 203) rfl (.cons (t := 204) rfl (.cons (t := 205) rfl (.cons (t := 206) rfl (.cons (t := 207) rfl (.cons (t := 208) rfl .nil))))))))))))))))))))))))))))))) (.cons (t := 101) rfl (.cons (t := 120) rfl (.cons (t := 121) rfl .nil))) rfl ?_ ?_ rfl rfl ?_ ?_
              · exact (SubF.cons rfl SubF.nil)
              · exact (SubS.val rfl (by exact sb_data (by rw [List.take_zero]; rfl)) (SubS.cons rfl SubS.nil))
              ·skip
               omega
              intro j hinv
              have hj := hinv
              have hnl : (setAll (nameF (fun x : Nat => (x : Int)) (nm0 m atm s) ((partsL lk (g0L m atm s)).take p)) (((partsL lk (g0L m atm s))[p]!).take j) ((minL ((partsL lk (g0L m atm s))[p]!) : Nat) : Int)).length = n := by rw [setAll_len, nameF_len, nm0_len]; exact hml
              refine W.seq ?_
              refine W.region ?_
              refine SL.val (O.det (fun _ => G.R.lss rfl rfl) rfl Taken.no) ?_
              refine SL.nil ?_
              refine E.to ?_
              refine W.pick (.cons (t := 0) rfl (.cons (t := 6) rfl (.cons (t := 7) rfl (.cons (t := 8) rfl (.cons (t := 11) rfl (.cons (t := 16) rfl (.cons (t := 19) rfl (.cons (t := 21) rfl (.cons (t := 23) rfl (.cons (t := 187) rfl (.cons (t := 188) rfl (.cons (t := 189) rfl (.cons (t := 190) rfl (.cons (t := 191) rfl (.cons (t := 192) rfl (.cons (t := 193) rfl (.cons (t := 194) rfl (.cons (t := 195) rfl (.cons (t := 196) rfl (.cons (t := 197) rfl (.cons (t := 198) rfl (.cons (t := 199) rfl (.cons (t := 200) rfl (.cons (t := 201) rfl (.cons (t := 202) rfl (.cons (t := 203) rfl (.cons (t := 204) rfl (.cons (t := 205) rfl (.cons (t := 206) rfl (.cons (t := 207) rfl (.cons (t := 208) rfl (.cons (t := 209) rfl (.cons (t := 210) rfl .nil))))))))))))))))))))))))))))))))) (.cons (t := 101) rfl (.cons (t := 120) rfl (.cons (t := 121) rfl (.cons (t := 124) rfl (.cons (t := 127) rfl .nil))))) ?_
              refine W.seq ?_
              first | refine W.cond_d rfl (fun hc28 => ?_) (fun hc28 => ?_) | refine W.cond_nd rfl (fun hc28 => ?_) (fun hc28 => ?_) | refine W.cond rfl (fun hc28 => ?_) (fun hc28 => ?_)
              ·skip
               have hun := hgb.2.1 _ (hpu.2.2 ((partsL lk (g0L m atm s))[p]!)[j]! (mem_at (by omega)))
               refine W.skip ?_
               refine E.to ?_
               refine W.pick (.cons (t := 0) rfl (.cons (t := 6) rfl (.cons (t := 7) rfl (.cons (t := 8) rfl (.cons (t := 11) rfl (.cons (t := 16) rfl (.cons (t := 19) rfl (.cons (t := 21) rfl (.cons (t := 23) rfl (.cons (t := 187) rfl (.cons (t := 188) rfl (.cons (t := 189) rfl (.cons (t := 190) rfl (.cons (t := 191) rfl (.cons (t := 192) rfl (.cons (t := 193) rfl (.cons (t := 194) rfl (.cons (t := 195) rfl (.cons (t := 196) rfl (.cons (t := 197) rfl (.cons (t := 198) rfl (.cons (t := 199) rfl (.cons (t := 200) rfl (.cons (t := 201) rfl (.cons (t := 202) rfl (.cons (t := 203) rfl (.cons (t := 204) rfl (.cons (t := 205) rfl (.cons (t := 206) rfl (.cons (t := 207) rfl (.cons (t := 208) rfl (.cons (t := 209) rfl (.cons (t := 210) rfl .nil))))))))))))))))))))))))))))))))) (.cons (t := 101) rfl (.cons (t := 120) rfl (.cons (t := 121) rfl (.cons (t := 124) rfl (.cons (t := 127) rfl .nil))))) ?_
               refine W.seq ?_
               refine W.block ?_
               refine W.seq ?_
               refine W.region ?_
               refine SL.val (O.idx_fz (i := j) rfl rfl (rfl) (row_get (by omega)) Try.underlying39 hi3 hs3 rfl Taken.no) ?_
               refine SL.val (O.ld1 (PtI.ofU (PtU.fz rfl)) rfl Try.underlying3 rfl rfl Taken.no) ?_
               refine SL.val (O.assign rfl rfl Taken.no) ?_
               refine SL.nil ?_
               refine E.to ?_
               refine W.pick (.cons (t := 0) rfl (.cons (t := 6) rfl (.cons (t := 7) rfl (.cons (t := 8) rfl (.cons (t := 11) rfl (.cons (t := 16) rfl (.cons (t := 19) rfl (.cons (t := 21) rfl (.cons (t := 23) rfl (.cons (t := 25) rfl (.cons (t := 187) rfl (.cons (t := 188) rfl (.cons (t := 189) rfl (.cons (t := 190) rfl (.cons (t := 191) rfl (.cons (t := 192) rfl (.cons (t := 193) rfl (.cons (t := 194) rfl (.cons (t := 195) rfl (.cons (t := 196) rfl (.cons (t := 197) rfl (.cons (t := 198) rfl (.cons (t := 199) rfl (.cons (t := 200) rfl (.cons (t := 201) rfl (.cons (t := 202) rfl (.cons (t := 203) rfl (.cons (t := 204) rfl (.cons (t := 205) rfl (.cons (t := 206) rfl (.cons (t := 207) rfl (.cons (t := 208) rfl (.cons (t := 209) rfl (.cons (t := 210) rfl (.cons (t := 211) rfl (.cons (t := 212) rfl .nil)))))))))))))))))))))))))))))))))))) (.cons (t := 101) rfl (.cons (t := 120) rfl (.cons (t := 121) rfl (.cons (t := 124) rfl (.cons (t := 127) rfl .nil))))) ?_
               refine W.draw [⟨[124], [], [], [127]⟩, ⟨[], [], [], []⟩, ⟨[], [], [], []⟩, ⟨[], [], [], []⟩, ⟨[127], [], [], []⟩, ⟨[127], [127], [], []⟩] rfl (by kernel_rfl) (by kernel_rfl) rfl rfl ?_
               refine WH.val (O.ld1 (PtI.ref rfl rfl) rfl Try.underlying39 rfl rfl Taken.no) rfl rfl ?_
               refine WH.val (O.move rfl rfl Taken.no) rfl rfl ?_
               refine WH.val (O.move rfl rfl Taken.no) rfl rfl ?_
               refine WH.val (O.callp rfl rfl rfl (min_h (l := ((partsL lk (g0L m atm s))[p]!)) (by omega)) (.cons (ArgOk.same rfl) .nil) hcallOk62 rfl Taken.no) rfl rfl ?_
               refine WH.val (O.idx_own (i := (((partsL lk (g0L m atm s))[p]!)[j]!)) rfl rfl rfl (rfl) (by rw [List.length_map]; omega) Try.underlying39 hi3 hs3 rfl Taken.no) rfl rfl ?_
               refine WH.effS (O.st_els (m := 1) rfl rfl rfl (us := [_]) rfl rfl (by kernel_rfl) (by simp) (row_get (by omega)) (by exact Nat.le_of_ble_eq_true rfl) rfl rfl (rows' := ((setAll (nameF (fun x : Nat => (x : Int)) (nm0 m atm s) ((partsL lk (g0L m atm s)).take p)) (((partsL lk (g0L m atm s))[p]!).take j) ((minL ((partsL lk (g0L m atm s))[p]!) : Nat) : Int)).set (((partsL lk (g0L m atm s))[p]!)[j]!) ((minL ((partsL lk (g0L m atm s))[p]!) : Nat) : Int)).map eI) (by exact set_map rfl) Taken.no) rfl rfl rfl (S' := (127, _) :: _) rfl ?_
               refine WH.nil ?_
               refine E.inn ?_
               refine E.to ?_
               refine W.pick (.cons (t := 0) rfl (.cons (t := 6) rfl (.cons (t := 7) rfl (.cons (t := 8) rfl (.cons (t := 11) rfl (.cons (t := 16) rfl (.cons (t := 19) rfl (.cons (t := 21) rfl (.cons (t := 23) rfl (.cons (t := 25) rfl (.cons (t := 187) rfl (.cons (t := 188) rfl (.cons (t := 189) rfl (.cons (t := 190) rfl (.cons (t := 191) rfl (.cons (t := 192) rfl (.cons (t := 193) rfl (.cons (t := 194) rfl (.cons (t := 195) rfl (.cons (t := 196) rfl (.cons (t := 197) rfl (.cons (t := 198) rfl (.cons (t := 199) rfl (.cons (t := 200) rfl (.cons (t := 201) rfl (.cons (t := 202) rfl (.cons (t := 203) rfl (.cons (t := 204) rfl (.cons (t := 205) rfl (.cons (t := 206) rfl (.cons (t := 207) rfl (.cons (t := 208) rfl (.cons (t := 209) rfl (.cons (t := 210) rfl (.cons (t := 211) rfl (.cons (t := 212) rfl (.cons (t := 213) rfl (.cons (t := 214) rfl (.cons (t := 215) rfl (.cons (t := 216) rfl (.cons (t := 217) rfl .nil))))))))))))))))))))))))))))))))))))))))) (.cons (t := 101) rfl (.cons (t := 120) rfl (.cons (t := 121) rfl (.cons (t := 124) rfl (.cons (t := 127) rfl .nil))))) ?_
               refine W.region ?_
               refine SL.val (O.det (fun _ => by first | exact G.R.add64 rfl rfl (by omega) | exact G.R.add rfl rfl) rfl Taken.no) ?_
               refine SL.val (O.move rfl rfl Taken.no) ?_
               refine SL.nil ?_
               refine E.again ((j + 1)) (rn []) ?_ ?_ rfl (fixL_spec rfl) ?_ ?_
               · exact (SubF.cons rfl (SubF.cons rfl (SubF.cons rfl (SubF.cons rfl (SubF.cons rfl (SubF.cons rfl (SubF.cons rfl (SubF.cons rfl (SubF.cons rfl (SubF.cons rfl (SubF.cons rfl (SubF.cons rfl (SubF.cons rfl (SubF.cons rfl (SubF.cons rfl (SubF.cons rfl (SubF.cons rfl (SubF.cons rfl (SubF.cons rfl (SubF.cons rfl (SubF.cons rfl (SubF.cons rfl (SubF.cons rfl (SubF.cons rfl (SubF.cons rfl (SubF.cons rfl (SubF.cons rfl (SubF.cons rfl (SubF.cons rfl (SubF.cons rfl (SubF.cons rfl (SubF.cons rfl SubF.nil))))))))))))))))))))))))))))))))
               · exact (SubS.val rfl (by (try dsimp only); exact sb_data (by rw [setAll_sG (by omega)])) (SubS.cons rfl (SubS.cons rfl (SubS.cons rfl (SubS.cons rfl SubS.nil)))))
               ·try dsimp only
                omega
               · (try dsimp only); omega
              ·skip
               refine W.exit ?_
               refine E.th ?_
               refine E.th ?_
               refine E.hit ?_
               refine E.inn ?_
               refine E.to ?_
               refine W.pick (.cons (t := 0) rfl (.cons (t := 6) rfl (.cons (t := 7) rfl (.cons (t := 8) rfl (.cons (t := 11) rfl (.cons (t := 16) rfl (.cons (t := 19) rfl (.cons (t := 21) rfl (.cons (t := 23) rfl (.cons (t := 187) rfl (.cons (t := 188) rfl (.cons (t := 189) rfl (.cons (t := 190) rfl (.cons (t := 191) rfl (.cons (t := 192) rfl (.cons (t := 193) rfl (.cons (t := 194) rfl (.cons (t := 195) rfl (.cons (t := 196) rfl (.cons (t := 197) rfl (.cons (t := 198) rfl (.cons (t := 199) rfl (.cons (t := 200) rfl (.cons (t := 201) rfl (.cons (t := 202) rfl (.cons (t := 203) rfl (.cons (t := 204) rfl (.cons (t := 205) rfl (.cons (t := 206) rfl (.cons (t := 207) rfl (.cons (t := 208) rfl (.cons (t := 209) rfl (.cons (t := 210) rfl .nil))))))))))))))))))))))))))))))))) (.cons (t := 101) rfl (.cons (t := 120) rfl (.cons (t := 121) rfl (.cons (t := 124) rfl (.cons (t := 127) rfl .nil))))) ?_
               refine W.region ?_
               refine SL.val (O.det (fun _ => by first | exact G.R.add64 rfl rfl (by omega) | exact G.R.add rfl rfl) rfl Taken.no) ?_
               refine SL.val (O.move rfl rfl Taken.no) ?_
               refine SL.nil ?_
               refine E.again ((p + 1)) (rn [(126, 127)]) ?_ ?_ rfl (fixL_spec rfl) ?_ ?_
               · exact (SubF.cons rfl (SubF.val rfl (by (try dsimp only); exact iv_int (by rw [snocP (l := (partsL lk (g0L m atm s))) (by omega), sumV_snoc])) (SubF.cons rfl (SubF.cons rfl (SubF.cons rfl (SubF.cons rfl (SubF.cons rfl (SubF.cons rfl (SubF.cons rfl (SubF.cons rfl (SubF.cons rfl (SubF.cons rfl (SubF.cons rfl (SubF.cons rfl (SubF.cons rfl (SubF.cons rfl (SubF.cons rfl (SubF.cons rfl (SubF.cons rfl (SubF.cons rfl SubF.nil))))))))))))))))))))
               · exact (SubS.val rfl (by (try dsimp only); exact sb_data (by rw [snocP (l := (partsL lk (g0L m atm s))) (by omega), nameF_snoc, show j = ((partsL lk (g0L m atm s))[p]!).length by omega, List.take_length])) (SubS.cons rfl (SubS.cons rfl (SubS.cons rfl (SubS.cons rfl SubS.nil)))))
               ·try dsimp only
                omega
               · (try dsimp only); omega
             ·skip
              refine W.exit ?_
              refine E.th ?_
              refine E.th ?_
              refine E.hit ?_
              refine E.inn ?_
              refine E.to ?_
              refine W.region ?_
              refine SL.val (O.det (fun _ => by first | exact G.R.add64 rfl rfl (by omega) | exact G.R.add rfl rfl) rfl Taken.no) ?_
              refine SL.val (O.move rfl rfl Taken.no) ?_
              refine SL.nil ?_
              refine E.reround ?_
              refine W.pick (.cons (t := 0) rfl (.cons (t := 6) rfl (.cons (t := 7) rfl (.cons (t := 8) rfl (.cons (t := 11) rfl (.cons (t := 16) rfl (.cons (t := 19) rfl (.cons (t := 21) rfl (.cons (t := 187) rfl (.cons (t := 188) rfl (.cons (t := 189) rfl (.cons (t := 190) rfl (.cons (t := 191) rfl (.cons (t := 192) rfl (.cons (t := 193) rfl (.cons (t := 194) rfl (.cons (t := 195) rfl (.cons (t := 196) rfl (.cons (t := 197) rfl (.cons (t := 198) rfl (.cons (t := 199) rfl (.cons (t := 220) rfl .nil)))))))))))))))))))))) (.cons (t := 101) rfl (.cons (t := 120) rfl (.cons (t := 121) rfl (.cons (t := 124) rfl (.cons (t := 126) rfl .nil))))) ?_
              refine W.seq ?_
              refine W.region ?_
              refine SL.val (O.det (fun _ => G.R.mv (G.R.lss rfl rfl) (congrArg Value.bool (decide_eq_true (by decide)))) rfl Taken.no) ?_
              refine SL.nil ?_
              refine E.to ?_
              refine W.seq ?_
              refine W.cond_t rfl ?_
              refine W.skip ?_
              refine E.to ?_
              refine W.seq ?_
              refine W.block ?_
              refine W.seq ?_
              refine W.region ?_
              refine SL.val (O.idxval (i := 1) rfl rfl (by rfl) (by decide) (by rfl) Try.underlying106 (by kernel_rfl) Try.underlying39 rfl rfl Taken.no) ?_
              refine SL.val (O.assign rfl rfl Taken.no) ?_
              refine SL.as (i' := vL 1 ((g1L m atm s).map eN)) 21 rfl (by (rw [← hg1]; try rfl)) ?_
              refine SL.nil ?_
              refine E.to ?_
              refine W.pick (.cons (t := 0) rfl (.cons (t := 6) rfl (.cons (t := 7) rfl (.cons (t := 8) rfl (.cons (t := 11) rfl (.cons (t := 16) rfl (.cons (t := 19) rfl (.cons (t := 21) rfl (.cons (t := 187) rfl (.cons (t := 188) rfl (.cons (t := 189) rfl (.cons (t := 190) rfl (.cons (t := 191) rfl (.cons (t := 192) rfl (.cons (t := 193) rfl (.cons (t := 194) rfl (.cons (t := 195) rfl (.cons (t := 196) rfl (.cons (t := 197) rfl (.cons (t := 198) rfl (.cons (t := 199) rfl (.cons (t := 220) rfl .nil)))))))))))))))))))))) (.cons (t := 101) rfl (.cons (t := 120) rfl (.cons (t := 121) rfl (.cons (t := 124) rfl (.cons (t := 126) rfl .nil))))) ?_
              refine W.seq ?_
              refine W.region ?_
              refine SL.val (O.move rfl rfl Taken.no) ?_
              refine SL.val (O.move rfl rfl Taken.no) ?_
              refine SL.val (O.nilCheck rfl rfl rfl Taken.no) ?_
              refine SL.val (O.fld_fz rfl Try.underlying78 rfl (m := 0) (by kernel_rfl) rfl rfl Taken.no) ?_
              refine SL.val (O.ld1 (PtI.ofU (PtU.fz rfl)) rfl Try.underlying76 rfl rfl Taken.no) ?_
              refine SL.val (O.callp rfl rfl rfl (parts_h (n := n) (us := (g1L m atm s)) (by omega) hgb.2.2) (.cons (ArgOk.same rfl) (.cons (ArgOk.same rfl) .nil)) hcallOk42 rfl Taken.no) ?_
              refine SL.val (O.lenE (SlOf.fz rfl (by decide)) (by first | exact List.length_map _ | rfl) Try.underlying75 rfl Taken.no) ?_
              refine SL.val (O.move rfl rfl Taken.no) ?_
              refine SL.nil ?_
              refine E.to ?_
              refine W.pick (.cons (t := 0) rfl (.cons (t := 6) rfl (.cons (t := 7) rfl (.cons (t := 8) rfl (.cons (t := 11) rfl (.cons (t := 16) rfl (.cons (t := 19) rfl (.cons (t := 21) rfl (.cons (t := 187) rfl (.cons (t := 188) rfl (.cons (t := 189) rfl (.cons (t := 190) rfl (.cons (t := 191) rfl (.cons (t := 192) rfl (.cons (t := 193) rfl (.cons (t := 194) rfl (.cons (t := 195) rfl (.cons (t := 196) rfl (.cons (t := 197) rfl (.cons (t := 198) rfl (.cons (t := 199) rfl (.cons (t := 220) rfl .nil)))))))))))))))))))))) (.cons (t := 101) rfl (.cons (t := 120) rfl (.cons (t := 121) rfl (.cons (t := 124) rfl (.cons (t := 126) rfl .nil))))) ?_
              refine W.block ?_
              refine W.loopx1 (fun (q : Nat) => [(198, vI (q : Int)), (19, vI (sumV wt ((partsL lk (g0L m atm s)) ++ (partsL lk (g1L m atm s)).take q)))]) (fun (q : Nat) => [(128, .data 3 1 ((nameF (fun x : Nat => (x : Int)) (nm0 m atm s) ((partsL lk (g0L m atm s)) ++ (partsL lk (g1L m atm s)).take q)).map eI)), (124, .cells 39 [.own 128])]) (fun (q : Nat) => q ≤ (partsL lk (g1L m atm s)).length) (fun (q : Nat) => (partsL lk (g1L m atm s)).length - q) (0) (rn [(128, 126)]) (.cons (t := 0) rfl (.cons (t := 6) rfl (.cons (t := 7) rfl (.cons (t := 8) rfl (.cons (t := 11) rfl (.cons (t := 16) rfl (.cons (t := 21) rfl (.cons (t := 187) rfl (.cons (t := 188) rfl (.cons (t := 189) rfl (.cons (t := 190) rfl (.cons (t := 191) rfl (.cons (t := 192) rfl (.cons (t := 193) rfl (.cons (t := 194) rfl (.cons (t := 195) rfl (.cons (t := 196) rfl (.cons (t := 197) rfl (.cons (t := 220) rfl .nil))))))))))))))))))) (.cons (t := 101) rfl (.cons (t := 120) rfl (.cons (t := 121) rfl .nil))) rfl ?_ ?_ rfl rfl ?_ ?_
              · exact (SubF.cons rfl (SubF.val rfl (by exact iv_int (by rw [List.take_zero, List.append_nil, show p = (partsL lk (g0L m atm s)).length by omega, List.take_length])) SubF.nil))
              · exact (SubS.val rfl (by exact sb_data (by rw [List.take_zero, List.append_nil, show p = (partsL lk (g0L m atm s)).length by omega, List.take_length])) (SubS.cons rfl SubS.nil))
              ·skip
               omega
              intro q hinv
              have hq := hinv
              have hpl : ((partsL lk (g0L m atm s)) ++ (partsL lk (g1L m atm s)).take q).length ≤ 400 := by (try rw [List.length_append]); rw [List.length_take]; omega
              have hvb := sumV_b2 hw (L := ((partsL lk (g0L m atm s)) ++ (partsL lk (g1L m atm s)).take q)) (fun p hp => hL p ((List.mem_append.1 hp).elim (fun z => List.mem_append_left _ z) fun z => List.mem_append_right _ (List.mem_of_mem_take z)))
              refine W.seq ?_
              refine W.region ?_
              refine SL.val (O.det (fun _ => G.R.lss rfl rfl) rfl Taken.no) ?_
              refine SL.nil ?_
              refine E.to ?_
              refine W.seq ?_
              first | refine W.cond_d rfl (fun hc29 => ?_) (fun hc29 => ?_) | refine W.cond_nd rfl (fun hc29 => ?_) (fun hc29 => ?_) | refine W.cond rfl (fun hc29 => ?_) (fun hc29 => ?_)
              ·skip
               have hpu := partsN_units (mem_at (l := (partsL lk (g1L m atm s))) (i := q) (by omega))
               have hvp := valF_b hw (l := ((partsL lk (g1L m atm s))[q]!)) (by omega)
               refine W.skip ?_
               refine E.to ?_
               refine W.seq ?_
               refine W.block ?_
               refine W.seq ?_
               refine W.region ?_
               refine SL.val (O.idx_fz (i := q) rfl rfl (rfl) (row_get (by omega)) Try.underlying75 hi39 hs39 rfl Taken.no) ?_
               refine SL.val (O.ld1 (PtI.ofU (PtU.fz rfl)) rfl Try.underlying39 rfl rfl Taken.no) ?_
               refine SL.val (O.assign rfl rfl Taken.no) ?_
               refine SL.nil ?_
               refine E.to ?_
               refine W.pick (.cons (t := 0) rfl (.cons (t := 6) rfl (.cons (t := 7) rfl (.cons (t := 8) rfl (.cons (t := 11) rfl (.cons (t := 16) rfl (.cons (t := 19) rfl (.cons (t := 21) rfl (.cons (t := 23) rfl (.cons (t := 187) rfl (.cons (t := 188) rfl (.cons (t := 189) rfl (.cons (t := 190) rfl (.cons (t := 191) rfl (.cons (t := 192) rfl (.cons (t := 193) rfl (.cons (t := 194) rfl (.cons (t := 195) rfl (.cons (t := 196) rfl (.cons (t := 197) rfl (.cons (t := 198) rfl (.cons (t := 199) rfl (.cons (t := 200) rfl (.cons (t := 201) rfl (.cons (t := 220) rfl .nil))))))))))))))))))))))))) (.cons (t := 101) rfl (.cons (t := 120) rfl (.cons (t := 121) rfl (.cons (t := 124) rfl (.cons (t := 128) rfl .nil))))) ?_
               refine W.seq ?_
               refine W.region ?_
               refine SL.val (O.move rfl rfl Taken.no) ?_
               refine SL.val (O.move rfl rfl Taken.no) ?_
               refine SL.val (O.move rfl rfl Taken.no) ?_
               refine SL.val (O.callp rfl rfl rfl (value_h (l := ((partsL lk (g1L m atm s))[q]!)) hw (by omega) (fun u hu => hgb.2.2 u (hpu.2.2 u hu))) (.cons (ArgOk.same rfl) (.cons (ArgOk.same rfl) .nil)) hcallOk45 rfl Taken.no) ?_
               refine SL.val (O.det (fun _ => by first | exact G.R.add64 rfl rfl (by omega) | exact G.R.add rfl rfl) rfl Taken.no) ?_
               refine SL.val (O.assign rfl rfl Taken.no) ?_
               refine SL.nil ?_
               refine E.to ?_
               refine W.pick (.cons (t := 0) rfl (.cons (t := 6) rfl (.cons (t := 7) rfl (.cons (t := 8) rfl (.cons (t := 11) rfl (.cons (t := 16) rfl (.cons (t := 19) rfl (.cons (t := 21) rfl (.cons (t := 23) rfl (.cons (t := 187) rfl (.cons (t := 188) rfl (.cons (t := 189) rfl (.cons (t := 190) rfl (.cons (t := 191) rfl (.cons (t := 192) rfl (.cons (t := 193) rfl (.cons (t := 194) rfl (.cons (t := 195) rfl (.cons (t := 196) rfl (.cons (t := 197) rfl (.cons (t := 198) rfl (.cons (t := 199) rfl (.cons (t := 200) rfl (.cons (t := 201) rfl (.cons (t := 202) rfl (.cons (t := 203) rfl (.cons (t := 204) rfl (.cons (t := 205) rfl (.cons (t := 206) rfl (.cons (t := 220) rfl .nil)))))))))))))))))))))))))))))) (.cons (t := 101) rfl (.cons (t := 120) rfl (.cons (t := 121) rfl (.cons (t := 124) rfl (.cons (t := 128) rfl .nil))))) ?_
               refine W.seq ?_
               refine W.region ?_
               refine SL.val (O.move rfl rfl Taken.no) ?_
               refine SL.val (O.lenE (SlOf.fz rfl (by decide)) (by first | exact List.length_map _ | rfl) Try.underlying39 rfl Taken.no) ?_
               refine SL.val (O.move rfl rfl Taken.no) ?_
               refine SL.nil ?_
               refine E.to ?_
               refine W.pick (.cons (t := 0) rfl (.cons (t := 6) rfl (.cons (t := 7) rfl (.cons (t := 8) rfl (.cons (t := 11) rfl (.cons (t := 16) rfl (.cons (t := 19) rfl (.cons (t := 21) rfl (.cons (t := 23) rfl (.cons (t := 187) rfl (.cons (t := 188) rfl (.cons (t := 189) rfl (.cons (t := 190) rfl (.cons (t := 191) rfl (.cons (t := 192) rfl (.cons (t := 193) rfl (.cons (t := 194) rfl (.cons (t := 195) rfl (.cons (t := 196) rfl (.cons (t := 197) rfl (.cons (t := 198) rfl (.cons (t := 199) rfl (.cons (t := 200) rfl (.cons (t := 201) rfl (.cons (t := 202) rfl (.cons (t := 203) rfl (.cons (t := 204) rfl (.cons (t := 205) rfl (.cons (t := 206) rfl (.cons (t := 207) rfl (.cons (t := 208) rfl (.cons (t := 209) rfl (.cons (t := 220) rfl .nil))))))))))))))))))))))))))))))))) (.cons (t := 101) rfl (.cons (t := 120) rfl (.cons (t := 121) rfl (.cons (t := 124) rfl (.cons (t := 128) rfl .nil))))) ?_
               refine W.block ?_
               refine W.loopx1 (fun (j : Nat) => [(209, vI (j : Int))]) (fun (j : Nat) => [(129, .data 3 1 ((setAll (nameF (fun x : Nat => (x : Int)) (nm0 m atm s) ((partsL lk (g0L m atm s)) ++ (partsL lk (g1L m atm s)).take q)) (((partsL lk (g1L m atm s))[q]!).take j) ((minL ((partsL lk (g1L m atm s))[q]!) : Nat) : Int)).map eI)), (124, .cells 39 [.own 129])]) (fun (j : Nat) => j ≤ ((partsL lk (g1L m atm s))[q]!).length) (fun (j : Nat) => ((partsL lk (g1L m atm s))[q]!).length - j) (0) (rn [(129, 128)]) (.cons (t := 0) rfl (.cons (t := 6) rfl (.cons (t := 7) rfl (.cons (t := 8) rfl (.cons (t := 11) rfl (.cons (t := 16) rfl (.cons (t := 19) rfl (.cons (t := 21) rfl (.cons (t := 23) rfl (.cons (t := 187) rfl (.cons (t := 188) rfl (.cons (t := 189) rfl (.cons (t := 190) rfl (.cons (t := 191) rfl (.cons (t := 192) rfl (.cons (t := 193) rfl (.cons (t := 194) rfl (.cons (t := 195) rfl (.cons (t := 196) rfl (.cons (t := 197) rfl (.cons (t := 198) rfl (.cons (t := 199) rfl (.cons (t := 200) rfl (.cons (t := 201) rfl (.cons (t := 202) rfl (.cons (t := 203) rfl (.cons (t := 204) rfl (.cons (t := 205) rfl (.cons (t := 206) rfl (.cons (t := 207) rfl (.cons (t := 208) rfl (.cons (t := 220) rfl .nil)))))))))))))))))))))))))))))))) (.cons (t := 101) rfl (.cons (t := 120) rfl (.cons (t := 121) rfl .nil))) rfl ?_ ?_ rfl rfl ?_ ?_
               · exact (SubF.cons rfl SubF.nil)
               · exact (SubS.val rfl (by exact sb_data (by rw [List.take_zero]; rfl)) (SubS.cons rfl SubS.nil))
               ·skip
                omega
               intro j hinv
               have hj := hinv
               have hnl : (setAll (nameF (fun x : Nat => (x : Int)) (nm0 m atm s) ((partsL lk (g0L m atm s)) ++ (partsL lk (g1L m atm s)).take q)) (((partsL lk (g1L m atm s))[q]!).take j) ((minL ((partsL lk (g1L m atm s))[q]!) : Nat) : Int)).length = n := by rw [setAll_len, nameF_len, nm0_len]; exact hml
               refine W.seq ?_
               refine W.region ?_
               refine SL.val (O.det (fun _ => G.R.lss rfl rfl) rfl Taken.no) ?_
               refine SL.nil ?_
               refine E.to ?_
               refine W.pick (.cons (t := 0) rfl (.cons (t := 6) rfl (.cons (t := 7) rfl (.cons (t := 8) rfl (.cons (t := 11) rfl (.cons (t := 16) rfl (.cons (t := 19) rfl (.cons (t := 21) rfl (.cons (t := 23) rfl (.cons (t := 187) rfl (.cons (t := 188) rfl (.cons (t := 189) rfl (.cons (t := 190) rfl (.cons (t := 191) rfl (.cons (t := 192) rfl (.cons (t := 193) rfl (.cons (t := 194) rfl (.cons (t := 195) rfl (.cons (t := 196) rfl (.cons (t := 197) rfl (.cons (t := 198) rfl (.cons (t := 199) rfl (.cons (t := 200) rfl (.cons (t := 201) rfl (.cons (t := 202) rfl (.cons (t := 203) rfl (.cons (t := 204) rfl (.cons (t := 205) rfl (.cons (t := 206) rfl (.cons (t := 207) rfl (.cons (t := 208) rfl (.cons (t := 209) rfl (.cons (t := 210) rfl (.cons (t := 220) rfl .nil)))))))))))))))))))))))))))))))))) (.cons (t := 101) rfl (.cons (t := 120) rfl (.cons (t := 121) rfl (.cons (t := 124) rfl (.cons (t := 129) rfl .nil))))) ?_
               refine W.seq ?_
               first | refine W.cond_d rfl (fun hc30 => ?_) (fun hc30 => ?_) | refine W.cond_nd rfl (fun hc30 => ?_) (fun hc30 => ?_) | refine W.cond rfl (fun hc30 => ?_) (fun hc30 => ?_)
               ·skip
                have hun := hgb.2.2 _ (hpu.2.2 ((partsL lk (g1L m atm s))[q]!)[j]! (mem_at (by omega)))
                refine W.skip ?_
                refine E.to ?_
                refine W.pick (.cons (t := 0) rfl (.cons (t := 6) rfl (.cons (t := 7) rfl (.cons (t := 8) rfl (.cons (t := 11) rfl (.cons (t := 16) rfl (.cons (t := 19) rfl (.cons (t := 21) rfl (.cons (t := 23) rfl (.cons (t := 187) rfl (.cons (t := 188) rfl (.cons (t := 189) rfl (.cons (t := 190) rfl (.cons (t := 191) rfl (.cons (t := 192) rfl (.cons (t := 193) rfl (.cons (t := 194) rfl (.cons (t := 195) rfl (.cons (t := 196) rfl (.cons (t := 197) rfl (.cons (t := 198) rfl (.cons (t := 199) rfl (.cons (t := 200) rfl (.cons (t := 201) rfl (.cons (t := 202) rfl (.cons (t := 203) rfl (.cons (t := 204) rfl (.cons (t := 205) rfl (.cons (t := 206) rfl (.cons (t := 207) rfl (.cons (t := 208) rfl (.cons (t := 209) rfl (.cons (t := 210) rfl (.cons (t := 220) rfl .nil)))))))))))))))))))))))))))))))))) (.cons (t := 101) rfl (.cons (t := 120) rfl (.cons (t := 121) rfl (.cons (t := 124) rfl (.cons (t := 129) rfl .nil))))) ?_
                refine W.seq ?_
                refine W.block ?_
                refine W.seq ?_
                refine W.region ?_
                refine SL.val (O.idx_fz (i := j) rfl rfl (rfl) (row_get (by omega)) Try.underlying39 hi3 hs3 rfl Taken.no) ?_
                refine SL.val (O.ld1 (PtI.ofU (PtU.fz rfl)) rfl Try.underlying3 rfl rfl Taken.no) ?_
                refine SL.val (O.assign rfl rfl Taken.no) ?_
                refine SL.nil ?_
                refine E.to ?_
                refine W.pick (.cons (t := 0) rfl (.cons (t := 6) rfl (.cons (t := 7) rfl (.cons (t := 8) rfl (.cons (t := 11) rfl (.cons (t := 16) rfl (.cons (t := 19) rfl (.cons (t := 21) rfl (.cons (t := 23) rfl (.cons (t := 25) rfl (.cons (t := 187) rfl (.cons (t := 188) rfl (.cons (t := 189) rfl (.cons (t := 190) rfl (.cons (t := 191) rfl (.cons (t := 192) rfl (.cons (t := 193) rfl (.cons (t := 194) rfl (.cons (t := 195) rfl (.cons (t := 196) rfl (.cons (t := 197) rfl (.cons (t := 198) rfl (.cons (t := 199) rfl (.cons (t := 200) rfl (.cons (t := 201) rfl (.cons (t := 202) rfl (.cons (t := 203) rfl (.cons (t := 204) rfl (.cons (t := 205) rfl (.cons (t := 206) rfl (.cons (t := 207) rfl (.cons (t := 208) rfl (.cons (t := 209) rfl (.cons (t := 210) rfl (.cons (t := 211) rfl (.cons (t := 212) rfl (.cons (t := 220) rfl .nil))))))))))))))))))))))))))))))))))))) (.cons (t := 101) rfl (.cons (t := 120) rfl (.cons (t := 121) rfl (.cons (t := 124) rfl (.cons (t := 129) rfl .nil))))) ?_
                refine W.draw [⟨[124], [], [], [129]⟩, ⟨[], [], [], []⟩, ⟨[], [], [], []⟩, ⟨[], [], [], []⟩, ⟨[129], [], [], []⟩, ⟨[129], [129], [], []⟩] rfl (by kernel_rfl) (by kernel_rfl) rfl rfl ?_
                refine WH.val (O.ld1 (PtI.ref rfl rfl) rfl Try.underlying39 rfl rfl Taken.no) rfl rfl ?_
                refine WH.val (O.move rfl rfl Taken.no) rfl rfl ?_
                refine WH.val (O.move rfl rfl Taken.no) rfl rfl ?_
                refine WH.val (O.callp rfl rfl rfl (min_h (l := ((partsL lk (g1L m atm s))[q]!)) (by omega)) (.cons (ArgOk.same rfl) .nil) hcallOk62 rfl Taken.no) rfl rfl ?_
                refine WH.val (O.idx_own (i := (((partsL lk (g1L m atm s))[q]!)[j]!)) rfl rfl rfl (rfl) (by rw [List.length_map]; omega) Try.underlying39 hi3 hs3 rfl Taken.no) rfl rfl ?_
                refine WH.effS (O.st_els (m := 1) rfl rfl rfl (us := [_]) rfl rfl (by kernel_rfl) (by simp) (row_get (by omega)) (by exact Nat.le_of_ble_eq_true rfl) rfl rfl (rows' := ((setAll (nameF (fun x : Nat => (x : Int)) (nm0 m atm s) ((partsL lk (g0L m atm s)) ++ (partsL lk (g1L m atm s)).take q)) (((partsL lk (g1L m atm s))[q]!).take j) ((minL ((partsL lk (g1L m atm s))[q]!) : Nat) : Int)).set (((partsL lk (g1L m atm s))[q]!)[j]!) ((minL ((partsL lk (g1L m atm s))[q]!) : Nat) : Int)).map eI) (by exact set_map rfl) Taken.no) rfl rfl rfl (S' := (129, _) :: _) rfl ?_
                refine WH.nil ?_
                refine E.inn ?_
                refine E.to ?_
                refine W.pick (.cons (t := 0) rfl (.cons (t := 6) rfl (.cons (t := 7) rfl (.cons (t := 8) rfl (.cons (t := 11) rfl (.cons (t := 16) rfl (.cons (t := 19) rfl (.cons (t := 21) rfl (.cons (t := 23) rfl (.cons (t := 25) rfl (.cons (t := 187) rfl (.cons (t := 188) rfl (.cons (t := 189) rfl (.cons (t := 190) rfl (.cons (t := 191) rfl (.cons (t := 192) rfl (.cons (t := 193) rfl (.cons (t := 194) rfl (.cons (t := 195) rfl (.cons (t := 196) rfl (.cons (t := 197) rfl (.cons (t := 198) rfl (.cons (t := 199) rfl (.cons (t := 200) rfl (.cons (t := 201) rfl (.cons (t := 202) rfl (.cons (t := 203) rfl (.cons (t := 204) rfl (.cons (t := 205) rfl (.cons (t := 206) rfl (.cons (t := 207) rfl (.cons (t := 208) rfl (.cons (t := 209) rfl (.cons (t := 210) rfl (.cons (t := 211) rfl (.cons (t := 212) rfl (.cons (t := 213) rfl (.cons (t := 214) rfl (.cons (t := 215) rfl (.cons (t := 216) rfl (.cons (t := 217) rfl (.cons (t := 220) rfl .nil)))))))))))))))))))))))))))))))))))))))))) (.cons (t := 101) rfl (.cons (t := 120) rfl (.cons (t := 121) rfl (.cons (t := 124) rfl (.cons (t := 129) rfl .nil))))) ?_
                refine W.region ?_
                refine SL.val (O.det (fun _ => by first | exact G.R.add64 rfl rfl (by omega) | exact G.R.add rfl rfl) rfl Taken.no) ?_
                refine SL.val (O.move rfl rfl Taken.no) ?_
                refine SL.nil ?_
                refine E.again ((j + 1)) (rn []) ?_ ?_ rfl (fixL_spec rfl) ?_ ?_
                · exact (SubF.cons rfl (SubF.cons rfl (SubF.cons rfl (SubF.cons rfl (SubF.cons rfl (SubF.cons rfl (SubF.cons rfl (SubF.cons rfl (SubF.cons rfl (SubF.cons rfl (SubF.cons rfl (SubF.cons rfl (SubF.cons rfl (SubF.cons rfl (SubF.cons rfl (SubF.cons rfl (SubF.cons rfl (SubF.cons rfl (SubF.cons rfl (SubF.cons rfl (SubF.cons rfl (SubF.cons rfl (SubF.cons rfl (SubF.cons rfl (SubF.cons rfl (SubF.cons rfl (SubF.cons rfl (SubF.cons rfl (SubF.cons rfl (SubF.cons rfl (SubF.cons rfl (SubF.cons rfl (SubF.cons rfl SubF.nil)))))))))))))))))))))))))))))))))
                · exact (SubS.val rfl (by (try dsimp only); exact sb_data (by rw [setAll_sG (by omega)])) (SubS.cons rfl (SubS.cons rfl (SubS.cons rfl (SubS.cons rfl SubS.nil)))))
                ·try dsimp only
                 omega
                · (try dsimp only); omega
               ·skip
                refine W.exit ?_
                refine E.th ?_
                refine E.th ?_
                refine E.hit ?_
                refine E.inn ?_
                refine E.to ?_
                refine W.pick (.cons (t := 0) rfl (.cons (t := 6) rfl (.cons (t := 7) rfl (.cons (t := 8) rfl (.cons (t := 11) rfl (.cons (t := 16) rfl (.cons (t := 19) rfl (.cons (t := 21) rfl (.cons (t := 23) rfl (.cons (t := 187) rfl (.cons (t := 188) rfl (.cons (t := 189) rfl (.cons (t := 190) rfl (.cons (t := 191) rfl (.cons (t := 192) rfl (.cons (t := 193) rfl (.cons (t := 194) rfl (.cons (t := 195) rfl (.cons (t := 196) rfl (.cons (t := 197) rfl (.cons (t := 198) rfl (.cons (t := 199) rfl (.cons (t := 200) rfl (.cons (t := 201) rfl (.cons (t := 202) rfl (.cons (t := 203) rfl (.cons (t := 204) rfl (.cons (t := 205) rfl (.cons (t := 206) rfl (.cons (t := 207) rfl (.cons (t := 208) rfl (.cons (t := 209) rfl (.cons (t := 210) rfl (.cons (t := 220) rfl .nil)))))))))))))))))))))))))))))))))) (.cons (t := 101) rfl (.cons (t := 120) rfl (.cons (t := 121) rfl (.cons (t := 124) rfl (.cons (t := 129) rfl .nil))))) ?_
                refine W.region ?_
                refine SL.val (O.det (fun _ => by first | exact G.R.add64 rfl rfl (by omega) | exact G.R.add rfl rfl) rfl Taken.no) ?_
                refine SL.val (O.move rfl rfl Taken.no) ?_
                refine SL.nil ?_
                refine E.again ((q + 1)) (rn [(128, 129)]) ?_ ?_ rfl (fixL_spec rfl) ?_ ?_
                · exact (SubF.cons rfl (SubF.val rfl (by (try dsimp only); exact iv_int (by rw [snocP (l := (partsL lk (g1L m atm s))) (by omega), ← List.append_assoc, sumV_snoc])) (SubF.cons rfl (SubF.cons rfl (SubF.cons rfl (SubF.cons rfl (SubF.cons rfl (SubF.cons rfl (SubF.cons rfl (SubF.cons rfl (SubF.cons rfl (SubF.cons rfl (SubF.cons rfl (SubF.cons rfl (SubF.cons rfl (SubF.cons rfl (SubF.cons rfl (SubF.cons rfl (SubF.cons rfl (SubF.cons rfl (SubF.cons rfl SubF.nil)))))))))))))))))))))
                · exact (SubS.val rfl (by (try dsimp only); exact sb_data (by rw [snocP (l := (partsL lk (g1L m atm s))) (by omega), ← List.append_assoc, nameF_snoc, show j = ((partsL lk (g1L m atm s))[q]!).length by omega, List.take_length])) (SubS.cons rfl (SubS.cons rfl (SubS.cons rfl (SubS.cons rfl SubS.nil)))))
                ·try dsimp only
                 omega
                · (try dsimp only); omega
              ·skip
               refine W.exit ?_
               refine E.th ?_
               refine E.th ?_
               refine E.hit ?_
               refine E.inn ?_
               refine E.to ?_
               refine W.region ?_
               refine SL.val (O.det (fun _ => by first | exact G.R.add64 rfl rfl (by omega) | exact G.R.add rfl rfl) rfl Taken.no) ?_
               refine SL.val (O.move rfl rfl Taken.no) ?_
               refine SL.nil ?_
               refine E.reround ?_
               refine W.pick (.cons (t := 0) rfl (.cons (t := 6) rfl (.cons (t := 7) rfl (.cons (t := 8) rfl (.cons (t := 11) rfl (.cons (t := 16) rfl (.cons (t := 19) rfl (.cons (t := 21) rfl (.cons (t := 187) rfl (.cons (t := 188) rfl (.cons (t := 189) rfl (.cons (t := 190) rfl (.cons (t := 191) rfl (.cons (t := 192) rfl (.cons (t := 193) rfl (.cons (t := 194) rfl (.cons (t := 195) rfl (.cons (t := 196) rfl (.cons (t := 197) rfl (.cons (t := 198) rfl (.cons (t := 199) rfl (.cons (t := 220) rfl .nil)))))))))))))))))))))) (.cons (t := 101) rfl (.cons (t := 120) rfl (.cons (t := 121) rfl (.cons (t := 124) rfl (.cons (t := 128) rfl .nil))))) ?_
               refine W.seq ?_
               refine W.region ?_
               refine SL.val (O.det (fun _ => G.R.mv (G.R.lss rfl rfl) (congrArg Value.bool (decide_eq_false (by decide)))) rfl Taken.no) ?_
               refine SL.nil ?_
               refine E.to ?_
               refine W.seq ?_
               refine W.cond_f rfl ?_
               refine W.exit ?_
               refine E.th ?_
               refine E.th ?_
               refine E.hit ?_
               refine E.to ?_
               refine W.seq ?_
               refine W.region ?_
               refine SL.val (O.ld1 (PtI.ref rfl rfl) rfl Try.underlying39 rfl rfl Taken.no) ?_
               refine SL.val (O.move rfl rfl Taken.no) ?_
               refine SL.val (O.move rfl rfl Taken.no) ?_
               refine SL.val (O.det (fun _ => by first | exact G.R.sub64 rfl rfl (by omega) | exact G.R.sub rfl rfl) rfl Taken.no) ?_
               refine SL.val (O.assign rfl rfl Taken.no) ?_
               refine SL.val (O.assign rfl rfl Taken.no) ?_
               refine SL.val (O.assign rfl rfl Taken.no) ?_
               refine SL.nil ?_
               refine E.to ?_
               refine W.pick (.cons (t := 6) rfl (.cons (t := 7) rfl (.cons (t := 8) rfl .nil))) (.cons (t := 101) rfl (.cons (t := 120) rfl (.cons (t := 121) rfl (.cons (t := 124) rfl (.cons (t := 128) rfl .nil))))) ?_
               refine W.ret ?_
               refine E.freeze 128 rfl (F' := [(6, _)]) (⟨⟨_, rfl, rfl⟩, trivial⟩) ?_
               refine E.fin (rs := [_, _, _]) (rn []) (.inl rfl) rfl (.cons (ResOne.tmp rfl) (.cons (ResOne.tmp rfl) (.cons (ResOne.tmp rfl) .nil))) ?_ ?_ rfl (fixL_spec rfl)
               ·skip
                have hyes : posF n bar atm m s := ⟨hpre, by rw [← hit_eq hml hb]; exact hcl⟩
                rw [← hs, apN_y hyes, apG_y hyes, dec_t hyes, gnF, hfe, hth, show q = (partsL lk (g1L m atm s)).length by omega, List.take_length]; rfl
               · exact SubS.nil
         ·skip
          first | have hg23p := G.gA7 hg23 | have hg23p := G.gA8 hg23 | have hg23p := hg23
          refine WH.skip (OpOk.not rfl rfl rfl hg23) ?_
          refine WH.skip (OpOk.not rfl rfl rfl hg23) ?_
          refine WH.skip (OpOk.not rfl rfl rfl hg23) ?_
          refine WH.skip (OpOk.not rfl rfl rfl hg23) ?_
          refine WH.skip (OpOk.not rfl rfl rfl hg23) ?_
          refine WH.val (O.pick_t rfl (G.ne_f hg23) rfl rfl Taken.no) rfl rfl ?_
          refine WH.nil ?_
          refine E.to ?_
          refine W.pick (.cons (t := 0) rfl (.cons (t := 1) rfl (.cons (t := 6) rfl (.cons (t := 7) rfl (.cons (t := 8) rfl (.cons (t := 9) rfl (.cons (t := 10) rfl (.cons (t := 11) rfl (.cons (t := 12) rfl (.cons (t := 116) rfl .nil)))))))))) (.cons (t := 101) rfl (.cons (t := 119) rfl (.cons (t := 120) rfl (.cons (t := 121) rfl .nil)))) ?_
          refine W.cond_t rfl ?_
          refine W.seq ?_
          refine W.region ?_
          refine SL.val (O.assign rfl rfl Taken.no) ?_
          refine SL.val (O.assign rfl rfl Taken.no) ?_
          refine SL.val (O.assign rfl rfl Taken.no) ?_
          refine SL.nil ?_
          refine E.to ?_
          refine W.ret ?_
          refine E.thr ?_
          refine E.thr ?_
          refine E.nilsl 6 1 rfl ?_
          refine E.fin (rs := [_, _, _]) (rn []) (.inl rfl) rfl (.cons (ResOne.tmp rfl) (.cons (ResOne.tmp rfl) (.cons (ResOne.tmp rfl) .nil))) ?_ ?_ rfl (fixL_spec rfl)
          ·skip
           first | ((have hno : ¬ posF n bar atm m ⟨true, (f : Int), (t : Int)⟩ := fun q => by ((obtain ⟨⟨⟨q1, q2, q3, q4, q5⟩, q6, q7, q8⟩, q9⟩ := posF_iff.1 q); (try simp only [Int.toNat_natCast] at q6 q7 q8); (have q7 := q7 (by trivial); omega))); rw [apN_n hno, apG_n hno, dec_f hno]; rfl)
          · exact SubS.nil
        ·skip
         obtain rfl : u = false := by simp_all
         refine W.seq ?_
         refine W.seq ?_
         refine W.draw [⟨[], [], [], []⟩, ⟨[], [], [], []⟩, ⟨[], [], [], []⟩, ⟨[], [], [], []⟩, ⟨[], [], [], [101]⟩, ⟨[101], [], [], []⟩, ⟨[], [], [], []⟩, ⟨[], [], [], []⟩, ⟨[], [], [], [101]⟩, ⟨[101], [], [], []⟩, ⟨[], [], [], []⟩] rfl (by kernel_rfl) (by kernel_rfl) rfl rfl ?_
         refine WH.val (O.move rfl rfl Taken.no) rfl rfl ?_
         refine WH.val (O.nilCheck rfl rfl rfl Taken.no) rfl rfl ?_
         refine WH.val (O.fld_fz rfl Try.underlying78 rfl (m := 0) (by kernel_rfl) rfl rfl Taken.no) rfl rfl ?_
         refine WH.val (O.ld1 (PtI.ofU (PtU.fz rfl)) rfl Try.underlying39 rfl rfl Taken.no) rfl rfl ?_
         refine WH.val (O.fld_ref (o' := 1) rfl Try.underlying55 rfl (m := 0) (by kernel_rfl) rfl rfl Taken.no) rfl rfl ?_
         refine WH.val (O.ld1 (PtI.ref rfl rfl) rfl Try.underlying3 rfl rfl Taken.no) rfl rfl ?_
         refine WH.val (O.idx_fz (i := f) rfl rfl (rfl) (row_get (by omega)) Try.underlying39 hi3 hs3 rfl Taken.no) rfl rfl ?_
         refine WH.val (O.ld1 (PtI.ofU (PtU.fz rfl)) rfl Try.underlying3 rfl rfl Taken.no) rfl rfl ?_
         refine WH.val (O.fld_ref (o' := 1) rfl Try.underlying55 rfl (m := 0) (by kernel_rfl) rfl rfl Taken.no) rfl rfl ?_
         refine WH.val (O.ld1 (PtI.ref rfl rfl) rfl Try.underlying3 rfl rfl Taken.no) rfl rfl ?_
         refine WH.val (O.det (fun _ => G.R.neq rfl rfl) rfl Taken.no) rfl rfl ?_
         refine WH.nil ?_
         refine E.to ?_
         first | refine W.cond_d rfl (fun hc31 => ?_) (fun hc31 => ?_) | refine W.cond_nd rfl (fun hc31 => ?_) (fun hc31 => ?_) | refine W.cond rfl (fun hc31 => ?_) (fun hc31 => ?_)
         ·skip
          refine W.seq ?_
          refine W.region ?_
          refine SL.val (O.assign rfl rfl Taken.no) ?_
          refine SL.val (O.assign rfl rfl Taken.no) ?_
          refine SL.val (O.assign rfl rfl Taken.no) ?_
          refine SL.nil ?_
          refine E.to ?_
          refine W.pick (.cons (t := 0) rfl (.cons (t := 1) rfl (.cons (t := 5) rfl (.cons (t := 6) rfl (.cons (t := 7) rfl (.cons (t := 8) rfl (.cons (t := 9) rfl (.cons (t := 10) rfl (.cons (t := 11) rfl (.cons (t := 12) rfl .nil)))))))))) (.cons (t := 101) rfl (.cons (t := 119) rfl (.cons (t := 120) rfl (.cons (t := 121) rfl .nil)))) ?_
          refine W.ret ?_
          refine E.thr ?_
          refine E.thr ?_
          refine E.nilsl 6 1 rfl ?_
          refine E.fin (rs := [_, _, _]) (rn []) (.inl rfl) rfl (.cons (ResOne.tmp rfl) (.cons (ResOne.tmp rfl) (.cons (ResOne.tmp rfl) .nil))) ?_ ?_ rfl (fixL_spec rfl)
          ·skip
           first | ((have hno : ¬ posF n bar atm m ⟨false, (f : Int), (t : Int)⟩ := fun q => by ((obtain ⟨⟨⟨q1, q2, q3, q4, q5⟩, q6, q7, q8⟩, q9⟩ := posF_iff.1 q); (try simp only [Int.toNat_natCast] at q6 q7 q8); (have q8 := (q8 (by trivial)).1; omega))); rw [apN_n hno, apG_n hno, dec_f hno]; rfl) | ((have hno : ¬ posF n bar atm m ⟨false, (f : Int), -1⟩ := fun q => by ((obtain ⟨⟨⟨q1, q2, q3, q4, q5⟩, q6, q7, q8⟩, q9⟩ := posF_iff.1 q); (try simp only [Int.toNat_natCast] at q6 q7 q8); (have q8 := (q8 (by trivial)).1; omega))); rw [apN_n hno, apG_n hno, dec_f hno]; rfl)
          · exact SubS.nil
         ·skip
          refine W.skip ?_
          refine E.to ?_
          refine W.seq ?_
          refine W.region ?_
          refine SL.val (O.move rfl rfl Taken.no) ?_
          refine SL.val (O.idx_ref (i := 0) (m := 1) rfl rfl (rfl) (by decide) Try.underlying106 (by kernel_rfl) rfl rfl Taken.no) ?_
          refine SL.effS (O.st_ref (m := 1) rfl rfl rfl (js := [_]) rfl rfl (by kernel_rfl) (by simp) (Nat.le_of_ble_eq_true rfl) rfl (is' := [_, _]) rfl Taken.no) (S' := (121, _) :: _) rfl ?_
          refine SL.nil ?_
          refine E.to ?_
          refine W.seq ?_
          refine W.seq ?_
          refine W.region ?_
          refine SL.val (O.move rfl rfl Taken.no) ?_
          refine SL.val (O.lenE (SlOf.own rfl rfl) (by first | exact List.length_map _ | rfl) Try.underlying39 rfl Taken.no) ?_
          refine SL.val (O.move rfl rfl Taken.no) ?_
          refine SL.nil ?_
          refine E.to ?_
          refine W.pick (.cons (t := 0) rfl (.cons (t := 1) rfl (.cons (t := 5) rfl (.cons (t := 6) rfl (.cons (t := 7) rfl (.cons (t := 8) rfl (.cons (t := 11) rfl (.cons (t := 12) rfl (.cons (t := 134) rfl (.cons (t := 135) rfl (.cons (t := 136) rfl .nil))))))))))) (.cons (t := 101) rfl (.cons (t := 119) rfl (.cons (t := 120) rfl (.cons (t := 121) rfl .nil)))) ?_
          refine W.block ?_
          refine W.adoptC 121 1 132 3 1 (is' := [_, _]) (by decide) rfl rfl rfl rfl rfl ?_
          refine W.loopx1 (fun (k : Nat) => [(136, vI (k : Int))]) (fun (k : Nat) => [(130, .data 3 1 (((thereL m (t : Int)) ++ ((unitsL m m[f]!).take k).filter (fun u => decide (atm[u]! = f))).map eN)), (131, .data 3 1 ((((unitsL m m[f]!).take k).filter (fun u => !decide (atm[u]! = f))).map eN)), (121, .cells 106 [.own 130, .own 131])]) (fun (k : Nat) => k ≤ (unitsL m m[f]!).length) (fun (k : Nat) => (unitsL m m[f]!).length - k) (0) (rn [(130, 120), (131, 132)]) (.cons (t := 0) rfl (.cons (t := 1) rfl (.cons (t := 5) rfl (.cons (t := 6) rfl (.cons (t := 7) rfl (.cons (t := 8) rfl (.cons (t := 11) rfl (.cons (t := 12) rfl (.cons (t := 134) rfl (.cons (t := 135) rfl .nil)))))))))) (.cons (t := 101) rfl (.cons (t := 119) rfl .nil)) rfl ?_ ?_ rfl rfl ?_ ?_
          · exact (SubF.cons rfl SubF.nil)
          · exact (SubS.val rfl (by exact sb_data (by rw [List.take_zero, List.filter_nil, List.append_nil, there_nat])) (SubS.val rfl (by exact sb_data (by rw [List.take_zero, List.filter_nil]; rfl)) (SubS.cons rfl SubS.nil)))
          ·skip
           omega
          intro k hinv
          have hk := hinv
          have hf0 := List.length_filter_le (fun u => decide (atm[u]! = f)) ((unitsL m m[f]!).take k)
          have hf1 := List.length_filter_le (fun u => !decide (atm[u]! = f)) ((unitsL m m[f]!).take k)
          rw [List.length_take] at hf0 hf1
          have hthl := there_len m (t : Int)
          refine W.seq ?_
          refine W.region ?_
          refine SL.val (O.det (fun _ => G.R.lss rfl rfl) rfl Taken.no) ?_
          refine SL.nil ?_
          refine E.to ?_
          refine W.seq ?_
          first | refine W.cond_d rfl (fun hc32 => ?_) (fun hc32 => ?_) | refine W.cond_nd rfl (fun hc32 => ?_) (fun hc32 => ?_) | refine W.cond rfl (fun hc32 => ?_) (fun hc32 => ?_)
          ·skip
           have hHk := hHn (unitsL m m[f]!)[k]! (mem_at (by omega))
           refine W.skip ?_
           refine E.to ?_
           refine W.seq ?_
           refine W.block ?_
           refine W.seq ?_
           refine W.region ?_
           refine SL.val (O.idx_own (i := k) rfl rfl rfl (rfl) (by rw [List.length_map]; omega) Try.underlying39 hi3 hs3 rfl Taken.no) ?_
           refine SL.val (O.ld1 (PtI.ofU (PtU.el rfl rfl (row_get (by omega)))) rfl Try.underlying3 rfl rfl Taken.no) ?_
           refine SL.val (O.assign rfl rfl Taken.no) ?_
           refine SL.nil ?_
           refine E.to ?_
           refine W.seq ?_
           refine W.region ?_
           refine SL.val (O.assign rfl rfl Taken.no) ?_
           refine SL.nil ?_
           refine E.to ?_
           refine W.seq ?_
           refine W.seq ?_
           refine W.draw [⟨[], [], [], []⟩, ⟨[], [], [], []⟩, ⟨[], [], [], []⟩, ⟨[], [], [], []⟩, ⟨[], [], [], []⟩, ⟨[], [], [], []⟩, ⟨[], [], [], []⟩, ⟨[], [], [], [101]⟩, ⟨[101], [], [], []⟩, ⟨[], [], [], []⟩] rfl (by kernel_rfl) (by kernel_rfl) rfl rfl ?_
           refine WH.val (O.move rfl rfl Taken.no) rfl rfl ?_
           refine WH.val (O.nilCheck rfl rfl rfl Taken.no) rfl rfl ?_
           refine WH.val (O.fld_fz rfl Try.underlying78 rfl (m := 0) (by kernel_rfl) rfl rfl Taken.no) rfl rfl ?_
           refine WH.val (O.ld1 (PtI.ofU (PtU.fz rfl)) rfl Try.underlying39 rfl rfl Taken.no) rfl rfl ?_
           refine WH.val (O.move rfl rfl Taken.no) rfl rfl ?_
           refine WH.val (O.idx_fz (i := ((unitsL m m[f]!)[k]!)) rfl rfl (rfl) (row_get (by omega)) Try.underlying39 hi3 hs3 rfl Taken.no) rfl rfl ?_
           refine WH.val (O.ld1 (PtI.ofU (PtU.fz rfl)) rfl Try.underlying3 rfl rfl Taken.no) rfl rfl ?_
           refine WH.val (O.fld_ref (o' := 1) rfl Try.underlying55 rfl (m := 0) (by kernel_rfl) rfl rfl Taken.no) rfl rfl ?_
           refine WH.val (O.ld1 (PtI.ref rfl rfl) rfl Try.underlying3 rfl rfl Taken.no) rfl rfl ?_
           refine WH.val (O.det (fun _ => G.R.eql rfl rfl) rfl Taken.no) rfl rfl ?_
           refine WH.nil ?_
           refine E.to ?_
           refine W.pick (.cons (t := 0) rfl (.cons (t := 1) rfl (.cons (t := 5) rfl (.cons (t := 6) rfl (.cons (t := 7) rfl (.cons (t := 8) rfl (.cons (t := 11) rfl (.cons (t := 12) rfl (.cons (t := 14) rfl (.cons (t := 15) rfl (.cons (t := 134) rfl (.cons (t := 135) rfl (.cons (t := 136) rfl (.cons (t := 149) rfl .nil)))))))))))))) (.cons (t := 101) rfl (.cons (t := 119) rfl (.cons (t := 121) rfl (.cons (t := 130) rfl (.cons (t := 131) rfl .nil))))) ?_
           first | refine W.cond_d rfl (fun hc33 => ?_) (fun hc33 => ?_) | refine W.cond_nd rfl (fun hc33 => ?_) (fun hc33 => ?_) | refine W.cond rfl (fun hc33 => ?_) (fun hc33 => ?_)
           ·skip
            have hp0 : (fun u => decide (atm[u]! = f)) (unitsL m m[f]!)[k]! = true := decide_eq_true (by omega)
            have hp1 : (fun u => !decide (atm[u]! = f)) (unitsL m m[f]!)[k]! = false := by show (!decide _) = false; rw [decide_eq_true (by omega)]; rfl
            refine W.region ?_
            refine SL.val (O.assign rfl rfl Taken.no) ?_
            refine SL.nil ?_
            refine E.to ?_
            refine W.region ?_
            refine SL.val (O.move rfl rfl Taken.no) ?_
            refine SL.val (O.move rfl rfl Taken.no) ?_
            refine SL.val (O.idx_ref (i := 0) (m := 1) rfl rfl (rfl) (by decide) Try.underlying106 (by kernel_rfl) rfl rfl Taken.no) ?_
            refine SL.val (O.ld1 (PtI.ref rfl rfl) rfl Try.underlying39 rfl rfl Taken.no) ?_
            refine SL.val (O.move rfl rfl Taken.no) ?_
            refine SL.memS (O.buildSlice 133 (rows := [(unitsL m m[f]!)[k]!].map eN) rfl rfl Try.underlying39 hi3 hz3 hs3 (by decide) rfl (by decide) rfl rfl rfl Taken.no) rfl rfl (S' := (133, .data 3 1 ([(unitsL m m[f]!)[k]!].map eN)) :: _) rfl ?_
            refine SL.memS (O.app (k' := 134) rfl rfl (SlOf.own rfl rfl) Try.underlying39 hi3 hz3 hs3 rfl rfl (by exact app_map) (by rw [hb3]; (simp only [List.length_map, List.length_singleton, List.length_append]; omega)) (by (simp only [List.length_map, List.length_singleton, List.length_append]; omega)) rfl Taken.no) rfl rfl (S' := (134, _) :: (130, .dead) :: _) rfl ?_
            refine SL.val (O.idx_ref (i := 0) (m := 1) rfl rfl (rfl) (by decide) Try.underlying106 (by kernel_rfl) rfl rfl Taken.no) ?_
            refine SL.effS (O.st_ref (m := 1) rfl rfl rfl (js := [_]) rfl rfl (by kernel_rfl) (by simp) (Nat.le_of_ble_eq_true rfl) rfl (is' := [_, _]) rfl Taken.no) (S' := (121, _) :: _) rfl ?_
            refine SL.nil ?_
            refine E.inn ?_
            refine E.to ?_
            refine W.region ?_
            refine SL.val (O.det (fun _ => by first | exact G.R.add64 rfl rfl (by omega) | exact G.R.add rfl rfl) rfl Taken.no) ?_
            refine SL.val (O.move rfl rfl Taken.no) ?_
            refine SL.nil ?_
            refine E.again ((k + 1)) (rn [(130, 134)]) ?_ ?_ rfl (fixL_spec rfl) ?_ ?_
            · exact (SubF.cons rfl (SubF.cons rfl (SubF.cons rfl (SubF.cons rfl (SubF.cons rfl (SubF.cons rfl (SubF.cons rfl (SubF.cons rfl (SubF.cons rfl (SubF.cons rfl (SubF.cons rfl SubF.nil)))))))))))
            · exact (SubS.val rfl (by (try dsimp only); first | exact sb_data (by rw [filt_y (by omega) hp0, ← List.append_assoc]) | exact sb_data (by rw [filt_n (by omega) hp0])) (SubS.val rfl (by (try dsimp only); first | exact sb_data (by rw [filt_n (by omega) hp1]) | exact sb_data (by rw [filt_y (by omega) hp1])) (SubS.cons rfl (SubS.cons rfl (SubS.cons rfl SubS.nil)))))
            ·try dsimp only
             omega
            · (try dsimp only); omega
           ·skip
            have hp0 : (fun u => decide (atm[u]! = f)) (unitsL m m[f]!)[k]! = false := decide_eq_false (by omega)
            have hp1 : (fun u => !decide (atm[u]! = f)) (unitsL m m[f]!)[k]! = true := by show (!decide _) = true; rw [decide_eq_false (by omega)]; rfl
            refine W.skip ?_
            refine E.to ?_
            refine W.region ?_
            refine SL.val (O.move rfl rfl Taken.no) ?_
            refine SL.val (O.move rfl rfl Taken.no) ?_
            refine SL.val (O.idx_ref (i := 1) (m := 1) rfl rfl (rfl) (by decide) Try.underlying106 (by kernel_rfl) rfl rfl Taken.no) ?_
            refine SL.val (O.ld1 (PtI.ref rfl rfl) rfl Try.underlying39 rfl rfl Taken.no) ?_
            refine SL.val (O.move rfl rfl Taken.no) ?_
            refine SL.memS (O.buildSlice 135 (rows := [(unitsL m m[f]!)[k]!].map eN) rfl rfl Try.underlying39 hi3 hz3 hs3 (by decide) rfl (by decide) rfl rfl rfl Taken.no) rfl rfl (S' := (135, .data 3 1 ([(unitsL m m[f]!)[k]!].map eN)) :: _) rfl ?_
            refine SL.memS (O.app (k' := 136) rfl rfl (SlOf.own rfl rfl) Try.underlying39 hi3 hz3 hs3 rfl rfl (by exact app_map) (by rw [hb3]; (simp only [List.length_map, List.length_singleton]; omega)) (by (simp only [List.length_map, List.length_singleton]; omega)) rfl Taken.no) rfl rfl (S' := (136, _) :: (131, .dead) :: _) rfl ?_
            refine SL.val (O.idx_ref (i := 1) (m := 1) rfl rfl (rfl) (by decide) Try.underlying106 (by kernel_rfl) rfl rfl Taken.no) ?_
            refine SL.effS (O.st_ref (m := 1) rfl rfl rfl (js := [_]) rfl rfl (by kernel_rfl) (by simp) (Nat.le_of_ble_eq_true rfl) rfl (is' := [_, _]) rfl Taken.no) (S' := (121, _) :: _) rfl ?_
            refine SL.nil ?_
            refine E.inn ?_
            refine E.to ?_
            refine W.region ?_
            refine SL.val (O.det (fun _ => by first | exact G.R.add64 rfl rfl (by omega) | exact G.R.add rfl rfl) rfl Taken.no) ?_
            refine SL.val (O.move rfl rfl Taken.no) ?_
            refine SL.nil ?_
            refine E.again ((k + 1)) (rn [(131, 136)]) ?_ ?_ rfl (fixL_spec rfl) ?_ ?_
            · exact (SubF.cons rfl (SubF.cons rfl (SubF.cons rfl (SubF.cons rfl (SubF.cons rfl (SubF.cons rfl (SubF.cons rfl (SubF.cons rfl (SubF.cons rfl (SubF.cons rfl (SubF.cons rfl SubF.nil)))))))))))
            · exact (SubS.val rfl (by (try dsimp only); first | exact sb_data (by rw [filt_y (by omega) hp0, ← List.append_assoc]) | exact sb_data (by rw [filt_n (by omega) hp0])) (SubS.val rfl (by (try dsimp only); first | exact sb_data (by rw [filt_n (by omega) hp1]) | exact sb_data (by rw [filt_y (by omega) hp1])) (SubS.cons rfl (SubS.cons rfl (SubS.cons rfl SubS.nil)))))
            ·try dsimp only
             omega
            · (try dsimp only); omega
          ·skip
           refine W.exit ?_
           refine E.th ?_
           refine E.th ?_
           refine E.hit ?_
           refine E.to ?_
           refine W.seq ?_
           refine W.region ?_
           refine SL.val (O.fld_ref (o' := 2) rfl Try.underlying55 rfl (m := 0) (by kernel_rfl) rfl rfl Taken.no) ?_
           refine SL.val (O.ld1 (PtI.ref rfl rfl) rfl Try.underlying3 rfl rfl Taken.no) ?_
           refine SL.val (O.det (fun _ => G.R.mv (G.R.eql rfl rfl) (congrArg Value.bool (decide_eq_false (by omega)))) rfl Taken.no) ?_
           refine SL.val (O.move rfl rfl Taken.no) ?_
           have hg34 : false ≠ true := by decide
           refine SL.skip (OpOk.not rfl rfl rfl hg34) ?_
           refine SL.skip (OpOk.not rfl rfl rfl hg34) ?_
           refine SL.skip (OpOk.not rfl rfl rfl hg34) ?_
           refine SL.skip (OpOk.not rfl rfl rfl hg34) ?_
           refine SL.val (O.pick_f rfl rfl rfl rfl Taken.no) ?_
           refine SL.nil ?_
           refine E.to ?_
           refine W.cond_f rfl ?_
           refine W.skip ?_
           refine E.to ?_
           refine W.seq ?_
           refine W.freezeC 121 0 130 (is' := [_, _]) rfl rfl rfl rfl ?_
           refine W.freezeC 121 1 131 (is' := [_, _]) rfl rfl rfl rfl ?_
           refine W.region ?_
           have hkH : k = (unitsL m m[f]!).length := by omega
           obtain ⟨s, hs⟩ : ∃ s : Stp, s = ⟨false, (f : Int), (t : Int)⟩ := ⟨_, rfl⟩
           have hfe : s.f.toNat = f := by rw [hs]; rfl
           have hth : thereL m s.t = unitsL m t := by rw [hs]; exact there_nat m t
           have hg0 : ((thereL m (t : Int)) ++ ((unitsL m m[f]!).take k).filter (fun u => decide (atm[u]! = f))) = g0L m atm s := by rw [hkH, List.take_length, hs]; rfl
           have hg1 : (((unitsL m m[f]!).take k).filter (fun u => !decide (atm[u]! = f))) = g1L m atm s := by rw [hkH, List.take_length, hs]; rfl
           have hpre : preF n atm m s := by rw [hs]; exact ⟨⟨by show (0 : Int) ≤ f; omega, by show (f : Int) < n; omega, by show (t : Int) < (n : Int); omega, by show -1 ≤ (t : Int); omega, fun h => rfl⟩, fun h => ⟨by show m[t]! = t; omega, by show m[f]! ≠ t; omega⟩, fun h => (by cases h), fun h => ⟨by show atm[f]! = f; omega, fun h => by exfalso; have h2 : (t : Int) < 0 := h; omega⟩⟩
           have hgb := g_b (atm := atm) (s := s) hml
           have hl0 : (partsL lk (g0L m atm s)).length ≤ (g0L m atm s).length := partsN_len
           have hl1 : (partsL lk (g1L m atm s)).length ≤ (g1L m atm s).length := partsN_len
           rw [hg0]
           refine SL.val (O.move rfl rfl Taken.no) ?_
           refine SL.memS (O.call (rn [(0, 137)]) [] rfl rfl rfl (clone_h (rows := m.map eN) (by rw [List.length_map]; omega)) (.cons (ArgOk.same rfl) .nil) SubS.nil rfl rfl rfl rfl rfl (.inl rfl) hcallOk39 (r' := .own 137) rfl rfl Taken.no) rfl rfl (S' := (137, .data _ _ _) :: _) rfl ?_
           refine SL.memS (O.alloc (z := .slice none 0 0) (is := [.u (.sc (.slice none 0 0))]) 138 (by kernel_rfl) rfl rfl rfl Taken.no) rfl rfl (S' := (138, _) :: _) rfl ?_
           refine SL.effS (O.st_ref (m := 1) rfl rfl rfl (js := [_]) rfl rfl (by kernel_rfl) (by simp) (Nat.le_of_ble_eq_true rfl) rfl (is' := [_]) rfl Taken.no) (S' := (138, _) :: _) rfl ?_
           refine SL.nil ?_
           refine E.to ?_
           refine W.seq ?_
           refine W.seq ?_
           refine W.region ?_
           refine SL.val (O.idx_ref (i := 0) (m := 1) rfl rfl (rfl) (by decide) Try.underlying106 (by kernel_rfl) rfl rfl Taken.no) ?_
           refine SL.val (O.ld1 (PtI.ref rfl rfl) rfl Try.underlying39 rfl rfl Taken.no) ?_
           refine SL.val (O.lenE (SlOf.fz rfl (by decide)) (by first | exact List.length_map _ | rfl) Try.underlying39 rfl Taken.no) ?_
           refine SL.val (O.move rfl rfl Taken.no) ?_
           refine SL.nil ?_
           refine E.to ?_
           refine W.pick (.cons (t := 0) rfl (.cons (t := 6) rfl (.cons (t := 7) rfl (.cons (t := 8) rfl (.cons (t := 11) rfl (.cons (t := 12) rfl (.cons (t := 16) rfl (.cons (t := 171) rfl (.cons (t := 172) rfl (.cons (t := 173) rfl .nil)))))))))) (.cons (t := 101) rfl (.cons (t := 119) rfl (.cons (t := 121) rfl (.cons (t := 137) rfl (.cons (t := 138) rfl .nil))))) ?_
           refine W.block ?_
           refine W.loopx1 (fun (j : Nat) => [(173, vI (j : Int))]) (fun (j : Nat) => [(139, .data 3 1 ((setAll (m.map (fun x : Nat => (x : Int))) ((g0L m atm s).take j) (-1)).map eI)), (138, .cells 39 [.own 139])]) (fun (j : Nat) => j ≤ (g0L m atm s).length) (fun (j : Nat) => (g0L m atm s).length - j) (0) (rn [(139, 137)]) (.cons (t := 0) rfl (.cons (t := 6) rfl (.cons (t := 7) rfl (.cons (t := 8) rfl (.cons (t := 11) rfl (.cons (t := 12) rfl (.cons (t := 16) rfl (.cons (t := 171) rfl (.cons (t := 172) rfl .nil))))))))) (.cons (t := 101) rfl (.cons (t := 119) rfl (.cons (t := 121) rfl .nil))) rfl ?_ ?_ rfl rfl ?_ ?_
           · exact (SubF.cons rfl SubF.nil)
           · exact (SubS.val rfl (by exact sb_data (by rw [List.take_zero]; exact (eI_eN m).symm)) (SubS.cons rfl SubS.nil))
           ·skip
            omega
           intro j hinv
           have hj := hinv
           have hnl : (setAll (m.map (fun x : Nat => (x : Int))) ((g0L m atm s).take j) (-1)).length = n := by rw [setAll_len, List.length_map]; exact hml
           refine W.seq ?_
           refine W.region ?_
           refine SL.val (O.det (fun _ => G.R.lss rfl rfl) rfl Taken.no) ?_
           refine SL.nil ?_
           refine E.to ?_
           refine W.seq ?_
           first | refine W.cond_d rfl (fun hc35 => ?_) (fun hc35 => ?_) | refine W.cond_nd rfl (fun hc35 => ?_) (fun hc35 => ?_) | refine W.cond rfl (fun hc35 => ?_) (fun hc35 => ?_)
           ·skip
            have hGj := hgb.2.1 (g0L m atm s)[j]! (mem_at (by omega))
            refine W.skip ?_
            refine E.to ?_
            refine W.seq ?_
            refine W.block ?_
            refine W.seq ?_
            refine W.region ?_
            refine SL.val (O.idx_fz (i := j) rfl rfl (rfl) (row_get (by omega)) Try.underlying39 hi3 hs3 rfl Taken.no) ?_
            refine SL.val (O.ld1 (PtI.ofU (PtU.fz rfl)) rfl Try.underlying3 rfl rfl Taken.no) ?_
            refine SL.val (O.assign rfl rfl Taken.no) ?_
            refine SL.nil ?_
            refine E.to ?_
            refine W.region ?_
            refine SL.val (O.ld1 (PtI.ref rfl rfl) rfl Try.underlying39 rfl rfl Taken.no) ?_
            refine SL.val (O.move rfl rfl Taken.no) ?_
            refine SL.val (O.idx_own (i := ((g0L m atm s)[j]!)) rfl rfl rfl (rfl) (by rw [List.length_map]; omega) Try.underlying39 hi3 hs3 rfl Taken.no) ?_
            refine SL.effS (O.st_els (m := 1) rfl rfl rfl (us := [_]) rfl rfl (by kernel_rfl) (by simp) (row_get (by omega)) (by exact Nat.le_of_ble_eq_true rfl) rfl rfl (rows' := ((setAll (m.map (fun x : Nat => (x : Int))) ((g0L m atm s).take j) (-1)).set ((g0L m atm s)[j]!) (-1)).map eI) (by exact set_map rfl) Taken.no) (S' := (139, _) :: _) rfl ?_
            refine SL.nil ?_
            refine E.inn ?_
            refine E.to ?_
            refine W.region ?_
            refine SL.val (O.det (fun _ => by first | exact G.R.add64 rfl rfl (by omega) | exact G.R.add rfl rfl) rfl Taken.no) ?_
            refine SL.val (O.move rfl rfl Taken.no) ?_
            refine SL.nil ?_
            refine E.again ((j + 1)) (rn []) ?_ ?_ rfl (fixL_spec rfl) ?_ ?_
            · exact (SubF.cons rfl (SubF.cons rfl (SubF.cons rfl (SubF.cons rfl (SubF.cons rfl (SubF.cons rfl (SubF.cons rfl (SubF.cons rfl (SubF.cons rfl (SubF.cons rfl SubF.nil))))))))))
            · exact (SubS.val rfl (by (try dsimp only); exact sb_data (by rw [setAll_sG (by omega)])) (SubS.cons rfl (SubS.cons rfl (SubS.cons rfl (SubS.cons rfl SubS.nil)))))
            ·try dsimp only
             omega
            · (try dsimp only); omega
           ·skip
            refine W.exit ?_
            refine E.th ?_
            refine E.th ?_
            refine E.hit ?_
            refine E.to ?_
            refine W.seq ?_
            refine W.seq ?_
            have hjG : j = (g0L m atm s).length := by omega
            rw [hjG, List.take_length]
            refine W.region ?_
            refine SL.val (O.move rfl rfl Taken.no) ?_
            refine SL.val (O.nilCheck rfl rfl rfl Taken.no) ?_
            refine SL.val (O.fld_fz rfl Try.underlying78 rfl (m := 0) (by kernel_rfl) rfl rfl Taken.no) ?_
            refine SL.val (O.ld1 (PtI.ofU (PtU.fz rfl)) rfl Try.underlying23 rfl rfl Taken.no) ?_
            refine SL.val (O.makeFunc rfl rfl rfl Taken.no) ?_
            refine SL.memS (O.call (rn [(0, 138), (1, 139)]) [] rfl rfl rfl (containsFuncN (nm := (nm0 m atm s)) (q := bar) (by rw [nm0_len, hml]; exact hb)) (.cons (ArgOk.same rfl) (.cons (ArgOk.same rfl) .nil)) (SubS.cons rfl (SubS.cons rfl SubS.nil)) rfl rfl rfl rfl rfl (.inl rfl) hcallOk63 (r' := .u _) rfl rfl Taken.no) rfl rfl (S' := (138, .cells _ [.own 139]) :: (139, .data _ _ _) :: _) rfl ?_
            refine SL.nil ?_
            refine E.to ?_
            first | refine W.cond_d rfl (fun hc36 => ?_) (fun hc36 => ?_) | refine W.cond_nd rfl (fun hc36 => ?_) (fun hc36 => ?_) | refine W.cond rfl (fun hc36 => ?_) (fun hc36 => ?_)
            ·skip
             refine W.seq ?_
             refine W.region ?_
             refine SL.val (O.assign rfl rfl Taken.no) ?_
             refine SL.val (O.assign rfl rfl Taken.no) ?_
             refine SL.val (O.assign rfl rfl Taken.no) ?_
             refine SL.nil ?_
             refine E.to ?_
             refine W.ret ?_
             refine E.thr ?_
             refine E.nilsl 6 1 rfl ?_
             refine E.fin (rs := [_, _, _]) (rn []) (.inl rfl) rfl (.cons (ResOne.tmp rfl) (.cons (ResOne.tmp rfl) (.cons (ResOne.tmp rfl) .nil))) ?_ ?_ rfl (fixL_spec rfl)
             ·skip
              have hcl : bar.any (nmHit (nm0 m atm s)) = true := by assumption
              have hno : ¬ posF n bar atm m s := fun q => by rw [hit_eq hml hb, q.2] at hcl; cases hcl
              rw [← hs, apN_n hno, apG_n hno, dec_f hno]; rfl
             · exact SubS.nil
            ·skip
             refine W.skip ?_
             refine E.to ?_
             refine W.seq ?_
             refine W.region ?_
             refine SL.val (O.assign rfl rfl Taken.no) ?_
             refine SL.nil ?_
             refine E.to ?_
             refine W.seq ?_
             refine W.seq ?_
             refine W.region ?_
             have hcl : bar.any (nmHit (nm0 m atm s)) = false := by first | assumption | simp_all
             have hL : ∀ p ∈ gL lk m atm s, p.length ≤ 1000 := fun p hp => by rcases List.mem_append.1 hp with z | z <;> (have := (partsN_units z).2.1; omega)
             refine SL.val (O.ldN (m := 2) (PtI.ref rfl rfl) (js := [_, _]) rfl (Nat.le_of_ble_eq_true rfl) Try.underlying106 rfl (by kernel_rfl) rfl Taken.no) ?_
             refine SL.val (O.move rfl rfl Taken.no) ?_
             refine SL.nil ?_
             refine E.to ?_
             refine W.block ?_
             refine W.unroll ?_
             refine W.seq ?_
             refine W.region ?_
             refine SL.val (O.det (fun _ => G.R.mv (G.R.lss rfl rfl) (congrArg Value.bool (decide_eq_true (by decide)))) rfl Taken.no) ?_
             refine SL.nil ?_
             refine E.to ?_
             refine W.seq ?_
             refine W.cond_t rfl ?_
             refine W.skip ?_
             refine E.to ?_
             refine W.seq ?_
             refine W.block ?_
             refine W.seq ?_
             refine W.region ?_
             refine SL.val (O.idxval (i := 0) rfl rfl (by rfl) (by decide) (by rfl) Try.underlying106 (by kernel_rfl) Try.underlying39 rfl rfl Taken.no) ?_
             refine SL.val (O.assign rfl rfl Taken.no) ?_
             refine SL.nil ?_
             refine E.to ?_
             refine W.seq ?_
             refine W.region ?_
             refine SL.val (O.move rfl rfl Taken.no) ?_
             refine SL.val (O.move rfl rfl Taken.no) ?_
             refine SL.val (O.nilCheck rfl rfl rfl Taken.no) ?_
             refine SL.val (O.fld_fz rfl Try.underlying78 rfl (m := 0) (by kernel_rfl) rfl rfl Taken.no) ?_
             refine SL.val (O.ld1 (PtI.ofU (PtU.fz rfl)) rfl Try.underlying76 rfl rfl Taken.no) ?_
             refine SL.val (O.callp rfl rfl rfl (parts_h (n := n) (us := (g0L m atm s)) (by omega) hgb.2.1) (.cons (ArgOk.same rfl) (.cons (ArgOk.same rfl) .nil)) hcallOk42 rfl Taken.no) ?_
             refine SL.val (O.lenE (SlOf.fz rfl (by decide)) (by first | exact List.length_map _ | rfl) Try.underlying75 rfl Taken.no) ?_
             refine SL.val (O.move rfl rfl Taken.no) ?_
             refine SL.nil ?_
             refine E.to ?_
             refine W.pick (.cons (t := 0) rfl (.cons (t := 6) rfl (.cons (t := 7) rfl (.cons (t := 8) rfl (.cons (t := 11) rfl (.cons (t := 16) rfl (.cons (t := 19) rfl (.cons (t := 21) rfl (.cons (t := 187) rfl (.cons (t := 188) rfl (.cons (t := 189) rfl (.cons (t := 190) rfl (.cons (t := 191) rfl (.cons (t := 192) rfl (.cons (t := 193) rfl (.cons (t := 194) rfl (.cons (t := 195) rfl (.cons (t := 196) rfl (.cons (t := 197) rfl (.cons (t := 198) rfl .nil)))))))))))))))))))) (.cons (t := 101) rfl (.cons (t := 119) rfl (.cons (t := 121) rfl (.cons (t := 138) rfl (.cons (t := 139) rfl .nil))))) ?_
             refine W.block ?_
             refine W.loopx1 (fun (p : Nat) => [(198, vI (p : Int)), (19, vI (sumV wt ((partsL lk (g0L m atm s)).take p)))]) (fun (p : Nat) => [(140, .data 3 1 ((nameF (fun x : Nat => (x : Int)) (nm0 m atm s) ((partsL lk (g0L m atm s)).take p)).map eI)), (138, .cells 39 [.own 140])]) (fun (p : Nat) => p ≤ (partsL lk (g0L m atm s)).length) (fun (p : Nat) => (partsL lk (g0L m atm s)).length - p) (0) (rn [(140, 139)]) (.cons (t := 0) rfl (.cons (t := 6) rfl (.cons (t := 7) rfl (.cons (t := 8) rfl (.cons (t := 11) rfl (.cons (t := 16) rfl (.cons (t := 21) rfl (.cons (t := 187) rfl (.cons (t := 188) rfl (.cons (t := 189) rfl (.cons (t := 190) rfl (.cons (t := 191) rfl (.cons (t := 192) rfl (.cons (t := 193) rfl (.cons (t := 194) rfl (.cons (t := 195) rfl (.cons (t := 196) rfl (.cons (t := 197) rfl .nil)))))))))))))))))) (.cons (t := 101) rfl (.cons (t := 119) rfl (.cons (t := 121) rfl .nil))) rfl ?_ ?_ rfl rfl ?_ ?_
             · exact (SubF.cons rfl (SubF.val rfl (by exact iv_int rfl) SubF.nil))
             · exact (SubS.val rfl (by exact sb_data (by rw [List.take_zero]; rfl)) (SubS.cons rfl SubS.nil))
             ·skip
              omega
             intro p hinv
             have hp := hinv
             have hpl : ((partsL lk (g0L m atm s)).take p).length ≤ 400 := by (try rw [List.length_append]); rw [List.length_take]; omega
             have hvb := sumV_b2 hw (L := ((partsL lk (g0L m atm s)).take p)) (fun p hp => hL p (List.mem_append_left _ (List.mem_of_mem_take hp)))
             refine W.seq ?_
             refine W.region ?_
             refine SL.val (O.det (fun _ => G.R.lss rfl rfl) rfl Taken.no) ?_
             refine SL.nil ?_
             refine E.to ?_
             refine W.seq ?_
             first | refine W.cond_d rfl (fun hc37 => ?_) (fun hc37 => ?_) | refine W.cond_nd rfl (fun hc37 => ?_) (fun hc37 => ?_) | refine W.cond rfl (fun hc37 => ?_) (fun hc37 => ?_)
             ·skip
              have hpu := partsN_units (mem_at (l := (partsL lk (g0L m atm s))) (i := p) (by omega))
              have hvp := valF_b hw (l := ((partsL lk (g0L m atm s))[p]!)) (by omega)
              refine W.skip ?_
              refine E.to ?_
              refine W.seq ?_
              refine W.block ?_
              refine W.seq ?_
              refine W.region ?_
              refine SL.val (O.idx_fz (i := p) rfl rfl (rfl) (row_get (by omega)) Try.underlying75 hi39 hs39 rfl Taken.no) ?_
              refine SL.val (O.ld1 (PtI.ofU (PtU.fz rfl)) rfl Try.underlying39 rfl rfl Taken.no) ?_
              refine SL.val (O.assign rfl rfl Taken.no) ?_
              refine SL.nil ?_
              refine E.to ?_
              refine W.seq ?_
              refine W.region ?_
              refine SL.val (O.move rfl rfl Taken.no) ?_
              refine SL.val (O.move rfl rfl Taken.no) ?_
              refine SL.val (O.move rfl rfl Taken.no) ?_
              refine SL.val (O.callp rfl rfl rfl (value_h (l := ((partsL lk (g0L m atm s))[p]!)) hw (by omega) (fun u hu => hgb.2.1 u (hpu.2.2 u hu))) (.cons (ArgOk.same rfl) (.cons (ArgOk.same rfl) .nil)) hcallOk45 rfl Taken.no) ?_
              refine SL.val (O.det (fun _ => by first | exact G.R.add64 rfl rfl (by omega) | exact G.R.add rfl rfl) rfl Taken.no) ?_
              refine SL.val (O.assign rfl rfl Taken.no) ?_
              refine SL.nil ?_
              refine E.to ?_
              refine W.pick (.cons (t := 0) rfl (.cons (t := 6) rfl (.cons (t := 7) rfl (.cons (t := 8) rfl (.cons (t := 11) rfl (.cons (t := 16) rfl (.cons (t := 19) rfl (.cons (t := 21) rfl (.cons (t := 23) rfl (.cons (t := 187) rfl (.cons (t := 188) rfl (.cons (t := 189) rfl (.cons (t := 190) rfl (.cons (t := 191) rfl (.cons (t := 192) rfl (.cons (t := 193) rfl (.cons (t := 194) rfl (.cons (t := 195) rfl (.cons (t := 196) rfl (.cons (t := 197) rfl (.cons (t := 198) rfl (.cons (t := 199) rfl (.cons (t := 200) rfl (.cons (t := 201) rfl (.cons (t := 202) rfl (.cons (t := 203) rfl (.cons (t := 204) rfl (.cons (t := 205) rfl (.cons (t := 206) rfl .nil))))))))))))))))))))))))))))) (.cons (t := 101) rfl (.cons (t := 119) rfl (.cons (t := 121) rfl (.cons (t := 138) rfl (.cons (t := 140) rfl .nil))))) ?_
              refine W.seq ?_
              refine W.region ?_
              refine SL.val (O.move rfl rfl Taken.no) ?_
              refine SL.val (O.lenE (SlOf.fz rfl (by decide)) (by first | exact List.length_map _ | rfl) Try.underlying39 rfl Taken.no) ?_
              refine SL.val (O.move rfl rfl Taken.no) ?_
              refine SL.nil ?_
              refine E.to ?_
              refine W.pick (.cons (t := 0) rfl (.cons (t := 6) rfl (.cons (t := 7) rfl (.cons (t := 8) rfl (.cons (t := 11) rfl (.cons (t := 16) rfl (.cons (t := 19) rfl (.cons (t := 21) rfl (.cons (t := 23) rfl (.cons (t := 187) rfl (.cons (t := 188) rfl (.cons (t := 189) rfl (.cons (t := 190) rfl (.cons (t := 191) rfl (.cons (t := 192) rfl (.cons (t := 193) rfl (.cons (t := 194) rfl (.cons (t := 195) rfl (.cons (t := 196) rfl (.cons (t := 197) rfl (.cons (t := 198) rfl (.cons (t := 199) rfl (.cons (t := 200) rfl (.cons (t := 201) rfl (.cons (t := 202) rfl (.cons (t := 203) rfl (.cons (t := 204) rfl (.cons (t := 205) rfl (.cons (t := 206) rfl (.cons (t := 207) rfl (.cons (t := 208) rfl (.cons (t := 209) rfl .nil)))))))))))))))))))))))))))))))) (.cons (t := 101) rfl (.cons (t := 119) rfl (.cons (t := 121) rfl (.cons (t := 138) rfl (.cons (t := 140) rfl .nil))))) ?_
              refine W.block ?_
              refine W.loopx1 (fun (j : Nat) => [(209, vI (j : Int))]) (fun (j : Nat) => [(141, .data 3 1 ((setAll (nameF (fun x : Nat => (x : Int)) (nm0 m atm s) ((partsL lk (g0L m atm s)).take p)) (((partsL lk (g0L m atm s))[p]!).take j) ((minL ((partsL lk (g0L m atm s))[p]!) : Nat) : Int)).map eI)), (138, .cells 39 [.own 141])]) (fun (j : Nat) => j ≤ ((partsL lk (g0L m atm s))[p]!).length) (fun (j : Nat) => ((partsL lk (g0L m atm s))[p]!).length - j) (0) (rn [(141, 140)]) (.cons (t := 0) rfl (.cons (t := 6) rfl (.cons (t := 7) rfl (.cons (t := 8) rfl (.cons (t := 11) rfl (.cons (t := 16) rfl (.cons (t := 19) rfl (.cons (t := 21) rfl (.cons (t := 23) rfl (.cons (t := 187) rfl (.cons (t := 188) rfl (.cons (t := 189) rfl (.cons (t := 190) rfl (.cons (t := 191) rfl (.cons (t := 192) rfl (.cons (t := 193) rfl (.cons (t := 194) rfl (.cons (t := 195) rfl (.cons (t := 196) rfl (.cons (t := 197) rfl (.cons (t := 198) rfl (.cons (t := 199) rfl (.cons (t := 200) rfl (.cons (t := 201) rfl (.cons (t := 202) rfl (.cons (t := 203) rfl (.cons (t := 204) rfl (.cons (t := 205) rfl (.cons (t := 206) rfl (.cons (t := 207) rfl (.cons (t := 208) rfl .nil))))))))))))))))))))))))))))))) (.cons (t := 101) rfl (.cons (t := 119) rfl (.cons (t := 121) rfl .nil))) rfl ?_ ?_ rfl rfl ?_ ?_
              · exact (SubF.cons rfl SubF.nil)
              · exact (SubS.val rfl (by exact sb_data (by rw [List.take_zero]; rfl)) (SubS.cons rfl SubS.nil))
              ·skip
               omega
              intro j hinv
              have hj := hinv
              have hnl : (setAll (nameF (fun x : Nat => (x : Int)) (nm0 m atm s) ((partsL lk (g0L m atm s)).take p)) (((partsL lk (g0L m atm s))[p]!).take j) ((minL ((partsL lk (g0L m atm s))[p]!) : Nat) : Int)).length = n := by rw [setAll_len, nameF_len, nm0_len]; exact hml
              refine W.seq ?_
              refine W.region ?_
              refine SL.val (O.det (fun _ => G.R.lss rfl rfl) rfl Taken.no) ?_
              refine SL.nil ?_
              refine E.to ?_
              refine W.pick (.cons (t := 0) rfl (.cons (t := 6) rfl (.cons (t := 7) rfl (.cons (t := 8) rfl (.cons (t := 11) rfl (.cons (t := 16) rfl (.cons (t := 19) rfl (.cons (t := 21) rfl (.cons (t := 23) rfl (.cons (t := 187) rfl (.cons (t := 188) rfl (.cons (t := 189) rfl (.cons (t := 190) rfl (.cons (t := 191) rfl (.cons (t := 192) rfl (.cons (t := 193) rfl (.cons (t := 194) rfl (.cons (t := 195) rfl (.cons (t := 196) rfl (.cons (t := 197) rfl (.cons (t := 198) rfl (.cons (t := 199) rfl (.cons (t := 200) rfl (.cons (t := 201) rfl (.cons (t := 202) rfl (.cons (t := 203) rfl (.cons (t := 204) rfl (.cons (t := 205) rfl (.cons (t := 206) rfl (.cons (t := 207) rfl (.cons (t := 208) rfl (.cons (t := 209) rfl (.cons (t := 210) rfl .nil))))))))))))))))))))))))))))))))) (.cons (t := 101) rfl (.cons (t := 119) rfl (.cons (t := 121) rfl (.cons (t := 138) rfl (.cons (t := 141) rfl .nil))))) ?_
              refine W.seq ?_
              first | refine W.cond_d rfl (fun hc38 => ?_) (fun hc38 => ?_) | refine W.cond_nd rfl (fun hc38 => ?_) (fun hc38 => ?_) | refine W.cond rfl (fun hc38 => ?_) (fun hc38 => ?_)
              ·skip
               have hun := hgb.2.1 _ (hpu.2.2 ((partsL lk (g0L m atm s))[p]!)[j]! (mem_at (by omega)))
               refine W.skip ?_
               refine E.to ?_
               refine W.pick (.cons (t := 0) rfl (.cons (t := 6) rfl (.cons (t := 7) rfl (.cons (t := 8) rfl (.cons (t := 11) rfl (.cons (t := 16) rfl (.cons (t := 19) rfl (.cons (t := 21) rfl (.cons (t := 23) rfl (.cons (t := 187) rfl (.cons (t := 188) rfl (.cons (t := 189) rfl (.cons (t := 190) rfl (.cons (t := 191) rfl (.cons (t := 192) rfl (.cons (t := 193) rfl (.cons (t := 194) rfl (.cons (t := 195) rfl (.cons (t := 196) rfl (.cons (t := 197) rfl (.cons (t := 198) rfl (.cons (t := 199) rfl (.cons (t := 200) rfl (.cons (t := 201) rfl (.cons (t := 202) rfl (.cons (t := 203) rfl (.cons (t := 204) rfl (.cons (t := 205) rfl (.cons (t := 206) rfl (.cons (t := 207) rfl (.cons (t := 208) rfl (.cons (t := 209) rfl (.cons (t := 210) rfl .nil))))))))))))))))))))))))))))))))) (.cons (t := 101) rfl (.cons (t := 119) rfl (.cons (t := 121) rfl (.cons (t := 138) rfl (.cons (t := 141) rfl .nil))))) ?_
               refine W.seq ?_
               refine W.block ?_
               refine W.seq ?_
               refine W.region ?_
               refine SL.val (O.idx_fz (i := j) rfl rfl (rfl) (row_get (by omega)) Try.underlying39 hi3 hs3 rfl Taken.no) ?_
               refine SL.val (O.ld1 (PtI.ofU (PtU.fz rfl)) rfl Try.underlying3 rfl rfl Taken.no) ?_
               refine SL.val (O.assign rfl rfl Taken.no) ?_
               refine SL.nil ?_
               refine E.to ?_
               refine W.pick (.cons (t := 0) rfl (.cons (t := 6) rfl (.cons (t := 7) rfl (.cons (t := 8) rfl (.cons (t := 11) rfl (.cons (t := 16) rfl (.cons (t := 19) rfl (.cons (t := 21) rfl (.cons (t := 23) rfl (.cons (t := 25) rfl (.cons (t := 187) rfl (.cons (t := 188) rfl (.cons (t := 189) rfl (.cons (t := 190) rfl (.cons (t := 191) rfl (.cons (t := 192) rfl (.cons (t := 193) rfl (.cons (t := 194) rfl (.cons (t := 195) rfl (.cons (t := 196) rfl (.cons (t := 197) rfl (.cons (t := 198) rfl (.cons (t := 199) rfl (.cons (t := 200) rfl (.cons (t := 201) rfl (.cons (t := 202) rfl (.cons (t := 203) rfl (.cons (t := 204) rfl (.cons (t := 205) rfl (.cons (t := 206) rfl (.cons (t := 207) rfl (.cons (t := 208) rfl (.cons (t := 209) rfl (.cons (t := 210) rfl (.cons (t := 211) rfl (.cons (t := 212) rfl .nil)))))))))))))))))))))))))))))))))))) (.cons (t := 101) rfl (.cons (t := 119) rfl (.cons (t := 121) rfl (.cons (t := 138) rfl (.cons (t := 141) rfl .nil))))) ?_
               refine W.draw [⟨[138], [], [], [141]⟩, ⟨[], [], [], []⟩, ⟨[], [], [], []⟩, ⟨[], [], [], []⟩, ⟨[141], [], [], []⟩, ⟨[141], [141], [], []⟩] rfl (by kernel_rfl) (by kernel_rfl) rfl rfl ?_
               refine WH.val (O.ld1 (PtI.ref rfl rfl) rfl Try.underlying39 rfl rfl Taken.no) rfl rfl ?_
               refine WH.val (O.move rfl rfl Taken.no) rfl rfl ?_
               refine WH.val (O.move rfl rfl Taken.no) rfl rfl ?_
               refine WH.val (O.callp rfl rfl rfl (min_h (l := ((partsL lk (g0L m atm s))[p]!)) (by omega)) (.cons (ArgOk.same rfl) .nil) hcallOk62 rfl Taken.no) rfl rfl ?_
               refine WH.val (O.idx_own (i := (((partsL lk (g0L m atm s))[p]!)[j]!)) rfl rfl rfl (rfl) (by rw [List.length_map]; omega) Try.underlying39 hi3 hs3 rfl Taken.no) rfl rfl ?_
               refine WH.effS (O.st_els (m := 1) rfl rfl rfl (us := [_]) rfl rfl (by kernel_rfl) (by simp) (row_get (by omega)) (by exact Nat.le_of_ble_eq_true rfl) rfl rfl (rows' := ((setAll (nameF (fun x : Nat => (x : Int)) (nm0 m atm s) ((partsL lk (g0L m atm s)).take p)) (((partsL lk (g0L m atm s))[p]!).take j) ((minL ((partsL lk (g0L m atm s))[p]!) : Nat) : Int)).set (((partsL lk (g0L m atm s))[p]!)[j]!) ((minL ((partsL lk (g0L m atm s))[p]!) : Nat) : Int)).map eI) (by exact set_map rfl) Taken.no) rfl rfl rfl (S' := (141, _) :: _) rfl ?_
               refine WH.nil ?_
               refine E.inn ?_
               refine E.to ?_
               refine W.pick (.cons (t := 0) rfl (.cons (t := 6) rfl (.cons (t := 7) rfl (.cons (t := 8) rfl (.cons (t := 11) rfl (.cons (t := 16) rfl (.cons (t := 19) rfl (.cons (t := 21) rfl (.cons (t := 23) rfl (.cons (t := 25) rfl (.cons (t := 187) rfl (.cons (t := 188) rfl (.cons (t := 189) rfl (.cons (t := 190) rfl (.cons (t := 191) rfl (.cons (t := 192) rfl (.cons (t := 193) rfl (.cons (t := 194) rfl (.cons (t := 195) rfl (.cons (t := 196) rfl (.cons (t := 197) rfl (.cons (t := 198) rfl (.cons (t := 199) rfl (.cons (t := 200) rfl (.cons (t := 201) rfl (.cons (t := 202) rfl (.cons (t := 203) rfl (.cons (t := 204) rfl (.cons (t := 205) rfl (.cons (t := 206) rfl (.cons (t := 207) rfl (.cons (t := 208) rfl (.cons (t := 209) rfl (.cons (t := 210) rfl (.cons (t := 211) rfl (.cons (t := 212) rfl (.cons (t := 213) rfl (.cons (t := 214) rfl (.cons (t := 215) rfl (.cons (t := 216) rfl (.cons (t := 217) rfl .nil))))))))))))))))))))))))))))))))))))))))) (.cons (t := 101) rfl (.cons (t := 119) rfl (.cons (t := 121) rfl (.cons (t := 138) rfl (.cons (t := 141) rfl .nil))))) ?_
               refine W.region ?_
               refine SL.val (O.det (fun _ => by first | exact G.R.add64 rfl rfl (by omega) | exact G.R.add rfl rfl) rfl Taken.no) ?_
               refine SL.val (O.move rfl rfl Taken.no) ?_
               refine SL.nil ?_
               refine E.again ((j + 1)) (rn []) ?_ ?_ rfl (fixL_spec rfl) ?_ ?_
               · exact (SubF.cons rfl (SubF.cons rfl (SubF.cons rfl (SubF.cons rfl (SubF.cons rfl (SubF.cons rfl (SubF.cons rfl (SubF.cons rfl (SubF.cons rfl (SubF.cons rfl (SubF.cons rfl (SubF.cons rfl (SubF.cons rfl (SubF.cons rfl (SubF.cons rfl (SubF.cons rfl (SubF.cons rfl (SubF.cons rfl (SubF.cons rfl (SubF.cons rfl (SubF.cons rfl (SubF.cons rfl (SubF.cons rfl (SubF.cons rfl (SubF.cons rfl (SubF.cons rfl (SubF.cons rfl (SubF.cons rfl (SubF.cons rfl (SubF.cons rfl (SubF.cons rfl (SubF.cons rfl SubF.nil))))))))))))))))))))))))))))))))
               · exact (SubS.val rfl (by (try dsimp only); exact sb_data (by rw [setAll_sG (by omega)])) (SubS.cons rfl (SubS.cons rfl (SubS.cons rfl (SubS.cons rfl SubS.nil)))))
               ·try dsimp only
                omega
               · (try dsimp only); omega
              ·skip
               refine W.exit ?_
               refine E.th ?_
               refine E.th ?_
               refine E.hit ?_
               refine E.inn ?_
               refine E.to ?_
               refine W.pick (.cons (t := 0) rfl (.cons (t := 6) rfl (.cons (t := 7) rfl (.cons (t := 8) rfl (.cons (t := 11) rfl (.cons (t := 16) rfl (.cons (t := 19) rfl (.cons (t := 21) rfl (.cons (t := 23) rfl (.cons (t := 187) rfl (.cons (t := 188) rfl (.cons (t := 189) rfl (.cons (t := 190) rfl (.cons (t := 191) rfl (.cons (t := 192) rfl (.cons (t := 193) rfl (.cons (t := 194) rfl (.cons (t := 195) rfl (.cons (t := 196) rfl (.cons (t := 197) rfl (.cons (t := 198) rfl (.cons (t := 199) rfl (.cons (t := 200) rfl (.cons (t := 201) rfl (.cons (t := 202) rfl (.cons (t := 203) rfl (.cons (t := 204) rfl (.cons (t := 205) rfl (.cons (t := 206) rfl (.cons (t := 207) rfl (.cons (t := 208) rfl (.cons (t := 209) rfl (.cons (t := 210) rfl .nil))))))))))))))))))))))))))))))))) (.cons (t := 101) rfl (.cons (t := 119) rfl (.cons (t := 121) rfl (.cons (t := 138) rfl (.cons (t := 141) rfl .nil))))) ?_
               refine W.region ?_
               refine SL.val (O.det (fun _ => by first | exact G.R.add64 rfl rfl (by omega) | exact G.R.add rfl rfl) rfl Taken.no) ?_
               refine SL.val (O.move rfl rfl Taken.no) ?_
               refine SL.nil ?_
               refine E.again ((p + 1)) (rn [(140, 141)]) ?_ ?_ rfl (fixL_spec rfl) ?_ ?_
               · exact (SubF.cons rfl (SubF.val rfl (by (try dsimp only); exact iv_int (by rw [snocP (l := (partsL lk (g0L m atm s))) (by omega), sumV_snoc])) (SubF.cons rfl (SubF.cons rfl (SubF.cons rfl (SubF.cons rfl (SubF.cons rfl (SubF.cons rfl (SubF.cons rfl (SubF.cons rfl (SubF.cons rfl (SubF.cons rfl (SubF.cons rfl (SubF.cons rfl (SubF.cons rfl (SubF.cons rfl (SubF.cons rfl (SubF.cons rfl (SubF.cons rfl (SubF.cons rfl SubF.nil))))))))))))))))))))
               · exact (SubS.val rfl (by (try dsimp only); exact sb_data (by rw [snocP (l := (partsL lk (g0L m atm s))) (by omega), nameF_snoc, show j = ((partsL lk (g0L m atm s))[p]!).length by omega, List.take_length])) (SubS.cons rfl (SubS.cons rfl (SubS.cons rfl (SubS.cons rfl SubS.nil)))))
               ·try dsimp only
                omega
               · (try dsimp only); omega
             ·skip
              refine W.exit ?_
              refine E.th ?_
              refine E.th ?_
              refine E.hit ?_
              refine E.inn ?_
              refine E.to ?_
              refine W.region ?_
              refine SL.val (O.det (fun _ => by first | exact G.R.add64 rfl rfl (by omega) | exact G.R.add rfl rfl) rfl Taken.no) ?_
              refine SL.val (O.move rfl rfl Taken.no) ?_
              refine SL.nil ?_
              refine E.reround ?_
              refine W.pick (.cons (t := 0) rfl (.cons (t := 6) rfl (.cons (t := 7) rfl (.cons (t := 8) rfl (.cons (t := 11) rfl (.cons (t := 16) rfl (.cons (t := 19) rfl (.cons (t := 21) rfl (.cons (t := 187) rfl (.cons (t := 188) rfl (.cons (t := 189) rfl (.cons (t := 190) rfl (.cons (t := 191) rfl (.cons (t := 192) rfl (.cons (t := 193) rfl (.cons (t := 194) rfl (.cons (t := 195) rfl (.cons (t := 196) rfl (.cons (t := 197) rfl (.cons (t := 198) rfl (.cons (t := 199) rfl (.cons (t := 220) rfl .nil)))))))))))))))))))))) (.cons (t := 101) rfl (.cons (t := 119) rfl (.cons (t := 121) rfl (.cons (t := 138) rfl (.cons (t := 140) rfl .nil))))) ?_
              refine W.seq ?_
              refine W.region ?_
              refine SL.val (O.det (fun _ => G.R.mv (G.R.lss rfl rfl) (congrArg Value.bool (decide_eq_true (by decide)))) rfl Taken.no) ?_
              refine SL.nil ?_
              refine E.to ?_
              refine W.seq ?_
              refine W.cond_t rfl ?_
              refine W.skip ?_
              refine E.to ?_
              refine W.seq ?_
              refine W.block ?_
              refine W.seq ?_
              refine W.region ?_
              refine SL.val (O.idxval (i := 1) rfl rfl (by rfl) (by decide) (by rfl) Try.underlying106 (by kernel_rfl) Try.underlying39 rfl rfl Taken.no) ?_
              refine SL.val (O.assign rfl rfl Taken.no) ?_
              refine SL.as (i' := vL 1 ((g1L m atm s).map eN)) 21 rfl (by (rw [← hg1]; try rfl)) ?_
              refine SL.nil ?_
              refine E.to ?_
              refine W.pick (.cons (t := 0) rfl (.cons (t := 6) rfl (.cons (t := 7) rfl (.cons (t := 8) rfl (.cons (t := 11) rfl (.cons (t := 16) rfl (.cons (t := 19) rfl (.cons (t := 21) rfl (.cons (t := 187) rfl (.cons (t := 188) rfl (.cons (t := 189) rfl (.cons (t := 190) rfl (.cons (t := 191) rfl (.cons (t := 192) rfl (.cons (t := 193) rfl (.cons (t := 194) rfl (.cons (t := 195) rfl (.cons (t := 196) rfl (.cons (t := 197) rfl (.cons (t := 198) rfl (.cons (t := 199) rfl (.cons (t := 220) rfl .nil)))))))))))))))))))))) (.cons (t := 101) rfl (.cons (t := 119) rfl (.cons (t := 121) rfl (.cons (t := 138) rfl (.cons (t := 140) rfl .nil))))) ?_
              refine W.seq ?_
              refine W.region ?_
              refine SL.val (O.move rfl rfl Taken.no) ?_
              refine SL.val (O.move rfl rfl Taken.no) ?_
              refine SL.val (O.nilCheck rfl rfl rfl Taken.no) ?_
              refine SL.val (O.fld_fz rfl Try.underlying78 rfl (m := 0) (by kernel_rfl) rfl rfl Taken.no) ?_
              refine SL.val (O.ld1 (PtI.ofU (PtU.fz rfl)) rfl Try.underlying76 rfl rfl Taken.no) ?_
              refine SL.val (O.callp rfl rfl rfl (parts_h (n := n) (us := (g1L m atm s)) (by omega) hgb.2.2) (.cons (ArgOk.same rfl) (.cons (ArgOk.same rfl) .nil)) hcallOk42 rfl Taken.no) ?_
              refine SL.val (O.lenE (SlOf.fz rfl (by decide)) (by first | exact List.length_map _ | rfl) Try.underlying75 rfl Taken.no) ?_
              refine SL.val (O.move rfl rfl Taken.no) ?_
              refine SL.nil ?_
              refine E.to ?_
              refine W.pick (.cons (t := 0) rfl (.cons (t := 6) rfl (.cons (t := 7) rfl (.cons (t := 8) rfl (.cons (t := 11) rfl (.cons (t := 16) rfl (.cons (t := 19) rfl (.cons (t := 21) rfl (.cons (t := 187) rfl (.cons (t := 188) rfl (.cons (t := 189) rfl (.cons (t := 190) rfl (.cons (t := 191) rfl (.cons (t := 192) rfl (.cons (t := 193) rfl (.cons (t := 194) rfl (.cons (t := 195) rfl (.cons (t := 196) rfl (.cons (t := 197) rfl (.cons (t := 198) rfl (.cons (t := 199) rfl (.cons (t := 220) rfl .nil)))))))))))))))))))))) (.cons (t := 101) rfl (.cons (t := 119) rfl (.cons (t := 121) rfl (.cons (t := 138) rfl (.cons (t := 140) rfl .nil))))) ?_
              refine W.block ?_
              refine W.loopx1 (fun (q : Nat) => [(198, vI (q : Int)), (19, vI (sumV wt ((partsL lk (g0L m atm s)) ++ (partsL lk (g1L m atm s)).take q)))]) (fun (q : Nat) => [(142, .data 3 1 ((nameF (fun x : Nat => (x : Int)) (nm0 m atm s) ((partsL lk (g0L m atm s)) ++ (partsL lk (g1L m atm s)).take q)).map eI)), (138, .cells 39 [.own 142])]) (fun (q : Nat) => q ≤ (partsL lk (g1L m atm s)).length) (fun (q : Nat) => (partsL lk (g1L m atm s)).length - q) (0) (rn [(142, 140)]) (.cons (t := 0) rfl (.cons (t := 6) rfl (.cons (t := 7) rfl (.cons (t := 8) rfl (.cons (t := 11) rfl (.cons (t := 16) rfl (.cons (t := 21) rfl (.cons (t := 187) rfl (.cons (t := 188) rfl (.cons (t := 189) rfl (.cons (t := 190) rfl (.cons (t := 191) rfl (.cons (t := 192) rfl (.cons (t := 193) rfl (.cons (t := 194) rfl (.cons (t := 195) rfl (.cons (t := 196) rfl (.cons (t := 197) rfl (.cons (t := 220) rfl .nil))))))))))))))))))) (.cons (t := 101) rfl (.cons (t := 119) rfl (.cons (t := 121) rfl .nil))) rfl ?_ ?_ rfl rfl ?_ ?_
              · exact (SubF.cons rfl (SubF.val rfl (by exact iv_int (by rw [List.take_zero, List.append_nil, show p = (partsL lk (g0L m atm s)).length by omega, List.take_length])) SubF.nil))
              · exact (SubS.val rfl (by exact sb_data (by rw [List.take_zero, List.append_nil, show p = (partsL lk (g0L m atm s)).length by omega, List.take_length])) (SubS.cons rfl SubS.nil))
              ·skip
               omega
              intro q hinv
              have hq := hinv
              have hpl : ((partsL lk (g0L m atm s)) ++ (partsL lk (g1L m atm s)).take q).length ≤ 400 := by (try rw [List.length_append]); rw [List.length_take]; omega
              have hvb := sumV_b2 hw (L := ((partsL lk (g0L m atm s)) ++ (partsL lk (g1L m atm s)).take q)) (fun p hp => hL p ((List.mem_append.1 hp).elim (fun z => List.mem_append_left _ z) fun z => List.mem_append_right _ (List.mem_of_mem_take z)))
              refine W.seq ?_
              refine W.region ?_
              refine SL.val (O.det (fun _ => G.R.lss rfl rfl) rfl Taken.no) ?_
              refine SL.nil ?_
              refine E.to ?_
              refine W.seq ?_
              first | refine W.cond_d rfl (fun hc39 => ?_) (fun hc39 => ?_) | refine W.cond_nd rfl (fun hc39 => ?_) (fun hc39 => ?_) | refine W.cond rfl (fun hc39 => ?_) (fun hc39 => ?_)
              ·skip
               have hpu := partsN_units (mem_at (l := (partsL lk (g1L m atm s))) (i := q) (by omega))
               have hvp := valF_b hw (l := ((partsL lk (g1L m atm s))[q]!)) (by omega)
               refine W.skip ?_
               refine E.to ?_
               refine W.seq ?_
               refine W.block ?_
               refine W.seq ?_
               refine W.region ?_
               refine SL.val (O.idx_fz (i := q) rfl rfl (rfl) (row_get (by omega)) Try.underlying75 hi39 hs39 rfl Taken.no) ?_
               refine SL.val (O.ld1 (PtI.ofU (PtU.fz rfl)) rfl Try.underlying39 rfl rfl Taken.no) ?_
               refine SL.val (O.assign rfl rfl Taken.no) ?_
               refine SL.nil ?_
               refine E.to ?_
               refine W.pick (.cons (t := 0) rfl (.cons (t := 6) rfl (.cons (t := 7) rfl (.cons (t := 8) rfl (.cons (t := 11) rfl (.cons (t := 16) rfl (.cons (t := 19) rfl (.cons (t := 21) rfl (.cons (t := 23) rfl (.cons (t := 187) rfl (.cons (t := 188) rfl (.cons (t := 189) rfl (.cons (t := 190) rfl (.cons (t := 191) rfl (.cons (t := 192) rfl (.cons (t := 193) rfl (.cons (t := 194) rfl (.cons (t := 195) rfl (.cons (t := 196) rfl (.cons (t := 197) rfl (.cons (t := 198) rfl (.cons (t := 199) rfl (.cons (t := 200) rfl (.cons (t := 201) rfl (.cons (t := 220) rfl .nil))))))))))))))))))))))))) (.cons (t := 101) rfl (.cons (t := 119) rfl (.cons (t := 121) rfl (.cons (t := 138) rfl (.cons (t := 142) rfl .nil))))) ?_
               refine W.seq ?_
               refine W.region ?_
               refine SL.val (O.move rfl rfl Taken.no) ?_
               refine SL.val (O.move rfl rfl Taken.no) ?_
               refine SL.val (O.move rfl rfl Taken.no) ?_
               refine SL.val (O.callp rfl rfl rfl (value_h (l := ((partsL lk (g1L m atm s))[q]!)) hw (by omega) (fun u hu => hgb.2.2 u (hpu.2.2 u hu))) (.cons (ArgOk.same rfl) (.cons (ArgOk.same rfl) .nil)) hcallOk45 rfl Taken.no) ?_
               refine SL.val (O.det (fun _ => by first | exact G.R.add64 rfl rfl (by omega) | exact G.R.add rfl rfl) rfl Taken.no) ?_
               refine SL.val (O.assign rfl rfl Taken.no) ?_
               refine SL.nil ?_
               refine E.to ?_
               refine W.pick (.cons (t := 0) rfl (.cons (t := 6) rfl (.cons (t := 7) rfl (.cons (t := 8) rfl (.cons (t := 11) rfl (.cons (t := 16) rfl (.cons (t := 19) rfl (.cons (t := 21) rfl (.cons (t := 23) rfl (.cons (t := 187) rfl (.cons (t := 188) rfl (.cons (t := 189) rfl (.cons (t := 190) rfl (.cons (t := 191) rfl (.cons (t := 192) rfl (.cons (t := 193) rfl (.cons (t := 194) rfl (.cons (t := 195) rfl (.cons (t := 196) rfl (.cons (t := 197) rfl (.cons (t := 198) rfl (.cons (t := 199) rfl (.cons (t := 200) rfl (.cons (t := 201) rfl (.cons (t := 202) rfl (.cons (t := 203) rfl (.cons (t := 204) rfl (.cons (t := 205) rfl (.cons (t := 206) rfl (.cons (t := 220) rfl .nil)))))))))))))))))))))))))))))) (.cons (t := 101) rfl (.cons (t := 119) rfl (.cons (t := 121) rfl (.cons (t := 138) rfl (.cons (t := 142) rfl .nil))))) ?_
               refine W.seq ?_
               refine W.region ?_
               refine SL.val (O.move rfl rfl Taken.no) ?_
               refine SL.val (O.lenE (SlOf.fz rfl (by decide)) (by first | exact List.length_map _ | rfl) Try.underlying39 rfl Taken.no) ?_
               refine SL.val (O.move rfl rfl Taken.no) ?_
               refine SL.nil ?_
               refine E.to ?_
               refine W.pick (.cons (t := 0) rfl (.cons (t := 6) rfl (.cons (t := 7) rfl (.cons (t := 8) rfl (.cons (t := 11) rfl (.cons (t := 16) rfl (.cons (t := 19) rfl (.cons (t := 21) rfl (.cons (t := 23) rfl (.cons (t := 187) rfl (.cons (t := 188) rfl (.cons (t := 189) rfl (.cons (t := 190) rfl (.cons (t := 191) rfl (.cons (t := 192) rfl (.cons (t := 193) rfl (.cons (t := 194) rfl (.cons (t := 195) rfl (.cons (t := 196) rfl (.cons (t := 197) rfl (.cons (t := 198) rfl (.cons (t := 199) rfl (.cons (t := 200) rfl (.cons (t := 201) rfl (.cons (t := 202) rfl (.cons (t := 203) rfl (.cons (t := 204) rfl (.cons (t := 205) rfl (.cons (t := 206) rfl (.cons (t := 207) rfl (.cons (t := 208) rfl (.cons (t := 209) rfl (.cons (t := 220) rfl .nil))))))))))))))))))))))))))))))))) (.cons (t := 101) rfl (.cons (t := 119) rfl (.cons (t := 121) rfl (.cons (t := 138) rfl (.cons (t := 142) rfl .nil))))) ?_
               refine W.block ?_
               refine W.loopx1 (fun (j : Nat) => [(209, vI (j : Int))]) (fun (j : Nat) => [(143, .data 3 1 ((setAll (nameF (fun x : Nat => (x : Int)) (nm0 m atm s) ((partsL lk (g0L m atm s)) ++ (partsL lk (g1L m atm s)).take q)) (((partsL lk (g1L m atm s))[q]!).take j) ((minL ((partsL lk (g1L m atm s))[q]!) : Nat) : Int)).map eI)), (138, .cells 39 [.own 143])]) (fun (j : Nat) => j ≤ ((partsL lk (g1L m atm s))[q]!).length) (fun (j : Nat) => ((partsL lk (g1L m atm s))[q]!).length - j) (0) (rn [(143, 142)]) (.cons (t := 0) rfl (.cons (t := 6) rfl (.cons (t := 7) rfl (.cons (t := 8) rfl (.cons (t := 11) rfl (.cons (t := 16) rfl (.cons (t := 19) rfl (.cons (t := 21) rfl (.cons (t := 23) rfl (.cons (t := 187) rfl (.cons (t := 188) rfl (.cons (t := 189) rfl (.cons (t := 190) rfl (.cons (t := 191) rfl (.cons (t := 192) rfl (.cons (t := 193) rfl (.cons (t := 194) rfl (.cons (t := 195) rfl (.cons (t := 196) rfl (.cons (t := 197) rfl (.cons (t := 198) rfl (.cons (t := 199) rfl (.cons (t := 200) rfl (.cons (t := 201) rfl (.cons (t := 202) rfl (.cons (t := 203) rfl (.cons (t := 204) rfl (.cons (t := 205) rfl (.cons (t := 206) rfl (.cons (t := 207) rfl (.cons (t := 208) rfl (.cons (t := 220) rfl .nil)))))))))))))))))))))))))))))))) (.cons (t := 101) rfl (.cons (t := 119) rfl (.cons (t := 121) rfl .nil))) rfl ?_ ?_ rfl rfl ?_ ?_
               · exact (SubF.cons rfl SubF.nil)
               · exact (SubS.val rfl (by exact sb_data (by rw [List.take_zero]; rfl)) (SubS.cons rfl SubS.nil))
               ·skip
                omega
               intro j hinv
               have hj := hinv
               have hnl : (setAll (nameF (fun x : Nat => (x : Int)) (nm0 m atm s) ((partsL lk (g0L m atm s)) ++ (partsL lk (g1L m atm s)).take q)) (((partsL lk (g1L m atm s))[q]!).take j) ((minL ((partsL lk (g1L m atm s))[q]!) : Nat) : Int)).length = n := by rw [setAll_len, nameF_len, nm0_len]; exact hml
               refine W.seq ?_
               refine W.region ?_
               refine SL.val (O.det (fun _ => G.R.lss rfl rfl) rfl Taken.no) ?_
               refine SL.nil ?_
               refine E.to ?_
               refine W.pick (.cons (t := 0) rfl (.cons (t := 6) rfl (.cons (t := 7) rfl (.cons (t := 8) rfl (.cons (t := 11) rfl (.cons (t := 16) rfl (.cons (t := 19) rfl (.cons (t := 21) rfl (.cons (t := 23) rfl (.cons (t := 187) rfl (.cons (t := 188) rfl (.cons (t := 189) rfl (.cons (t := 190) rfl (.cons (t := 191) rfl (.cons (t := 192) rfl (.cons (t := 193) rfl (.cons (t := 194) rfl (.cons (t := 195) rfl (.cons (t := 196) rfl (.cons (t := 197) rfl (.cons (t := 198) rfl (.cons (t := 199) rfl (.cons (t := 200) rfl (.cons (t := 201) rfl (.cons (t := 202) rfl (.cons (t := 203) rfl (.cons (t := 204) rfl (.cons (t := 205) rfl (.cons (t := 206) rfl (.cons (t := 207) rfl (.cons (t := 208) rfl (.cons (t := 209) rfl (.cons (t := 210) rfl (.cons (t := 220) rfl .nil)))))))))))))))))))))))))))))))))) (.cons (t := 101) rfl (.cons (t := 119) rfl (.cons (t := 121) rfl (.cons (t := 138) rfl (.cons (t := 143) rfl .nil))))) ?_
               refine W.seq ?_
               first | refine W.cond_d rfl (fun hc40 => ?_) (fun hc40 => ?_) | refine W.cond_nd rfl (fun hc40 => ?_) (fun hc40 => ?_) | refine W.cond rfl (fun hc40 => ?_) (fun hc40 => ?_)
               ·skip
                have hun := hgb.2.2 _ (hpu.2.2 ((partsL lk (g1L m atm s))[q]!)[j]! (mem_at (by omega)))
                refine W.skip ?_
                refine E.to ?_
                refine W.pick (.cons (t := 0) rfl (.cons (t := 6) rfl (.cons (t := 7) rfl (.cons (t := 8) rfl (.cons (t := 11) rfl (.cons (t := 16) rfl (.cons (t := 19) rfl (.cons (t := 21) rfl (.cons (t := 23) rfl (.cons (t := 187) rfl (.cons (t := 188) rfl (.cons (t := 189) rfl (.cons (t := 190) rfl (.cons (t := 191) rfl (.cons (t := 192) rfl (.cons (t := 193) rfl (.cons (t := 194) rfl (.cons (t := 195) rfl (.cons (t := 196) rfl (.cons (t := 197) rfl (.cons (t := 198) rfl (.cons (t := 199) rfl (.cons (t := 200) rfl (.cons (t := 201) rfl (.cons (t := 202) rfl (.cons (t := 203) rfl (.cons (t := 204) rfl (.cons (t := 205) rfl (.cons (t := 206) rfl (.cons (t := 207) rfl (.cons (t := 208) rfl (.cons (t := 209) rfl (.cons (t := 210) rfl (.cons (t := 220) rfl .nil)))))))))))))))))))))))))))))))))) (.cons (t := 101) rfl (.cons (t := 119) rfl (.cons (t := 121) rfl (.cons (t := 138) rfl (.cons (t := 143) rfl .nil))))) ?_
                refine W.seq ?_
                refine W.block ?_
                refine W.seq ?_
                refine W.region ?_
                refine SL.val (O.idx_fz (i := j) rfl rfl (rfl) (row_get (by omega)) Try.underlying39 hi3 hs3 rfl Taken.no) ?_
                refine SL.val (O.ld1 (PtI.ofU (PtU.fz rfl)) rfl Try.underlying3 rfl rfl Taken.no) ?_
                refine SL.val (O.assign rfl rfl Taken.no) ?_
                refine SL.nil ?_
                refine E.to ?_
                refine W.pick (.cons (t := 0) rfl (.cons (t := 6) rfl (.cons (t := 7) rfl (.cons (t := 8) rfl (.cons (t := 11) rfl (.cons (t := 16) rfl (.cons (t := 19) rfl (.cons (t := 21) rfl (.cons (t := 23) rfl (.cons (t := 25) rfl (.cons (t := 187) rfl (.cons (t := 188) rfl (.cons (t := 189) rfl (.cons (t := 190) rfl (.cons (t := 191) rfl (.cons (t := 192) rfl (.cons (t := 193) rfl (.cons (t := 194) rfl (.cons (t := 195) rfl (.cons (t := 196) rfl (.cons (t := 197) rfl (.cons (t := 198) rfl (.cons (t := 199) rfl (.cons (t := 200) rfl (.cons (t := 201) rfl (.cons (t := 202) rfl (.cons (t := 203) rfl (.cons (t := 204) rfl (.cons (t := 205) rfl (.cons (t := 206) rfl (.cons (t := 207) rfl (.cons (t := 208) rfl (.cons (t := 209) rfl (.cons (t := 210) rfl (.cons (t := 211) rfl (.cons (t := 212) rfl (.cons (t := 220) rfl .nil))))))))))))))))))))))))))))))))))))) (.cons (t := 101) rfl (.cons (t := 119) rfl (.cons (t := 121) rfl (.cons (t := 138) rfl (.cons (t := 143) rfl .nil))))) ?_
                refine W.draw [⟨[138], [], [], [143]⟩, ⟨[], [], [], []⟩, ⟨[], [], [], []⟩, ⟨[], [], [], []⟩, ⟨[143], [], [], []⟩, ⟨[143], [143], [], []⟩] rfl (by kernel_rfl) (by kernel_rfl) rfl rfl ?_
                refine WH.val (O.ld1 (PtI.ref rfl rfl) rfl Try.underlying39 rfl rfl Taken.no) rfl rfl ?_
                refine WH.val (O.move rfl rfl Taken.no) rfl rfl ?_
                refine WH.val (O.move rfl rfl Taken.no) rfl rfl ?_
                refine WH.val (O.callp rfl rfl rfl (min_h (l := ((partsL lk (g1L m atm s))[q]!)) (by omega)) (.cons (ArgOk.same rfl) .nil) hcallOk62 rfl Taken.no) rfl rfl ?_
                refine WH.val (O.idx_own (i := (((partsL lk (g1L m atm s))[q]!)[j]!)) rfl rfl rfl (rfl) (by rw [List.length_map]; omega) Try.underlying39 hi3 hs3 rfl Taken.no) rfl rfl ?_
                refine WH.effS (O.st_els (m := 1) rfl rfl rfl (us := [_]) rfl rfl (by kernel_rfl) (by simp) (row_get (by omega)) (by exact Nat.le_of_ble_eq_true rfl) rfl rfl (rows' := ((setAll (nameF (fun x : Nat => (x : Int)) (nm0 m atm s) ((partsL lk (g0L m atm s)) ++ (partsL lk (g1L m atm s)).take q)) (((partsL lk (g1L m atm s))[q]!).take j) ((minL ((partsL lk (g1L m atm s))[q]!) : Nat) : Int)).set (((partsL lk (g1L m atm s))[q]!)[j]!) ((minL ((partsL lk (g1L m atm s))[q]!) : Nat) : Int)).map eI) (by exact set_map rfl) Taken.no) rfl rfl rfl (S' := (143, _) :: _) rfl ?_
                refine WH.nil ?_
                refine E.inn ?_
                refine E.to ?_
                refine W.pick (.cons (t := 0) rfl (.cons (t := 6) rfl (.cons (t := 7) rfl (.cons (t := 8) rfl (.cons (t := 11) rfl (.cons (t := 16) rfl (.cons (t := 19) rfl (.cons (t := 21) rfl (.cons (t := 23) rfl (.cons (t := 25) rfl (.cons (t := 187) rfl (.cons (t := 188) rfl (.cons (t := 189) rfl (.cons (t := 190) rfl (.cons (t := 191) rfl (.cons (t := 192) rfl (.cons (t := 193) rfl (.cons (t := 194) rfl (.cons (t := 195) rfl (.cons (t := 196) rfl (.cons (t := 197) rfl (.cons (t := 198) rfl (.cons (t := 199) rfl (.cons (t := 200) rfl (.cons (t := 201) rfl (.cons (t := 202) rfl (.cons (t := 203) rfl (.cons (t := 204) rfl (.cons (t := 205) rfl (.cons (t := 206) rfl (.cons (t := 207) rfl (.cons (t := 208) rfl (.cons (t := 209) rfl (.cons (t := 210) rfl (.cons (t := 211) rfl (.cons (t := 212) rfl (.cons (t := 213) rfl (.cons (t := 214) rfl (.cons (t := 215) rfl (.cons (t := 216) rfl (.cons (t := 217) rfl (.cons (t := 220) rfl .nil)))))))))))))))))))))))))))))))))))))))))) (.cons (t := 101) rfl (.cons (t := 119) rfl (.cons (t := 121) rfl (.cons (t := 138) rfl (.cons (t := 143) rfl .nil))))) ?_
                refine W.region ?_
                refine SL.val (O.det (fun _ => by first | exact G.R.add64 rfl rfl (by omega) | exact G.R.add rfl rfl) rfl Taken.no) ?_
                refine SL.val (O.move rfl rfl Taken.no) ?_
                refine SL.nil ?_
                refine E.again ((j + 1)) (rn []) ?_ ?_ rfl (fixL_spec rfl) ?_ ?_
                · exact (SubF.cons rfl (SubF.cons rfl (SubF.cons rfl (SubF.cons rfl (SubF.cons rfl (SubF.cons rfl (SubF.cons rfl (SubF.cons rfl (SubF.cons rfl (SubF.cons rfl (SubF.cons rfl (SubF.cons rfl (SubF.cons rfl (SubF.cons rfl (SubF.cons rfl (SubF.cons rfl (SubF.cons rfl (SubF.cons rfl (SubF.cons rfl (SubF.cons rfl (SubF.cons rfl (SubF.cons rfl (SubF.cons rfl (SubF.cons rfl (SubF.cons rfl (SubF.cons rfl (SubF.cons rfl (SubF.cons rfl (SubF.cons rfl (SubF.cons rfl (SubF.cons rfl (SubF.cons rfl (SubF.cons rfl SubF.nil)))))))))))))))))))))))))))))))))
                · exact (SubS.val rfl (by (try dsimp only); exact sb_data (by rw [setAll_sG (by omega)])) (SubS.cons rfl (SubS.cons rfl (SubS.cons rfl (SubS.cons rfl SubS.nil)))))
                ·try dsimp only
                 omega
                · (try dsimp only); omega
               ·skip
                refine W.exit ?_
                refine E.th ?_
                refine E.th ?_
                refine E.hit ?_
                refine E.inn ?_
                refine E.to ?_
                refine W.pick (.cons (t := 0) rfl (.cons (t := 6) rfl (.cons (t := 7) rfl (.cons (t := 8) rfl (.cons (t := 11) rfl (.cons (t := 16) rfl (.cons (t := 19) rfl (.cons (t := 21) rfl (.cons (t := 23) rfl (.cons (t := 187) rfl (.cons (t := 188) rfl (.cons (t := 189) rfl (.cons (t := 190) rfl (.cons (t := 191) rfl (.cons (t := 192) rfl (.cons (t := 193) rfl (.cons (t := 194) rfl (.cons (t := 195) rfl (.cons (t := 196) rfl (.cons (t := 197) rfl (.cons (t := 198) rfl (.cons (t := 199) rfl (.cons (t := 200) rfl (.cons (t := 201) rfl (.cons (t := 202) rfl (.cons (t := 203) rfl (.cons (t := 204) rfl (.cons (t := 205) rfl (.cons (t := 206) rfl (.cons (t := 207) rfl (.cons (t := 208) rfl (.cons (t := 209) rfl (.cons (t := 210) rfl (.cons (t := 220) rfl .nil)))))))))))))))))))))))))))))))))) (.cons (t := 101) rfl (.cons (t := 119) rfl (.cons (t := 121) rfl (.cons (t := 138) rfl (.cons (t := 143) rfl .nil))))) ?_
                refine W.region ?_
                refine SL.val (O.det (fun _ => by first | exact G.R.add64 rfl rfl (by omega) | exact G.R.add rfl rfl) rfl Taken.no) ?_
                refine SL.val (O.move rfl rfl Taken.no) ?_
                refine SL.nil ?_
                refine E.again ((q + 1)) (rn [(142, 143)]) ?_ ?_ rfl (fixL_spec rfl) ?_ ?_
                · exact (SubF.cons rfl (SubF.val rfl (by (try dsimp only); exact iv_int (by rw [snocP (l := (partsL lk (g1L m atm s))) (by omega), ← List.append_assoc, sumV_snoc])) (SubF.cons rfl (SubF.cons rfl (SubF.cons rfl (SubF.cons rfl (SubF.cons rfl (SubF.cons rfl (SubF.cons rfl (SubF.cons rfl (SubF.cons rfl (SubF.cons rfl (SubF.cons rfl (SubF.cons rfl (SubF.cons rfl (SubF.cons rfl (SubF.cons rfl (SubF.cons rfl (SubF.cons rfl (SubF.cons rfl (SubF.cons rfl SubF.nil)))))))))))))))))))))
                · exact (SubS.val rfl (by (try dsimp only); exact sb_data (by rw [snocP (l := (partsL lk (g1L m atm s))) (by omega), ← List.append_assoc, nameF_snoc, show j = ((partsL lk (g1L m atm s))[q]!).length by omega, List.take_length])) (SubS.cons rfl (SubS.cons rfl (SubS.cons rfl (SubS.cons rfl SubS.nil)))))
                ·try dsimp only
                 omega
                · (try dsimp only); omega
              ·skip
               refine W.exit ?_
               refine E.th ?_
               refine E.th ?_
               refine E.hit ?_
               refine E.inn ?_
               refine E.to ?_
               refine W.region ?_
               refine SL.val (O.det (fun _ => by first | exact G.R.add64 rfl rfl (by omega) | exact G.R.add rfl rfl) rfl Taken.no) ?_
               refine SL.val (O.move rfl rfl Taken.no) ?_
               refine SL.nil ?_
               refine E.reround ?_
               refine W.pick (.cons (t := 0) rfl (.cons (t := 6) rfl (.cons (t := 7) rfl (.cons (t := 8) rfl (.cons (t := 11) rfl (.cons (t := 16) rfl (.cons (t := 19) rfl (.cons (t := 21) rfl (.cons (t := 187) rfl (.cons (t := 188) rfl (.cons (t := 189) rfl (.cons (t := 190) rfl (.cons (t := 191) rfl (.cons (t := 192) rfl (.cons (t := 193) rfl (.cons (t := 194) rfl (.cons (t := 195) rfl (.cons (t := 196) rfl (.cons (t := 197) rfl (.cons (t := 198) rfl (.cons (t := 199) rfl (.cons (t := 220) rfl .nil)))))))))))))))))))))) (.cons (t := 101) rfl (.cons (t := 119) rfl (.cons (t := 121) rfl (.cons (t := 138) rfl (.cons (t := 142) rfl .nil))))) ?_
               refine W.seq ?_
               refine W.region ?_
               refine SL.val (O.det (fun _ => G.R.mv (G.R.lss rfl rfl) (congrArg Value.bool (decide_eq_false (by decide)))) rfl Taken.no) ?_
               refine SL.nil ?_
               refine E.to ?_
               refine W.seq ?_
               refine W.cond_f rfl ?_
               refine W.exit ?_
               refine E.th ?_
               refine E.th ?_
               refine E.hit ?_
               refine E.to ?_
               refine W.seq ?_
               refine W.region ?_
               refine SL.val (O.ld1 (PtI.ref rfl rfl) rfl Try.underlying39 rfl rfl Taken.no) ?_
               refine SL.val (O.move rfl rfl Taken.no) ?_
               refine SL.val (O.move rfl rfl Taken.no) ?_
               refine SL.val (O.det (fun _ => by first | exact G.R.sub64 rfl rfl (by omega) | exact G.R.sub rfl rfl) rfl Taken.no) ?_
               refine SL.val (O.assign rfl rfl Taken.no) ?_
               refine SL.val (O.assign rfl rfl Taken.no) ?_
               refine SL.val (O.assign rfl rfl Taken.no) ?_
               refine SL.nil ?_
               refine E.to ?_
               refine W.pick (.cons (t := 6) rfl (.cons (t := 7) rfl (.cons (t := 8) rfl .nil))) (.cons (t := 101) rfl (.cons (t := 119) rfl (.cons (t := 121) rfl (.cons (t := 138) rfl (.cons (t := 142) rfl .nil))))) ?_
               refine W.ret ?_
               refine E.freeze 142 rfl (F' := [(6, _)]) (⟨⟨_, rfl, rfl⟩, trivial⟩) ?_
               refine E.fin (rs := [_, _, _]) (rn []) (.inl rfl) rfl (.cons (ResOne.tmp rfl) (.cons (ResOne.tmp rfl) (.cons (ResOne.tmp rfl) .nil))) ?_ ?_ rfl (fixL_spec rfl)
               ·skip
                have hyes : posF n bar atm m s := ⟨hpre, by rw [← hit_eq hml hb]; exact hcl⟩
                rw [← hs, apN_y hyes, apG_y hyes, dec_t hyes, gnF, hfe, hth, show q = (partsL lk (g1L m atm s)).length by omega, List.take_length]; rfl
               · exact SubS.nil
      ·skip
       first | have hg20p := G.gA7 hg20 | have hg20p := G.gA8 hg20 | have hg20p := hg20
       refine WH.skip (OpOk.not rfl rfl rfl hg20) ?_
       refine WH.skip (OpOk.not rfl rfl rfl hg20) ?_
       refine WH.skip (OpOk.not rfl rfl rfl hg20) ?_
       refine WH.skip (OpOk.not rfl rfl rfl hg20) ?_
       refine WH.skip (OpOk.not rfl rfl rfl hg20) ?_
       refine WH.skip (OpOk.not rfl rfl rfl hg20) ?_
       refine WH.skip (OpOk.not rfl rfl rfl hg20) ?_
       refine WH.skip (OpOk.not rfl rfl rfl hg20) ?_
       refine WH.val (O.pick_t rfl (G.ne_f hg20) rfl rfl Taken.no) rfl rfl ?_
       refine WH.nil ?_
       refine E.to ?_
       refine W.pick (.cons (t := 0) rfl (.cons (t := 1) rfl (.cons (t := 5) rfl (.cons (t := 6) rfl (.cons (t := 7) rfl (.cons (t := 8) rfl (.cons (t := 9) rfl (.cons (t := 10) rfl (.cons (t := 88) rfl .nil))))))))) (.cons (t := 101) rfl (.cons (t := 119) rfl .nil)) ?_
       refine W.cond_t rfl ?_
       refine W.seq ?_
       refine W.region ?_
       refine SL.val (O.assign rfl rfl Taken.no) ?_
       refine SL.val (O.assign rfl rfl Taken.no) ?_
       refine SL.val (O.assign rfl rfl Taken.no) ?_
       refine SL.nil ?_
       refine E.to ?_
       refine W.ret ?_
       refine E.thr ?_
       refine E.thr ?_
       refine E.nilsl 6 1 rfl ?_
       refine E.fin (rs := [_, _, _]) (rn []) (.inl rfl) rfl (.cons (ResOne.tmp rfl) (.cons (ResOne.tmp rfl) (.cons (ResOne.tmp rfl) .nil))) ?_ ?_ rfl (fixL_spec rfl)
       ·skip
        first | ((have hno : ¬ posF n bar atm m ⟨u, (f : Int), (t : Int)⟩ := fun q => by ((obtain ⟨⟨⟨q1, q2, q3, q4, q5⟩, q6, q7, q8⟩, q9⟩ := posF_iff.1 q); (try simp only [Int.toNat_natCast] at q6 q7 q8); (have q6 := q6 (by omega); omega))); rw [apN_n hno, apG_n hno, dec_f hno]; rfl)
       · exact SubS.nil
     ·skip
      omega
   ·skip
    first | have hg3p := G.gA7 hg3 | have hg3p := G.gA8 hg3 | have hg3p := hg3
    refine WH.skip (OpOk.not rfl rfl rfl hg3) ?_
    refine WH.skip (OpOk.not rfl rfl rfl hg3) ?_
    refine WH.skip (OpOk.not rfl rfl rfl hg3) ?_
    refine WH.skip (OpOk.not rfl rfl rfl hg3) ?_
    refine WH.skip (OpOk.not2 rfl rfl rfl) ?_
    refine WH.skip (OpOk.not2 rfl rfl rfl) ?_
    refine WH.skip (OpOk.not2 rfl rfl rfl) ?_
    refine WH.skip (OpOk.not2 rfl rfl rfl) ?_
    refine WH.skip (OpOk.not2 rfl rfl rfl) ?_
    refine WH.skip (OpOk.not2 rfl rfl rfl) ?_
    refine WH.skip (OpOk.not2 rfl rfl rfl) ?_
    refine WH.skip (OpOk.not rfl rfl rfl hg3) ?_
    refine WH.val (O.pick_t rfl (G.ne_f hg3) rfl rfl Taken.no) rfl rfl ?_
    refine WH.nil ?_
    refine E.to ?_
    refine W.pick (.cons (t := 0) rfl (.cons (t := 1) rfl (.cons (t := 5) rfl (.cons (t := 6) rfl (.cons (t := 7) rfl (.cons (t := 8) rfl (.cons (t := 60) rfl .nil))))))) (.cons (t := 101) rfl .nil) ?_
    refine W.cond_t rfl ?_
    refine W.seq ?_
    refine W.region ?_
    refine SL.val (O.assign rfl rfl Taken.no) ?_
    refine SL.val (O.assign rfl rfl Taken.no) ?_
    refine SL.val (O.assign rfl rfl Taken.no) ?_
    refine SL.nil ?_
    refine E.to ?_
    refine W.ret ?_
    refine E.thr ?_
    refine E.nilsl 6 1 rfl ?_
    refine E.fin (rs := [_, _, _]) (rn []) (.inl rfl) rfl (.cons (ResOne.tmp rfl) (.cons (ResOne.tmp rfl) (.cons (ResOne.tmp rfl) .nil))) ?_ ?_ rfl (fixL_spec rfl)
    ·skip
     first | ((have hno : ¬ posF n bar atm m ⟨u, f, t⟩ := fun q => by ((obtain ⟨⟨⟨q1, q2, q3, q4, q5⟩, q6, q7, q8⟩, q9⟩ := posF_iff.1 q); (try simp only [Int.toNat_natCast] at q6 q7 q8); (first | omega | (have q5 := q5 (by omega); simp_all)))); rw [apN_n hno, apG_n hno, dec_f hno]; rfl)
    · exact SubS.nil
  ·skip
   first | have hg2p := G.gA7 hg2 | have hg2p := G.gA8 hg2 | have hg2p := hg2
   refine WH.skip (OpOk.not rfl rfl rfl hg2) ?_
   refine WH.skip (OpOk.not rfl rfl rfl hg2) ?_
   refine WH.skip (OpOk.not rfl rfl rfl hg2) ?_
   refine WH.skip (OpOk.not rfl rfl rfl hg2) ?_
   refine WH.skip (OpOk.not rfl rfl rfl hg2) ?_
   refine WH.skip (OpOk.not rfl rfl rfl hg2) ?_
   refine WH.skip (OpOk.not rfl rfl rfl hg2) ?_
   refine WH.val (O.pick_t rfl (G.ne_f hg2) rfl rfl Taken.no) rfl rfl ?_
   refine WH.val (O.move rfl rfl Taken.no) rfl rfl ?_
   have hg41 : true ≠ false := by decide
   refine WH.skip (OpOk.not rfl rfl rfl hg41) ?_
   refine WH.skip (OpOk.not rfl rfl rfl hg41) ?_
   refine WH.skip (OpOk.not rfl rfl rfl hg41) ?_
   refine WH.skip (OpOk.not rfl rfl rfl hg41) ?_
   refine WH.skip (OpOk.not2 rfl rfl rfl) ?_
   refine WH.skip (OpOk.not2 rfl rfl rfl) ?_
   refine WH.skip (OpOk.not2 rfl rfl rfl) ?_
   refine WH.skip (OpOk.not2 rfl rfl rfl) ?_
   refine WH.skip (OpOk.not2 rfl rfl rfl) ?_
   refine WH.skip (OpOk.not2 rfl rfl rfl) ?_
   refine WH.skip (OpOk.not2 rfl rfl rfl) ?_
   refine WH.skip (OpOk.not rfl rfl rfl hg41) ?_
   refine WH.val (O.pick_t rfl rfl rfl rfl Taken.no) rfl rfl ?_
   refine WH.nil ?_
   refine E.to ?_
   refine W.pick (.cons (t := 0) rfl (.cons (t := 1) rfl (.cons (t := 5) rfl (.cons (t := 6) rfl (.cons (t := 7) rfl (.cons (t := 8) rfl (.cons (t := 60) rfl .nil))))))) (.cons (t := 101) rfl .nil) ?_
   refine W.cond_t rfl ?_
   refine W.seq ?_
   refine W.region ?_
   refine SL.val (O.assign rfl rfl Taken.no) ?_
   refine SL.val (O.assign rfl rfl Taken.no) ?_
   refine SL.val (O.assign rfl rfl Taken.no) ?_
   refine SL.nil ?_
   refine E.to ?_
   refine W.ret ?_
   refine E.thr ?_
   refine E.nilsl 6 1 rfl ?_
   refine E.fin (rs := [_, _, _]) (rn []) (.inl rfl) rfl (.cons (ResOne.tmp rfl) (.cons (ResOne.tmp rfl) (.cons (ResOne.tmp rfl) .nil))) ?_ ?_ rfl (fixL_spec rfl)
   ·skip
    first | ((have hno : ¬ posF n bar atm m ⟨u, f, t⟩ := fun q => by ((obtain ⟨⟨⟨q1, q2, q3, q4, q5⟩, q6, q7, q8⟩, q9⟩ := posF_iff.1 q); (try simp only [Int.toNat_natCast] at q6 q7 q8); (first | omega | (have q5 := q5 (by omega); simp_all)))); rw [apN_n hno, apG_n hno, dec_f hno]; rfl)
   · exact SubS.nil
 ·skip
  first | have hg1p := G.gA7 hg1 | have hg1p := G.gA8 hg1 | have hg1p := hg1
  refine WH.skip (OpOk.not rfl rfl rfl hg1) ?_
  refine WH.skip (OpOk.not rfl rfl rfl hg1) ?_
  refine WH.skip (OpOk.not rfl rfl rfl hg1) ?_
  refine WH.skip (OpOk.not rfl rfl rfl hg1) ?_
  refine WH.skip (OpOk.not rfl rfl rfl hg1) ?_
  refine WH.skip (OpOk.not rfl rfl rfl hg1) ?_
  refine WH.skip (OpOk.not rfl rfl rfl hg1) ?_
  refine WH.val (O.pick_t rfl (G.ne_f hg1) rfl rfl Taken.no) rfl rfl ?_
  refine WH.val (O.move rfl rfl Taken.no) rfl rfl ?_
  have hg42 : true ≠ false := by decide
  refine WH.skip (OpOk.not rfl rfl rfl hg42) ?_
  refine WH.skip (OpOk.not rfl rfl rfl hg42) ?_
  refine WH.skip (OpOk.not rfl rfl rfl hg42) ?_
  refine WH.skip (OpOk.not rfl rfl rfl hg42) ?_
  refine WH.skip (OpOk.not rfl rfl rfl hg42) ?_
  refine WH.skip (OpOk.not rfl rfl rfl hg42) ?_
  refine WH.skip (OpOk.not rfl rfl rfl hg42) ?_
  refine WH.val (O.pick_t rfl rfl rfl rfl Taken.no) rfl rfl ?_
  refine WH.val (O.move rfl rfl Taken.no) rfl rfl ?_
  have hg43 : true ≠ false := by decide
  refine WH.skip (OpOk.not rfl rfl rfl hg43) ?_
  refine WH.skip (OpOk.not rfl rfl rfl hg43) ?_
  refine WH.skip (OpOk.not rfl rfl rfl hg43) ?_
  refine WH.skip (OpOk.not rfl rfl rfl hg43) ?_
  refine WH.skip (OpOk.not2 rfl rfl rfl) ?_
  refine WH.skip (OpOk.not2 rfl rfl rfl) ?_
  refine WH.skip (OpOk.not2 rfl rfl rfl) ?_
  refine WH.skip (OpOk.not2 rfl rfl rfl) ?_
  refine WH.skip (OpOk.not2 rfl rfl rfl) ?_
  refine WH.skip (OpOk.not2 rfl rfl rfl) ?_
  refine WH.skip (OpOk.not2 rfl rfl rfl) ?_
  refine WH.skip (OpOk.not rfl rfl rfl hg43) ?_
  refine WH.val (O.pick_t rfl rfl rfl rfl Taken.no) rfl rfl ?_
  refine WH.nil ?_
  refine E.to ?_
  refine W.pick (.cons (t := 0) rfl (.cons (t := 1) rfl (.cons (t := 5) rfl (.cons (t := 6) rfl (.cons (t := 7) rfl (.cons (t := 8) rfl (.cons (t := 60) rfl .nil))))))) (.cons (t := 101) rfl .nil) ?_
  refine W.cond_t rfl ?_
  refine W.seq ?_
  refine W.region ?_
  refine SL.val (O.assign rfl rfl Taken.no) ?_
  refine SL.val (O.assign rfl rfl Taken.no) ?_
  refine SL.val (O.assign rfl rfl Taken.no) ?_
  refine SL.nil ?_
  refine E.to ?_
  refine W.ret ?_
  refine E.thr ?_
  refine E.nilsl 6 1 rfl ?_
  refine E.fin (rs := [_, _, _]) (rn []) (.inl rfl) rfl (.cons (ResOne.tmp rfl) (.cons (ResOne.tmp rfl) (.cons (ResOne.tmp rfl) .nil))) ?_ ?_ rfl (fixL_spec rfl)
  ·skip
   first | ((have hno : ¬ posF n bar atm m ⟨u, f, t⟩ := fun q => by ((obtain ⟨⟨⟨q1, q2, q3, q4, q5⟩, q6, q7, q8⟩, q9⟩ := posF_iff.1 q); (try simp only [Int.toNat_natCast] at q6 q7 q8); (first | omega | (have q5 := q5 (by omega); simp_all)))); rw [apN_n hno, apG_n hno, dec_f hno]; rfl)
  · exact SubS.nil

end Go.Proofs.Ytppamigboeaefaa
end
section
namespace Go.Proofs.Ytppamigboeaefaa
open Go Go.RowKit Go.H Go.D33

theorem hcallOk50 : G.callOk Try.prog 50 = true := by kernel_rfl
theorem hcallOk61 : G.callOk Try.prog 61 = true := by kernel_rfl

set_option maxRecDepth 8000 in
set_option maxHeartbeats 3200000 in
/-- (*bookplate/cluster.field).next. -/
theorem next_h {n : Nat} {wt : Nat → Nat → Int} {lk : Nat → Nat → Bool} {bar : List Ru} {atm : List Nat} {m : List Nat} (hn : n ≤ 200) (hw : ∀ i j, -1000 ≤ wt i j ∧ wt i j ≤ 1000) (ha : atm.length = n ∧ ∀ i, i < n → atm[i]! < n) (hb : ∀ x ∈ bar, 0 ≤ x.a ∧ x.a < (n : Int) ∧ 0 ≤ x.b ∧ x.b < (n : Int)) (hml : m.length = n) :
    Con Try.prog 40 [.u (.ptr [uI (n : Int), .sl 1 (gridU (gridF n fun i j => uI (wt i j))), .sl 1 (gridU (gridF n fun i j => uB (lk i j))), .sl 3 (bar.map eRu), .sl 1 (atm.map eN), .sl 1 ((List.range n).map eN)]), vL 1 (m.map eN)] [] (.tup [.agg [vB (bestF (posF n bar atm m) (gnF wt lk m atm) (stepsL (selfs n m) (selfs n atm))).1.u, vI (bestF (posF n bar atm m) (gnF wt lk m atm) (stepsL (selfs n m) (selfs n atm))).1.f, vI (bestF (posF n bar atm m) (gnF wt lk m atm) (stepsL (selfs n m) (selfs n atm))).1.t], vI (bestF (posF n bar atm m) (gnF wt lk m atm) (stepsL (selfs n m) (selfs n atm))).2, vL 1 ((outF lk m atm (bestF (posF n bar atm m) (gnF wt lk m atm) (stepsL (selfs n m) (selfs n atm)))).map eI)]) [] := by
 have hal := ha.1
 have hsb := steps_b n hn m atm
 obtain ⟨i55, hi55, hz55, hs55, hb55⟩ := hinf55
 refine Con.enterL (n := 41) Try.func40 rfl rfl rfl (fun τ w ok vs hin => ?_)
 have hl1 := hin.len (i := 1) rfl
 try rw [List.length_map] at hl1
 clear hin
 refine W.seq ?_
 refine W.region ?_
 refine SL.memS (O.alloc (z := .agg #[.bool false, .int .i64 0, .int .i64 0]) (is := [.u (.sc (.bool false)), .u (.sc (.int .i64 0)), .u (.sc (.int .i64 0))]) 101 (by kernel_rfl) rfl rfl rfl Taken.no) rfl rfl (S' := (101, _) :: _) rfl ?_
 refine SL.val (O.assign rfl rfl Taken.no) ?_
 refine SL.val (O.assign rfl rfl Taken.no) ?_
 refine SL.nil ?_
 refine E.to ?_
 refine W.seq ?_
 refine W.seq ?_
 refine W.region ?_
 refine SL.val (O.move rfl rfl Taken.no) ?_
 refine SL.val (O.move rfl rfl Taken.no) ?_
 refine SL.val (O.callp rfl rfl rfl (steps_h (m := m) (by omega) (by omega) (by omega)) (.cons (ArgOk.same rfl) (.cons (ArgOk.same rfl) .nil)) hcallOk61 rfl Taken.no) ?_
 refine SL.val (O.lenE (SlOf.fz rfl (by decide)) (by first | exact List.length_map _ | rfl) Try.underlying103 rfl Taken.no) ?_
 refine SL.val (O.move rfl rfl Taken.no) ?_
 refine SL.nil ?_
 refine E.to ?_
 refine W.block ?_
 refine W.nilsl 6 1 rfl ?_
 refine W.loopx1 (fun (k : Nat) => [(16, vI (k : Int)), (5, vI (bestF (posF n bar atm m) (gnF wt lk m atm) ((stepsL (selfs n m) (selfs n atm)).take k)).2), (6, vL 1 ((outF lk m atm (bestF (posF n bar atm m) (gnF wt lk m atm) ((stepsL (selfs n m) (selfs n atm)).take k))).map eI))]) (fun (k : Nat) => [(101, .cells 55 [vB (bestF (posF n bar atm m) (gnF wt lk m atm) ((stepsL (selfs n m) (selfs n atm)).take k)).1.u, vI (bestF (posF n bar atm m) (gnF wt lk m atm) ((stepsL (selfs n m) (selfs n atm)).take k)).1.f, vI (bestF (posF n bar atm m) (gnF wt lk m atm) ((stepsL (selfs n m) (selfs n atm)).take k)).1.t])]) (fun (k : Nat) => k ≤ (stepsL (selfs n m) (selfs n atm)).length) (fun (k : Nat) => (stepsL (selfs n m) (selfs n atm)).length - k) (0) (rn []) (.cons (t := 0) rfl (.cons (t := 1) rfl (.cons (t := 4) rfl (.cons (t := 14) rfl (.cons (t := 15) rfl .nil))))) .nil rfl ?_ ?_ rfl rfl ?_ ?_
 · exact (SubF.cons rfl (SubF.cons rfl (SubF.cons rfl SubF.nil)))
 · exact (SubS.cons rfl SubS.nil)
 ·skip
  omega
 intro k hinv
 have hk := hinv
 have hb0 := best_ge (ok := posF n bar atm m) (g := gnF wt lk m atm) (stepsL (selfs n m) (selfs n atm)) hk
 refine W.seq ?_
 refine W.region ?_
 refine SL.val (O.det (fun _ => G.R.lss rfl rfl) rfl Taken.no) ?_
 refine SL.nil ?_
 refine E.to ?_
 refine W.seq ?_
 first | refine W.cond_d rfl (fun hc1 => ?_) (fun hc1 => ?_) | refine W.cond_nd rfl (fun hc1 => ?_) (fun hc1 => ?_) | refine W.cond rfl (fun hc1 => ?_) (fun hc1 => ?_)
 ·skip
  refine W.skip ?_
  refine E.to ?_
  refine W.seq ?_
  refine W.block ?_
  refine W.seq ?_
  refine W.region ?_
  refine SL.val (O.idx_fz (i := k) rfl rfl (rfl) (row_get (by omega)) Try.underlying103 hi55 hs55 rfl Taken.no) ?_
  refine SL.val (O.ldU (m := 3) (PtU.fz rfl) rfl Try.underlying55 rfl (by kernel_rfl) rfl Taken.no) ?_
  refine SL.memS (O.alloc (z := .agg #[.bool false, .int .i64 0, .int .i64 0]) (is := [.u (.sc (.bool false)), .u (.sc (.int .i64 0)), .u (.sc (.int .i64 0))]) 102 (by kernel_rfl) rfl rfl rfl Taken.no) rfl rfl (S' := (102, _) :: _) rfl ?_
  refine SL.effS (O.st_ref (m := 3) rfl rfl rfl (js := [_, _, _]) rfl rfl (by kernel_rfl) (by simp) (Nat.le_of_ble_eq_true rfl) rfl (is' := [_, _, _]) rfl Taken.no) (S' := (102, _) :: _) rfl ?_
  refine SL.nil ?_
  refine E.to ?_
  refine W.seq ?_
  refine W.region ?_
  refine SL.val (O.move rfl rfl Taken.no) ?_
  refine SL.val (O.move rfl rfl Taken.no) ?_
  refine SL.val (O.ldN (m := 3) (PtI.ref rfl rfl) (js := [_, _, _]) rfl (Nat.le_of_ble_eq_true rfl) Try.underlying55 rfl (by kernel_rfl) rfl Taken.no) ?_
  refine SL.memS (O.call (rn []) [] rfl rfl rfl (apply_h (u := (stepsL (selfs n m) (selfs n atm))[k]!.u) (f := (stepsL (selfs n m) (selfs n atm))[k]!.f) (t := (stepsL (selfs n m) (selfs n atm))[k]!.t) (by omega) hw ha hb hml) (.cons (ArgOk.same rfl) (.cons (ArgOk.same rfl) (.cons (ArgOk.aggU (.cons (ArgOk.same rfl) (.cons (ArgOk.same rfl) (.cons (ArgOk.same rfl) .nil)))) .nil))) SubS.nil rfl rfl rfl rfl rfl (.inl rfl) hcallOk50 (r' := .tup [.u _, .u _, .u _]) rfl rfl Taken.no) rfl rfl (S' := _) rfl ?_
  refine SL.val (O.move rfl rfl Taken.no) ?_
  refine SL.val (O.extract rfl rfl rfl Taken.no) ?_
  refine SL.val (O.extract rfl rfl rfl Taken.no) ?_
  refine SL.val (O.extract rfl rfl rfl Taken.no) ?_
  refine SL.val (O.assign rfl rfl Taken.no) ?_
  refine SL.val (O.assign rfl rfl Taken.no) ?_
  refine SL.val (O.assign rfl rfl Taken.no) ?_
  refine SL.nil ?_
  refine E.to ?_
  refine W.seq ?_
  refine W.region ?_
  refine SL.val (O.move rfl rfl Taken.no) ?_
  refine SL.val (O.move rfl rfl Taken.no) ?_
  refine SL.case (j := 1) (g := 29) (want := true) rfl rfl (fun hg2 => ?_) (fun hg2 => ?_)
  ·skip
   first | have hg2p := G.gA1 hg2 | have hg2p := G.gA2 hg2 | have hg2p := hg2
   refine SL.val (O.move rfl rfl (Taken.yes rfl rfl hg2)) ?_
   refine SL.val (O.move rfl rfl (Taken.yes rfl rfl hg2)) ?_
   refine SL.val (O.det (fun _ => G.R.gtr rfl rfl) rfl (Taken.yes rfl rfl hg2)) ?_
   refine SL.val (O.pick_t rfl hg2 rfl rfl Taken.no) ?_
   refine SL.nil ?_
   refine E.to ?_
   refine W.pick (.cons (t := 0) rfl (.cons (t := 1) rfl (.cons (t := 4) rfl (.cons (t := 5) rfl (.cons (t := 6) rfl (.cons (t := 8) rfl (.cons (t := 9) rfl (.cons (t := 10) rfl (.cons (t := 14) rfl (.cons (t := 15) rfl (.cons (t := 16) rfl (.cons (t := 33) rfl .nil)))))))))))) (.cons (t := 101) rfl (.cons (t := 102) rfl .nil)) ?_
   first | refine W.cond_d rfl (fun hc3 => ?_) (fun hc3 => ?_) | refine W.cond_nd rfl (fun hc3 => ?_) (fun hc3 => ?_) | refine W.cond rfl (fun hc3 => ?_) (fun hc3 => ?_)
   ·skip
    have hp1 : posF n bar atm m (stepsL (selfs n m) (selfs n atm))[k]! := by simp_all
    have hp2 : (bestF (posF n bar atm m) (gnF wt lk m atm) ((stepsL (selfs n m) (selfs n atm)).take k)).2 < gnF wt lk m atm (stepsL (selfs n m) (selfs n atm))[k]! := by rw [← apG_y (w := wt) (lk := lk) hp1]; assumption
    refine W.region ?_
    refine SL.val (O.ldN (m := 3) (PtI.ref rfl rfl) (js := [_, _, _]) rfl (Nat.le_of_ble_eq_true rfl) Try.underlying55 rfl (by kernel_rfl) rfl Taken.no) ?_
    refine SL.val (O.move rfl rfl Taken.no) ?_
    refine SL.val (O.move rfl rfl Taken.no) ?_
    refine SL.effS (O.st_ref (m := 3) rfl rfl rfl (js := [_, _, _]) rfl rfl (by kernel_rfl) (by simp) (Nat.le_of_ble_eq_true rfl) rfl (is' := [_, _, _]) rfl Taken.no) (S' := (101, _) :: _) rfl ?_
    refine SL.val (O.assign rfl rfl Taken.no) ?_
    refine SL.val (O.assign rfl rfl Taken.no) ?_
    refine SL.nil ?_
    refine E.inn ?_
    refine E.to ?_
    refine W.region ?_
    refine SL.val (O.det (fun _ => by first | exact G.R.add64 rfl rfl (by omega) | exact G.R.add rfl rfl) rfl Taken.no) ?_
    refine SL.val (O.move rfl rfl Taken.no) ?_
    refine SL.nil ?_
    refine E.again ((k + 1)) (rn []) ?_ ?_ rfl (fixL_spec rfl) ?_ ?_
    · exact (SubF.cons rfl (SubF.val rfl (by (try dsimp only); first | exact iv_int (by rw [best_s (by omega), pick_y hp1 hp2]; exact apG_y hp1) | exact iv_int (by rw [best_s (by omega), pick_n hp])) (SubF.val rfl (by (try dsimp only); first | exact iv_sl (by rw [best_s (by omega), pick_y hp1 hp2, outF_y hb0 hp2]; exact congrArg (List.map eI) (apN_y hp1)) | exact iv_sl (by rw [best_s (by omega), pick_n hp])) (SubF.cons rfl (SubF.cons rfl (SubF.cons rfl (SubF.cons rfl (SubF.cons rfl SubF.nil))))))))
    · exact (SubS.val rfl (by (try dsimp only); first | (rw [best_s (by omega), pick_y hp1 hp2]; rfl) | (rw [best_s (by omega), pick_n hp]; rfl)) SubS.nil)
    ·try dsimp only
     omega
    · (try dsimp only); omega
   ·skip
    have hp : ¬ (posF n bar atm m (stepsL (selfs n m) (selfs n atm))[k]! ∧ (bestF (posF n bar atm m) (gnF wt lk m atm) ((stepsL (selfs n m) (selfs n atm)).take k)).2 < gnF wt lk m atm (stepsL (selfs n m) (selfs n atm))[k]!) := fun q => by have q2 := q.2; rw [← apG_y (w := wt) (lk := lk) q.1] at q2; first | exact (show ¬ posF n bar atm m (stepsL (selfs n m) (selfs n atm))[k]! by assumption) q.1 | exact (show ¬ (bestF (posF n bar atm m) (gnF wt lk m atm) ((stepsL (selfs n m) (selfs n atm)).take k)).2 < apG n wt lk bar atm m (stepsL (selfs n m) (selfs n atm))[k]! by assumption) q2
    refine W.skip ?_
    refine E.inn ?_
    refine E.to ?_
    refine W.region ?_
    refine SL.val (O.det (fun _ => by first | exact G.R.add64 rfl rfl (by omega) | exact G.R.add rfl rfl) rfl Taken.no) ?_
    refine SL.val (O.move rfl rfl Taken.no) ?_
    refine SL.nil ?_
    refine E.again ((k + 1)) (rn []) ?_ ?_ rfl (fixL_spec rfl) ?_ ?_
    · exact (SubF.cons rfl (SubF.val rfl (by (try dsimp only); first | exact iv_int (by rw [best_s (by omega), pick_y hp1 hp2]; exact apG_y hp1) | exact iv_int (by rw [best_s (by omega), pick_n hp])) (SubF.val rfl (by (try dsimp only); first | exact iv_sl (by rw [best_s (by omega), pick_y hp1 hp2, outF_y hb0 hp2]; exact congrArg (List.map eI) (apN_y hp1)) | exact iv_sl (by rw [best_s (by omega), pick_n hp])) (SubF.cons rfl (SubF.cons rfl (SubF.cons rfl (SubF.cons rfl (SubF.cons rfl SubF.nil))))))))
    · exact (SubS.val rfl (by (try dsimp only); first | (rw [best_s (by omega), pick_y hp1 hp2]; rfl) | (rw [best_s (by omega), pick_n hp]; rfl)) SubS.nil)
    ·try dsimp only
     omega
    · (try dsimp only); omega
  ·skip
   first | have hg2p := G.gA5 hg2 | have hg2p := G.gA6 hg2 | have hg2p := hg2
   have hp : ¬ (posF n bar atm m (stepsL (selfs n m) (selfs n atm))[k]! ∧ (bestF (posF n bar atm m) (gnF wt lk m atm) ((stepsL (selfs n m) (selfs n atm)).take k)).2 < gnF wt lk m atm (stepsL (selfs n m) (selfs n atm))[k]!) := fun q => (show ¬ posF n bar atm m (stepsL (selfs n m) (selfs n atm))[k]! by assumption) q.1
   refine SL.skip (OpOk.not rfl rfl rfl hg2) ?_
   refine SL.skip (OpOk.not rfl rfl rfl hg2) ?_
   refine SL.skip (OpOk.not rfl rfl rfl hg2) ?_
   refine SL.val (O.pick_f rfl (G.ne_t hg2) rfl rfl Taken.no) ?_
   refine SL.nil ?_
   refine E.to ?_
   refine W.pick (.cons (t := 0) rfl (.cons (t := 1) rfl (.cons (t := 4) rfl (.cons (t := 5) rfl (.cons (t := 6) rfl (.cons (t := 8) rfl (.cons (t := 9) rfl (.cons (t := 10) rfl (.cons (t := 14) rfl (.cons (t := 15) rfl (.cons (t := 16) rfl (.cons (t := 33) rfl .nil)))))))))))) (.cons (t := 101) rfl (.cons (t := 102) rfl .nil)) ?_
   refine W.cond_f rfl ?_
   refine W.skip ?_
   refine E.inn ?_
   refine E.to ?_
   refine W.region ?_
   refine SL.val (O.det (fun _ => by first | exact G.R.add64 rfl rfl (by omega) | exact G.R.add rfl rfl) rfl Taken.no) ?_
   refine SL.val (O.move rfl rfl Taken.no) ?_
   refine SL.nil ?_
   refine E.again ((k + 1)) (rn []) ?_ ?_ rfl (fixL_spec rfl) ?_ ?_
   · exact (SubF.cons rfl (SubF.val rfl (by (try dsimp only); first | exact iv_int (by rw [best_s (by omega), pick_y hp1 hp2]; exact apG_y hp1) | exact iv_int (by rw [best_s (by omega), pick_n hp])) (SubF.val rfl (by (try dsimp only); first | exact iv_sl (by rw [best_s (by omega), pick_y hp1 hp2, outF_y hb0 hp2]; exact congrArg (List.map eI) (apN_y hp1)) | exact iv_sl (by rw [best_s (by omega), pick_n hp])) (SubF.cons rfl (SubF.cons rfl (SubF.cons rfl (SubF.cons rfl (SubF.cons rfl SubF.nil))))))))
   · exact (SubS.val rfl (by (try dsimp only); first | (rw [best_s (by omega), pick_y hp1 hp2]; rfl) | (rw [best_s (by omega), pick_n hp]; rfl)) SubS.nil)
   ·try dsimp only
    omega
   · (try dsimp only); omega
 ·skip
  refine W.exit ?_
  refine E.th ?_
  refine E.th ?_
  refine E.hit ?_
  refine E.to ?_
  refine W.seq ?_
  refine W.region ?_
  refine SL.val (O.ldN (m := 3) (PtI.ref rfl rfl) (js := [_, _, _]) rfl (Nat.le_of_ble_eq_true rfl) Try.underlying55 rfl (by kernel_rfl) rfl Taken.no) ?_
  refine SL.val (O.move rfl rfl Taken.no) ?_
  refine SL.val (O.move rfl rfl Taken.no) ?_
  refine SL.effS (O.st_ref (m := 3) rfl rfl rfl (js := [_, _, _]) rfl rfl (by kernel_rfl) (by simp) (Nat.le_of_ble_eq_true rfl) rfl (is' := [_, _, _]) rfl Taken.no) (S' := (101, _) :: _) rfl ?_
  refine SL.val (O.assign rfl rfl Taken.no) ?_
  refine SL.val (O.assign rfl rfl Taken.no) ?_
  refine SL.nil ?_
  refine E.to ?_
  refine W.ret ?_
  refine E.fin (rs := [_, _, _]) (rn []) (.inl rfl) rfl (.cons (ResOne.cellN (m := 3) (PtI.ref rfl rfl) (js := [_, _, _]) rfl (Nat.le_of_ble_eq_true rfl) Try.underlying55 rfl (by kernel_rfl)) (.cons (ResOne.tmp rfl) (.cons (ResOne.tmp rfl) .nil))) ?_ ?_ rfl (fixL_spec rfl)
  ·skip
   (rw [show k = (stepsL (selfs n m) (selfs n atm)).length by omega, List.take_length]; rfl)
  · exact SubS.nil

end Go.Proofs.Ytppamigboeaefaa
end
section
namespace Go.D33
open Go Go.RowKit Go.H
section
variable {n : Nat} {ps : List Pr} {rs : List Ru} {m : List Nat} {s : Stp} {l : List Int}
theorem ap_eq (hf : (Prob.mk (n : Int) ps rs).formed) (hm : isP n m) (hp : permR n ps rs m) (s : Stp) :
    (posF n (barL rs) (namedL n (partsL (mu rs) (List.range n))) m s ↔ posR n (barL rs) (atomsL n rs) m s) ∧
    (posR n (barL rs) (atomsL n rs) m s → nmF (mF (lF ps) rs) m (namedL n (partsL (mu rs) (List.range n))) s = (resR n ps rs m s).map (fun x : Nat => (x : Int)) ∧ gnF (wF ps) (mF (lF ps) rs) m (namedL n (partsL (mu rs) (List.range n))) s = gnR n ps rs m s) := by
  rw [← atoms_eq hf]
  refine ⟨pos_iff hf hm hp, fun h => ?_⟩
  have := (pos_iff hf hm hp).2 h
  exact apply_eq hf hm hp this.1
def apL (n : Nat) (ps : List Pr) (rs : List Ru) (l : List Int) (s : Stp) : List Nat := if permS n ps rs l ∧ posR n (barL rs) (atomsL n rs) (l.map Int.toNat) s then resR n ps rs (l.map Int.toNat) s else []
def apV (n : Nat) (ps : List Pr) (rs : List Ru) (l : List Int) (s : Stp) : Int := if permS n ps rs l ∧ posR n (barL rs) (atomsL n rs) (l.map Int.toNat) s then gnR n ps rs (l.map Int.toNat) s else 0
def apE (n : Nat) (ps : List Pr) (rs : List Ru) (l : List Int) (s : Stp) : Int := if permS n ps rs l then (if posR n (barL rs) (atomsL n rs) (l.map Int.toNat) s then 0 else 1) else 11
theorem ap_np (h : ¬ permS n ps rs l) (s : Stp) : apL n ps rs l s = [] ∧ apV n ps rs l s = 0 ∧ apE n ps rs l s = 11 := ⟨if_neg fun q => h q.1, if_neg fun q => h q.1, if_neg h⟩
theorem ap_no (h : permS n ps rs (m.map fun x : Nat => (x : Int))) (h2 : ¬ posR n (barL rs) (atomsL n rs) m s) : apL n ps rs (m.map fun x : Nat => (x : Int)) s = [] ∧ apV n ps rs (m.map fun x : Nat => (x : Int)) s = 0 ∧ apE n ps rs (m.map fun x : Nat => (x : Int)) s = 1 := by
  unfold apL apV apE
  rw [cast_back]
  exact ⟨if_neg fun q => h2 q.2, if_neg fun q => h2 q.2, by rw [if_pos h, if_neg h2]⟩
theorem ap_yes (h : permS n ps rs (m.map fun x : Nat => (x : Int))) (h2 : posR n (barL rs) (atomsL n rs) m s) : apL n ps rs (m.map fun x : Nat => (x : Int)) s = resR n ps rs m s ∧ apV n ps rs (m.map fun x : Nat => (x : Int)) s = gnR n ps rs m s ∧ apE n ps rs (m.map fun x : Nat => (x : Int)) s = 0 := by
  unfold apL apV apE
  rw [cast_back]
  exact ⟨if_pos ⟨h, h2⟩, if_pos ⟨h, h2⟩, by rw [if_pos h, if_pos h2]⟩
def nxI (n : Nat) (ps : List Pr) (rs : List Ru) (l : List Int) : Stp × Int := if permS n ps rs l then nextR n ps rs (l.map Int.toNat) else (⟨false, 0, 0⟩, 0)
def nxE (n : Nat) (ps : List Pr) (rs : List Ru) (l : List Int) : Int := if permS n ps rs l then 0 else 11
/-- The best step's partition, or none. -/
def outR (n : Nat) (ps : List Pr) (rs : List Ru) (m : List Nat) : List Nat := if (nextR n ps rs m).2 = 0 then [] else resR n ps rs m (nextR n ps rs m).1
theorem next_all (hf : (Prob.mk (n : Int) ps rs).formed) (hm : isP n m) (hp : permR n ps rs m) :
    bestF (posF n (barL rs) (namedL n (partsL (mu rs) (List.range n))) m) (gnF (wF ps) (mF (lF ps) rs) m (namedL n (partsL (mu rs) (List.range n)))) (stepsL (selfs n m) (selfs n (namedL n (partsL (mu rs) (List.range n))))) = nextR n ps rs m := by
  have := next_eq hf hm hp
  unfold nextF at this
  rw [atoms_eq hf] at this
  exact this
theorem out_eq (hf : (Prob.mk (n : Int) ps rs).formed) (hm : isP n m) (hp : permR n ps rs m) : outF (mF (lF ps) rs) m (namedL n (partsL (mu rs) (List.range n))) (nextR n ps rs m) = (outR n ps rs m).map fun x : Nat => (x : Int) := by
  unfold outF outR
  by_cases e : (nextR n ps rs m).2 = 0
  · rw [if_pos e, if_pos e]; rfl
  · rw [if_neg e, if_neg e]
    obtain ⟨h1, h2, _, _⟩ := next_spec n ps rs m
    exact ((ap_eq hf hm hp _).2 (h2 (by omega)).2.1).1
end
end Go.D33
end
