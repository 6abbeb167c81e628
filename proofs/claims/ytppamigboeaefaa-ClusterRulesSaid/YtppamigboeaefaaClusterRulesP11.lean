/-
  What the proof rests on: part 11 of 12.
-/
import Derived.Test.YtppamigboeaefaaClusterRulesP10
section
namespace Go.Proofs.Ytppamigboeaefaa
open Go Go.RowKit Go.H Go.D33



set_option maxRecDepth 8000 in
set_option maxHeartbeats 6400000 in
/-- (*bookplate/cluster.field).apply. -/
theorem apply_h {n : Nat} {wt : Nat → Nat → Int} {lk : Nat → Nat → Bool} {bar : List Ru} {atm : List Nat} {m : List Nat} {u : Bool} {f t : Int} (hn : n ≤ 200) (hw : ∀ i j, -1000 ≤ wt i j ∧ wt i j ≤ 1000) (ha : atm.length = n ∧ ∀ i, i < n → atm[i]! < n) (hb : ∀ x ∈ bar, 0 ≤ x.a ∧ x.a < (n : Int) ∧ 0 ≤ x.b ∧ x.b < (n : Int)) (hml : m.length = n) :
    Con Try.prog 50 [.u (.ptr [uI (n : Int), .sl 1 (gridU (gridF n fun i j => uI (wt i j))), .sl 1 (gridU (gridF n fun i j => uB (lk i j))), .sl 3 (bar.map eRu), .sl 1 (atm.map eN), .sl 1 ((List.range n).map eN)]), vL 1 (m.map eN), vA [uB u, uI f, uI t]] [] (.tup [vL 1 ((apN n lk bar atm m ⟨u, f, t⟩).map eI), vI (apG n wt lk bar atm m ⟨u, f, t⟩), vB (decide (posF n bar atm m ⟨u, f, t⟩))]) [] := by
 have hal := ha.1
 obtain ⟨i3, hi3, hz3, hs3, hb3⟩ := hinf3
 obtain ⟨i39, hi39, hz39, hs39, hb39⟩ := hinf39
 refine Con.enterL (n := 225) Try.func50 rfl rfl rfl (fun τ w ok vs hin => ?_)
 have hl1 := hin.len (i := 1) rfl
 try rw [List.length_map] at hl1
 clear hin
 refine W.rg ?_
 refine SL.memS (O.box (is := [_, _, _]) 101 rfl rfl (by simp) rfl rfl Taken.no) rfl rfl (S' := (101, _) :: _) rfl ?_
 refine SL.an rfl rfl (SL.an rfl rfl (SL.an rfl rfl (E.fo (W.seq (W.seq ?_)))))
 refine W.draw [⟨[], [], [], [101]⟩, ⟨[101], [], [], []⟩, ⟨[], [], [], []⟩, ⟨[], [], [], []⟩, ⟨[], [], [], [101]⟩, ⟨[101], [], [], []⟩, ⟨[], [], [], []⟩, ⟨[], [], [], []⟩, ⟨[], [], [], []⟩, ⟨[], [], [], []⟩, ⟨[], [], [], []⟩, ⟨[], [], [], []⟩, ⟨[], [], [], []⟩, ⟨[], [], [], [101]⟩, ⟨[101], [], [], []⟩, ⟨[], [], [], []⟩, ⟨[], [], [], []⟩, ⟨[], [], [], []⟩, ⟨[], [], [], []⟩, ⟨[], [], [], []⟩, ⟨[], [], [], []⟩, ⟨[], [], [], []⟩, ⟨[], [], [], [101]⟩, ⟨[101], [], [], []⟩, ⟨[], [], [], []⟩, ⟨[], [], [], []⟩, ⟨[], [], [], [101]⟩, ⟨[101], [], [], []⟩, ⟨[], [], [], []⟩, ⟨[], [], [], [101]⟩, ⟨[101], [], [], []⟩, ⟨[], [], [], []⟩, ⟨[], [], [], []⟩, ⟨[], [], [], []⟩, ⟨[], [], [], []⟩] rfl (by kernel_rfl) (by kernel_rfl) rfl rfl ?_
 refine WH.val (O.fld_ref (o' := 1) rfl Try.underlying55 rfl (m := 0) (by kernel_rfl) rfl rfl Taken.no) rfl rfl ?_
 refine WH.val (O.ld1 (PtI.ref rfl rfl) rfl Try.underlying3 rfl rfl Taken.no) rfl rfl ?_
 refine WH.val (O.det (fun _ => G.R.lss rfl rfl) rfl Taken.no) rfl rfl ?_
 refine WH.mv rfl rfl rfl ?_
 refine WH.case (j := 3) (g := 29) (want := false) rfl rfl (fun hg1 => ?_) (fun hg1 => ?_)
 ·skip
  first | have hg1p := G.gA3 hg1 | have hg1p := G.gA4 hg1 | have hg1p := hg1
  refine WH.val (O.fld_ref (o' := 1) rfl Try.underlying55 rfl (m := 0) (by kernel_rfl) rfl rfl (Taken.yes rfl rfl hg1)) rfl rfl ?_
  refine WH.val (O.ld1 (PtI.ref rfl rfl) rfl Try.underlying3 rfl rfl (Taken.yes rfl rfl hg1)) rfl rfl ?_
  refine WH.val (O.move rfl rfl (Taken.yes rfl rfl hg1)) rfl rfl ?_
  refine WH.val (O.nilCheck rfl rfl rfl (Taken.yes rfl rfl hg1)) rfl rfl ?_
  refine WH.val (O.fld_fz rfl Try.underlying78 rfl (m := 0) (by kernel_rfl) rfl rfl (Taken.yes rfl rfl hg1)) rfl rfl ?_
  refine WH.val (O.ld1 (PtI.ofU (PtU.fz rfl)) rfl Try.underlying3 rfl rfl (Taken.yes rfl rfl hg1)) rfl rfl ?_
  refine WH.val (O.det (fun _ => G.R.geq rfl rfl) rfl (Taken.yes rfl rfl hg1)) rfl rfl ?_
  refine WH.val (O.pick_f rfl hg1 rfl rfl Taken.no) rfl rfl ?_
  refine WH.mv rfl rfl rfl ?_
  refine WH.case (j := 12) (g := 38) (want := false) rfl rfl (fun hg2 => ?_) (fun hg2 => ?_)
  ·skip
   first | have hg2p := G.gA3 hg2 | have hg2p := G.gA4 hg2 | have hg2p := hg2
   refine WH.val (O.fld_ref (o' := 2) rfl Try.underlying55 rfl (m := 0) (by kernel_rfl) rfl rfl (Taken.yes rfl rfl hg2)) rfl rfl ?_
   refine WH.val (O.ld1 (PtI.ref rfl rfl) rfl Try.underlying3 rfl rfl (Taken.yes rfl rfl hg2)) rfl rfl ?_
   refine WH.val (O.move rfl rfl (Taken.yes rfl rfl hg2)) rfl rfl ?_
   refine WH.val (O.nilCheck rfl rfl rfl (Taken.yes rfl rfl hg2)) rfl rfl ?_
   refine WH.val (O.fld_fz rfl Try.underlying78 rfl (m := 0) (by kernel_rfl) rfl rfl (Taken.yes rfl rfl hg2)) rfl rfl ?_
   refine WH.val (O.ld1 (PtI.ofU (PtU.fz rfl)) rfl Try.underlying3 rfl rfl (Taken.yes rfl rfl hg2)) rfl rfl ?_
   refine WH.val (O.det (fun _ => G.R.geq rfl rfl) rfl (Taken.yes rfl rfl hg2)) rfl rfl ?_
   refine WH.val (O.pick_f rfl hg2 rfl rfl Taken.no) rfl rfl ?_
   refine WH.mv rfl rfl rfl ?_
   refine WH.case (j := 21) (g := 47) (want := false) rfl rfl (fun hg3 => ?_) (fun hg3 => ?_)
   ·skip
    first | have hg3p := G.gA3 hg3 | have hg3p := G.gA4 hg3 | have hg3p := hg3
    refine WH.val (O.fld_ref (o' := 2) rfl Try.underlying55 rfl (m := 0) (by kernel_rfl) rfl rfl (Taken.yes rfl rfl hg3)) rfl rfl ?_
    refine WH.val (O.ld1 (PtI.ref rfl rfl) rfl Try.underlying3 rfl rfl (Taken.yes rfl rfl hg3)) rfl rfl ?_
    refine WH.val (O.det (fun _ => G.R.lss rfl rfl) rfl (Taken.yes rfl rfl hg3)) rfl rfl ?_
    refine WH.val (O.move rfl rfl (Taken.yes rfl rfl hg3)) rfl rfl ?_
    refine WH.case (j := 25) (g := 51) (want := true) rfl rfl (fun hg4 => ?_) (fun hg4 => ?_)
    ·skip
     first | have hg4p := G.gA1 hg4 | have hg4p := G.gA2 hg4 | have hg4p := hg4
     refine WH.val (O.fld_ref (o' := 0) rfl Try.underlying55 rfl (m := 0) (by kernel_rfl) rfl rfl (Taken.yes rfl rfl hg4)) rfl rfl ?_
     refine WH.val (O.ld1 (PtI.ref rfl rfl) rfl Try.underlying4 rfl rfl (Taken.yes rfl rfl hg4)) rfl rfl ?_
     refine WH.val (O.move rfl rfl (Taken.yes rfl rfl hg4)) rfl rfl ?_
     refine WH.case (j := 28) (g := 54) (want := false) rfl rfl (fun hg5 => ?_) (fun hg5 => ?_)
     ·skip
      first | have hg5p := G.gA3 hg5 | have hg5p := G.gA4 hg5 | have hg5p := hg5
      refine WH.val (O.fld_ref (o' := 2) rfl Try.underlying55 rfl (m := 0) (by kernel_rfl) rfl rfl (Taken.yes rfl rfl hg5)) rfl rfl ?_
      refine WH.val (O.ld1 (PtI.ref rfl rfl) rfl Try.underlying3 rfl rfl (Taken.yes rfl rfl hg5)) rfl rfl ?_
      refine WH.val (O.det (fun _ => G.R.neq rfl rfl) rfl (Taken.yes rfl rfl hg5)) rfl rfl ?_
      refine WH.val (O.pick_f rfl hg5 rfl rfl (Taken.yes rfl rfl hg4)) rfl rfl ?_
      refine WH.val (O.pick_t rfl hg4 rfl rfl (Taken.yes rfl rfl hg3)) rfl rfl ?_
      refine WH.val (O.pick_f rfl hg3 rfl rfl Taken.no) rfl rfl ?_
      refine WH.nil (E.to ?_)
      refine W.pick (K:=[(0,_),(1,_),(5,_),(6,_),(7,_),(8,_),(60,_)]) (Z:=[(101,_)]) ⟨rfl,rfl,rfl,rfl,rfl,rfl,rfl,trivial⟩ ⟨rfl,trivial⟩ ?_
      first | refine W.cond_d rfl (fun hc6 => ?_) (fun hc6 => ?_) | refine W.cond_nd rfl (fun hc6 => ?_) (fun hc6 => ?_) | refine W.cond rfl (fun hc6 => ?_) (fun hc6 => ?_)
      ·skip
       refine W.rg (SL.an rfl rfl (SL.an rfl rfl (SL.an rfl rfl (E.fo (W.ret (E.thr ?_))))))
       refine E.nilsl 6 1 rfl ?_
       refine E.fin (rs := [_, _, _]) (rn []) (.inl rfl) rfl (.cons (ResOne.tmp rfl) (.cons (ResOne.tmp rfl) (.cons (ResOne.tmp rfl) .nil))) ?_ ?_ rfl (fixL_spec rfl)
       ·skip
        first | ((have hno : ¬ posF n bar atm m ⟨u, f, t⟩ := fun q => by ((obtain ⟨⟨⟨q1, q2, q3, q4, q5⟩, q6, q7, q8⟩, q9⟩ := posF_iff.1 q); (try simp only [Int.toNat_natCast] at q6 q7 q8); (first | omega | (have q5 := q5 (by omega); simp_all)))); rw [apN_n hno, apG_n hno, dec_f hno]; rfl)
       · exact SubS.nil
      ·skip
       refine W.skip (E.to (W.rg ?_))
       obtain rfl : t = -1 := by omega
       obtain rfl : u = false := by simp_all
       have hvb2 := valF_b hw (l := []) (by simp)
       obtain ⟨f, rfl⟩ : ∃ k : Nat, f = (k : Int) := ⟨f.toNat, by omega⟩
       have hul := units_len m m[f]!
       have hvb1 := valF_b hw (l := (unitsL m m[f]!)) (by omega)
       have hHn : ∀ u ∈ (unitsL m m[f]!), u < n := fun u hu => ((mem_here hml).1 hu).1
       refine SL.mv rfl rfl (SL.mv rfl rfl ?_)
       refine SL.val (O.fld_ref (o' := 1) rfl Try.underlying55 rfl (m := 0) (by kernel_rfl) rfl rfl Taken.no) ?_
       refine SL.val (O.ld1 (PtI.ref rfl rfl) rfl Try.underlying3 rfl rfl Taken.no) ?_
       refine SL.val (O.idx_fz (i := f) rfl rfl (rfl) (row_get (by omega)) Try.underlying39 hi3 hs3 rfl Taken.no) ?_
       refine SL.val (O.ld1 (PtI.ofU (PtU.fz rfl)) rfl Try.underlying3 rfl rfl Taken.no) ?_
       refine SL.memS (O.call (rn [(0, 102)]) [] rfl rfl rfl (units_h (l := m) (c := m[f]!) (by omega)) (.cons (ArgOk.same rfl) (.cons (ArgOk.same rfl) .nil)) SubS.nil rfl rfl rfl rfl rfl (.inl rfl) hcallOk46 (r' := .own 102) rfl rfl Taken.no) rfl rfl (S' := (102, .data _ _ _) :: _) rfl ?_
       refine SL.an rfl rfl (E.fo (W.rg (SL.an rfl rfl (E.fo (W.seq (W.rg ?_))))))
       refine SL.val (O.fld_ref (o' := 2) rfl Try.underlying55 rfl (m := 0) (by kernel_rfl) rfl rfl Taken.no) ?_
       refine SL.val (O.ld1 (PtI.ref rfl rfl) rfl Try.underlying3 rfl rfl Taken.no) ?_
       refine SL.val (O.det (fun _ => G.R.geq rfl rfl) rfl Taken.no) ?_
       refine E.fo ?_
       first | refine W.cond_d rfl (fun hc7 => ?_) (fun hc7 => ?_) | refine W.cond_nd rfl (fun hc7 => ?_) (fun hc7 => ?_) | refine W.cond rfl (fun hc7 => ?_) (fun hc7 => ?_)
       ·skip
        omega
       ·skip
        refine W.skip (E.to (W.rg (SL.mv rfl rfl (SL.mv rfl rfl ?_))))
        refine SL.memS (O.call (rn []) [102] rfl rfl rfl (value_h (l := (unitsL m m[f]!)) hw (by omega) hHn) (.cons (ArgOk.same rfl) (.cons (ArgOk.own rfl rfl) .nil)) SubS.nil rfl rfl rfl rfl rfl (.inr ⟨rfl, fun x hx => by simp at hx⟩) hcallOk45 (r' := .u _) rfl rfl Taken.no) rfl rfl (S' := _) rfl ?_
        refine SL.mv rfl rfl (SL.mv rfl rfl ?_)
        refine SL.val (O.callp rfl rfl rfl (value_h (l := []) hw (by simp) (fun u hu => by cases hu)) (.cons (ArgOk.same rfl) (.cons ArgOk.nil .nil)) hcallOk45 rfl Taken.no) ?_
        refine SL.val (O.det (fun _ => by first | exact G.R.add64 rfl rfl (by omega) | exact G.R.add rfl rfl) rfl Taken.no) ?_
        refine SL.an rfl rfl (E.fo ?_)
        refine W.pick (K:=[(0,_),(1,_),(5,_),(6,_),(7,_),(8,_),(9,_),(10,_),(11,_)]) (Z:=[(101,_),(102,_)]) ⟨rfl,rfl,rfl,rfl,rfl,rfl,rfl,rfl,rfl,trivial⟩ ⟨rfl,rfl,trivial⟩ ?_
        refine W.rg ?_
        refine SL.memS (O.alloc (z := .agg #[.slice none 0 0, .slice none 0 0]) (is := [.u (.sc (.slice none 0 0)), .u (.sc (.slice none 0 0))]) 103 (by kernel_rfl) rfl rfl rfl Taken.no) rfl rfl (S' := (103, _) :: _) rfl ?_
        refine E.fo (W.seq (W.rg ?_))
        refine SL.val (O.fld_ref (o' := 0) rfl Try.underlying55 rfl (m := 0) (by kernel_rfl) rfl rfl Taken.no) ?_
        refine SL.val (O.ld1 (PtI.ref rfl rfl) rfl Try.underlying4 rfl rfl Taken.no) ?_
        refine E.fo ?_
        refine W.cond_f rfl ?_
        refine W.seq (W.seq ?_)
        refine W.draw [⟨[], [], [], []⟩, ⟨[], [], [], []⟩, ⟨[], [], [], []⟩, ⟨[], [], [], []⟩, ⟨[], [], [], [101]⟩, ⟨[101], [], [], []⟩, ⟨[], [], [], []⟩, ⟨[], [], [], []⟩, ⟨[], [], [], [101]⟩, ⟨[101], [], [], []⟩, ⟨[], [], [], []⟩] rfl (by kernel_rfl) (by kernel_rfl) rfl rfl ?_
        refine WH.mv rfl rfl rfl ?_
        refine WH.val (O.nilCheck rfl rfl rfl Taken.no) rfl rfl ?_
        refine WH.val (O.fld_fz rfl Try.underlying78 rfl (m := 0) (by kernel_rfl) rfl rfl Taken.no) rfl rfl ?_
        refine WH.val (O.ld1 (PtI.ofU (PtU.fz rfl)) rfl Try.underlying39 rfl rfl Taken.no) rfl rfl ?_
        refine WH.val (O.fld_ref (o' := 1) rfl Try.underlying55 rfl (m := 0) (by kernel_rfl) rfl rfl Taken.no) rfl rfl ?_
        refine WH.val (O.ld1 (PtI.ref rfl rfl) rfl Try.underlying3 rfl rfl Taken.no) rfl rfl ?_
        refine WH.val (O.idx_fz (i := f) rfl rfl (rfl) (row_get (by omega)) Try.underlying39 hi3 hs3 rfl Taken.no) rfl rfl ?_
        refine WH.val (O.ld1 (PtI.ofU (PtU.fz rfl)) rfl Try.underlying3 rfl rfl Taken.no) rfl rfl ?_
        refine WH.val (O.fld_ref (o' := 1) rfl Try.underlying55 rfl (m := 0) (by kernel_rfl) rfl rfl Taken.no) rfl rfl ?_
        refine WH.val (O.ld1 (PtI.ref rfl rfl) rfl Try.underlying3 rfl rfl Taken.no) rfl rfl ?_
        refine WH.val (O.det (fun _ => G.R.neq rfl rfl) rfl Taken.no) rfl rfl ?_
        refine WH.nil (E.to ?_)
        first | refine W.cond_d rfl (fun hc8 => ?_) (fun hc8 => ?_) | refine W.cond_nd rfl (fun hc8 => ?_) (fun hc8 => ?_) | refine W.cond rfl (fun hc8 => ?_) (fun hc8 => ?_)
        ·skip
         refine W.rg (SL.an rfl rfl (SL.an rfl rfl (SL.an rfl rfl (E.fo ?_))))
         refine W.pick (K:=[(0,_),(1,_),(5,_),(6,_),(7,_),(8,_),(9,_),(10,_),(11,_),(12,_)]) (Z:=[(101,_),(102,_),(103,_)]) ⟨rfl,rfl,rfl,rfl,rfl,rfl,rfl,rfl,rfl,rfl,trivial⟩ ⟨rfl,rfl,rfl,trivial⟩ ?_
         refine W.ret (E.thr (E.thr ?_))
         refine E.nilsl 6 1 rfl ?_
         refine E.fin (rs := [_, _, _]) (rn []) (.inl rfl) rfl (.cons (ResOne.tmp rfl) (.cons (ResOne.tmp rfl) (.cons (ResOne.tmp rfl) .nil))) ?_ ?_ rfl (fixL_spec rfl)
         ·skip
          first | ((have hno : ¬ posF n bar atm m ⟨false, (f : Int), (t : Int)⟩ := fun q => by ((obtain ⟨⟨⟨q1, q2, q3, q4, q5⟩, q6, q7, q8⟩, q9⟩ := posF_iff.1 q); (try simp only [Int.toNat_natCast] at q6 q7 q8); (have q8 := (q8 (by trivial)).1; omega))); rw [apN_n hno, apG_n hno, dec_f hno]; rfl) | ((have hno : ¬ posF n bar atm m ⟨false, (f : Int), -1⟩ := fun q => by ((obtain ⟨⟨⟨q1, q2, q3, q4, q5⟩, q6, q7, q8⟩, q9⟩ := posF_iff.1 q); (try simp only [Int.toNat_natCast] at q6 q7 q8); (have q8 := (q8 (by trivial)).1; omega))); rw [apN_n hno, apG_n hno, dec_f hno]; rfl)
         · exact SubS.nil
        ·skip
         refine W.skip (E.to (W.rg (SL.mv rfl rfl ?_)))
         refine SL.val (O.idx_ref (i := 0) (m := 1) rfl rfl (rfl) (by decide) Try.underlying106 (by kernel_rfl) rfl rfl Taken.no) ?_
         refine SL.effS (O.st_ref (m := 1) rfl rfl rfl (js := [_]) rfl rfl (by kernel_rfl) (by simp) (Nat.le_of_ble_eq_true rfl) rfl (is' := [_, _]) rfl Taken.no) (S' := (103, _) :: _) rfl ?_
         refine E.fo ?_
         refine W.pick (K:=[(0,_),(1,_),(5,_),(6,_),(7,_),(8,_),(9,_),(11,_),(12,_)]) (Z:=[(101,_),(102,_),(103,_)]) ⟨rfl,rfl,rfl,rfl,rfl,rfl,rfl,rfl,rfl,trivial⟩ ⟨rfl,rfl,rfl,trivial⟩ ?_
         refine W.seq (W.rg (SL.mv rfl rfl ?_))
         refine SL.val (O.lenE (SlOf.own rfl rfl) (by first | exact List.length_map _ | rfl) Try.underlying39 rfl Taken.no) ?_
         refine SL.mv rfl rfl (E.fo (W.block ?_))
         refine W.adoptC 103 0 106 3 1 (is' := [_, _]) (by decide) rfl rfl rfl rfl rfl ?_
         refine W.adoptC 103 1 107 3 1 (is' := [_, _]) (by decide) rfl rfl rfl rfl rfl ?_
         refine W.loopx1 (fun (k : Nat) => [(136, vI (k : Int))]) (fun (k : Nat) => [(104, .data 3 1 (((thereL m (-1)) ++ ((unitsL m m[f]!).take k).filter (fun u => decide (atm[u]! = f))).map eN)), (105, .data 3 1 ((((unitsL m m[f]!).take k).filter (fun u => !decide (atm[u]! = f))).map eN)), (103, .cells 106 [.own 104, .own 105])]) (fun (k : Nat) => k ≤ (unitsL m m[f]!).length) (fun (k : Nat) => (unitsL m m[f]!).length - k) (0) (rn [(104, 106), (105, 107)]) (.cons (t := 0) rfl (.cons (t := 1) rfl (.cons (t := 5) rfl (.cons (t := 6) rfl (.cons (t := 7) rfl (.cons (t := 8) rfl (.cons (t := 11) rfl (.cons (t := 12) rfl (.cons (t := 134) rfl (.cons (t := 135) rfl .nil)))))))))) (.cons (t := 101) rfl (.cons (t := 102) rfl .nil)) rfl ?_ ?_ rfl rfl ?_ ?_
         · exact (SubF.cons rfl SubF.nil)
         · exact (SubS.val rfl (by exact sb_data (by rw [List.take_zero, List.filter_nil, List.append_nil]; rfl)) (SubS.val rfl (by exact sb_data (by rw [List.take_zero, List.filter_nil]; rfl)) (SubS.cons rfl SubS.nil)))
         ·skip
          omega
         intro k hinv
         have hk := hinv
         have hf0 := List.length_filter_le (fun u => decide (atm[u]! = f)) ((unitsL m m[f]!).take k)
         have hf1 := List.length_filter_le (fun u => !decide (atm[u]! = f)) ((unitsL m m[f]!).take k)
         rw [List.length_take] at hf0 hf1
         have hthl := there_len m (-1)
         refine W.rg ?_
         refine SL.val (O.det (fun _ => G.R.lss rfl rfl) rfl Taken.no) ?_
         refine E.fo (W.seq ?_)
         first | refine W.cond_d rfl (fun hc9 => ?_) (fun hc9 => ?_) | refine W.cond_nd rfl (fun hc9 => ?_) (fun hc9 => ?_) | refine W.cond rfl (fun hc9 => ?_) (fun hc9 => ?_)
         ·skip
          have hHk := hHn (unitsL m m[f]!)[k]! (mem_at (by omega))
          refine W.skip (E.to (W.seq (W.block (W.rg ?_))))
          refine SL.val (O.idx_own (i := k) rfl rfl rfl (rfl) (by rw [List.length_map]; omega) Try.underlying39 hi3 hs3 rfl Taken.no) ?_
          refine SL.val (O.ld1 (PtI.ofU (PtU.el rfl rfl (row_get (by omega)))) rfl Try.underlying3 rfl rfl Taken.no) ?_
          refine SL.an rfl rfl (E.fo (W.rg (SL.an rfl rfl (E.fo (W.seq (W.seq ?_))))))
          refine W.draw [⟨[], [], [], []⟩, ⟨[], [], [], []⟩, ⟨[], [], [], []⟩, ⟨[], [], [], []⟩, ⟨[], [], [], []⟩, ⟨[], [], [], []⟩, ⟨[], [], [], []⟩, ⟨[], [], [], [101]⟩, ⟨[101], [], [], []⟩, ⟨[], [], [], []⟩] rfl (by kernel_rfl) (by kernel_rfl) rfl rfl ?_
          refine WH.mv rfl rfl rfl ?_
          refine WH.val (O.nilCheck rfl rfl rfl Taken.no) rfl rfl ?_
          refine WH.val (O.fld_fz rfl Try.underlying78 rfl (m := 0) (by kernel_rfl) rfl rfl Taken.no) rfl rfl ?_
          refine WH.val (O.ld1 (PtI.ofU (PtU.fz rfl)) rfl Try.underlying39 rfl rfl Taken.no) rfl rfl ?_
          refine WH.mv rfl rfl rfl ?_
          refine WH.val (O.idx_fz (i := ((unitsL m m[f]!)[k]!)) rfl rfl (rfl) (row_get (by omega)) Try.underlying39 hi3 hs3 rfl Taken.no) rfl rfl ?_
          refine WH.val (O.ld1 (PtI.ofU (PtU.fz rfl)) rfl Try.underlying3 rfl rfl Taken.no) rfl rfl ?_
          refine WH.val (O.fld_ref (o' := 1) rfl Try.underlying55 rfl (m := 0) (by kernel_rfl) rfl rfl Taken.no) rfl rfl ?_
          refine WH.val (O.ld1 (PtI.ref rfl rfl) rfl Try.underlying3 rfl rfl Taken.no) rfl rfl ?_
          refine WH.val (O.det (fun _ => G.R.eql rfl rfl) rfl Taken.no) rfl rfl ?_
          refine WH.nil (E.to ?_)
          refine W.pick (K:=[(0,_),(1,_),(5,_),(6,_),(7,_),(8,_),(11,_),(12,_),(14,_),(15,_),(134,_),(135,_),(136,_),(149,_)]) (Z:=[(101,_),(102,_),(103,_),(104,_),(105,_)]) ⟨rfl,rfl,rfl,rfl,rfl,rfl,rfl,rfl,rfl,rfl,rfl,rfl,rfl,rfl,trivial⟩ ⟨rfl,rfl,rfl,rfl,rfl,trivial⟩ ?_
          first | refine W.cond_d rfl (fun hc10 => ?_) (fun hc10 => ?_) | refine W.cond_nd rfl (fun hc10 => ?_) (fun hc10 => ?_) | refine W.cond rfl (fun hc10 => ?_) (fun hc10 => ?_)
          ·skip
           have hp0 : (fun u => decide (atm[u]! = f)) (unitsL m m[f]!)[k]! = true := decide_eq_true (by omega)
           have hp1 : (fun u => !decide (atm[u]! = f)) (unitsL m m[f]!)[k]! = false := by show (!decide _) = false; rw [decide_eq_true (by omega)]; rfl
           refine W.region (SL.an rfl rfl (E.fo (W.region (SL.mv rfl rfl (SL.mv rfl rfl ?_)))))
           refine SL.val (O.idx_ref (i := 0) (m := 1) rfl rfl (rfl) (by decide) Try.underlying106 (by kernel_rfl) rfl rfl Taken.no) ?_
           refine SL.val (O.ld1 (PtI.ref rfl rfl) rfl Try.underlying39 rfl rfl Taken.no) ?_
           refine SL.mv rfl rfl ?_
           refine SL.memS (O.buildSlice 108 (rows := [(unitsL m m[f]!)[k]!].map eN) rfl rfl Try.underlying39 hi3 hz3 hs3 (by decide) rfl (by decide) rfl rfl rfl Taken.no) rfl rfl (S' := (108, .data 3 1 ([(unitsL m m[f]!)[k]!].map eN)) :: _) rfl ?_
           refine SL.memS (O.app (k' := 109) rfl rfl (SlOf.own rfl rfl) Try.underlying39 hi3 hz3 hs3 rfl rfl (by exact app_map) (by rw [hb3]; (simp only [List.length_map, List.length_singleton, List.length_append]; omega)) (by (simp only [List.length_map, List.length_singleton, List.length_append]; omega)) rfl Taken.no) rfl rfl (S' := (109, _) :: (104, .dead) :: _) rfl ?_
           refine SL.val (O.idx_ref (i := 0) (m := 1) rfl rfl (rfl) (by decide) Try.underlying106 (by kernel_rfl) rfl rfl Taken.no) ?_
           refine SL.effS (O.st_ref (m := 1) rfl rfl rfl (js := [_]) rfl rfl (by kernel_rfl) (by simp) (Nat.le_of_ble_eq_true rfl) rfl (is' := [_, _]) rfl Taken.no) (S' := (103, _) :: _) rfl ?_
           refine SL.nil (E.inn (E.to (W.region ?_)))
           refine SL.val (O.det (fun _ => by first | exact G.R.add64 rfl rfl (by omega) | exact G.R.add rfl rfl) rfl Taken.no) ?_
           refine SL.mv rfl rfl (SL.nil ?_)
           refine E.again ((k + 1)) (rn [(104, 109)]) ?_ ?_ rfl (fixL_spec rfl) ?_ ?_
           · exact (SubF.cons rfl (SubF.cons rfl (SubF.cons rfl (SubF.cons rfl (SubF.cons rfl (SubF.cons rfl (SubF.cons rfl (SubF.cons rfl (SubF.cons rfl (SubF.cons rfl (SubF.cons rfl SubF.nil)))))))))))
           · exact (SubS.val rfl (by (try dsimp only); first | exact sb_data (by rw [filt_y (by omega) hp0, ← List.append_assoc]) | exact sb_data (by rw [filt_n (by omega) hp0])) (SubS.val rfl (by (try dsimp only); first | exact sb_data (by rw [filt_n (by omega) hp1]) | exact sb_data (by rw [filt_y (by omega) hp1])) (SubS.cons rfl (SubS.cons rfl (SubS.cons rfl SubS.nil)))))
           ·try dsimp only
            omega
           · (try dsimp only); omega
          ·skip
           have hp0 : (fun u => decide (atm[u]! = f)) (unitsL m m[f]!)[k]! = false := decide_eq_false (by omega)
           have hp1 : (fun u => !decide (atm[u]! = f)) (unitsL m m[f]!)[k]! = true := by show (!decide _) = true; rw [decide_eq_false (by omega)]; rfl
           refine W.skip (E.to (W.region (SL.mv rfl rfl (SL.mv rfl rfl ?_))))
           refine SL.val (O.idx_ref (i := 1) (m := 1) rfl rfl (rfl) (by decide) Try.underlying106 (by kernel_rfl) rfl rfl Taken.no) ?_
           refine SL.val (O.ld1 (PtI.ref rfl rfl) rfl Try.underlying39 rfl rfl Taken.no) ?_
           refine SL.mv rfl rfl ?_
           refine SL.memS (O.buildSlice 110 (rows := [(unitsL m m[f]!)[k]!].map eN) rfl rfl Try.underlying39 hi3 hz3 hs3 (by decide) rfl (by decide) rfl rfl rfl Taken.no) rfl rfl (S' := (110, .data 3 1 ([(unitsL m m[f]!)[k]!].map eN)) :: _) rfl ?_
           refine SL.memS (O.app (k' := 111) rfl rfl (SlOf.own rfl rfl) Try.underlying39 hi3 hz3 hs3 rfl rfl (by exact app_map) (by rw [hb3]; (simp only [List.length_map, List.length_singleton]; omega)) (by (simp only [List.length_map, List.length_singleton]; omega)) rfl Taken.no) rfl rfl (S' := (111, _) :: (105, .dead) :: _) rfl ?_
           refine SL.val (O.idx_ref (i := 1) (m := 1) rfl rfl (rfl) (by decide) Try.underlying106 (by kernel_rfl) rfl rfl Taken.no) ?_
           refine SL.effS (O.st_ref (m := 1) rfl rfl rfl (js := [_]) rfl rfl (by kernel_rfl) (by simp) (Nat.le_of_ble_eq_true rfl) rfl (is' := [_, _]) rfl Taken.no) (S' := (103, _) :: _) rfl ?_
           refine SL.nil (E.inn (E.to (W.region ?_)))
           refine SL.val (O.det (fun _ => by first | exact G.R.add64 rfl rfl (by omega) | exact G.R.add rfl rfl) rfl Taken.no) ?_
           refine SL.mv rfl rfl (SL.nil ?_)
           refine E.again ((k + 1)) (rn [(105, 111)]) ?_ ?_ rfl (fixL_spec rfl) ?_ ?_
           · exact (SubF.cons rfl (SubF.cons rfl (SubF.cons rfl (SubF.cons rfl (SubF.cons rfl (SubF.cons rfl (SubF.cons rfl (SubF.cons rfl (SubF.cons rfl (SubF.cons rfl (SubF.cons rfl SubF.nil)))))))))))
           · exact (SubS.val rfl (by (try dsimp only); first | exact sb_data (by rw [filt_y (by omega) hp0, ← List.append_assoc]) | exact sb_data (by rw [filt_n (by omega) hp0])) (SubS.val rfl (by (try dsimp only); first | exact sb_data (by rw [filt_n (by omega) hp1]) | exact sb_data (by rw [filt_y (by omega) hp1])) (SubS.cons rfl (SubS.cons rfl (SubS.cons rfl SubS.nil)))))
           ·try dsimp only
            omega
           · (try dsimp only); omega
         ·skip
          refine W.exit (E.th (E.th (E.hit (E.to (W.rg ?_)))))
          refine SL.val (O.fld_ref (o' := 2) rfl Try.underlying55 rfl (m := 0) (by kernel_rfl) rfl rfl Taken.no) ?_
          refine SL.val (O.ld1 (PtI.ref rfl rfl) rfl Try.underlying3 rfl rfl Taken.no) ?_
          refine SL.val (O.det (fun _ => G.R.mv (G.R.eql rfl rfl) (congrArg Value.bool (decide_eq_true (by rfl)))) rfl Taken.no) ?_
          refine SL.mv rfl rfl ?_
          have hg11 : true = true := by decide
          refine SL.val (O.idx_ref (i := 1) (m := 1) rfl rfl (rfl) (by decide) Try.underlying106 (by kernel_rfl) rfl rfl (Taken.yes rfl rfl hg11)) ?_
          refine SL.val (O.ld1 (PtI.ref rfl rfl) rfl Try.underlying39 rfl rfl (Taken.yes rfl rfl hg11)) ?_
          refine SL.val (O.lenE (SlOf.own rfl rfl) (by first | exact List.length_map _ | rfl) Try.underlying39 rfl (Taken.yes rfl rfl hg11)) ?_
          refine SL.val (O.det (fun _ => G.R.eql rfl rfl) rfl (Taken.yes rfl rfl hg11)) ?_
          refine SL.val (O.pick_t rfl rfl rfl rfl Taken.no) ?_
          refine E.fo ?_
          first | refine W.cond_d rfl (fun hc12 => ?_) (fun hc12 => ?_) | refine W.cond_nd rfl (fun hc12 => ?_) (fun hc12 => ?_) | refine W.cond rfl (fun hc12 => ?_) (fun hc12 => ?_)
          ·skip
           refine W.rg (SL.an rfl rfl (SL.an rfl rfl (SL.an rfl rfl (E.fo (W.ret (E.thr ?_))))))
           refine E.nilsl 6 1 rfl ?_
           refine E.fin (rs := [_, _, _]) (rn []) (.inl rfl) rfl (.cons (ResOne.tmp rfl) (.cons (ResOne.tmp rfl) (.cons (ResOne.tmp rfl) .nil))) ?_ ?_ rfl (fixL_spec rfl)
           ·skip
            first | ((have hno : ¬ posF n bar atm m ⟨false, (f : Int), -1⟩ := fun q => by ((obtain ⟨⟨⟨q1, q2, q3, q4, q5⟩, q6, q7, q8⟩, q9⟩ := posF_iff.1 q); (try simp only [Int.toNat_natCast] at q6 q7 q8); (refine (q8 (by trivial)).2 (by omega) ?_; show (unitsL m m[f]!).filter (fun u => !decide (atm[u]! = f)) = []; rw [← List.take_length (l := unitsL m m[f]!), show (unitsL m m[f]!).length = k by omega]; exact List.eq_nil_of_length_eq_zero (by omega)))); rw [apN_n hno, apG_n hno, dec_f hno]; rfl)
           · exact SubS.nil
          ·skip
           refine W.skip (E.to (W.seq ?_))
           refine W.freezeC 103 0 104 (is' := [_, _]) rfl rfl rfl rfl ?_
           refine W.freezeC 103 1 105 (is' := [_, _]) rfl rfl rfl rfl ?_
           refine W.region ?_
           have hkH : k = (unitsL m m[f]!).length := by omega
           obtain ⟨s, hs⟩ : ∃ s : Stp, s = ⟨false, (f : Int), -1⟩ := ⟨_, rfl⟩
           have hfe : s.f.toNat = f := by rw [hs]; rfl
           have hth : thereL m s.t = [] := by rw [hs]; exact there_neg m
           have hg0 : ((thereL m (-1)) ++ ((unitsL m m[f]!).take k).filter (fun u => decide (atm[u]! = f))) = g0L m atm s := by rw [hkH, List.take_length, hs]; rfl
           have hg1 : (((unitsL m m[f]!).take k).filter (fun u => !decide (atm[u]! = f))) = g1L m atm s := by rw [hkH, List.take_length, hs]; rfl
           have hpre : preF n atm m s := by rw [hs]; exact ⟨⟨by show (0 : Int) ≤ f; omega, by show (f : Int) < n; omega, by show (-1 : Int) < (n : Int); omega, by show -1 ≤ (-1 : Int); omega, fun h => rfl⟩, fun h => ⟨by exfalso; have h2 : (0 : Int) ≤ -1 := h; omega, by exfalso; have h2 : (0 : Int) ≤ -1 := h; omega⟩, fun h => (by cases h), fun h => ⟨by show atm[f]! = f; omega, fun _ e => by have e2 := congrArg List.length e; rw [← hs, ← hg1] at e2; rw [List.length_nil] at e2; omega⟩⟩
           have hgb := g_b (atm := atm) (s := s) hml
           have hl0 : (partsL lk (g0L m atm s)).length ≤ (g0L m atm s).length := partsN_len
           have hl1 : (partsL lk (g1L m atm s)).length ≤ (g1L m atm s).length := partsN_len
           rw [hg0]
           refine SL.mv rfl rfl ?_
           refine SL.memS (O.call (rn [(0, 112)]) [] rfl rfl rfl (clone_h (rows := m.map eN) (by rw [List.length_map]; omega)) (.cons (ArgOk.same rfl) .nil) SubS.nil rfl rfl rfl rfl rfl (.inl rfl) hcallOk39 (r' := .own 112) rfl rfl Taken.no) rfl rfl (S' := (112, .data _ _ _) :: _) rfl ?_
           refine SL.memS (O.alloc (z := .slice none 0 0) (is := [.u (.sc (.slice none 0 0))]) 113 (by kernel_rfl) rfl rfl rfl Taken.no) rfl rfl (S' := (113, _) :: _) rfl ?_
           refine SL.effS (O.st_ref (m := 1) rfl rfl rfl (js := [_]) rfl rfl (by kernel_rfl) (by simp) (Nat.le_of_ble_eq_true rfl) rfl (is' := [_]) rfl Taken.no) (S' := (113, _) :: _) rfl ?_
           refine E.fo (W.seq (W.rg ?_))
           refine SL.val (O.idx_ref (i := 0) (m := 1) rfl rfl (rfl) (by decide) Try.underlying106 (by kernel_rfl) rfl rfl Taken.no) ?_
           refine SL.val (O.ld1 (PtI.ref rfl rfl) rfl Try.underlying39 rfl rfl Taken.no) ?_
           refine SL.val (O.lenE (SlOf.fz rfl (by decide)) (by first | exact List.length_map _ | rfl) Try.underlying39 rfl Taken.no) ?_
           refine SL.mv rfl rfl (E.fo ?_)
           refine W.pick (K:=[(0,_),(6,_),(7,_),(8,_),(11,_),(12,_),(16,_),(171,_),(172,_),(173,_)]) (Z:=[(101,_),(102,_),(103,_),(112,_),(113,_)]) ⟨rfl,rfl,rfl,rfl,rfl,rfl,rfl,rfl,rfl,rfl,trivial⟩ ⟨rfl,rfl,rfl,rfl,rfl,trivial⟩ ?_
           refine W.block ?_
           refine W.loopx1 (fun (j : Nat) => [(173, vI (j : Int))]) (fun (j : Nat) => [(114, .data 3 1 ((setAll (m.map (fun x : Nat => (x : Int))) ((g0L m atm s).take j) (-1)).map eI)), (113, .cells 39 [.own 114])]) (fun (j : Nat) => j ≤ (g0L m atm s).length) (fun (j : Nat) => (g0L m atm s).length - j) (0) (rn [(114, 112)]) (.cons (t := 0) rfl (.cons (t := 6) rfl (.cons (t := 7) rfl (.cons (t := 8) rfl (.cons (t := 11) rfl (.cons (t := 12) rfl (.cons (t := 16) rfl (.cons (t := 171) rfl (.cons (t := 172) rfl .nil))))))))) (.cons (t := 101) rfl (.cons (t := 102) rfl (.cons (t := 103) rfl .nil))) rfl ?_ ?_ rfl rfl ?_ ?_
           · exact (SubF.cons rfl SubF.nil)
           · exact (SubS.val rfl (by exact sb_data (by rw [List.take_zero]; exact (eI_eN m).symm)) (SubS.cons rfl SubS.nil))
           ·skip
            omega
           intro j hinv
           have hj := hinv
           have hnl : (setAll (m.map (fun x : Nat => (x : Int))) ((g0L m atm s).take j) (-1)).length = n := by rw [setAll_len, List.length_map]; exact hml
           refine W.rg ?_
           refine SL.val (O.det (fun _ => G.R.lss rfl rfl) rfl Taken.no) ?_
           refine E.fo (W.seq ?_)
           first | refine W.cond_d rfl (fun hc13 => ?_) (fun hc13 => ?_) | refine W.cond_nd rfl (fun hc13 => ?_) (fun hc13 => ?_) | refine W.cond rfl (fun hc13 => ?_) (fun hc13 => ?_)
           ·skip
            have hGj := hgb.2.1 (g0L m atm s)[j]! (mem_at (by omega))
            refine W.skip (E.to (W.seq (W.block (W.rg ?_))))
            refine SL.val (O.idx_fz (i := j) rfl rfl (rfl) (row_get (by omega)) Try.underlying39 hi3 hs3 rfl Taken.no) ?_
            refine SL.val (O.ld1 (PtI.ofU (PtU.fz rfl)) rfl Try.underlying3 rfl rfl Taken.no) ?_
            refine SL.an rfl rfl (E.fo (W.region ?_))
            refine SL.val (O.ld1 (PtI.ref rfl rfl) rfl Try.underlying39 rfl rfl Taken.no) ?_
            refine SL.mv rfl rfl ?_
            refine SL.val (O.idx_own (i := ((g0L m atm s)[j]!)) rfl rfl rfl (rfl) (by rw [List.length_map]; omega) Try.underlying39 hi3 hs3 rfl Taken.no) ?_
            refine SL.effS (O.st_els (m := 1) rfl rfl rfl (us := [_]) rfl rfl (by kernel_rfl) (by simp) (row_get (by omega)) (by exact Nat.le_of_ble_eq_true rfl) rfl rfl (rows' := ((setAll (m.map (fun x : Nat => (x : Int))) ((g0L m atm s).take j) (-1)).set ((g0L m atm s)[j]!) (-1)).map eI) (by exact set_map rfl) Taken.no) (S' := (114, _) :: _) rfl ?_
            refine SL.nil (E.inn (E.to (W.region ?_)))
            refine SL.val (O.det (fun _ => by first | exact G.R.add64 rfl rfl (by omega) | exact G.R.add rfl rfl) rfl Taken.no) ?_
            refine SL.mv rfl rfl (SL.nil ?_)
            refine E.again ((j + 1)) (rn []) ?_ ?_ rfl (fixL_spec rfl) ?_ ?_
            · exact (SubF.cons rfl (SubF.cons rfl (SubF.cons rfl (SubF.cons rfl (SubF.cons rfl (SubF.cons rfl (SubF.cons rfl (SubF.cons rfl (SubF.cons rfl (SubF.cons rfl SubF.nil))))))))))
            · exact (SubS.val rfl (by (try dsimp only); exact sb_data (by rw [setAll_sG (by omega)])) (SubS.cons rfl (SubS.cons rfl (SubS.cons rfl (SubS.cons rfl SubS.nil)))))
            ·try dsimp only
             omega
            · (try dsimp only); omega
           ·skip
            refine W.exit (E.th (E.th (E.hit (E.to (W.seq (W.seq ?_))))))
            have hjG : j = (g0L m atm s).length := by omega
            rw [hjG, List.take_length]
            refine W.region (SL.mv rfl rfl ?_)
            refine SL.val (O.nilCheck rfl rfl rfl Taken.no) ?_
            refine SL.val (O.fld_fz rfl Try.underlying78 rfl (m := 0) (by kernel_rfl) rfl rfl Taken.no) ?_
            refine SL.val (O.ld1 (PtI.ofU (PtU.fz rfl)) rfl Try.underlying23 rfl rfl Taken.no) ?_
            refine SL.val (O.makeFunc rfl rfl rfl Taken.no) ?_
            refine SL.memS (O.call (rn [(0, 113), (1, 114)]) [] rfl rfl rfl (containsFuncN (nm := (nm0 m atm s)) (q := bar) (by rw [nm0_len, hml]; exact hb)) (.cons (ArgOk.same rfl) (.cons (ArgOk.same rfl) .nil)) (SubS.cons rfl (SubS.cons rfl SubS.nil)) rfl rfl rfl rfl rfl (.inl rfl) hcallOk63 (r' := .u _) rfl rfl Taken.no) rfl rfl (S' := (113, .cells _ [.own 114]) :: (114, .data _ _ _) :: _) rfl ?_
            refine E.fo ?_
            first | refine W.cond_d rfl (fun hc14 => ?_) (fun hc14 => ?_) | refine W.cond_nd rfl (fun hc14 => ?_) (fun hc14 => ?_) | refine W.cond rfl (fun hc14 => ?_) (fun hc14 => ?_)
            ·skip
             refine W.rg (SL.an rfl rfl (SL.an rfl rfl (SL.an rfl rfl (E.fo (W.ret (E.thr ?_))))))
             refine E.nilsl 6 1 rfl ?_
             refine E.fin (rs := [_, _, _]) (rn []) (.inl rfl) rfl (.cons (ResOne.tmp rfl) (.cons (ResOne.tmp rfl) (.cons (ResOne.tmp rfl) .nil))) ?_ ?_ rfl (fixL_spec rfl)
             ·skip
              have hcl : bar.any (nmHit (nm0 m atm s)) = true := by assumption
              have hno : ¬ posF n bar atm m s := fun q => by rw [hit_eq hml hb, q.2] at hcl; cases hcl
              rw [← hs, apN_n hno, apG_n hno, dec_f hno]; rfl
             · exact SubS.nil
            ·skip
             refine W.skip (E.to (W.rg (SL.an rfl rfl (E.fo (W.seq (W.rg ?_))))))
             have hcl : bar.any (nmHit (nm0 m atm s)) = false := by first | assumption | simp_all
             have hL : ∀ p ∈ gL lk m atm s, p.length ≤ 1000 := fun p hp => by rcases List.mem_append.1 hp with z | z <;> (have := (partsN_units z).2.1; omega)
             refine SL.val (O.ldN (m := 2) (PtI.ref rfl rfl) (js := [_, _]) rfl (Nat.le_of_ble_eq_true rfl) Try.underlying106 rfl (by kernel_rfl) rfl Taken.no) ?_
             refine SL.mv rfl rfl (E.fo (W.block ?_))
             refine W.unroll ?_
             refine W.rg ?_
             refine SL.val (O.det (fun _ => G.R.mv (G.R.lss rfl rfl) (congrArg Value.bool (decide_eq_true (by decide)))) rfl Taken.no) ?_
             refine E.fo (W.seq ?_)
             refine W.cond_t rfl ?_
             refine W.skip (E.to (W.seq (W.block (W.rg ?_))))
             refine SL.val (O.idxval (i := 0) rfl rfl (by rfl) (by decide) (by rfl) Try.underlying106 (by kernel_rfl) Try.underlying39 rfl rfl Taken.no) ?_
             refine SL.an rfl rfl (E.fo (W.rg (SL.mv rfl rfl (SL.mv rfl rfl ?_))))
             refine SL.val (O.nilCheck rfl rfl rfl Taken.no) ?_
             refine SL.val (O.fld_fz rfl Try.underlying78 rfl (m := 0) (by kernel_rfl) rfl rfl Taken.no) ?_
             refine SL.val (O.ld1 (PtI.ofU (PtU.fz rfl)) rfl Try.underlying76 rfl rfl Taken.no) ?_
             refine SL.val (O.callp rfl rfl rfl (parts_h (n := n) (us := (g0L m atm s)) (by omega) hgb.2.1) (.cons (ArgOk.same rfl) (.cons (ArgOk.same rfl) .nil)) hcallOk42 rfl Taken.no) ?_
             refine SL.val (O.lenE (SlOf.fz rfl (by decide)) (by first | exact List.length_map _ | rfl) Try.underlying75 rfl Taken.no) ?_
             refine SL.mv rfl rfl (E.fo ?_)
             refine W.pick (K:=[(0,_),(6,_),(7,_),(8,_),(11,_),(16,_),(19,_),(21,_),(187,_),(188,_),(189,_),(190,_),(191,_),(192,_),(193,_),(194,_),(195,_),(196,_),(197,_),(198,_)]) (Z:=[(101,_),(102,_),(103,_),(113,_),(114,_)]) ⟨rfl,rfl,rfl,rfl,rfl,rfl,rfl,rfl,rfl,rfl,rfl,rfl,rfl,rfl,rfl,rfl,rfl,rfl,rfl,rfl,trivial⟩ ⟨rfl,rfl,rfl,rfl,rfl,trivial⟩ ?_
             refine W.block ?_
             refine W.loopx1 (fun (p : Nat) => [(198, vI (p : Int)), (19, vI (sumV wt ((partsL lk (g0L m atm s)).take p)))]) (fun (p : Nat) => [(115, .data 3 1 ((nameF (fun x : Nat => (x : Int)) (nm0 m atm s) ((partsL lk (g0L m atm s)).take p)).map eI)), (113, .cells 39 [.own 115])]) (fun (p : Nat) => p ≤ (partsL lk (g0L m atm s)).length) (fun (p : Nat) => (partsL lk (g0L m atm s)).length - p) (0) (rn [(115, 114)]) (.cons (t := 0) rfl (.cons (t := 6) rfl (.cons (t := 7) rfl (.cons (t := 8) rfl (.cons (t := 11) rfl (.cons (t := 16) rfl (.cons (t := 21) rfl (.cons (t := 187) rfl (.cons (t := 188) rfl (.cons (t := 189) rfl (.cons (t := 190) rfl (.cons (t := 191) rfl (.cons (t := 192) rfl (.cons (t := 193) rfl (.cons (t := 194) rfl (.cons (t := 195) rfl (.cons (t := 196) rfl (.cons (t := 197) rfl .nil)))))))))))))))))) (.cons (t := 101) rfl (.cons (t := 102) rfl (.cons (t := 103) rfl .nil))) rfl ?_ ?_ rfl rfl ?_ ?_
             · exact (SubF.cons rfl (SubF.val rfl (by exact iv_int rfl) SubF.nil))
             · exact (SubS.val rfl (by exact sb_data (by rw [List.take_zero]; rfl)) (SubS.cons rfl SubS.nil))
             ·skip
              omega
             intro p hinv
             have hp := hinv
             have hpl : ((partsL lk (g0L m atm s)).take p).length ≤ 400 := by (try rw [List.length_append]); rw [List.length_take]; omega
             have hvb := sumV_b2 hw (L := ((partsL lk (g0L m atm s)).take p)) (fun p hp => hL p (List.mem_append_left _ (List.mem_of_mem_take hp)))
             refine W.rg ?_
             refine SL.val (O.det (fun _ => G.R.lss rfl rfl) rfl Taken.no) ?_
             refine E.fo (W.seq ?_)
             first | refine W.cond_d rfl (fun hc15 => ?_) (fun hc15 => ?_) | refine W.cond_nd rfl (fun hc15 => ?_) (fun hc15 => ?_) | refine W.cond rfl (fun hc15 => ?_) (fun hc15 => ?_)
             ·skip
              have hpu := partsN_units (mem_at (l := (partsL lk (g0L m atm s))) (i := p) (by omega))
              have hvp := valF_b hw (l := ((partsL lk (g0L m atm s))[p]!)) (by omega)
              refine W.skip (E.to (W.seq (W.block (W.rg ?_))))
              refine SL.val (O.idx_fz (i := p) rfl rfl (rfl) (row_get (by omega)) Try.underlying75 hi39 hs39 rfl Taken.no) ?_
              refine SL.val (O.ld1 (PtI.ofU (PtU.fz rfl)) rfl Try.underlying39 rfl rfl Taken.no) ?_
              refine SL.an rfl rfl (E.fo (W.rg (SL.mv rfl rfl (SL.mv rfl rfl (SL.mv rfl rfl ?_)))))
              refine SL.val (O.callp rfl rfl rfl (value_h (l := ((partsL lk (g0L m atm s))[p]!)) hw (by omega) (fun u hu => hgb.2.1 u (hpu.2.2 u hu))) (.cons (ArgOk.same rfl) (.cons (ArgOk.same rfl) .nil)) hcallOk45 rfl Taken.no) ?_
              refine SL.val (O.det (fun _ => by first | exact G.R.add64 rfl rfl (by omega) | exact G.R.add rfl rfl) rfl Taken.no) ?_
              refine SL.an rfl rfl (E.fo ?_)
              refine W.pick (K:=[(0,_),(6,_),(7,_),(8,_),(11,_),(16,_),(19,_),(21,_),(23,_),(187,_),(188,_),(189,_),(190,_),(191,_),(192,_),(193,_),(194,_),(195,_),(196,_),(197,_),(198,_),(199,_),(200,_),(201,_),(202,_),(203,_),(204,_),(205,_),(206,_)]) (Z:=[(101,_),(102,_),(103,_),(113,_),(115,_)]) ⟨rfl,rfl,rfl,rfl,rfl,rfl,rfl,rfl,rfl,rfl,rfl,rfl,rfl,rfl,rfl,rfl,rfl,rfl,rfl,rfl,rfl,rfl,rfl,rfl,rfl,rfl,rfl,rfl,rfl,trivial⟩ ⟨rfl,rfl,rfl,rfl,rfl,trivial⟩ ?_
              refine W.rg (SL.mv rfl rfl ?_)
              refine SL.val (O.lenE (SlOf.fz rfl (by decide)) (by first | exact List.length_map _ | rfl) Try.underlying39 rfl Taken.no) ?_
              refine SL.mv rfl rfl (E.fo ?_)
              refine W.pick (K:=[(0,_),(6,_),(7,_),(8,_),(11,_),(16,_),(19,_),(21,_),(23,_),(187,_),(188,_),(189,_),(190,_),(191,_),(192,_),(193,_),(194,_),(195,_),(196,_),(197,_),(198,_),(199,_),(200,_),(201,_),(202,_),(203,_),(204,_),(205,_),(206,_),(207,_),(208,_),(209,_)]) (Z:=[(101,_),(102,_),(103,_),(113,_),(115,_)]) ⟨rfl,rfl,rfl,rfl,rfl,rfl,rfl,rfl,rfl,rfl,rfl,rfl,rfl,rfl,rfl,rfl,rfl,rfl,rfl,rfl,rfl,rfl,rfl,rfl,rfl,rfl,rfl,rfl,rfl,rfl,rfl,rfl,trivial⟩ ⟨rfl,rfl,rfl,rfl,rfl,trivial⟩ ?_
              refine W.block ?_
              refine W.loopx1 (fun (j : Nat) => [(209, vI (j : Int))]) (fun (j : Nat) => [(116, .data 3 1 ((setAll (nameF (fun x : Nat => (x : Int)) (nm0 m atm s) ((partsL lk (g0L m atm s)).take p)) (((partsL lk (g0L m atm s))[p]!).take j) ((minL ((partsL lk (g0L m atm s))[p]!) : Nat) : Int)).map eI)), (113, .cells 39 [.own 116])]) (fun (j : Nat) => j ≤ ((partsL lk (g0L m atm s))[p]!).length) (fun (j : Nat) => ((partsL lk (g0L m atm s))[p]!).length - j) (0) (rn [(116, 115)]) (.cons (t := 0) rfl (.cons (t := 6) rfl (.cons (t := 7) rfl (.cons (t := 8) rfl (.cons (t := 11) rfl (.cons (t := 16) rfl (.cons (t := 19) rfl (.cons (t := 21) rfl (.cons (t := 23) rfl (.cons (t := 187) rfl (.cons (t := 188) rfl (.cons (t := 189) rfl (.cons (t := 190) rfl (.cons (t := 191) rfl (.cons (t := 192) rfl (.cons (t := 193) rfl (.cons (t := 194) rfl (.cons (t := 195) rfl (.cons (t := 196) rfl (.cons (t := 197) rfl (.cons (t := 198) rfl (.cons (t := 199) rfl (.cons (t := 200) rfl (.cons (t := 201) rfl (.cons (t := 202) rfl (.cons (t := 203) rfl (.cons (t := 204) rfl (.cons (t := 205) rfl (.cons (t := 206) rfl (.cons (t := 207) rfl (.cons (t := 208) rfl .nil))))))))))))))))))))))))))))))) (.cons (t := 101) rfl (.cons (t := 102) rfl (.cons (t := 103) rfl .nil))) rfl ?_ ?_ rfl rfl ?_ ?_
              · exact (SubF.cons rfl SubF.nil)
              · exact (SubS.val rfl (by exact sb_data (by rw [List.take_zero]; rfl)) (SubS.cons rfl SubS.nil))
              ·skip
               omega
              intro j hinv
              have hj := hinv
              have hnl : (setAll (nameF (fun x : Nat => (x : Int)) (nm0 m atm s) ((partsL lk (g0L m atm s)).take p)) (((partsL lk (g0L m atm s))[p]!).take j) ((minL ((partsL lk (g0L m atm s))[p]!) : Nat) : Int)).length = n := by rw [setAll_len, nameF_len, nm0_len]; exact hml
              refine W.rg ?_
              refine SL.val (O.det (fun _ => G.R.lss rfl rfl) rfl Taken.no) ?_
              refine E.fo ?_
              refine W.pick (K:=[(0,_),(6,_),(7,_),(8,_),(11,_),(16,_),(19,_),(21,_),(23,_),(187,_),(188,_),(189,_),(190,_),(191,_),(192,_),(193,_),(194,_),(195,_),(196,_),(197,_),(198,_),(199,_),(200,_),(201,_),(202,_),(203,_),(204,_),(205,_),(206,_),(207,_),(208,_),(209,_),(210,_)]) (Z:=[(101,_),(102,_),(103,_),(113,_),(116,_)]) ⟨rfl,rfl,rfl,rfl,rfl,rfl,rfl,rfl,rfl,rfl,rfl,rfl,rfl,rfl,rfl,rfl,rfl,rfl,rfl,rfl,rfl,rfl,rfl,rfl,rfl,rfl,rfl,rfl,rfl,rfl,rfl,rfl,rfl,trivial⟩ ⟨rfl,rfl,rfl,rfl,rfl,trivial⟩ ?_
              refine W.seq ?_
              first | refine W.cond_d rfl (fun hc16 => ?_) (fun hc16 => ?_) | refine W.cond_nd rfl (fun hc16 => ?_) (fun hc16 => ?_) | refine W.cond rfl (fun hc16 => ?_) (fun hc16 => ?_)
              ·skip
               have hun := hgb.2.1 _ (hpu.2.2 ((partsL lk (g0L m atm s))[p]!)[j]! (mem_at (by omega)))
               refine W.skip (E.to ?_)
               refine W.pick (K:=[(0,_),(6,_),(7,_),(8,_),(11,_),(16,_),(19,_),(21,_),(23,_),(187,_),(188,_),(189,_),(190,_),(191,_),(192,_),(193,_),(194,_),(195,_),(196,_),(197,_),(198,_),(199,_),(200,_),(201,_),(202,_),(203,_),(204,_),(205,_),(206,_),(207,_),(208,_),(209,_),(210,_)]) (Z:=[(101,_),(102,_),(103,_),(113,_),(116,_)]) ⟨rfl,rfl,rfl,rfl,rfl,rfl,rfl,rfl,rfl,rfl,rfl,rfl,rfl,rfl,rfl,rfl,rfl,rfl,rfl,rfl,rfl,rfl,rfl,rfl,rfl,rfl,rfl,rfl,rfl,rfl,rfl,rfl,rfl,trivial⟩ ⟨rfl,rfl,rfl,rfl,rfl,trivial⟩ ?_
               refine W.seq (W.block (W.rg ?_))
               refine SL.val (O.idx_fz (i := j) rfl rfl (rfl) (row_get (by omega)) Try.underlying39 hi3 hs3 rfl Taken.no) ?_
               refine SL.val (O.ld1 (PtI.ofU (PtU.fz rfl)) rfl Try.underlying3 rfl rfl Taken.no) ?_
               refine SL.an rfl rfl (E.fo ?_)
               refine W.pick (K:=[(0,_),(6,_),(7,_),(8,_),(11,_),(16,_),(19,_),(21,_),(23,_),(25,_),(187,_),(188,_),(189,_),(190,_),(191,_),(192,_),(193,_),(194,_),(195,_),(196,_),(197,_),(198,_),(199,_),(200,_),(201,_),(202,_),(203,_),(204,_),(205,_),(206,_),(207,_),(208,_),(209,_),(210,_),(211,_),(212,_)]) (Z:=[(101,_),(102,_),(103,_),(113,_),(116,_)]) ⟨rfl,rfl,rfl,rfl,rfl,rfl,rfl,rfl,rfl,rfl,rfl,rfl,rfl,rfl,rfl,rfl,rfl,rfl,rfl,rfl,rfl,rfl,rfl,rfl,rfl,rfl,rfl,rfl,rfl,rfl,rfl,rfl,rfl,rfl,rfl,rfl,trivial⟩ ⟨rfl,rfl,rfl,rfl,rfl,trivial⟩ ?_
               refine W.draw [⟨[113], [], [], [116]⟩, ⟨[], [], [], []⟩, ⟨[], [], [], []⟩, ⟨[], [], [], []⟩, ⟨[116], [], [], []⟩, ⟨[116], [116], [], []⟩] rfl (by kernel_rfl) (by kernel_rfl) rfl rfl ?_
               refine WH.val (O.ld1 (PtI.ref rfl rfl) rfl Try.underlying39 rfl rfl Taken.no) rfl rfl ?_
               refine WH.mv rfl rfl rfl (WH.mv rfl rfl rfl ?_)
               refine WH.val (O.callp rfl rfl rfl (min_h (l := ((partsL lk (g0L m atm s))[p]!)) (by omega)) (.cons (ArgOk.same rfl) .nil) hcallOk62 rfl Taken.no) rfl rfl ?_
               refine WH.val (O.idx_own (i := (((partsL lk (g0L m atm s))[p]!)[j]!)) rfl rfl rfl (rfl) (by rw [List.length_map]; omega) Try.underlying39 hi3 hs3 rfl Taken.no) rfl rfl ?_
               refine WH.effS (O.st_els (m := 1) rfl rfl rfl (us := [_]) rfl rfl (by kernel_rfl) (by simp) (row_get (by omega)) (by exact Nat.le_of_ble_eq_true rfl) rfl rfl (rows' := ((setAll (nameF (fun x : Nat => (x : Int)) (nm0 m atm s) ((partsL lk (g0L m atm s)).take p)) (((partsL lk (g0L m atm s))[p]!).take j) ((minL ((partsL lk (g0L m atm s))[p]!) : Nat) : Int)).set (((partsL lk (g0L m atm s))[p]!)[j]!) ((minL ((partsL lk (g0L m atm s))[p]!) : Nat) : Int)).map eI) (by exact set_map rfl) Taken.no) rfl rfl rfl (S' := (116, _) :: _) rfl ?_
               refine WH.nil (E.inn (E.to ?_))
               refine W.pick (K:=[(0,_),(6,_),(7,_),(8,_),(11,_),(16,_),(19,_),(21,_),(23,_),(25,_),(187,_),(188,_),(189,_),(190,_),(191,_),(192,_),(193,_),(194,_),(195,_),(196,_),(197,_),(198,_),(199,_),(200,_),(201,_),(202,_),(203,_),(204,_),(205,_),(206,_),(207,_),(208,_),(209,_),(210,_),(211,_),(212,_),(213,_),(214,_),(215,_),(216,_),(217,_)]) (Z:=[(101,_),(102,_),(103,_),(113,_),(116,_)]) ⟨rfl,rfl,rfl,rfl,rfl,rfl,rfl,rfl,rfl,rfl,rfl,rfl,rfl,rfl,rfl,rfl,rfl,rfl,rfl,rfl,rfl,rfl,rfl,rfl,rfl,rfl,rfl,rfl,rfl,rfl,rfl,rfl,rfl,rfl,rfl,rfl,rfl,rfl,rfl,rfl,rfl,trivial⟩ ⟨rfl,rfl,rfl,rfl,rfl,trivial⟩ ?_
               refine W.region ?_
               refine SL.val (O.det (fun _ => by first | exact G.R.add64 rfl rfl (by omega) | exact G.R.add rfl rfl) rfl Taken.no) ?_
               refine SL.mv rfl rfl (SL.nil ?_)
               refine E.again ((j + 1)) (rn []) ?_ ?_ rfl (fixL_spec rfl) ?_ ?_
               · exact (SubF.cons rfl (SubF.cons rfl (SubF.cons rfl (SubF.cons rfl (SubF.cons rfl (SubF.cons rfl (SubF.cons rfl (SubF.cons rfl (SubF.cons rfl (SubF.cons rfl (SubF.cons rfl (SubF.cons rfl (SubF.cons rfl (SubF.cons rfl (SubF.cons rfl (SubF.cons rfl (SubF.cons rfl (SubF.cons rfl (SubF.cons rfl (SubF.cons rfl (SubF.cons rfl (SubF.cons rfl (SubF.cons rfl (SubF.cons rfl (SubF.cons rfl (SubF.cons rfl (SubF.cons rfl (SubF.cons rfl (SubF.cons rfl (SubF.cons rfl (SubF.cons rfl (SubF.cons rfl SubF.nil))))))))))))))))))))))))))))))))
               · exact (SubS.val rfl (by (try dsimp only); exact sb_data (by rw [setAll_sG (by omega)])) (SubS.cons rfl (SubS.cons rfl (SubS.cons rfl (SubS.cons rfl SubS.nil)))))
               ·try dsimp only
                omega
               · (try dsimp only); omega
              ·skip
               refine W.exit (E.th (E.th (E.hit (E.inn (E.to ?_)))))
               refine W.pick (K:=[(0,_),(6,_),(7,_),(8,_),(11,_),(16,_),(19,_),(21,_),(23,_),(187,_),(188,_),(189,_),(190,_),(191,_),(192,_),(193,_),(194,_),(195,_),(196,_),(197,_),(198,_),(199,_),(200,_),(201,_),(202,_),(203,_),(204,_),(205,_),(206,_),(207,_),(208,_),(209,_),(210,_)]) (Z:=[(101,_),(102,_),(103,_),(113,_),(116,_)]) ⟨rfl,rfl,rfl,rfl,rfl,rfl,rfl,rfl,rfl,rfl,rfl,rfl,rfl,rfl,rfl,rfl,rfl,rfl,rfl,rfl,rfl,rfl,rfl,rfl,rfl,rfl,rfl,rfl,rfl,rfl,rfl,rfl,rfl,trivial⟩ ⟨rfl,rfl,rfl,rfl,rfl,trivial⟩ ?_
               refine W.region ?_
               refine SL.val (O.det (fun _ => by first | exact G.R.add64 rfl rfl (by omega) | exact G.R.add rfl rfl) rfl Taken.no) ?_
               refine SL.mv rfl rfl (SL.nil ?_)
               refine E.again ((p + 1)) (rn [(115, 116)]) ?_ ?_ rfl (fixL_spec rfl) ?_ ?_
               · exact (SubF.cons rfl (SubF.val rfl (by (try dsimp only); exact iv_int (by rw [snocP (l := (partsL lk (g0L m atm s))) (by omega), sumV_snoc])) (SubF.cons rfl (SubF.cons rfl (SubF.cons rfl (SubF.cons rfl (SubF.cons rfl (SubF.cons rfl (SubF.cons rfl (SubF.cons rfl (SubF.cons rfl (SubF.cons rfl (SubF.cons rfl (SubF.cons rfl (SubF.cons rfl (SubF.cons rfl (SubF.cons rfl (SubF.cons rfl (SubF.cons rfl (SubF.cons rfl SubF.nil))))))))))))))))))))
               · exact (SubS.val rfl (by (try dsimp only); exact sb_data (by rw [snocP (l := (partsL lk (g0L m atm s))) (by omega), nameF_snoc, show j = ((partsL lk (g0L m atm s))[p]!).length by omega, List.take_length])) (SubS.cons rfl (SubS.cons rfl (SubS.cons rfl (SubS.cons rfl SubS.nil)))))
               ·try dsimp only
                omega
               · (try dsimp only); omega
             ·skip
              refine W.exit (E.th (E.th (E.hit (E.inn (E.to (W.region ?_))))))
              refine SL.val (O.det (fun _ => by first | exact G.R.add64 rfl rfl (by omega) | exact G.R.add rfl rfl) rfl Taken.no) ?_
              refine SL.mv rfl rfl (SL.nil ?_)
              refine E.reround ?_
              refine W.pick (K:=[(0,_),(6,_),(7,_),(8,_),(11,_),(16,_),(19,_),(21,_),(187,_),(188,_),(189,_),(190,_),(191,_),(192,_),(193,_),(194,_),(195,_),(196,_),(197,_),(198,_),(199,_),(220,_)]) (Z:=[(101,_),(102,_),(103,_),(113,_),(115,_)]) ⟨rfl,rfl,rfl,rfl,rfl,rfl,rfl,rfl,rfl,rfl,rfl,rfl,rfl,rfl,rfl,rfl,rfl,rfl,rfl,rfl,rfl,rfl,trivial⟩ ⟨rfl,rfl,rfl,rfl,rfl,trivial⟩ ?_
              refine W.rg ?_
              refine SL.val (O.det (fun _ => G.R.mv (G.R.lss rfl rfl) (congrArg Value.bool (decide_eq_true (by decide)))) rfl Taken.no) ?_
              refine E.fo (W.seq ?_)
              refine W.cond_t rfl ?_
              refine W.skip (E.to (W.seq (W.block (W.rg ?_))))
              refine SL.val (O.idxval (i := 1) rfl rfl (by rfl) (by decide) (by rfl) Try.underlying106 (by kernel_rfl) Try.underlying39 rfl rfl Taken.no) ?_
              refine SL.an rfl rfl ?_
              refine SL.as (i' := vL 1 ((g1L m atm s).map eN)) 21 rfl (by (rw [← hg1]; try rfl)) ?_
              refine E.fo ?_
              refine W.pick (K:=[(0,_),(6,_),(7,_),(8,_),(11,_),(16,_),(19,_),(21,_),(187,_),(188,_),(189,_),(190,_),(191,_),(192,_),(193,_),(194,_),(195,_),(196,_),(197,_),(198,_),(199,_),(220,_)]) (Z:=[(101,_),(102,_),(103,_),(113,_),(115,_)]) ⟨rfl,rfl,rfl,rfl,rfl,rfl,rfl,rfl,rfl,rfl,rfl,rfl,rfl,rfl,rfl,rfl,rfl,rfl,rfl,rfl,rfl,rfl,trivial⟩ ⟨rfl,rfl,rfl,rfl,rfl,trivial⟩ ?_
              refine W.rg (SL.mv rfl rfl (SL.mv rfl rfl ?_))
              refine SL.val (O.nilCheck rfl rfl rfl Taken.no) ?_
              refine SL.val (O.fld_fz rfl Try.underlying78 rfl (m := 0) (by kernel_rfl) rfl rfl Taken.no) ?_
              refine SL.val (O.ld1 (PtI.ofU (PtU.fz rfl)) rfl Try.underlying76 rfl rfl Taken.no) ?_
              refine SL.val (O.callp rfl rfl rfl (parts_h (n := n) (us := (g1L m atm s)) (by omega) hgb.2.2) (.cons (ArgOk.same rfl) (.cons (ArgOk.same rfl) .nil)) hcallOk42 rfl Taken.no) ?_
              refine SL.val (O.lenE (SlOf.fz rfl (by decide)) (by first | exact List.length_map _ | rfl) Try.underlying75 rfl Taken.no) ?_
              refine SL.mv rfl rfl (E.fo ?_)
              refine W.pick (K:=[(0,_),(6,_),(7,_),(8,_),(11,_),(16,_),(19,_),(21,_),(187,_),(188,_),(189,_),(190,_),(191,_),(192,_),(193,_),(194,_),(195,_),(196,_),(197,_),(198,_),(199,_),(220,_)]) (Z:=[(101,_),(102,_),(103,_),(113,_),(115,_)]) ⟨rfl,rfl,rfl,rfl,rfl,rfl,rfl,rfl,rfl,rfl,rfl,rfl,rfl,rfl,rfl,rfl,rfl,rfl,rfl,rfl,rfl,rfl,trivial⟩ ⟨rfl,rfl,rfl,rfl,rfl,trivial⟩ ?_
              refine W.block ?_
              refine W.loopx1 (fun (q : Nat) => [(198, vI (q : Int)), (19, vI (sumV wt ((partsL lk (g0L m atm s)) ++ (partsL lk (g1L m atm s)).take q)))]) (fun (q : Nat) => [(117, .data 3 1 ((nameF (fun x : Nat => (x : Int)) (nm0 m atm s) ((partsL lk (g0L m atm s)) ++ (partsL lk (g1L m atm s)).take q)).map eI)), (113, .cells 39 [.own 117])]) (fun (q : Nat) => q ≤ (partsL lk (g1L m atm s)).length) (fun (q : Nat) => (partsL lk (g1L m atm s)).length - q) (0) (rn [(117, 115)]) (.cons (t := 0) rfl (.cons (t := 6) rfl (.cons (t := 7) rfl (.cons (t := 8) rfl (.cons (t := 11) rfl (.cons (t := 16) rfl (.cons (t := 21) rfl (.cons (t := 187) rfl (.cons (t := 188) rfl (.cons (t := 189) rfl (.cons (t := 190) rfl (.cons (t := 191) rfl (.cons (t := 192) rfl (.cons (t := 193) rfl (.cons (t := 194) rfl (.cons (t := 195) rfl (.cons (t := 196) rfl (.cons (t := 197) rfl (.cons (t := 220) rfl .nil))))))))))))))))))) (.cons (t := 101) rfl (.cons (t := 102) rfl (.cons (t := 103) rfl .nil))) rfl ?_ ?_ rfl rfl ?_ ?_
              · exact (SubF.cons rfl (SubF.val rfl (by exact iv_int (by rw [List.take_zero, List.append_nil, show p = (partsL lk (g0L m atm s)).length by omega, List.take_length])) SubF.nil))
              · exact (SubS.val rfl (by exact sb_data (by rw [List.take_zero, List.append_nil, show p = (partsL lk (g0L m atm s)).length by omega, List.take_length])) (SubS.cons rfl SubS.nil))
              ·skip
               omega
              intro q hinv
              have hq := hinv
              have hpl : ((partsL lk (g0L m atm s)) ++ (partsL lk (g1L m atm s)).take q).length ≤ 400 := by (try rw [List.length_append]); rw [List.length_take]; omega
              have hvb := sumV_b2 hw (L := ((partsL lk (g0L m atm s)) ++ (partsL lk (g1L m atm s)).take q)) (fun p hp => hL p ((List.mem_append.1 hp).elim (fun z => List.mem_append_left _ z) fun z => List.mem_append_right _ (List.mem_of_mem_take z)))
              refine W.rg ?_
              refine SL.val (O.det (fun _ => G.R.lss rfl rfl) rfl Taken.no) ?_
              refine E.fo (W.seq ?_)
              first | refine W.cond_d rfl (fun hc17 => ?_) (fun hc17 => ?_) | refine W.cond_nd rfl (fun hc17 => ?_) (fun hc17 => ?_) | refine W.cond rfl (fun hc17 => ?_) (fun hc17 => ?_)
              ·skip
               have hpu := partsN_units (mem_at (l := (partsL lk (g1L m atm s))) (i := q) (by omega))
               have hvp := valF_b hw (l := ((partsL lk (g1L m atm s))[q]!)) (by omega)
               refine W.skip (E.to (W.seq (W.block (W.rg ?_))))
               refine SL.val (O.idx_fz (i := q) rfl rfl (rfl) (row_get (by omega)) Try.underlying75 hi39 hs39 rfl Taken.no) ?_
               refine SL.val (O.ld1 (PtI.ofU (PtU.fz rfl)) rfl Try.underlying39 rfl rfl Taken.no) ?_
               refine SL.an rfl rfl (E.fo ?_)
               refine W.pick (K:=[(0,_),(6,_),(7,_),(8,_),(11,_),(16,_),(19,_),(21,_),(23,_),(187,_),(188,_),(189,_),(190,_),(191,_),(192,_),(193,_),(194,_),(195,_),(196,_),(197,_),(198,_),(199,_),(200,_),(201,_),(220,_)]) (Z:=[(101,_),(102,_),(103,_),(113,_),(117,_)]) ⟨rfl,rfl,rfl,rfl,rfl,rfl,rfl,rfl,rfl,rfl,rfl,rfl,rfl,rfl,rfl,rfl,rfl,rfl,rfl,rfl,rfl,rfl,rfl,rfl,rfl,trivial⟩ ⟨rfl,rfl,rfl,rfl,rfl,trivial⟩ ?_
               refine W.rg (SL.mv rfl rfl (SL.mv rfl rfl (SL.mv rfl rfl ?_)))
               refine SL.val (O.callp rfl rfl rfl (value_h (l := ((partsL lk (g1L m atm s))[q]!)) hw (by omega) (fun u hu => hgb.2.2 u (hpu.2.2 u hu))) (.cons (ArgOk.same rfl) (.cons (ArgOk.same rfl) .nil)) hcallOk45 rfl Taken.no) ?_
               refine SL.val (O.det (fun _ => by first | exact G.R.add64 rfl rfl (by omega) | exact G.R.add rfl rfl) rfl Taken.no) ?_
               refine SL.an rfl rfl (E.fo ?_)
               refine W.pick (K:=[(0,_),(6,_),(7,_),(8,_),(11,_),(16,_),(19,_),(21,_),(23,_),(187,_),(188,_),(189,_),(190,_),(191,_),(192,_),(193,_),(194,_),(195,_),(196,_),(197,_),(198,_),(199,_),(200,_),(201,_),(202,_),(203,_),(204,_),(205,_),(206,_),(220,_)]) (Z:=[(101,_),(102,_),(103,_),(113,_),(117,_)]) ⟨rfl,rfl,rfl,rfl,rfl,rfl,rfl,rfl,rfl,rfl,rfl,rfl,rfl,rfl,rfl,rfl,rfl,rfl,rfl,rfl,rfl,rfl,rfl,rfl,rfl,rfl,rfl,rfl,rfl,rfl,trivial⟩ ⟨rfl,rfl,rfl,rfl,rfl,trivial⟩ ?_
               refine W.rg (SL.mv rfl rfl ?_)
               refine SL.val (O.lenE (SlOf.fz rfl (by decide)) (by first | exact List.length_map _ | rfl) Try.underlying39 rfl Taken.no) ?_
               refine SL.mv rfl rfl (E.fo ?_)
               refine W.pick (K:=[(0,_),(6,_),(7,_),(8,_),(11,_),(16,_),(19,_),(21,_),(23,_),(187,_),(188,_),(189,_),(190,_),(191,_),(192,_),(193,_),(194,_),(195,_),(196,_),(197,_),(198,_),(199,_),(200,_),(201,_),(202,_),(203,_),(204,_),(205,_),(206,_),(207,_),(208,_),(209,_),(220,_)]) (Z:=[(101,_),(102,_),(103,_),(113,_),(117,_)]) ⟨rfl,rfl,rfl,rfl,rfl,rfl,rfl,rfl,rfl,rfl,rfl,rfl,rfl,rfl,rfl,rfl,rfl,rfl,rfl,rfl,rfl,rfl,rfl,rfl,rfl,rfl,rfl,rfl,rfl,rfl,rfl,rfl,rfl,trivial⟩ ⟨rfl,rfl,rfl,rfl,rfl,trivial⟩ ?_
               refine W.block ?_
               refine W.loopx1 (fun (j : Nat) => [(209, vI (j : Int))]) (fun (j : Nat) => [(118, .data 3 1 ((setAll (nameF (fun x : Nat => (x : Int)) (nm0 m atm s) ((partsL lk (g0L m atm s)) ++ (partsL lk (g1L m atm s)).take q)) (((partsL lk (g1L m atm s))[q]!).take j) ((minL ((partsL lk (g1L m atm s))[q]!) : Nat) : Int)).map eI)), (113, .cells 39 [.own 118])]) (fun (j : Nat) => j ≤ ((partsL lk (g1L m atm s))[q]!).length) (fun (j : Nat) => ((partsL lk (g1L m atm s))[q]!).length - j) (0) (rn [(118, 117)]) (.cons (t := 0) rfl (.cons (t := 6) rfl (.cons (t := 7) rfl (.cons (t := 8) rfl (.cons (t := 11) rfl (.cons (t := 16) rfl (.cons (t := 19) rfl (.cons (t := 21) rfl (.cons (t := 23) rfl (.cons (t := 187) rfl (.cons (t := 188) rfl (.cons (t := 189) rfl (.cons (t := 190) rfl (.cons (t := 191) rfl (.cons (t := 192) rfl (.cons (t := 193) rfl (.cons (t := 194) rfl (.cons (t := 195) rfl (.cons (t := 196) rfl (.cons (t := 197) rfl (.cons (t := 198) rfl (.cons (t := 199) rfl (.cons (t := 200) rfl (.cons (t := 201) rfl (.cons (t := 202) rfl (.cons (t := 203) rfl (.cons (t := 204) rfl (.cons (t := 205) rfl (.cons (t := 206) rfl (.cons (t := 207) rfl (.cons (t := 208) rfl (.cons (t := 220) rfl .nil)))))))))))))))))))))))))))))))) (.cons (t := 101) rfl (.cons (t := 102) rfl (.cons (t := 103) rfl .nil))) rfl ?_ ?_ rfl rfl ?_ ?_
               · exact (SubF.cons rfl SubF.nil)
               · exact (SubS.val rfl (by exact sb_data (by rw [List.take_zero]; rfl)) (SubS.cons rfl SubS.nil))
               ·skip
                omega
               intro j hinv
               have hj := hinv
               have hnl : (setAll (nameF (fun x : Nat => (x : Int)) (nm0 m atm s) ((partsL lk (g0L m atm s)) ++ (partsL lk (g1L m atm s)).take q)) (((partsL lk (g1L m atm s))[q]!).take j) ((minL ((partsL lk (g1L m atm s))[q]!) : Nat) : Int)).length = n := by rw [setAll_len, nameF_len, nm0_len]; exact hml
               refine W.rg ?_
               refine SL.val (O.det (fun _ => G.R.lss rfl rfl) rfl Taken.no) ?_
               refine E.fo ?_
               refine W.pick (K:=[(0,_),(6,_),(7,_),(8,_),(11,_),(16,_),(19,_),(21,_),(23,_),(187,_),(188,_),(189,_),(190,_),(191,_),(192,_),(193,_),(194,_),(195,_),(196,_),(197,_),(198,_),(199,_),(200,_),(201,_),(202,_),(203,_),(204,_),(205,_),(206,_),(207,_),(208,_),(209,_),(210,_),(220,_)]) (Z:=[(101,_),(102,_),(103,_),(113,_),(118,_)]) ⟨rfl,rfl,rfl,rfl,rfl,rfl,rfl,rfl,rfl,rfl,rfl,rfl,rfl,rfl,rfl,rfl,rfl,rfl,rfl,rfl,rfl,rfl,rfl,rfl,rfl,rfl,rfl,rfl,rfl,rfl,rfl,rfl,rfl,rfl,trivial⟩ ⟨rfl,rfl,rfl,rfl,rfl,trivial⟩ ?_
               refine W.seq ?_
               first | refine W.cond_d rfl (fun hc18 => ?_) (fun hc18 => ?_) | refine W.cond_nd rfl (fun hc18 => ?_) (fun hc18 => ?_) | refine W.cond rfl (fun hc18 => ?_) (fun hc18 => ?_)
               ·skip
                have hun := hgb.2.2 _ (hpu.2.2 ((partsL lk (g1L m atm s))[q]!)[j]! (mem_at (by omega)))
                refine W.skip (E.to ?_)
                refine W.pick (K:=[(0,_),(6,_),(7,_),(8,_),(11,_),(16,_),(19,_),(21,_),(23,_),(187,_),(188,_),(189,_),(190,_),(191,_),(192,_),(193,_),(194,_),(195,_),(196,_),(197,_),(198,_),(199,_),(200,_),(201,_),(202,_),(203,_),(204,_),(205,_),(206,_),(207,_),(208,_),(209,_),(210,_),(220,_)]) (Z:=[(101,_),(102,_),(103,_),(113,_),(118,_)]) ⟨rfl,rfl,rfl,rfl,rfl,rfl,rfl,rfl,rfl,rfl,rfl,rfl,rfl,rfl,rfl,rfl,rfl,rfl,rfl,rfl,rfl,rfl,rfl,rfl,rfl,rfl,rfl,rfl,rfl,rfl,rfl,rfl,rfl,rfl,trivial⟩ ⟨rfl,rfl,rfl,rfl,rfl,trivial⟩ ?_
                refine W.seq (W.block (W.rg ?_))
                refine SL.val (O.idx_fz (i := j) rfl rfl (rfl) (row_get (by omega)) Try.underlying39 hi3 hs3 rfl Taken.no) ?_
                refine SL.val (O.ld1 (PtI.ofU (PtU.fz rfl)) rfl Try.underlying3 rfl rfl Taken.no) ?_
                refine SL.an rfl rfl (E.fo ?_)
                refine W.pick (K:=[(0,_),(6,_),(7,_),(8,_),(11,_),(16,_),(19,_),(21,_),(23,_),(25,_),(187,_),(188,_),(189,_),(190,_),(191,_),(192,_),(193,_),(194,_),(195,_),(196,_),(197,_),(198,_),(199,_),(200,_),(201,_),(202,_),(203,_),(204,_),(205,_),(206,_),(207,_),(208,_),(209,_),(210,_),(211,_),(212,_),(220,_)]) (Z:=[(101,_),(102,_),(103,_),(113,_),(118,_)]) ⟨rfl,rfl,rfl,rfl,rfl,rfl,rfl,rfl,rfl,rfl,rfl,rfl,rfl,rfl,rfl,rfl,rfl,rfl,rfl,rfl,rfl,rfl,rfl,rfl,rfl,rfl,rfl,rfl,rfl,rfl,rfl,rfl,rfl,rfl,rfl,rfl,rfl,trivial⟩ ⟨rfl,rfl,rfl,rfl,rfl,trivial⟩ ?_
                refine W.draw [⟨[113], [], [], [118]⟩, ⟨[], [], [], []⟩, ⟨[], [], [], []⟩, ⟨[], [], [], []⟩, ⟨[118], [], [], []⟩, ⟨[118], [118], [], []⟩] rfl (by kernel_rfl) (by kernel_rfl) rfl rfl ?_
                refine WH.val (O.ld1 (PtI.ref rfl rfl) rfl Try.underlying39 rfl rfl Taken.no) rfl rfl ?_
                refine WH.mv rfl rfl rfl (WH.mv rfl rfl rfl ?_)
                refine WH.val (O.callp rfl rfl rfl (min_h (l := ((partsL lk (g1L m atm s))[q]!)) (by omega)) (.cons (ArgOk.same rfl) .nil) hcallOk62 rfl Taken.no) rfl rfl ?_
                refine WH.val (O.idx_own (i := (((partsL lk (g1L m atm s))[q]!)[j]!)) rfl rfl rfl (rfl) (by rw [List.length_map]; omega) Try.underlying39 hi3 hs3 rfl Taken.no) rfl rfl ?_
                refine WH.effS (O.st_els (m := 1) rfl rfl rfl (us := [_]) rfl rfl (by kernel_rfl) (by simp) (row_get (by omega)) (by exact Nat.le_of_ble_eq_true rfl) rfl rfl (rows' := ((setAll (nameF (fun x : Nat => (x : Int)) (nm0 m atm s) ((partsL lk (g0L m atm s)) ++ (partsL lk (g1L m atm s)).take q)) (((partsL lk (g1L m atm s))[q]!).take j) ((minL ((partsL lk (g1L m atm s))[q]!) : Nat) : Int)).set (((partsL lk (g1L m atm s))[q]!)[j]!) ((minL ((partsL lk (g1L m atm s))[q]!) : Nat) : Int)).map eI) (by exact set_map rfl) Taken.no) rfl rfl rfl (S' := (118, _) :: _) rfl ?_
                refine WH.nil (E.inn (E.to ?_))
                refine W.pick (K:=[(0,_),(6,_),(7,_),(8,_),(11,_),(16,_),(19,_),(21,_),(23,_),(25,_),(187,_),(188,_),(189,_),(190,_),(191,_),(192,_),(193,_),(194,_),(195,_),(196,_),(197,_),(198,_),(199,_),(200,_),(201,_),(202,_),(203,_),(204,_),(205,_),(206,_),(207,_),(208,_),(209,_),(210,_),(211,_),(212,_),(213,_),(214,_),(215,_),(216,_),(217,_),(220,_)]) (Z:=[(101,_),(102,_),(103,_),(113,_),(118,_)]) ⟨rfl,rfl,rfl,rfl,rfl,rfl,rfl,rfl,rfl,rfl,rfl,rfl,rfl,rfl,rfl,rfl,rfl,rfl,rfl,rfl,rfl,rfl,rfl,rfl,rfl,rfl,rfl,rfl,rfl,rfl,rfl,rfl,rfl,rfl,rfl,rfl,rfl,rfl,rfl,rfl,rfl,rfl,trivial⟩ ⟨rfl,rfl,rfl,rfl,rfl,trivial⟩ ?_
                refine W.region ?_
                refine SL.val (O.det (fun _ => by first | exact G.R.add64 rfl rfl (by omega) | exact G.R.add rfl rfl) rfl Taken.no) ?_
                refine SL.mv rfl rfl (SL.nil ?_)
                refine E.again ((j + 1)) (rn []) ?_ ?_ rfl (fixL_spec rfl) ?_ ?_
                · exact (SubF.cons rfl (SubF.cons rfl (SubF.cons rfl (SubF.cons rfl (SubF.cons rfl (SubF.cons rfl (SubF.cons rfl (SubF.cons rfl (SubF.cons rfl (SubF.cons rfl (SubF.cons rfl (SubF.cons rfl (SubF.cons rfl (SubF.cons rfl (SubF.cons rfl (SubF.cons rfl (SubF.cons rfl (SubF.cons rfl (SubF.cons rfl (SubF.cons rfl (SubF.cons rfl (SubF.cons rfl (SubF.cons rfl (SubF.cons rfl (SubF.cons rfl (SubF.cons rfl (SubF.cons rfl (SubF.cons rfl (SubF.cons rfl (SubF.cons rfl (SubF.cons rfl (SubF.cons rfl (SubF.cons rfl SubF.nil)))))))))))))))))))))))))))))))))
                · exact (SubS.val rfl (by (try dsimp only); exact sb_data (by rw [setAll_sG (by omega)])) (SubS.cons rfl (SubS.cons rfl (SubS.cons rfl (SubS.cons rfl SubS.nil)))))
                ·try dsimp only
                 omega
                · (try dsimp only); omega
               ·skip
                refine W.exit (E.th (E.th (E.hit (E.inn (E.to ?_)))))
                refine W.pick (K:=[(0,_),(6,_),(7,_),(8,_),(11,_),(16,_),(19,_),(21,_),(23,_),(187,_),(188,_),(189,_),(190,_),(191,_),(192,_),(193,_),(194,_),(195,_),(196,_),(197,_),(198,_),(199,_),(200,_),(201,_),(202,_),(203,_),(204,_),(205,_),(206,_),(207,_),(208,_),(209,_),(210,_),(220,_)]) (Z:=[(101,_),(102,_),(103,_),(113,_),(118,_)]) ⟨rfl,rfl,rfl,rfl,rfl,rfl,rfl,rfl,rfl,rfl,rfl,rfl,rfl,rfl,rfl,rfl,rfl,rfl,rfl,rfl,rfl,rfl,rfl,rfl,rfl,rfl,rfl,rfl,rfl,rfl,rfl,rfl,rfl,rfl,trivial⟩ ⟨rfl,rfl,rfl,rfl,rfl,trivial⟩ ?_
                refine W.region ?_
                refine SL.val (O.det (fun _ => by first | exact G.R.add64 rfl rfl (by omega) | exact G.R.add rfl rfl) rfl Taken.no) ?_
                refine SL.mv rfl rfl (SL.nil ?_)
                refine E.again ((q + 1)) (rn [(117, 118)]) ?_ ?_ rfl (fixL_spec rfl) ?_ ?_
                · exact (SubF.cons rfl (SubF.val rfl (by (try dsimp only); exact iv_int (by rw [snocP (l := (partsL lk (g1L m atm s))) (by omega), ← List.append_assoc, sumV_snoc])) (SubF.cons rfl (SubF.cons rfl (SubF.cons rfl (SubF.cons rfl (SubF.cons rfl (SubF.cons rfl (SubF.cons rfl (SubF.cons rfl (SubF.cons rfl (SubF.cons rfl (SubF.cons rfl (SubF.cons rfl (SubF.cons rfl (SubF.cons rfl (SubF.cons rfl (SubF.cons rfl (SubF.cons rfl (SubF.cons rfl (SubF.cons rfl SubF.nil)))))))))))))))))))))
                · exact (SubS.val rfl (by (try dsimp only); exact sb_data (by rw [snocP (l := (partsL lk (g1L m atm s))) (by omega), ← List.append_assoc, nameF_snoc, show j = ((partsL lk (g1L m atm s))[q]!).length by omega, List.take_length])) (SubS.cons rfl (SubS.cons rfl (SubS.cons rfl (SubS.cons rfl SubS.nil)))))
                ·try dsimp only
                 omega
                · (try dsimp only); omega
              ·skip
               refine W.exit (E.th (E.th (E.hit (E.inn (E.to (W.region ?_))))))
               refine SL.val (O.det (fun _ => by first | exact G.R.add64 rfl rfl (by omega) | exact G.R.add rfl rfl) rfl Taken.no) ?_
               refine SL.mv rfl rfl (SL.nil ?_)
               refine E.reround ?_
               refine W.pick (K:=[(0,_),(6,_),(7,_),(8,_),(11,_),(16,_),(19,_),(21,_),(187,_),(188,_),(189,_),(190,_),(191,_),(192,_),(193,_),(194,_),(195,_),(196,_),(197,_),(198,_),(199,_),(220,_)]) (Z:=[(101,_),(102,_),(103,_),(113,_),(117,_)]) ⟨rfl,rfl,rfl,rfl,rfl,rfl,rfl,rfl,rfl,rfl,rfl,rfl,rfl,rfl,rfl,rfl,rfl,rfl,rfl,rfl,rfl,rfl,trivial⟩ ⟨rfl,rfl,rfl,rfl,rfl,trivial⟩ ?_
               refine W.rg ?_
               refine SL.val (O.det (fun _ => G.R.mv (G.R.lss rfl rfl) (congrArg Value.bool (decide_eq_false (by decide)))) rfl Taken.no) ?_
               refine E.fo (W.seq ?_)
               refine W.cond_f rfl ?_
               refine W.exit (E.th (E.th (E.hit (E.to (W.rg ?_)))))
               refine SL.val (O.ld1 (PtI.ref rfl rfl) rfl Try.underlying39 rfl rfl Taken.no) ?_
               refine SL.mv rfl rfl (SL.mv rfl rfl ?_)
               refine SL.val (O.det (fun _ => by first | exact G.R.sub64 rfl rfl (by omega) | exact G.R.sub rfl rfl) rfl Taken.no) ?_
               refine SL.an rfl rfl (SL.an rfl rfl (SL.an rfl rfl (E.fo ?_)))
               refine W.pick (K:=[(6,_),(7,_),(8,_)]) (Z:=[(101,_),(102,_),(103,_),(113,_),(117,_)]) ⟨rfl,rfl,rfl,trivial⟩ ⟨rfl,rfl,rfl,rfl,rfl,trivial⟩ ?_
               refine W.ret ?_
               refine E.freeze 117 rfl (F' := [(6, _)]) (⟨⟨_, rfl, rfl⟩, trivial⟩) ?_
               refine E.fin (rs := [_, _, _]) (rn []) (.inl rfl) rfl (.cons (ResOne.tmp rfl) (.cons (ResOne.tmp rfl) (.cons (ResOne.tmp rfl) .nil))) ?_ ?_ rfl (fixL_spec rfl)
               ·skip
                have hyes : posF n bar atm m s := ⟨hpre, by rw [← hit_eq hml hb]; exact hcl⟩
                rw [← hs, apN_y hyes, apG_y hyes, dec_t hyes, gnF, hfe, hth, show q = (partsL lk (g1L m atm s)).length by omega, List.take_length]; rfl
               · exact SubS.nil
     ·skip
      first | have hg5p := G.gA7 hg5 | have hg5p := G.gA8 hg5 | have hg5p := hg5
      refine WH.sk rfl rfl rfl hg5 (WH.sk rfl rfl rfl hg5 (WH.sk rfl rfl rfl hg5 ?_))
      refine WH.val (O.pick_t rfl (G.ne_f hg5) rfl rfl (Taken.yes rfl rfl hg4)) rfl rfl ?_
      refine WH.val (O.pick_t rfl hg4 rfl rfl (Taken.yes rfl rfl hg3)) rfl rfl ?_
      refine WH.val (O.pick_f rfl hg3 rfl rfl Taken.no) rfl rfl ?_
      refine WH.nil (E.to ?_)
      refine W.pick (K:=[(0,_),(1,_),(5,_),(6,_),(7,_),(8,_),(60,_)]) (Z:=[(101,_)]) ⟨rfl,rfl,rfl,rfl,rfl,rfl,rfl,trivial⟩ ⟨rfl,trivial⟩ ?_
      refine W.cond_t rfl ?_
      refine W.rg (SL.an rfl rfl (SL.an rfl rfl (SL.an rfl rfl (E.fo (W.ret (E.thr ?_))))))
      refine E.nilsl 6 1 rfl ?_
      refine E.fin (rs := [_, _, _]) (rn []) (.inl rfl) rfl (.cons (ResOne.tmp rfl) (.cons (ResOne.tmp rfl) (.cons (ResOne.tmp rfl) .nil))) ?_ ?_ rfl (fixL_spec rfl)
      ·skip
       first | ((have hno : ¬ posF n bar atm m ⟨u, f, t⟩ := fun q => by ((obtain ⟨⟨⟨q1, q2, q3, q4, q5⟩, q6, q7, q8⟩, q9⟩ := posF_iff.1 q); (try simp only [Int.toNat_natCast] at q6 q7 q8); (first | omega | (have q5 := q5 (by omega); simp_all)))); rw [apN_n hno, apG_n hno, dec_f hno]; rfl)
      · exact SubS.nil
    ·skip
     first | have hg4p := G.gA5 hg4 | have hg4p := G.gA6 hg4 | have hg4p := hg4
     refine WH.sk rfl rfl rfl hg4 (WH.sk rfl rfl rfl hg4 (WH.sk rfl rfl rfl hg4 ?_))
     refine WH.skip (OpOk.not2 rfl rfl rfl) ?_
     refine WH.skip (OpOk.not2 rfl rfl rfl) ?_
     refine WH.skip (OpOk.not2 rfl rfl rfl) ?_
     refine WH.sk rfl rfl rfl hg4 ?_
     refine WH.val (O.pick_f rfl (G.ne_t hg4) rfl rfl (Taken.yes rfl rfl hg3)) rfl rfl ?_
     refine WH.val (O.pick_f rfl hg3 rfl rfl Taken.no) rfl rfl ?_
     refine WH.nil (E.to ?_)
     refine W.pick (K:=[(0,_),(1,_),(5,_),(6,_),(7,_),(8,_),(60,_)]) (Z:=[(101,_)]) ⟨rfl,rfl,rfl,rfl,rfl,rfl,rfl,trivial⟩ ⟨rfl,trivial⟩ ?_
     refine W.cond_f rfl ?_
     refine W.skip (E.to (W.rg ?_))
     obtain ⟨t, rfl⟩ : ∃ k : Nat, t = (k : Int) := ⟨t.toNat, by omega⟩
     have hul2 := units_len m t
     have hvb2 := valF_b hw (l := unitsL m t) (by omega)
     have hTn : ∀ u ∈ unitsL m t, u < n := fun u hu => ((mem_here hml).1 hu).1
     obtain ⟨f, rfl⟩ : ∃ k : Nat, f = (k : Int) := ⟨f.toNat, by omega⟩
     have hul := units_len m m[f]!
     have hvb1 := valF_b hw (l := (unitsL m m[f]!)) (by omega)
     have hHn : ∀ u ∈ (unitsL m m[f]!), u < n := fun u hu => ((mem_here hml).1 hu).1
     refine SL.mv rfl rfl (SL.mv rfl rfl ?_)
     refine SL.val (O.fld_ref (o' := 1) rfl Try.underlying55 rfl (m := 0) (by kernel_rfl) rfl rfl Taken.no) ?_
     refine SL.val (O.ld1 (PtI.ref rfl rfl) rfl Try.underlying3 rfl rfl Taken.no) ?_
     refine SL.val (O.idx_fz (i := f) rfl rfl (rfl) (row_get (by omega)) Try.underlying39 hi3 hs3 rfl Taken.no) ?_
     refine SL.val (O.ld1 (PtI.ofU (PtU.fz rfl)) rfl Try.underlying3 rfl rfl Taken.no) ?_
     refine SL.memS (O.call (rn [(0, 119)]) [] rfl rfl rfl (units_h (l := m) (c := m[f]!) (by omega)) (.cons (ArgOk.same rfl) (.cons (ArgOk.same rfl) .nil)) SubS.nil rfl rfl rfl rfl rfl (.inl rfl) hcallOk46 (r' := .own 119) rfl rfl Taken.no) rfl rfl (S' := (119, .data _ _ _) :: _) rfl ?_
     refine SL.an rfl rfl (E.fo (W.rg (SL.an rfl rfl (E.fo (W.seq (W.rg ?_))))))
     refine SL.val (O.fld_ref (o' := 2) rfl Try.underlying55 rfl (m := 0) (by kernel_rfl) rfl rfl Taken.no) ?_
     refine SL.val (O.ld1 (PtI.ref rfl rfl) rfl Try.underlying3 rfl rfl Taken.no) ?_
     refine SL.val (O.det (fun _ => G.R.geq rfl rfl) rfl Taken.no) ?_
     refine E.fo ?_
     first | refine W.cond_d rfl (fun hc19 => ?_) (fun hc19 => ?_) | refine W.cond_nd rfl (fun hc19 => ?_) (fun hc19 => ?_) | refine W.cond rfl (fun hc19 => ?_) (fun hc19 => ?_)
     ·skip
      refine W.seq (W.seq ?_)
      refine W.draw [⟨[], [], [], []⟩, ⟨[], [], [], [101]⟩, ⟨[101], [], [], []⟩, ⟨[], [], [], []⟩, ⟨[], [], [], []⟩, ⟨[], [], [], [101]⟩, ⟨[101], [], [], []⟩, ⟨[], [], [], []⟩, ⟨[], [], [], []⟩, ⟨[], [], [], []⟩, ⟨[], [], [], [101]⟩, ⟨[101], [], [], []⟩, ⟨[], [], [], []⟩, ⟨[], [], [], []⟩, ⟨[], [], [], [101]⟩, ⟨[101], [], [], []⟩, ⟨[], [], [], []⟩, ⟨[], [], [], []⟩] rfl (by kernel_rfl) (by kernel_rfl) rfl rfl ?_
      refine WH.mv rfl rfl rfl ?_
      refine WH.val (O.fld_ref (o' := 2) rfl Try.underlying55 rfl (m := 0) (by kernel_rfl) rfl rfl Taken.no) rfl rfl ?_
      refine WH.val (O.ld1 (PtI.ref rfl rfl) rfl Try.underlying3 rfl rfl Taken.no) rfl rfl ?_
      refine WH.val (O.idx_fz (i := t) rfl rfl (rfl) (row_get (by omega)) Try.underlying39 hi3 hs3 rfl Taken.no) rfl rfl ?_
      refine WH.val (O.ld1 (PtI.ofU (PtU.fz rfl)) rfl Try.underlying3 rfl rfl Taken.no) rfl rfl ?_
      refine WH.val (O.fld_ref (o' := 2) rfl Try.underlying55 rfl (m := 0) (by kernel_rfl) rfl rfl Taken.no) rfl rfl ?_
      refine WH.val (O.ld1 (PtI.ref rfl rfl) rfl Try.underlying3 rfl rfl Taken.no) rfl rfl ?_
      refine WH.val (O.det (fun _ => G.R.neq rfl rfl) rfl Taken.no) rfl rfl ?_
      refine WH.mv rfl rfl rfl ?_
      refine WH.case (j := 8) (g := 79) (want := false) rfl rfl (fun hg20 => ?_) (fun hg20 => ?_)
      ·skip
       first | have hg20p := G.gA3 hg20 | have hg20p := G.gA4 hg20 | have hg20p := hg20
       refine WH.val (O.move rfl rfl (Taken.yes rfl rfl hg20)) rfl rfl ?_
       refine WH.val (O.fld_ref (o' := 1) rfl Try.underlying55 rfl (m := 0) (by kernel_rfl) rfl rfl (Taken.yes rfl rfl hg20)) rfl rfl ?_
       refine WH.val (O.ld1 (PtI.ref rfl rfl) rfl Try.underlying3 rfl rfl (Taken.yes rfl rfl hg20)) rfl rfl ?_
       refine WH.val (O.idx_fz (i := f) rfl rfl (rfl) (row_get (by omega)) Try.underlying39 hi3 hs3 rfl (Taken.yes rfl rfl hg20)) rfl rfl ?_
       refine WH.val (O.ld1 (PtI.ofU (PtU.fz rfl)) rfl Try.underlying3 rfl rfl (Taken.yes rfl rfl hg20)) rfl rfl ?_
       refine WH.val (O.fld_ref (o' := 2) rfl Try.underlying55 rfl (m := 0) (by kernel_rfl) rfl rfl (Taken.yes rfl rfl hg20)) rfl rfl ?_
       refine WH.val (O.ld1 (PtI.ref rfl rfl) rfl Try.underlying3 rfl rfl (Taken.yes rfl rfl hg20)) rfl rfl ?_
       refine WH.val (O.det (fun _ => G.R.eql rfl rfl) rfl (Taken.yes rfl rfl hg20)) rfl rfl ?_
       refine WH.val (O.pick_f rfl hg20 rfl rfl Taken.no) rfl rfl ?_
       refine WH.nil (E.to ?_)
       refine W.pick (K:=[(0,_),(1,_),(5,_),(6,_),(7,_),(8,_),(9,_),(10,_),(88,_)]) (Z:=[(101,_),(119,_)]) ⟨rfl,rfl,rfl,rfl,rfl,rfl,rfl,rfl,rfl,trivial⟩ ⟨rfl,rfl,trivial⟩ ?_
       first | refine W.cond_d rfl (fun hc21 => ?_) (fun hc21 => ?_) | refine W.cond_nd rfl (fun hc21 => ?_) (fun hc21 => ?_) | refine W.cond rfl (fun hc21 => ?_) (fun hc21 => ?_)
       ·skip
        refine W.rg (SL.an rfl rfl (SL.an rfl rfl (SL.an rfl rfl (E.fo (W.ret (E.thr (E.thr ?_)))))))
        refine E.nilsl 6 1 rfl ?_
        refine E.fin (rs := [_, _, _]) (rn []) (.inl rfl) rfl (.cons (ResOne.tmp rfl) (.cons (ResOne.tmp rfl) (.cons (ResOne.tmp rfl) .nil))) ?_ ?_ rfl (fixL_spec rfl)
        ·skip
         first | ((have hno : ¬ posF n bar atm m ⟨u, (f : Int), (t : Int)⟩ := fun q => by ((obtain ⟨⟨⟨q1, q2, q3, q4, q5⟩, q6, q7, q8⟩, q9⟩ := posF_iff.1 q); (try simp only [Int.toNat_natCast] at q6 q7 q8); (have q6 := q6 (by omega); omega))); rw [apN_n hno, apG_n hno, dec_f hno]; rfl)
        · exact SubS.nil
       ·skip
        refine W.skip (E.to (W.region (SL.mv rfl rfl ?_)))
        refine SL.val (O.fld_ref (o' := 2) rfl Try.underlying55 rfl (m := 0) (by kernel_rfl) rfl rfl Taken.no) ?_
        refine SL.val (O.ld1 (PtI.ref rfl rfl) rfl Try.underlying3 rfl rfl Taken.no) ?_
        refine SL.memS (O.call (rn [(0, 120)]) [] rfl rfl rfl (units_h (l := m) (c := t) (by omega)) (.cons (ArgOk.same rfl) (.cons (ArgOk.same rfl) .nil)) SubS.nil rfl rfl rfl rfl rfl (.inl rfl) hcallOk46 (r' := .own 120) rfl rfl Taken.no) rfl rfl (S' := (120, .data _ _ _) :: _) rfl ?_
        refine SL.an rfl rfl (E.fo (W.rg (SL.mv rfl rfl (SL.mv rfl rfl ?_))))
        refine SL.memS (O.call (rn []) [119] rfl rfl rfl (value_h (l := (unitsL m m[f]!)) hw (by omega) hHn) (.cons (ArgOk.same rfl) (.cons (ArgOk.own rfl rfl) .nil)) SubS.nil rfl rfl rfl rfl rfl (.inr ⟨rfl, fun x hx => by simp at hx⟩) hcallOk45 (r' := .u _) rfl rfl Taken.no) rfl rfl (S' := _) rfl ?_
        refine SL.mv rfl rfl (SL.mv rfl rfl ?_)
        refine SL.memS (O.call (rn []) [120] rfl rfl rfl (value_h (l := unitsL m t) hw (by omega) hTn) (.cons (ArgOk.same rfl) (.cons (ArgOk.own rfl rfl) .nil)) SubS.nil rfl rfl rfl rfl rfl (.inr ⟨rfl, fun x hx => by simp at hx⟩) hcallOk45 (r' := .u _) rfl rfl Taken.no) rfl rfl (S' := _) rfl ?_
        refine SL.val (O.det (fun _ => by first | exact G.R.add64 rfl rfl (by omega) | exact G.R.add rfl rfl) rfl Taken.no) ?_
        refine SL.an rfl rfl (E.fo (W.rg ?_))
        refine SL.memS (O.alloc (z := .agg #[.slice none 0 0, .slice none 0 0]) (is := [.u (.sc (.slice none 0 0)), .u (.sc (.slice none 0 0))]) 121 (by kernel_rfl) rfl rfl rfl Taken.no) rfl rfl (S' := (121, _) :: _) rfl ?_
        refine E.fo (W.seq (W.rg ?_))
        refine SL.val (O.fld_ref (o' := 0) rfl Try.underlying55 rfl (m := 0) (by kernel_rfl) rfl rfl Taken.no) ?_
        refine SL.val (O.ld1 (PtI.ref rfl rfl) rfl Try.underlying4 rfl rfl Taken.no) ?_
        refine E.fo ?_
        refine W.pick (K:=[(0,_),(1,_),(5,_),(6,_),(7,_),(8,_),(9,_),(10,_),(11,_),(12,_),(101,_)]) (Z:=[(101,_),(119,_),(120,_),(121,_)]) ⟨rfl,rfl,rfl,rfl,rfl,rfl,rfl,rfl,rfl,rfl,rfl,trivial⟩ ⟨rfl,rfl,rfl,rfl,trivial⟩ ?_
        first | refine W.cond_d rfl (fun hc22 => ?_) (fun hc22 => ?_) | refine W.cond_nd rfl (fun hc22 => ?_) (fun hc22 => ?_) | refine W.cond rfl (fun hc22 => ?_) (fun hc22 => ?_)
        ·skip
         obtain rfl : u = true := by simp_all
         refine W.seq (W.seq ?_)
         refine W.draw [⟨[], [], [], []⟩, ⟨[], [], [], [101]⟩, ⟨[101], [], [], []⟩, ⟨[], [], [], []⟩, ⟨[], [], [], []⟩, ⟨[], [], [], [101]⟩, ⟨[101], [], [], []⟩, ⟨[], [], [], []⟩, ⟨[], [], [], []⟩, ⟨[], [], [], [101]⟩, ⟨[101], [], [], []⟩, ⟨[], [], [], [101]⟩, ⟨[101], [], [], []⟩, ⟨[], [], [], []⟩, ⟨[], [], [], []⟩] rfl (by kernel_rfl) (by kernel_rfl) rfl rfl ?_
         refine WH.mv rfl rfl rfl ?_
         refine WH.val (O.fld_ref (o' := 1) rfl Try.underlying55 rfl (m := 0) (by kernel_rfl) rfl rfl Taken.no) rfl rfl ?_
         refine WH.val (O.ld1 (PtI.ref rfl rfl) rfl Try.underlying3 rfl rfl Taken.no) rfl rfl ?_
         refine WH.val (O.idx_fz (i := f) rfl rfl (rfl) (row_get (by omega)) Try.underlying39 hi3 hs3 rfl Taken.no) rfl rfl ?_
         refine WH.val (O.ld1 (PtI.ofU (PtU.fz rfl)) rfl Try.underlying3 rfl rfl Taken.no) rfl rfl ?_
         refine WH.val (O.fld_ref (o' := 1) rfl Try.underlying55 rfl (m := 0) (by kernel_rfl) rfl rfl Taken.no) rfl rfl ?_
         refine WH.val (O.ld1 (PtI.ref rfl rfl) rfl Try.underlying3 rfl rfl Taken.no) rfl rfl ?_
         refine WH.val (O.det (fun _ => G.R.neq rfl rfl) rfl Taken.no) rfl rfl ?_
         refine WH.mv rfl rfl rfl ?_
         refine WH.case (j := 8) (g := 110) (want := false) rfl rfl (fun hg23 => ?_) (fun hg23 => ?_)
         ·skip
          first | have hg23p := G.gA3 hg23 | have hg23p := G.gA4 hg23 | have hg23p := hg23
          refine WH.val (O.fld_ref (o' := 1) rfl Try.underlying55 rfl (m := 0) (by kernel_rfl) rfl rfl (Taken.yes rfl rfl hg23)) rfl rfl ?_
          refine WH.val (O.ld1 (PtI.ref rfl rfl) rfl Try.underlying3 rfl rfl (Taken.yes rfl rfl hg23)) rfl rfl ?_
          refine WH.val (O.fld_ref (o' := 2) rfl Try.underlying55 rfl (m := 0) (by kernel_rfl) rfl rfl (Taken.yes rfl rfl hg23)) rfl rfl ?_
          refine WH.val (O.ld1 (PtI.ref rfl rfl) rfl Try.underlying3 rfl rfl (Taken.yes rfl rfl hg23)) rfl rfl ?_
          refine WH.val (O.det (fun _ => G.R.geq rfl rfl) rfl (Taken.yes rfl rfl hg23)) rfl rfl ?_
          refine WH.val (O.pick_f rfl hg23 rfl rfl Taken.no) rfl rfl ?_
          refine WH.nil (E.to ?_)
          refine W.pick (K:=[(0,_),(1,_),(6,_),(7,_),(8,_),(9,_),(10,_),(11,_),(12,_),(116,_)]) (Z:=[(101,_),(119,_),(120,_),(121,_)]) ⟨rfl,rfl,rfl,rfl,rfl,rfl,rfl,rfl,rfl,rfl,trivial⟩ ⟨rfl,rfl,rfl,rfl,trivial⟩ ?_
          first | refine W.cond_d rfl (fun hc24 => ?_) (fun hc24 => ?_) | refine W.cond_nd rfl (fun hc24 => ?_) (fun hc24 => ?_) | refine W.cond rfl (fun hc24 => ?_) (fun hc24 => ?_)
          ·skip
           refine W.rg (SL.an rfl rfl (SL.an rfl rfl (SL.an rfl rfl (E.fo (W.ret (E.thr (E.thr ?_)))))))
           refine E.nilsl 6 1 rfl ?_
           refine E.fin (rs := [_, _, _]) (rn []) (.inl rfl) rfl (.cons (ResOne.tmp rfl) (.cons (ResOne.tmp rfl) (.cons (ResOne.tmp rfl) .nil))) ?_ ?_ rfl (fixL_spec rfl)
           ·skip
            first | ((have hno : ¬ posF n bar atm m ⟨true, (f : Int), (t : Int)⟩ := fun q => by ((obtain ⟨⟨⟨q1, q2, q3, q4, q5⟩, q6, q7, q8⟩, q9⟩ := posF_iff.1 q); (try simp only [Int.toNat_natCast] at q6 q7 q8); (have q7 := q7 (by trivial); omega))); rw [apN_n hno, apG_n hno, dec_f hno]; rfl)
           · exact SubS.nil
          ·skip
           refine W.skip (E.to (W.region (SL.mv rfl rfl (SL.mv rfl rfl ?_))))
           refine SL.memS (O.app (k' := 122) rfl rfl (SlOf.own rfl rfl) Try.underlying39 hi3 hz3 hs3 rfl rfl (by exact app_map) (by rw [hb3]; (simp only [List.length_map]; omega)) (by (simp only [List.length_map]; omega)) rfl Taken.no) rfl rfl (S' := (122, _) :: (119, .dead) :: _) rfl ?_
           refine SL.val (O.idx_ref (i := 0) (m := 1) rfl rfl (rfl) (by decide) Try.underlying106 (by kernel_rfl) rfl rfl Taken.no) ?_
           refine SL.effS (O.st_ref (m := 1) rfl rfl rfl (js := [_]) rfl rfl (by kernel_rfl) (by simp) (Nat.le_of_ble_eq_true rfl) rfl (is' := [_, _]) rfl Taken.no) (S' := (121, _) :: _) rfl ?_
           refine E.fo (W.seq ?_)
           refine W.freezeC 121 0 122 (is' := [_, _]) rfl rfl rfl rfl ?_
           refine W.nilslC 121 1 1 (is' := [_, _]) rfl rfl rfl ?_
           refine W.region ?_
           obtain ⟨s, hs⟩ : ∃ s : Stp, s = ⟨true, (f : Int), (t : Int)⟩ := ⟨_, rfl⟩
           have hfe : s.f.toNat = f := by rw [hs]; rfl
           have hth : thereL m s.t = unitsL m t := by rw [hs]; exact there_nat m t
           have hg0 : ((unitsL m m[f]!) ++ unitsL m t) = g0L m atm s := by rw [hs]; show _ = unitsL m m[f]! ++ thereL m (t : Int); rw [there_nat]
           have hg1 : ([] : List Nat) = g1L m atm s := by rw [hs]; rfl
           have hpre : preF n atm m s := by rw [hs]; exact ⟨⟨by show (0 : Int) ≤ f; omega, by show (f : Int) < n; omega, by show (t : Int) < (n : Int); omega, by show -1 ≤ (t : Int); omega, fun h => by exfalso; have h2 : (t : Int) < 0 := h; omega⟩, fun h => ⟨by show m[t]! = t; omega, by show m[f]! ≠ t; omega⟩, fun h => ⟨by show m[f]! = f; omega, by show (f : Int) < t; omega⟩, fun h => by cases h⟩
           have hgb := g_b (atm := atm) (s := s) hml
           have hl0 : (partsL lk (g0L m atm s)).length ≤ (g0L m atm s).length := partsN_len
           have hl1 : (partsL lk (g1L m atm s)).length ≤ (g1L m atm s).length := partsN_len
           rw [hg0]
           refine SL.mv rfl rfl ?_
           refine SL.memS (O.call (rn [(0, 123)]) [] rfl rfl rfl (clone_h (rows := m.map eN) (by rw [List.length_map]; omega)) (.cons (ArgOk.same rfl) .nil) SubS.nil rfl rfl rfl rfl rfl (.inl rfl) hcallOk39 (r' := .own 123) rfl rfl Taken.no) rfl rfl (S' := (123, .data _ _ _) :: _) rfl ?_
           refine SL.memS (O.alloc (z := .slice none 0 0) (is := [.u (.sc (.slice none 0 0))]) 124 (by kernel_rfl) rfl rfl rfl Taken.no) rfl rfl (S' := (124, _) :: _) rfl ?_
           refine SL.effS (O.st_ref (m := 1) rfl rfl rfl (js := [_]) rfl rfl (by kernel_rfl) (by simp) (Nat.le_of_ble_eq_true rfl) rfl (is' := [_]) rfl Taken.no) (S' := (124, _) :: _) rfl ?_
           refine E.fo (W.seq (W.rg ?_))
           refine SL.val (O.idx_ref (i := 0) (m := 1) rfl rfl (rfl) (by decide) Try.underlying106 (by kernel_rfl) rfl rfl Taken.no) ?_
           refine SL.val (O.ld1 (PtI.ref rfl rfl) rfl Try.underlying39 rfl rfl Taken.no) ?_
           refine SL.val (O.lenE (SlOf.fz rfl (by decide)) (by first | exact List.length_map _ | rfl) Try.underlying39 rfl Taken.no) ?_
           refine SL.mv rfl rfl (E.fo (W.block ?_))
           refine W.loopx1 (fun (j : Nat) => [(173, vI (j : Int))]) (fun (j : Nat) => [(125, .data 3 1 ((setAll (m.map (fun x : Nat => (x : Int))) ((g0L m atm s).take j) (-1)).map eI)), (124, .cells 39 [.own 125])]) (fun (j : Nat) => j ≤ (g0L m atm s).length) (fun (j : Nat) => (g0L m atm s).length - j) (0) (rn [(125, 123)]) (.cons (t := 0) rfl (.cons (t := 6) rfl (.cons (t := 7) rfl (.cons (t := 8) rfl (.cons (t := 11) rfl (.cons (t := 12) rfl (.cons (t := 16) rfl (.cons (t := 171) rfl (.cons (t := 172) rfl .nil))))))))) (.cons (t := 101) rfl (.cons (t := 120) rfl (.cons (t := 121) rfl .nil))) rfl ?_ ?_ rfl rfl ?_ ?_
           · exact (SubF.cons rfl SubF.nil)
           · exact (SubS.val rfl (by exact sb_data (by rw [List.take_zero]; exact (eI_eN m).symm)) (SubS.cons rfl SubS.nil))
           ·skip
            omega
           intro j hinv
           have hj := hinv
           have hnl : (setAll (m.map (fun x : Nat => (x : Int))) ((g0L m atm s).take j) (-1)).length = n := by rw [setAll_len, List.length_map]; exact hml
           refine W.rg ?_
           refine SL.val (O.det (fun _ => G.R.lss rfl rfl) rfl Taken.no) ?_
           refine E.fo (W.seq ?_)
           first | refine W.cond_d rfl (fun hc25 => ?_) (fun hc25 => ?_) | refine W.cond_nd rfl (fun hc25 => ?_) (fun hc25 => ?_) | refine W.cond rfl (fun hc25 => ?_) (fun hc25 => ?_)
           ·skip
            have hGj := hgb.2.1 (g0L m atm s)[j]! (mem_at (by omega))
            refine W.skip (E.to (W.seq (W.block (W.rg ?_))))
            refine SL.val (O.idx_fz (i := j) rfl rfl (rfl) (row_get (by omega)) Try.underlying39 hi3 hs3 rfl Taken.no) ?_
            refine SL.val (O.ld1 (PtI.ofU (PtU.fz rfl)) rfl Try.underlying3 rfl rfl Taken.no) ?_
            refine SL.an rfl rfl (E.fo (W.region ?_))
            refine SL.val (O.ld1 (PtI.ref rfl rfl) rfl Try.underlying39 rfl rfl Taken.no) ?_
            refine SL.mv rfl rfl ?_
            refine SL.val (O.idx_own (i := ((g0L m atm s)[j]!)) rfl rfl rfl (rfl) (by rw [List.length_map]; omega) Try.underlying39 hi3 hs3 rfl Taken.no) ?_
            refine SL.effS (O.st_els (m := 1) rfl rfl rfl (us := [_]) rfl rfl (by kernel_rfl) (by simp) (row_get (by omega)) (by exact Nat.le_of_ble_eq_true rfl) rfl rfl (rows' := ((setAll (m.map (fun x : Nat => (x : Int))) ((g0L m atm s).take j) (-1)).set ((g0L m atm s)[j]!) (-1)).map eI) (by exact set_map rfl) Taken.no) (S' := (125, _) :: _) rfl ?_
            refine SL.nil (E.inn (E.to (W.region ?_)))
            refine SL.val (O.det (fun _ => by first | exact G.R.add64 rfl rfl (by omega) | exact G.R.add rfl rfl) rfl Taken.no) ?_
            refine SL.mv rfl rfl (SL.nil ?_)
            refine E.again ((j + 1)) (rn []) ?_ ?_ rfl (fixL_spec rfl) ?_ ?_
            · exact (SubF.cons rfl (SubF.cons rfl (SubF.cons rfl (SubF.cons rfl (SubF.cons rfl (SubF.cons rfl (SubF.cons rfl (SubF.cons rfl (SubF.cons rfl (SubF.cons rfl SubF.nil))))))))))
            · exact (SubS.val rfl (by (try dsimp only); exact sb_data (by rw [setAll_sG (by omega)])) (SubS.cons rfl (SubS.cons rfl (SubS.cons rfl (SubS.cons rfl SubS.nil)))))
            ·try dsimp only
             omega
            · (try dsimp only); omega
           ·skip
            refine W.exit (E.th (E.th (E.hit (E.to (W.seq (W.seq ?_))))))
            have hjG : j = (g0L m atm s).length := by omega
            rw [hjG, List.take_length]
            refine W.region (SL.mv rfl rfl ?_)
            refine SL.val (O.nilCheck rfl rfl rfl Taken.no) ?_
            refine SL.val (O.fld_fz rfl Try.underlying78 rfl (m := 0) (by kernel_rfl) rfl rfl Taken.no) ?_
            refine SL.val (O.ld1 (PtI.ofU (PtU.fz rfl)) rfl Try.underlying23 rfl rfl Taken.no) ?_
            refine SL.val (O.makeFunc rfl rfl rfl Taken.no) ?_
            refine SL.memS (O.call (rn [(0, 124), (1, 125)]) [] rfl rfl rfl (containsFuncN (nm := (nm0 m atm s)) (q := bar) (by rw [nm0_len, hml]; exact hb)) (.cons (ArgOk.same rfl) (.cons (ArgOk.same rfl) .nil)) (SubS.cons rfl (SubS.cons rfl SubS.nil)) rfl rfl rfl rfl rfl (.inl rfl) hcallOk63 (r' := .u _) rfl rfl Taken.no) rfl rfl (S' := (124, .cells _ [.own 125]) :: (125, .data _ _ _) :: _) rfl ?_
            refine E.fo ?_
            first | refine W.cond_d rfl (fun hc26 => ?_) (fun hc26 => ?_) | refine W.cond_nd rfl (fun hc26 => ?_) (fun hc26 => ?_) | refine W.cond rfl (fun hc26 => ?_) (fun hc26 => ?_)
            ·skip
             refine W.rg (SL.an rfl rfl (SL.an rfl rfl (SL.an rfl rfl (E.fo (W.ret (E.thr ?_))))))
             refine E.nilsl 6 1 rfl ?_
             refine E.fin (rs := [_, _, _]) (rn []) (.inl rfl) rfl (.cons (ResOne.tmp rfl) (.cons (ResOne.tmp rfl) (.cons (ResOne.tmp rfl) .nil))) ?_ ?_ rfl (fixL_spec rfl)
             ·skip
              have hcl : bar.any (nmHit (nm0 m atm s)) = true := by assumption
              have hno : ¬ posF n bar atm m s := fun q => by rw [hit_eq hml hb, q.2] at hcl; cases hcl
              rw [← hs, apN_n hno, apG_n hno, dec_f hno]; rfl
             · exact SubS.nil
            ·skip
             refine W.skip (E.to (W.rg (SL.an rfl rfl (E.fo (W.seq (W.rg ?_))))))
             have hcl : bar.any (nmHit (nm0 m atm s)) = false := by first | assumption | simp_all
             have hL : ∀ p ∈ gL lk m atm s, p.length ≤ 1000 := fun p hp => by rcases List.mem_append.1 hp with z | z <;> (have := (partsN_units z).2.1; omega)
             refine SL.val (O.ldN (m := 2) (PtI.ref rfl rfl) (js := [_, _]) rfl (Nat.le_of_ble_eq_true rfl) Try.underlying106 rfl (by kernel_rfl) rfl Taken.no) ?_
             refine SL.mv rfl rfl (E.fo (W.block ?_))
             refine W.unroll ?_
             refine W.rg ?_
             refine SL.val (O.det (fun _ => G.R.mv (G.R.lss rfl rfl) (congrArg Value.bool (decide_eq_true (by decide)))) rfl Taken.no) ?_
             refine E.fo (W.seq ?_)
             refine W.cond_t rfl ?_
             refine W.skip (E.to (W.seq (W.block (W.rg ?_))))
             refine SL.val (O.idxval (i := 0) rfl rfl (by rfl) (by decide) (by rfl) Try.underlying106 (by kernel_rfl) Try.underlying39 rfl rfl Taken.no) ?_
             refine SL.an rfl rfl (E.fo (W.rg (SL.mv rfl rfl (SL.mv rfl rfl ?_))))
             refine SL.val (O.nilCheck rfl rfl rfl Taken.no) ?_
             refine SL.val (O.fld_fz rfl Try.underlying78 rfl (m := 0) (by kernel_rfl) rfl rfl Taken.no) ?_
             refine SL.val (O.ld1 (PtI.ofU (PtU.fz rfl)) rfl Try.underlying76 rfl rfl Taken.no) ?_
             refine SL.val (O.callp rfl rfl rfl (parts_h (n := n) (us := (g0L m atm s)) (by omega) hgb.2.1) (.cons (ArgOk.same rfl) (.cons (ArgOk.same rfl) .nil)) hcallOk42 rfl Taken.no) ?_
             refine SL.val (O.lenE (SlOf.fz rfl (by decide)) (by first | exact List.length_map _ | rfl) Try.underlying75 rfl Taken.no) ?_
             refine SL.mv rfl rfl (E.fo ?_)
             refine W.pick (K:=[(0,_),(6,_),(7,_),(8,_),(11,_),(16,_),(19,_),(21,_),(187,_),(188,_),(189,_),(190,_),(191,_),(192,_),(193,_),(194,_),(195,_),(196,_),(197,_),(198,_)]) (Z:=[(101,_),(120,_),(121,_),(124,_),(125,_)]) ⟨rfl,rfl,rfl,rfl,rfl,rfl,rfl,rfl,rfl,rfl,rfl,rfl,rfl,rfl,rfl,rfl,rfl,rfl,rfl,rfl,trivial⟩ ⟨rfl,rfl,rfl,rfl,rfl,trivial⟩ ?_
             refine W.block ?_
             refine W.loopx1 (fun (p : Nat) => [(198, vI (p : Int)), (19, vI (sumV wt ((partsL lk (g0L m atm s)).take p)))]) (fun (p : Nat) => [(126, .data 3 1 ((nameF (fun x : Nat => (x : Int)) (nm0 m atm s) ((partsL lk (g0L m atm s)).take p)).map eI)), (124, .cells 39 [.own 126])]) (fun (p : Nat) => p ≤ (partsL lk (g0L m atm s)).length) (fun (p : Nat) => (partsL lk (g0L m atm s)).length - p) (0) (rn [(126, 125)]) (.cons (t := 0) rfl (.cons (t := 6) rfl (.cons (t := 7) rfl (.cons (t := 8) rfl (.cons (t := 11) rfl (.cons (t := 16) rfl (.cons (t := 21) rfl (.cons (t := 187) rfl (.cons (t := 188) rfl (.cons (t := 189) rfl (.cons (t := 190) rfl (.cons (t := 191) rfl (.cons (t := 192) rfl (.cons (t := 193) rfl (.cons (t := 194) rfl (.cons (t := 195) rfl (.cons (t := 196) rfl (.cons (t := 197) rfl .nil)))))))))))))))))) (.cons (t := 101) rfl (.cons (t := 120) rfl (.cons (t := 121) rfl .nil))) rfl ?_ ?_ rfl rfl ?_ ?_
             · exact (SubF.cons rfl (SubF.val rfl (by exact iv_int rfl) SubF.nil))
             · exact (SubS.val rfl (by exact sb_data (by rw [List.take_zero]; rfl)) (SubS.cons rfl SubS.nil))
             ·skip
              omega
             intro p hinv
             have hp := hinv
             have hpl : ((partsL lk (g0L m atm s)).take p).length ≤ 400 := by (try rw [List.length_append]); rw [List.length_take]; omega
             have hvb := sumV_b2 hw (L := ((partsL lk (g0L m atm s)).take p)) (fun p hp => hL p (List.mem_append_left _ (List.mem_of_mem_take hp)))
             refine W.rg ?_
             refine SL.val (O.det (fun _ => G.R.lss rfl rfl) rfl Taken.no) ?_
             refine E.fo (W.seq ?_)
             first | refine W.cond_d rfl (fun hc27 => ?_) (fun hc27 => ?_) | refine W.cond_nd rfl (fun hc27 => ?_) (fun hc27 => ?_) | refine W.cond rfl (fun hc27 => ?_) (fun hc27 => ?_)
             ·skip
              have hpu := partsN_units (mem_at (l := (partsL lk (g0L m atm s))) (i := p) (by omega))
              have hvp := valF_b hw (l := ((partsL lk (g0L m atm s))[p]!)) (by omega)
              refine W.skip (E.to (W.seq (W.block (W.rg ?_))))
              refine SL.val (O.idx_fz (i := p) rfl rfl (rfl) (row_get (by omega)) Try.underlying75 hi39 hs39 rfl Taken.no) ?_
              refine SL.val (O.ld1 (PtI.ofU (PtU.fz rfl)) rfl Try.underlying39 rfl rfl Taken.no) ?_
              refine SL.an rfl rfl (E.fo (W.rg (SL.mv rfl rfl (SL.mv rfl rfl (SL.mv rfl rfl ?_)))))
              refine SL.val (O.callp rfl rfl rfl (value_h (l := ((partsL lk (g0L m atm s))[p]!)) hw (by omega) (fun u hu => hgb.2.1 u (hpu.2.2 u hu))) (.cons (ArgOk.same rfl) (.cons (ArgOk.same rfl) .nil)) hcallOk45 rfl Taken.no) ?_
              refine SL.val (O.det (fun _ => by first | exact G.R.add64 rfl rfl (by omega) | exact G.R.add rfl rfl) rfl Taken.no) ?_
              refine SL.an rfl rfl (E.fo ?_)
              refine W.pick (K:=[(0,_),(6,_),(7,_),(8,_),(11,_),(16,_),(19,_),(21,_),(23,_),(187,_),(188,_),(189,_),(190,_),(191,_),(192,_),(193,_),(194,_),(195,_),(196,_),(197,_),(198,_),(199,_),(200,_),(201,_),(202,_),(203,_),(204,_),(205,_),(206,_)]) (Z:=[(101,_),(120,_),(121,_),(124,_),(126,_)]) ⟨rfl,rfl,rfl,rfl,rfl,rfl,rfl,rfl,rfl,rfl,rfl,rfl,rfl,rfl,rfl,rfl,rfl,rfl,rfl,rfl,rfl,rfl,rfl,rfl,rfl,rfl,rfl,rfl,rfl,trivial⟩ ⟨rfl,rfl,rfl,rfl,rfl,trivial⟩ ?_
              refine W.rg (SL.mv rfl rfl ?_)
              refine SL.val (O.lenE (SlOf.fz rfl (by decide)) (by first | exact List.length_map _ | rfl) Try.underlying39 rfl Taken.no) ?_
              refine SL.mv rfl rfl (E.fo ?_)
              refine W.pick (K:=[(0,_),(6,_),(7,_),(8,_),(11,_),(16,_),(19,_),(21,_),(23,_),(187,_),(188,_),(189,_),(190,_),(191,_),(192,_),(193,_),(194,_),(195,_),(196,_),(197,_),(198,_),(199,_),(200,_),(201,_),(202,_),(203,_),(204,_),(205,_),(206,_),(207,_),(208,_),(209,_)]) (Z:=[(101,_),(120,_),(121,_),(124,_),(126,_)]) ⟨rfl,rfl,rfl,rfl,rfl,rfl,rfl,rfl,rfl,rfl,rfl,rfl,rfl,rfl,rfl,rfl,rfl,rfl,rfl,rfl,rfl,rfl,rfl,rfl,rfl,rfl,rfl,rfl,rfl,rfl,rfl,rfl,trivial⟩ ⟨rfl,rfl,rfl,rfl,rfl,trivial⟩ ?_
              refine W.block ?_
              refine W.loopx1 (fun (j : Nat) => [(209, vI (j : Int))]) (fun (j : Nat) => [(127, .data 3 1 ((setAll (nameF (fun x : Nat => (x : Int)) (nm0 m atm s) ((partsL lk (g0L m atm s)).take p)) (((partsL lk (g0L m atm s))[p]!).take j) ((minL ((partsL lk (g0L m atm s))[p]!) : Nat) : Int)).map eI)), (124, .cells 39 [.own 127])]) (fun (j : Nat) => j ≤ ((partsL lk (g0L m atm s))[p]!).length) (fun (j : Nat) => ((partsL lk (g0L m atm s))[p]!).length - j) (0) (rn [(127, 126)]) (.cons (t := 0) rfl (.cons (t := 6) rfl (.cons (t := 7) rfl (.cons (t := 8) rfl (.cons (t := 11) rfl (.cons (t := 16) rfl (.cons (t := 19) rfl (.cons (t := 21) rfl (.cons (t := 23) rfl (.cons (t := 187) rfl (.cons (t := 188) rfl (.cons (t := 189) rfl (.cons (t := 190) rfl (.cons (t := 191) rfl (.cons (t := 192) rfl (.cons (t := 193) rfl (.cons (t := 194) rfl (.cons (t := 195) rfl (.cons (t := 196) rfl (.cons (t := 197) rfl (.cons (t := 198) rfl (.cons (t := 199) rfl (.cons (t := 200) rfl (.cons (t := 201) rfl (.cons (t := 202) rfl (.cons (t := 203) rfl (.cons (t := 204) rfl (.cons (t := 205) rfl (.cons (t := 206) rfl (.cons (t := 207) rfl (.cons (t := 208) rfl .nil))))))))))))))))))))))))))))))) (.cons (t := 101) rfl (.cons (t := 120) rfl (.cons (t := 121) rfl .nil))) rfl ?_ ?_ rfl rfl ?_ ?_
              · exact (SubF.cons rfl SubF.nil)
              · exact (SubS.val rfl (by exact sb_data (by rw [List.take_zero]; rfl)) (SubS.cons rfl SubS.nil))
              ·skip
               omega
              intro j hinv
              have hj := hinv
              have hnl : (setAll (nameF (fun x : Nat => (x : Int)) (nm0 m atm s) ((partsL lk (g0L m atm s)).take p)) (((partsL lk (g0L m atm s))[p]!).take j) ((minL ((partsL lk (g0L m atm s))[p]!) : Nat) : Int)).length = n := by rw [setAll_len, nameF_len, nm0_len]; exact hml
              refine W.rg ?_
              refine SL.val (O.det (fun _ => G.R.lss rfl rfl) rfl Taken.no) ?_
              refine E.fo ?_
              refine W.pick (K:=[(0,_),(6,_),(7,_),(8,_),(11,_),(16,_),(19,_),(21,_),(23,_),(187,_),(188,_),(189,_),(190,_),(191,_),(192,_),(193,_),(194,_),(195,_),(196,_),(197,_),(198,_),(199,_),(200,_),(201,_),(202,_),(203,_),(204,_),(205,_),(206,_),(207,_),(208,_),(209,_),(210,_)]) (Z:=[(101,_),(120,_),(121,_),(124,_),(127,_)]) ⟨rfl,rfl,rfl,rfl,rfl,rfl,rfl,rfl,rfl,rfl,rfl,rfl,rfl,rfl,rfl,rfl,rfl,rfl,rfl,rfl,rfl,rfl,rfl,rfl,rfl,rfl,rfl,rfl,rfl,rfl,rfl,rfl,rfl,trivial⟩ ⟨rfl,rfl,rfl,rfl,rfl,trivial⟩ ?_
              refine W.seq ?_
              first | refine W.cond_d rfl (fun hc28 => ?_) (fun hc28 => ?_) | refine W.cond_nd rfl (fun hc28 => ?_) (fun hc28 => ?_) | refine W.cond rfl (fun hc28 => ?_) (fun hc28 => ?_)
              ·skip
               have hun := hgb.2.1 _ (hpu.2.2 ((partsL lk (g0L m atm s))[p]!)[j]! (mem_at (by omega)))
               refine W.skip (E.to ?_)
               refine W.pick (K:=[(0,_),(6,_),(7,_),(8,_),(11,_),(16,_),(19,_),(21,_),(23,_),(187,_),(188,_),(189,_),(190,_),(191,_),(192,_),(193,_),(194,_),(195,_),(196,_),(197,_),(198,_),(199,_),(200,_),(201,_),(202,_),(203,_),(204,_),(205,_),(206,_),(207,_),(208,_),(209,_),(210,_)]) (Z:=[(101,_),(120,_),(121,_),(124,_),(127,_)]) ⟨rfl,rfl,rfl,rfl,rfl,rfl,rfl,rfl,rfl,rfl,rfl,rfl,rfl,rfl,rfl,rfl,rfl,rfl,rfl,rfl,rfl,rfl,rfl,rfl,rfl,rfl,rfl,rfl,rfl,rfl,rfl,rfl,rfl,trivial⟩ ⟨rfl,rfl,rfl,rfl,rfl,trivial⟩ ?_
               refine W.seq (W.block (W.rg ?_))
               refine SL.val (O.idx_fz (i := j) rfl rfl (rfl) (row_get (by omega)) Try.underlying39 hi3 hs3 rfl Taken.no) ?_
               refine SL.val (O.ld1 (PtI.ofU (PtU.fz rfl)) rfl Try.underlying3 rfl rfl Taken.no) ?_
               refine SL.an rfl rfl (E.fo ?_)
               refine W.pick (K:=[(0,_),(6,_),(7,_),(8,_),(11,_),(16,_),(19,_),(21,_),(23,_),(25,_),(187,_),(188,_),(189,_),(190,_),(191,_),(192,_),(193,_),(194,_),(195,_),(196,_),(197,_),(198,_),(199,_),(200,_),(201,_),(202,_),(203,_),(204,_),(205,_),(206,_),(207,_),(208,_),(209,_),(210,_),(211,_),(212,_)]) (Z:=[(101,_),(120,_),(121,_),(124,_),(127,_)]) ⟨rfl,rfl,rfl,rfl,rfl,rfl,rfl,rfl,rfl,rfl,rfl,rfl,rfl,rfl,rfl,rfl,rfl,rfl,rfl,rfl,rfl,rfl,rfl,rfl,rfl,rfl,rfl,rfl,rfl,rfl,rfl,rfl,rfl,rfl,rfl,rfl,trivial⟩ ⟨rfl,rfl,rfl,rfl,rfl,trivial⟩ ?_
               refine W.draw [⟨[124], [], [], [127]⟩, ⟨[], [], [], []⟩, ⟨[], [], [], []⟩, ⟨[], [], [], []⟩, ⟨[127], [], [], []⟩, ⟨[127], [127], [], []⟩] rfl (by kernel_rfl) (by kernel_rfl) rfl rfl ?_
               refine WH.val (O.ld1 (PtI.ref rfl rfl) rfl Try.underlying39 rfl rfl Taken.no) rfl rfl ?_
               refine WH.mv rfl rfl rfl (WH.mv rfl rfl rfl ?_)
               refine WH.val (O.callp rfl rfl rfl (min_h (l := ((partsL lk (g0L m atm s))[p]!)) (by omega)) (.cons (ArgOk.same rfl) .nil) hcallOk62 rfl Taken.no) rfl rfl ?_
               refine WH.val (O.idx_own (i := (((partsL lk (g0L m atm s))[p]!)[j]!)) rfl rfl rfl (rfl) (by rw [List.length_map]; omega) Try.underlying39 hi3 hs3 rfl Taken.no) rfl rfl ?_
               refine WH.effS (O.st_els (m := 1) rfl rfl rfl (us := [_]) rfl rfl (by kernel_rfl) (by simp) (row_get (by omega)) (by exact Nat.le_of_ble_eq_true rfl) rfl rfl (rows' := ((setAll (nameF (fun x : Nat => (x : Int)) (nm0 m atm s) ((partsL lk (g0L m atm s)).take p)) (((partsL lk (g0L m atm s))[p]!).take j) ((minL ((partsL lk (g0L m atm s))[p]!) : Nat) : Int)).set (((partsL lk (g0L m atm s))[p]!)[j]!) ((minL ((partsL lk (g0L m atm s))[p]!) : Nat) : Int)).map eI) (by exact set_map rfl) Taken.no) rfl rfl rfl (S' := (127, _) :: _) rfl ?_
               refine WH.nil (E.inn (E.to ?_))
               refine W.pick (K:=[(0,_),(6,_),(7,_),(8,_),(11,_),(16,_),(19,_),(21,_),(23,_),(25,_),(187,_),(188,_),(189,_),(190,_),(191,_),(192,_),(193,_),(194,_),(195,_),(196,_),(197,_),(198,_),(199,_),(200,_),(201,_),(202,_),(203,_),(204,_),(205,_),(206,_),(207,_),(208,_),(209,_),(210,_),(211,_),(212,_),(213,_),(214,_),(215,_),(216,_),(217,_)]) (Z:=[(101,_),(120,_),(121,_),(124,_),(127,_)]) ⟨rfl,rfl,rfl,rfl,rfl,rfl,rfl,rfl,rfl,rfl,rfl,rfl,rfl,rfl,rfl,rfl,rfl,rfl,rfl,rfl,rfl,rfl,rfl,rfl,rfl,rfl,rfl,rfl,rfl,rfl,rfl,rfl,rfl,rfl,rfl,rfl,rfl,rfl,rfl,rfl,rfl,trivial⟩ ⟨rfl,rfl,rfl,rfl,rfl,trivial⟩ ?_
               refine W.region ?_
               refine SL.val (O.det (fun _ => by first | exact G.R.add64 rfl rfl (by omega) | exact G.R.add rfl rfl) rfl Taken.no) ?_
               refine SL.mv rfl rfl (SL.nil ?_)
               refine E.again ((j + 1)) (rn []) ?_ ?_ rfl (fixL_spec rfl) ?_ ?_
               · exact (SubF.cons rfl (SubF.cons rfl (SubF.cons rfl (SubF.cons rfl (SubF.cons rfl (SubF.cons rfl (SubF.cons rfl (SubF.cons rfl (SubF.cons rfl (SubF.cons rfl (SubF.cons rfl (SubF.cons rfl (SubF.cons rfl (SubF.cons rfl (SubF.cons rfl (SubF.cons rfl (SubF.cons rfl (SubF.cons rfl (SubF.cons rfl (SubF.cons rfl (SubF.cons rfl (SubF.cons rfl (SubF.cons rfl (SubF.cons rfl (SubF.cons rfl (SubF.cons rfl (SubF.cons rfl (SubF.cons rfl (SubF.cons rfl (SubF.cons rfl (SubF.cons rfl (SubF.cons rfl SubF.nil))))))))))))))))))))))))))))))))
               · exact (SubS.val rfl (by (try dsimp only); exact sb_data (by rw [setAll_sG (by omega)])) (SubS.cons rfl (SubS.cons rfl (SubS.cons rfl (SubS.cons rfl SubS.nil)))))
               ·try dsimp only
                omega
               · (try dsimp only); omega
              ·skip
               refine W.exit (E.th (E.th (E.hit (E.inn (E.to ?_)))))
               refine W.pick (K:=[(0,_),(6,_),(7,_),(8,_),(11,_),(16,_),(19,_),(21,_),(23,_),(187,_),(188,_),(189,_),(190,_),(191,_),(192,_),(193,_),(194,_),(195,_),(196,_),(197,_),(198,_),(199,_),(200,_),(201,_),(202,_),(203,_),(204,_),(205,_),(206,_),(207,_),(208,_),(209,_),(210,_)]) (Z:=[(101,_),(120,_),(121,_),(124,_),(127,_)]) ⟨rfl,rfl,rfl,rfl,rfl,rfl,rfl,rfl,rfl,rfl,rfl,rfl,rfl,rfl,rfl,rfl,rfl,rfl,rfl,rfl,rfl,rfl,rfl,rfl,rfl,rfl,rfl,rfl,rfl,rfl,rfl,rfl,rfl,trivial⟩ ⟨rfl,rfl,rfl,rfl,rfl,trivial⟩ ?_
               refine W.region ?_
               refine SL.val (O.det (fun _ => by first | exact G.R.add64 rfl rfl (by omega) | exact G.R.add rfl rfl) rfl Taken.no) ?_
               refine SL.mv rfl rfl (SL.nil ?_)
               refine E.again ((p + 1)) (rn [(126, 127)]) ?_ ?_ rfl (fixL_spec rfl) ?_ ?_
               · exact (SubF.cons rfl (SubF.val rfl (by (try dsimp only); exact iv_int (by rw [snocP (l := (partsL lk (g0L m atm s))) (by omega), sumV_snoc])) (SubF.cons rfl (SubF.cons rfl (SubF.cons rfl (SubF.cons rfl (SubF.cons rfl (SubF.cons rfl (SubF.cons rfl (SubF.cons rfl (SubF.cons rfl (SubF.cons rfl (SubF.cons rfl (SubF.cons rfl (SubF.cons rfl (SubF.cons rfl (SubF.cons rfl (SubF.cons rfl (SubF.cons rfl (SubF.cons rfl SubF.nil))))))))))))))))))))
               · exact (SubS.val rfl (by (try dsimp only); exact sb_data (by rw [snocP (l := (partsL lk (g0L m atm s))) (by omega), nameF_snoc, show j = ((partsL lk (g0L m atm s))[p]!).length by omega, List.take_length])) (SubS.cons rfl (SubS.cons rfl (SubS.cons rfl (SubS.cons rfl SubS.nil)))))
               ·try dsimp only
                omega
               · (try dsimp only); omega
             ·skip
              refine W.exit (E.th (E.th (E.hit (E.inn (E.to (W.region ?_))))))
              refine SL.val (O.det (fun _ => by first | exact G.R.add64 rfl rfl (by omega) | exact G.R.add rfl rfl) rfl Taken.no) ?_
              refine SL.mv rfl rfl (SL.nil ?_)
              refine E.reround ?_
              refine W.pick (K:=[(0,_),(6,_),(7,_),(8,_),(11,_),(16,_),(19,_),(21,_),(187,_),(188,_),(189,_),(190,_),(191,_),(192,_),(193,_),(194,_),(195,_),(196,_),(197,_),(198,_),(199,_),(220,_)]) (Z:=[(101,_),(120,_),(121,_),(124,_),(126,_)]) ⟨rfl,rfl,rfl,rfl,rfl,rfl,rfl,rfl,rfl,rfl,rfl,rfl,rfl,rfl,rfl,rfl,rfl,rfl,rfl,rfl,rfl,rfl,trivial⟩ ⟨rfl,rfl,rfl,rfl,rfl,trivial⟩ ?_
              refine W.rg ?_
              refine SL.val (O.det (fun _ => G.R.mv (G.R.lss rfl rfl) (congrArg Value.bool (decide_eq_true (by decide)))) rfl Taken.no) ?_
              refine E.fo (W.seq ?_)
              refine W.cond_t rfl ?_
              refine W.skip (E.to (W.seq (W.block (W.rg ?_))))
              refine SL.val (O.idxval (i := 1) rfl rfl (by rfl) (by decide) (by rfl) Try.underlying106 (by kernel_rfl) Try.underlying39 rfl rfl Taken.no) ?_
              refine SL.an rfl rfl ?_
              refine SL.as (i' := vL 1 ((g1L m atm s).map eN)) 21 rfl (by (rw [← hg1]; try rfl)) ?_
              refine E.fo ?_
              refine W.pick (K:=[(0,_),(6,_),(7,_),(8,_),(11,_),(16,_),(19,_),(21,_),(187,_),(188,_),(189,_),(190,_),(191,_),(192,_),(193,_),(194,_),(195,_),(196,_),(197,_),(198,_),(199,_),(220,_)]) (Z:=[(101,_),(120,_),(121,_),(124,_),(126,_)]) ⟨rfl,rfl,rfl,rfl,rfl,rfl,rfl,rfl,rfl,rfl,rfl,rfl,rfl,rfl,rfl,rfl,rfl,rfl,rfl,rfl,rfl,rfl,trivial⟩ ⟨rfl,rfl,rfl,rfl,rfl,trivial⟩ ?_
              refine W.rg (SL.mv rfl rfl (SL.mv rfl rfl ?_))
              refine SL.val (O.nilCheck rfl rfl rfl Taken.no) ?_
              refine SL.val (O.fld_fz rfl Try.underlying78 rfl (m := 0) (by kernel_rfl) rfl rfl Taken.no) ?_
              refine SL.val (O.ld1 (PtI.ofU (PtU.fz rfl)) rfl Try.underlying76 rfl rfl Taken.no) ?_
              refine SL.val (O.callp rfl rfl rfl (parts_h (n := n) (us := (g1L m atm s)) (by omega) hgb.2.2) (.cons (ArgOk.same rfl) (.cons (ArgOk.same rfl) .nil)) hcallOk42 rfl Taken.no) ?_
              refine SL.val (O.lenE (SlOf.fz rfl (by decide)) (by first | exact List.length_map _ | rfl) Try.underlying75 rfl Taken.no) ?_
              refine SL.mv rfl rfl (E.fo ?_)
              refine W.pick (K:=[(0,_),(6,_),(7,_),(8,_),(11,_),(16,_),(19,_),(21,_),(187,_),(188,_),(189,_),(190,_),(191,_),(192,_),(193,_),(194,_),(195,_),(196,_),(197,_),(198,_),(199,_),(220,_)]) (Z:=[(101,_),(120,_),(121,_),(124,_),(126,_)]) ⟨rfl,rfl,rfl,rfl,rfl,rfl,rfl,rfl,rfl,rfl,rfl,rfl,rfl,rfl,rfl,rfl,rfl,rfl,rfl,rfl,rfl,rfl,trivial⟩ ⟨rfl,rfl,rfl,rfl,rfl,trivial⟩ ?_
              refine W.block ?_
              refine W.loopx1 (fun (q : Nat) => [(198, vI (q : Int)), (19, vI (sumV wt ((partsL lk (g0L m atm s)) ++ (partsL lk (g1L m atm s)).take q)))]) (fun (q : Nat) => [(128, .data 3 1 ((nameF (fun x : Nat => (x : Int)) (nm0 m atm s) ((partsL lk (g0L m atm s)) ++ (partsL lk (g1L m atm s)).take q)).map eI)), (124, .cells 39 [.own 128])]) (fun (q : Nat) => q ≤ (partsL lk (g1L m atm s)).length) (fun (q : Nat) => (partsL lk (g1L m atm s)).length - q) (0) (rn [(128, 126)]) (.cons (t := 0) rfl (.cons (t := 6) rfl (.cons (t := 7) rfl (.cons (t := 8) rfl (.cons (t := 11) rfl (.cons (t := 16) rfl (.cons (t := 21) rfl (.cons (t := 187) rfl (.cons (t := 188) rfl (.cons (t := 189) rfl (.cons (t := 190) rfl (.cons (t := 191) rfl (.cons (t := 192) rfl (.cons (t := 193) rfl (.cons (t := 194) rfl (.cons (t := 195) rfl (.cons (t := 196) rfl (.cons (t := 197) rfl (.cons (t := 220) rfl .nil))))))))))))))))))) (.cons (t := 101) rfl (.cons (t := 120) rfl (.cons (t := 121) rfl .nil))) rfl ?_ ?_ rfl rfl ?_ ?_
              · exact (SubF.cons rfl (SubF.val rfl (by exact iv_int (by rw [List.take_zero, List.append_nil, show p = (partsL lk (g0L m atm s)).length by omega, List.take_length])) SubF.nil))
              · exact (SubS.val rfl (by exact sb_data (by rw [List.take_zero, List.append_nil, show p = (partsL lk (g0L m atm s)).length by omega, List.take_length])) (SubS.cons rfl SubS.nil))
              ·skip
               omega
              intro q hinv
              have hq := hinv
              have hpl : ((partsL lk (g0L m atm s)) ++ (partsL lk (g1L m atm s)).take q).length ≤ 400 := by (try rw [List.length_append]); rw [List.length_take]; omega
              have hvb := sumV_b2 hw (L := ((partsL lk (g0L m atm s)) ++ (partsL lk (g1L m atm s)).take q)) (fun p hp => hL p ((List.mem_append.1 hp).elim (fun z => List.mem_append_left _ z) fun z => List.mem_append_right _ (List.mem_of_mem_take z)))
              refine W.rg ?_
              refine SL.val (O.det (fun _ => G.R.lss rfl rfl) rfl Taken.no) ?_
              refine E.fo (W.seq ?_)
              first | refine W.cond_d rfl (fun hc29 => ?_) (fun hc29 => ?_) | refine W.cond_nd rfl (fun hc29 => ?_) (fun hc29 => ?_) | refine W.cond rfl (fun hc29 => ?_) (fun hc29 => ?_)
              ·skip
               have hpu := partsN_units (mem_at (l := (partsL lk (g1L m atm s))) (i := q) (by omega))
               have hvp := valF_b hw (l := ((partsL lk (g1L m atm s))[q]!)) (by omega)
               refine W.skip (E.to (W.seq (W.block (W.rg ?_))))
               refine SL.val (O.idx_fz (i := q) rfl rfl (rfl) (row_get (by omega)) Try.underlying75 hi39 hs39 rfl Taken.no) ?_
               refine SL.val (O.ld1 (PtI.ofU (PtU.fz rfl)) rfl Try.underlying39 rfl rfl Taken.no) ?_
               refine SL.an rfl rfl (E.fo ?_)
               refine W.pick (K:=[(0,_),(6,_),(7,_),(8,_),(11,_),(16,_),(19,_),(21,_),(23,_),(187,_),(188,_),(189,_),(190,_),(191,_),(192,_),(193,_),(194,_),(195,_),(196,_),(197,_),(198,_),(199,_),(200,_),(201,_),(220,_)]) (Z:=[(101,_),(120,_),(121,_),(124,_),(128,_)]) ⟨rfl,rfl,rfl,rfl,rfl,rfl,rfl,rfl,rfl,rfl,rfl,rfl,rfl,rfl,rfl,rfl,rfl,rfl,rfl,rfl,rfl,rfl,rfl,rfl,rfl,trivial⟩ ⟨rfl,rfl,rfl,rfl,rfl,trivial⟩ ?_
               refine W.rg (SL.mv rfl rfl (SL.mv rfl rfl (SL.mv rfl rfl ?_)))
               refine SL.val (O.callp rfl rfl rfl (value_h (l := ((partsL lk (g1L m atm s))[q]!)) hw (by omega) (fun u hu => hgb.2.2 u (hpu.2.2 u hu))) (.cons (ArgOk.same rfl) (.cons (ArgOk.same rfl) .nil)) hcallOk45 rfl Taken.no) ?_
               refine SL.val (O.det (fun _ => by first | exact G.R.add64 rfl rfl (by omega) | exact G.R.add rfl rfl) rfl Taken.no) ?_
               refine SL.an rfl rfl (E.fo ?_)
               refine W.pick (K:=[(0,_),(6,_),(7,_),(8,_),(11,_),(16,_),(19,_),(21,_),(23,_),(187,_),(188,_),(189,_),(190,_),(191,_),(192,_),(193,_),(194,_),(195,_),(196,_),(197,_),(198,_),(199,_),(200,_),(201,_),(202,_),(203,_),(204,_),(205,_),(206,_),(220,_)]) (Z:=[(101,_),(120,_),(121,_),(124,_),(128,_)]) ⟨rfl,rfl,rfl,rfl,rfl,rfl,rfl,rfl,rfl,rfl,rfl,rfl,rfl,rfl,rfl,rfl,rfl,rfl,rfl,rfl,rfl,rfl,rfl,rfl,rfl,rfl,rfl,rfl,rfl,rfl,trivial⟩ ⟨rfl,rfl,rfl,rfl,rfl,trivial⟩ ?_
               refine W.rg (SL.mv rfl rfl ?_)
               refine SL.val (O.lenE (SlOf.fz rfl (by decide)) (by first | exact List.length_map _ | rfl) Try.underlying39 rfl Taken.no) ?_
               refine SL.mv rfl rfl (E.fo ?_)
               refine W.pick (K:=[(0,_),(6,_),(7,_),(8,_),(11,_),(16,_),(19,_),(21,_),(23,_),(187,_),(188,_),(189,_),(190,_),(191,_),(192,_),(193,_),(194,_),(195,_),(196,_),(197,_),(198,_),(199,_),(200,_),(201,_),(202,_),(203,_),(204,_),(205,_),(206,_),(207,_),(208,_),(209,_),(220,_)]) (Z:=[(101,_),(120,_),(121,_),(124,_),(128,_)]) ⟨rfl,rfl,rfl,rfl,rfl,rfl,rfl,rfl,rfl,rfl,rfl,rfl,rfl,rfl,rfl,rfl,rfl,rfl,rfl,rfl,rfl,rfl,rfl,rfl,rfl,rfl,rfl,rfl,rfl,rfl,rfl,rfl,rfl,trivial⟩ ⟨rfl,rfl,rfl,rfl,rfl,trivial⟩ ?_
               refine W.block ?_
               refine W.loopx1 (fun (j : Nat) => [(209, vI (j : Int))]) (fun (j : Nat) => [(129, .data 3 1 ((setAll (nameF (fun x : Nat => (x : Int)) (nm0 m atm s) ((partsL lk (g0L m atm s)) ++ (partsL lk (g1L m atm s)).take q)) (((partsL lk (g1L m atm s))[q]!).take j) ((minL ((partsL lk (g1L m atm s))[q]!) : Nat) : Int)).map eI)), (124, .cells 39 [.own 129])]) (fun (j : Nat) => j ≤ ((partsL lk (g1L m atm s))[q]!).length) (fun (j : Nat) => ((partsL lk (g1L m atm s))[q]!).length - j) (0) (rn [(129, 128)]) (.cons (t := 0) rfl (.cons (t := 6) rfl (.cons (t := 7) rfl (.cons (t := 8) rfl (.cons (t := 11) rfl (.cons (t := 16) rfl (.cons (t := 19) rfl (.cons (t := 21) rfl (.cons (t := 23) rfl (.cons (t := 187) rfl (.cons (t := 188) rfl (.cons (t := 189) rfl (.cons (t := 190) rfl (.cons (t := 191) rfl (.cons (t := 192) rfl (.cons (t := 193) rfl (.cons (t := 194) rfl (.cons (t := 195) rfl (.cons (t := 196) rfl (.cons (t := 197) rfl (.cons (t := 198) rfl (.cons (t := 199) rfl (.cons (t := 200) rfl (.cons (t := 201) rfl (.cons (t := 202) rfl (.cons (t := 203) rfl (.cons (t := 204) rfl (.cons (t := 205) rfl (.cons (t := 206) rfl (.cons (t := 207) rfl (.cons (t := 208) rfl (.cons (t := 220) rfl .nil)))))))))))))))))))))))))))))))) (.cons (t := 101) rfl (.cons (t := 120) rfl (.cons (t := 121) rfl .nil))) rfl ?_ ?_ rfl rfl ?_ ?_
               · exact (SubF.cons rfl SubF.nil)
               · exact (SubS.val rfl (by exact sb_data (by rw [List.take_zero]; rfl)) (SubS.cons rfl SubS.nil))
               ·skip
                omega
               intro j hinv
               have hj := hinv
               have hnl : (setAll (nameF (fun x : Nat => (x : Int)) (nm0 m atm s) ((partsL lk (g0L m atm s)) ++ (partsL lk (g1L m atm s)).take q)) (((partsL lk (g1L m atm s))[q]!).take j) ((minL ((partsL lk (g1L m atm s))[q]!) : Nat) : Int)).length = n := by rw [setAll_len, nameF_len, nm0_len]; exact hml
               refine W.rg ?_
               refine SL.val (O.det (fun _ => G.R.lss rfl rfl) rfl Taken.no) ?_
               refine E.fo ?_
               refine W.pick (K:=[(0,_),(6,_),(7,_),(8,_),(11,_),(16,_),(19,_),(21,_),(23,_),(187,_),(188,_),(189,_),(190,_),(191,_),(192,_),(193,_),(194,_),(195,_),(196,_),(197,_),(198,_),(199,_),(200,_),(201,_),(202,_),(203,_),(204,_),(205,_),(206,_),(207,_),(208,_),(209,_),(210,_),(220,_)]) (Z:=[(101,_),(120,_),(121,_),(124,_),(129,_)]) ⟨rfl,rfl,rfl,rfl,rfl,rfl,rfl,rfl,rfl,rfl,rfl,rfl,rfl,rfl,rfl,rfl,rfl,rfl,rfl,rfl,rfl,rfl,rfl,rfl,rfl,rfl,rfl,rfl,rfl,rfl,rfl,rfl,rfl,rfl,trivial⟩ ⟨rfl,rfl,rfl,rfl,rfl,trivial⟩ ?_
               refine W.seq ?_
               first | refine W.cond_d rfl (fun hc30 => ?_) (fun hc30 => ?_) | refine W.cond_nd rfl (fun hc30 => ?_) (fun hc30 => ?_) | refine W.cond rfl (fun hc30 => ?_) (fun hc30 => ?_)
               ·skip
                have hun := hgb.2.2 _ (hpu.2.2 ((partsL lk (g1L m atm s))[q]!)[j]! (mem_at (by omega)))
                refine W.skip (E.to ?_)
                refine W.pick (K:=[(0,_),(6,_),(7,_),(8,_),(11,_),(16,_),(19,_),(21,_),(23,_),(187,_),(188,_),(189,_),(190,_),(191,_),(192,_),(193,_),(194,_),(195,_),(196,_),(197,_),(198,_),(199,_),(200,_),(201,_),(202,_),(203,_),(204,_),(205,_),(206,_),(207,_),(208,_),(209,_),(210,_),(220,_)]) (Z:=[(101,_),(120,_),(121,_),(124,_),(129,_)]) ⟨rfl,rfl,rfl,rfl,rfl,rfl,rfl,rfl,rfl,rfl,rfl,rfl,rfl,rfl,rfl,rfl,rfl,rfl,rfl,rfl,rfl,rfl,rfl,rfl,rfl,rfl,rfl,rfl,rfl,rfl,rfl,rfl,rfl,rfl,trivial⟩ ⟨rfl,rfl,rfl,rfl,rfl,trivial⟩ ?_
                refine W.seq (W.block (W.rg ?_))
                refine SL.val (O.idx_fz (i := j) rfl rfl (rfl) (row_get (by omega)) Try.underlying39 hi3 hs3 rfl Taken.no) ?_
                refine SL.val (O.ld1 (PtI.ofU (PtU.fz rfl)) rfl Try.underlying3 rfl rfl Taken.no) ?_
                refine SL.an rfl rfl (E.fo ?_)
                refine W.pick (K:=[(0,_),(6,_),(7,_),(8,_),(11,_),(16,_),(19,_),(21,_),(23,_),(25,_),(187,_),(188,_),(189,_),(190,_),(191,_),(192,_),(193,_),(194,_),(195,_),(196,_),(197,_),(198,_),(199,_),(200,_),(201,_),(202,_),(203,_),(204,_),(205,_),(206,_),(207,_),(208,_),(209,_),(210,_),(211,_),(212,_),(220,_)]) (Z:=[(101,_),(120,_),(121,_),(124,_),(129,_)]) ⟨rfl,rfl,rfl,rfl,rfl,rfl,rfl,rfl,rfl,rfl,rfl,rfl,rfl,rfl,rfl,rfl,rfl,rfl,rfl,rfl,rfl,rfl,rfl,rfl,rfl,rfl,rfl,rfl,rfl,rfl,rfl,rfl,rfl,rfl,rfl,rfl,rfl,trivial⟩ ⟨rfl,rfl,rfl,rfl,rfl,trivial⟩ ?_
                refine W.draw [⟨[124], [], [], [129]⟩, ⟨[], [], [], []⟩, ⟨[], [], [], []⟩, ⟨[], [], [], []⟩, ⟨[129], [], [], []⟩, ⟨[129], [129], [], []⟩] rfl (by kernel_rfl) (by kernel_rfl) rfl rfl ?_
                refine WH.val (O.ld1 (PtI.ref rfl rfl) rfl Try.underlying39 rfl rfl Taken.no) rfl rfl ?_
                refine WH.mv rfl rfl rfl (WH.mv rfl rfl rfl ?_)
                refine WH.val (O.callp rfl rfl rfl (min_h (l := ((partsL lk (g1L m atm s))[q]!)) (by omega)) (.cons (ArgOk.same rfl) .nil) hcallOk62 rfl Taken.no) rfl rfl ?_
                refine WH.val (O.idx_own (i := (((partsL lk (g1L m atm s))[q]!)[j]!)) rfl rfl rfl (rfl) (by rw [List.length_map]; omega) Try.underlying39 hi3 hs3 rfl Taken.no) rfl rfl ?_
                refine WH.effS (O.st_els (m := 1) rfl rfl rfl (us := [_]) rfl rfl (by kernel_rfl) (by simp) (row_get (by omega)) (by exact Nat.le_of_ble_eq_true rfl) rfl rfl (rows' := ((setAll (nameF (fun x : Nat => (x : Int)) (nm0 m atm s) ((partsL lk (g0L m atm s)) ++ (partsL lk (g1L m atm s)).take q)) (((partsL lk (g1L m atm s))[q]!).take j) ((minL ((partsL lk (g1L m atm s))[q]!) : Nat) : Int)).set (((partsL lk (g1L m atm s))[q]!)[j]!) ((minL ((partsL lk (g1L m atm s))[q]!) : Nat) : Int)).map eI) (by exact set_map rfl) Taken.no) rfl rfl rfl (S' := (129, _) :: _) rfl ?_
                refine WH.nil (E.inn (E.to ?_))
                refine W.pick (K:=[(0,_),(6,_),(7,_),(8,_),(11,_),(16,_),(19,_),(21,_),(23,_),(25,_),(187,_),(188,_),(189,_),(190,_),(191,_),(192,_),(193,_),(194,_),(195,_),(196,_),(197,_),(198,_),(199,_),(200,_),(201,_),(202,_),(203,_),(204,_),(205,_),(206,_),(207,_),(208,_),(209,_),(210,_),(211,_),(212,_),(213,_),(214,_),(215,_),(216,_),(217,_),(220,_)]) (Z:=[(101,_),(120,_),(121,_),(124,_),(129,_)]) ⟨rfl,rfl,rfl,rfl,rfl,rfl,rfl,rfl,rfl,rfl,rfl,rfl,rfl,rfl,rfl,rfl,rfl,rfl,rfl,rfl,rfl,rfl,rfl,rfl,rfl,rfl,rfl,rfl,rfl,rfl,rfl,rfl,rfl,rfl,rfl,rfl,rfl,rfl,rfl,rfl,rfl,rfl,trivial⟩ ⟨rfl,rfl,rfl,rfl,rfl,trivial⟩ ?_
                refine W.region ?_
                refine SL.val (O.det (fun _ => by first | exact G.R.add64 rfl rfl (by omega) | exact G.R.add rfl rfl) rfl Taken.no) ?_
                refine SL.mv rfl rfl (SL.nil ?_)
                refine E.again ((j + 1)) (rn []) ?_ ?_ rfl (fixL_spec rfl) ?_ ?_
                · exact (SubF.cons rfl (SubF.cons rfl (SubF.cons rfl (SubF.cons rfl (SubF.cons rfl (SubF.cons rfl (SubF.cons rfl (SubF.cons rfl (SubF.cons rfl (SubF.cons rfl (SubF.cons rfl (SubF.cons rfl (SubF.cons rfl (SubF.cons rfl (SubF.cons rfl (SubF.cons rfl (SubF.cons rfl (SubF.cons rfl (SubF.cons rfl (SubF.cons rfl (SubF.cons rfl (SubF.cons rfl (SubF.cons rfl (SubF.cons rfl (SubF.cons rfl (SubF.cons rfl (SubF.cons rfl (SubF.cons rfl (SubF.cons rfl (SubF.cons rfl (SubF.cons rfl (SubF.cons rfl (SubF.cons rfl SubF.nil)))))))))))))))))))))))))))))))))
                · exact (SubS.val rfl (by (try dsimp only); exact sb_data (by rw [setAll_sG (by omega)])) (SubS.cons rfl (SubS.cons rfl (SubS.cons rfl (SubS.cons rfl SubS.nil)))))
                ·try dsimp only
                 omega
                · (try dsimp only); omega
               ·skip
                refine W.exit (E.th (E.th (E.hit (E.inn (E.to ?_)))))
                refine W.pick (K:=[(0,_),(6,_),(7,_),(8,_),(11,_),(16,_),(19,_),(21,_),(23,_),(187,_),(188,_),(189,_),(190,_),(191,_),(192,_),(193,_),(194,_),(195,_),(196,_),(197,_),(198,_),(199,_),(200,_),(201,_),(202,_),(203,_),(204,_),(205,_),(206,_),(207,_),(208,_),(209,_),(210,_),(220,_)]) (Z:=[(101,_),(120,_),(121,_),(124,_),(129,_)]) ⟨rfl,rfl,rfl,rfl,rfl,rfl,rfl,rfl,rfl,rfl,rfl,rfl,rfl,rfl,rfl,rfl,rfl,rfl,rfl,rfl,rfl,rfl,rfl,rfl,rfl,rfl,rfl,rfl,rfl,rfl,rfl,rfl,rfl,rfl,trivial⟩ ⟨rfl,rfl,rfl,rfl,rfl,trivial⟩ ?_
                refine W.region ?_
                refine SL.val (O.det (fun _ => by first | exact G.R.add64 rfl rfl (by omega) | exact G.R.add rfl rfl) rfl Taken.no) ?_
                refine SL.mv rfl rfl (SL.nil ?_)
                refine E.again ((q + 1)) (rn [(128, 129)]) ?_ ?_ rfl (fixL_spec rfl) ?_ ?_
                · exact (SubF.cons rfl (SubF.val rfl (by (try dsimp only); exact iv_int (by rw [snocP (l := (partsL lk (g1L m atm s))) (by omega), ← List.append_assoc, sumV_snoc])) (SubF.cons rfl (SubF.cons rfl (SubF.cons rfl (SubF.cons rfl (SubF.cons rfl (SubF.cons rfl (SubF.cons rfl (SubF.cons rfl (SubF.cons rfl (SubF.cons rfl (SubF.cons rfl (SubF.cons rfl (SubF.cons rfl (SubF.cons rfl (SubF.cons rfl (SubF.cons rfl (SubF.cons rfl (SubF.cons rfl (SubF.cons rfl SubF.nil)))))))))))))))))))))
                · exact (SubS.val rfl (by (try dsimp only); exact sb_data (by rw [snocP (l := (partsL lk (g1L m atm s))) (by omega), ← List.append_assoc, nameF_snoc, show j = ((partsL lk (g1L m atm s))[q]!).length by omega, List.take_length])) (SubS.cons rfl (SubS.cons rfl (SubS.cons rfl (SubS.cons rfl SubS.nil)))))
                ·try dsimp only
                 omega
                · (try dsimp only); omega
              ·skip
               refine W.exit (E.th (E.th (E.hit (E.inn (E.to (W.region ?_))))))
               refine SL.val (O.det (fun _ => by first | exact G.R.add64 rfl rfl (by omega) | exact G.R.add rfl rfl) rfl Taken.no) ?_
               refine SL.mv rfl rfl (SL.nil ?_)
               refine E.reround ?_
               refine W.pick (K:=[(0,_),(6,_),(7,_),(8,_),(11,_),(16,_),(19,_),(21,_),(187,_),(188,_),(189,_),(190,_),(191,_),(192,_),(193,_),(194,_),(195,_),(196,_),(197,_),(198,_),(199,_),(220,_)]) (Z:=[(101,_),(120,_),(121,_),(124,_),(128,_)]) ⟨rfl,rfl,rfl,rfl,rfl,rfl,rfl,rfl,rfl,rfl,rfl,rfl,rfl,rfl,rfl,rfl,rfl,rfl,rfl,rfl,rfl,rfl,trivial⟩ ⟨rfl,rfl,rfl,rfl,rfl,trivial⟩ ?_
               refine W.rg ?_
               refine SL.val (O.det (fun _ => G.R.mv (G.R.lss rfl rfl) (congrArg Value.bool (decide_eq_false (by decide)))) rfl Taken.no) ?_
               refine E.fo (W.seq ?_)
               refine W.cond_f rfl ?_
               refine W.exit (E.th (E.th (E.hit (E.to (W.rg ?_)))))
               refine SL.val (O.ld1 (PtI.ref rfl rfl) rfl Try.underlying39 rfl rfl Taken.no) ?_
               refine SL.mv rfl rfl (SL.mv rfl rfl ?_)
               refine SL.val (O.det (fun _ => by first | exact G.R.sub64 rfl rfl (by omega) | exact G.R.sub rfl rfl) rfl Taken.no) ?_
               refine SL.an rfl rfl (SL.an rfl rfl (SL.an rfl rfl (E.fo ?_)))
               refine W.pick (K:=[(6,_),(7,_),(8,_)]) (Z:=[(101,_),(120,_),(121,_),(124,_),(128,_)]) ⟨rfl,rfl,rfl,trivial⟩ ⟨rfl,rfl,rfl,rfl,rfl,trivial⟩ ?_
               refine W.ret ?_
               refine E.freeze 128 rfl (F' := [(6, _)]) (⟨⟨_, rfl, rfl⟩, trivial⟩) ?_
               refine E.fin (rs := [_, _, _]) (rn []) (.inl rfl) rfl (.cons (ResOne.tmp rfl) (.cons (ResOne.tmp rfl) (.cons (ResOne.tmp rfl) .nil))) ?_ ?_ rfl (fixL_spec rfl)
               ·skip
                have hyes : posF n bar atm m s := ⟨hpre, by rw [← hit_eq hml hb]; exact hcl⟩
                rw [← hs, apN_y hyes, apG_y hyes, dec_t hyes, gnF, hfe, hth, show q = (partsL lk (g1L m atm s)).length by omega, List.take_length]; rfl
               · exact SubS.nil
         ·skip
          first | have hg23p := G.gA7 hg23 | have hg23p := G.gA8 hg23 | have hg23p := hg23
          refine WH.sk rfl rfl rfl hg23 (WH.sk rfl rfl rfl hg23 (WH.sk rfl rfl rfl hg23 (WH.sk rfl rfl rfl hg23 (WH.sk rfl rfl rfl hg23 ?_))))
          refine WH.val (O.pick_t rfl (G.ne_f hg23) rfl rfl Taken.no) rfl rfl ?_
          refine WH.nil (E.to ?_)
          refine W.pick (K:=[(0,_),(1,_),(6,_),(7,_),(8,_),(9,_),(10,_),(11,_),(12,_),(116,_)]) (Z:=[(101,_),(119,_),(120,_),(121,_)]) ⟨rfl,rfl,rfl,rfl,rfl,rfl,rfl,rfl,rfl,rfl,trivial⟩ ⟨rfl,rfl,rfl,rfl,trivial⟩ ?_
          refine W.cond_t rfl ?_
          refine W.rg (SL.an rfl rfl (SL.an rfl rfl (SL.an rfl rfl (E.fo (W.ret (E.thr (E.thr ?_)))))))
          refine E.nilsl 6 1 rfl ?_
          refine E.fin (rs := [_, _, _]) (rn []) (.inl rfl) rfl (.cons (ResOne.tmp rfl) (.cons (ResOne.tmp rfl) (.cons (ResOne.tmp rfl) .nil))) ?_ ?_ rfl (fixL_spec rfl)
          ·skip
           first | ((have hno : ¬ posF n bar atm m ⟨true, (f : Int), (t : Int)⟩ := fun q => by ((obtain ⟨⟨⟨q1, q2, q3, q4, q5⟩, q6, q7, q8⟩, q9⟩ := posF_iff.1 q); (try simp only [Int.toNat_natCast] at q6 q7 q8); (have q7 := q7 (by trivial); omega))); rw [apN_n hno, apG_n hno, dec_f hno]; rfl)
          · exact SubS.nil
        ·skip
         obtain rfl : u = false := by simp_all
         refine W.seq (W.seq ?_)
         refine W.draw [⟨[], [], [], []⟩, ⟨[], [], [], []⟩, ⟨[], [], [], []⟩, ⟨[], [], [], []⟩, ⟨[], [], [], [101]⟩, ⟨[101], [], [], []⟩, ⟨[], [], [], []⟩, ⟨[], [], [], []⟩, ⟨[], [], [], [101]⟩, ⟨[101], [], [], []⟩, ⟨[], [], [], []⟩] rfl (by kernel_rfl) (by kernel_rfl) rfl rfl ?_
         refine WH.mv rfl rfl rfl ?_
         refine WH.val (O.nilCheck rfl rfl rfl Taken.no) rfl rfl ?_
         refine WH.val (O.fld_fz rfl Try.underlying78 rfl (m := 0) (by kernel_rfl) rfl rfl Taken.no) rfl rfl ?_
         refine WH.val (O.ld1 (PtI.ofU (PtU.fz rfl)) rfl Try.underlying39 rfl rfl Taken.no) rfl rfl ?_
         refine WH.val (O.fld_ref (o' := 1) rfl Try.underlying55 rfl (m := 0) (by kernel_rfl) rfl rfl Taken.no) rfl rfl ?_
         refine WH.val (O.ld1 (PtI.ref rfl rfl) rfl Try.underlying3 rfl rfl Taken.no) rfl rfl ?_
         refine WH.val (O.idx_fz (i := f) rfl rfl (rfl) (row_get (by omega)) Try.underlying39 hi3 hs3 rfl Taken.no) rfl rfl ?_
         refine WH.val (O.ld1 (PtI.ofU (PtU.fz rfl)) rfl Try.underlying3 rfl rfl Taken.no) rfl rfl ?_
         refine WH.val (O.fld_ref (o' := 1) rfl Try.underlying55 rfl (m := 0) (by kernel_rfl) rfl rfl Taken.no) rfl rfl ?_
         refine WH.val (O.ld1 (PtI.ref rfl rfl) rfl Try.underlying3 rfl rfl Taken.no) rfl rfl ?_
         refine WH.val (O.det (fun _ => G.R.neq rfl rfl) rfl Taken.no) rfl rfl ?_
         refine WH.nil (E.to ?_)
         first | refine W.cond_d rfl (fun hc31 => ?_) (fun hc31 => ?_) | refine W.cond_nd rfl (fun hc31 => ?_) (fun hc31 => ?_) | refine W.cond rfl (fun hc31 => ?_) (fun hc31 => ?_)
         ·skip
          refine W.rg (SL.an rfl rfl (SL.an rfl rfl (SL.an rfl rfl (E.fo ?_))))
          refine W.pick (K:=[(0,_),(1,_),(5,_),(6,_),(7,_),(8,_),(9,_),(10,_),(11,_),(12,_)]) (Z:=[(101,_),(119,_),(120,_),(121,_)]) ⟨rfl,rfl,rfl,rfl,rfl,rfl,rfl,rfl,rfl,rfl,trivial⟩ ⟨rfl,rfl,rfl,rfl,trivial⟩ ?_
          refine W.ret (E.thr (E.thr ?_))
          refine E.nilsl 6 1 rfl ?_
          refine E.fin (rs := [_, _, _]) (rn []) (.inl rfl) rfl (.cons (ResOne.tmp rfl) (.cons (ResOne.tmp rfl) (.cons (ResOne.tmp rfl) .nil))) ?_ ?_ rfl (fixL_spec rfl)
          ·skip
           first | ((have hno : ¬ posF n bar atm m ⟨false, (f : Int), (t : Int)⟩ := fun q => by ((obtain ⟨⟨⟨q1, q2, q3, q4, q5⟩, q6, q7, q8⟩, q9⟩ := posF_iff.1 q); (try simp only [Int.toNat_natCast] at q6 q7 q8); (have q8 := (q8 (by trivial)).1; omega))); rw [apN_n hno, apG_n hno, dec_f hno]; rfl) | ((have hno : ¬ posF n bar atm m ⟨false, (f : Int), -1⟩ := fun q => by ((obtain ⟨⟨⟨q1, q2, q3, q4, q5⟩, q6, q7, q8⟩, q9⟩ := posF_iff.1 q); (try simp only [Int.toNat_natCast] at q6 q7 q8); (have q8 := (q8 (by trivial)).1; omega))); rw [apN_n hno, apG_n hno, dec_f hno]; rfl)
          · exact SubS.nil
         ·skip
          refine W.skip (E.to (W.rg (SL.mv rfl rfl ?_)))
          refine SL.val (O.idx_ref (i := 0) (m := 1) rfl rfl (rfl) (by decide) Try.underlying106 (by kernel_rfl) rfl rfl Taken.no) ?_
          refine SL.effS (O.st_ref (m := 1) rfl rfl rfl (js := [_]) rfl rfl (by kernel_rfl) (by simp) (Nat.le_of_ble_eq_true rfl) rfl (is' := [_, _]) rfl Taken.no) (S' := (121, _) :: _) rfl ?_
          refine E.fo (W.seq (W.rg (SL.mv rfl rfl ?_)))
          refine SL.val (O.lenE (SlOf.own rfl rfl) (by first | exact List.length_map _ | rfl) Try.underlying39 rfl Taken.no) ?_
          refine SL.mv rfl rfl (E.fo ?_)
          refine W.pick (K:=[(0,_),(1,_),(5,_),(6,_),(7,_),(8,_),(11,_),(12,_),(134,_),(135,_),(136,_)]) (Z:=[(101,_),(119,_),(120,_),(121,_)]) ⟨rfl,rfl,rfl,rfl,rfl,rfl,rfl,rfl,rfl,rfl,rfl,trivial⟩ ⟨rfl,rfl,rfl,rfl,trivial⟩ ?_
          refine W.block ?_
          refine W.adoptC 121 1 132 3 1 (is' := [_, _]) (by decide) rfl rfl rfl rfl rfl ?_
          refine W.loopx1 (fun (k : Nat) => [(136, vI (k : Int))]) (fun (k : Nat) => [(130, .data 3 1 (((thereL m (t : Int)) ++ ((unitsL m m[f]!).take k).filter (fun u => decide (atm[u]! = f))).map eN)), (131, .data 3 1 ((((unitsL m m[f]!).take k).filter (fun u => !decide (atm[u]! = f))).map eN)), (121, .cells 106 [.own 130, .own 131])]) (fun (k : Nat) => k ≤ (unitsL m m[f]!).length) (fun (k : Nat) => (unitsL m m[f]!).length - k) (0) (rn [(130, 120), (131, 132)]) (.cons (t := 0) rfl (.cons (t := 1) rfl (.cons (t := 5) rfl (.cons (t := 6) rfl (.cons (t := 7) rfl (.cons (t := 8) rfl (.cons (t := 11) rfl (.cons (t := 12) rfl (.cons (t := 134) rfl (.cons (t := 135) rfl .nil)))))))))) (.cons (t := 101) rfl (.cons (t := 119) rfl .nil)) rfl ?_ ?_ rfl rfl ?_ ?_
          · exact (SubF.cons rfl SubF.nil)
          · exact (SubS.val rfl (by exact sb_data (by rw [List.take_zero, List.filter_nil, List.append_nil, there_nat])) (SubS.val rfl (by exact sb_data (by rw [List.take_zero, List.filter_nil]; rfl)) (SubS.cons rfl SubS.nil)))
          ·skip
           omega
          intro k hinv
          have hk := hinv
          have hf0 := List.length_filter_le (fun u => decide (atm[u]! = f)) ((unitsL m m[f]!).take k)
          have hf1 := List.length_filter_le (fun u => !decide (atm[u]! = f)) ((unitsL m m[f]!).take k)
          rw [List.length_take] at hf0 hf1
          have hthl := there_len m (t : Int)
          refine W.rg ?_
          refine SL.val (O.det (fun _ => G.R.lss rfl rfl) rfl Taken.no) ?_
          refine E.fo (W.seq ?_)
          first | refine W.cond_d rfl (fun hc32 => ?_) (fun hc32 => ?_) | refine W.cond_nd rfl (fun hc32 => ?_) (fun hc32 => ?_) | refine W.cond rfl (fun hc32 => ?_) (fun hc32 => ?_)
          ·skip
           have hHk := hHn (unitsL m m[f]!)[k]! (mem_at (by omega))
           refine W.skip (E.to (W.seq (W.block (W.rg ?_))))
           refine SL.val (O.idx_own (i := k) rfl rfl rfl (rfl) (by rw [List.length_map]; omega) Try.underlying39 hi3 hs3 rfl Taken.no) ?_
           refine SL.val (O.ld1 (PtI.ofU (PtU.el rfl rfl (row_get (by omega)))) rfl Try.underlying3 rfl rfl Taken.no) ?_
           refine SL.an rfl rfl (E.fo (W.rg (SL.an rfl rfl (E.fo (W.seq (W.seq ?_))))))
           refine W.draw [⟨[], [], [], []⟩, ⟨[], [], [], []⟩, ⟨[], [], [], []⟩, ⟨[], [], [], []⟩, ⟨[], [], [], []⟩, ⟨[], [], [], []⟩, ⟨[], [], [], []⟩, ⟨[], [], [], [101]⟩, ⟨[101], [], [], []⟩, ⟨[], [], [], []⟩] rfl (by kernel_rfl) (by kernel_rfl) rfl rfl ?_
           refine WH.mv rfl rfl rfl ?_
           refine WH.val (O.nilCheck rfl rfl rfl Taken.no) rfl rfl ?_
           refine WH.val (O.fld_fz rfl Try.underlying78 rfl (m := 0) (by kernel_rfl) rfl rfl Taken.no) rfl rfl ?_
           refine WH.val (O.ld1 (PtI.ofU (PtU.fz rfl)) rfl Try.underlying39 rfl rfl Taken.no) rfl rfl ?_
           refine WH.mv rfl rfl rfl ?_
           refine WH.val (O.idx_fz (i := ((unitsL m m[f]!)[k]!)) rfl rfl (rfl) (row_get (by omega)) Try.underlying39 hi3 hs3 rfl Taken.no) rfl rfl ?_
           refine WH.val (O.ld1 (PtI.ofU (PtU.fz rfl)) rfl Try.underlying3 rfl rfl Taken.no) rfl rfl ?_
           refine WH.val (O.fld_ref (o' := 1) rfl Try.underlying55 rfl (m := 0) (by kernel_rfl) rfl rfl Taken.no) rfl rfl ?_
           refine WH.val (O.ld1 (PtI.ref rfl rfl) rfl Try.underlying3 rfl rfl Taken.no) rfl rfl ?_
           refine WH.val (O.det (fun _ => G.R.eql rfl rfl) rfl Taken.no) rfl rfl ?_
           refine WH.nil (E.to ?_)
           refine W.pick (K:=[(0,_),(1,_),(5,_),(6,_),(7,_),(8,_),(11,_),(12,_),(14,_),(15,_),(134,_),(135,_),(136,_),(149,_)]) (Z:=[(101,_),(119,_),(121,_),(130,_),(131,_)]) ⟨rfl,rfl,rfl,rfl,rfl,rfl,rfl,rfl,rfl,rfl,rfl,rfl,rfl,rfl,trivial⟩ ⟨rfl,rfl,rfl,rfl,rfl,trivial⟩ ?_
           first | refine W.cond_d rfl (fun hc33 => ?_) (fun hc33 => ?_) | refine W.cond_nd rfl (fun hc33 => ?_) (fun hc33 => ?_) | refine W.cond rfl (fun hc33 => ?_) (fun hc33 => ?_)
           ·skip
            have hp0 : (fun u => decide (atm[u]! = f)) (unitsL m m[f]!)[k]! = true := decide_eq_true (by omega)
            have hp1 : (fun u => !decide (atm[u]! = f)) (unitsL m m[f]!)[k]! = false := by show (!decide _) = false; rw [decide_eq_true (by omega)]; rfl
            refine W.region (SL.an rfl rfl (E.fo (W.region (SL.mv rfl rfl (SL.mv rfl rfl ?_)))))
            refine SL.val (O.idx_ref (i := 0) (m := 1) rfl rfl (rfl) (by decide) Try.underlying106 (by kernel_rfl) rfl rfl Taken.no) ?_
            refine SL.val (O.ld1 (PtI.ref rfl rfl) rfl Try.underlying39 rfl rfl Taken.no) ?_
            refine SL.mv rfl rfl ?_
            refine SL.memS (O.buildSlice 133 (rows := [(unitsL m m[f]!)[k]!].map eN) rfl rfl Try.underlying39 hi3 hz3 hs3 (by decide) rfl (by decide) rfl rfl rfl Taken.no) rfl rfl (S' := (133, .data 3 1 ([(unitsL m m[f]!)[k]!].map eN)) :: _) rfl ?_
            refine SL.memS (O.app (k' := 134) rfl rfl (SlOf.own rfl rfl) Try.underlying39 hi3 hz3 hs3 rfl rfl (by exact app_map) (by rw [hb3]; (simp only [List.length_map, List.length_singleton, List.length_append]; omega)) (by (simp only [List.length_map, List.length_singleton, List.length_append]; omega)) rfl Taken.no) rfl rfl (S' := (134, _) :: (130, .dead) :: _) rfl ?_
            refine SL.val (O.idx_ref (i := 0) (m := 1) rfl rfl (rfl) (by decide) Try.underlying106 (by kernel_rfl) rfl rfl Taken.no) ?_
            refine SL.effS (O.st_ref (m := 1) rfl rfl rfl (js := [_]) rfl rfl (by kernel_rfl) (by simp) (Nat.le_of_ble_eq_true rfl) rfl (is' := [_, _]) rfl Taken.no) (S' := (121, _) :: _) rfl ?_
            refine SL.nil (E.inn (E.to (W.region ?_)))
            refine SL.val (O.det (fun _ => by first | exact G.R.add64 rfl rfl (by omega) | exact G.R.add rfl rfl) rfl Taken.no) ?_
            refine SL.mv rfl rfl (SL.nil ?_)
            refine E.again ((k + 1)) (rn [(130, 134)]) ?_ ?_ rfl (fixL_spec rfl) ?_ ?_
            · exact (SubF.cons rfl (SubF.cons rfl (SubF.cons rfl (SubF.cons rfl (SubF.cons rfl (SubF.cons rfl (SubF.cons rfl (SubF.cons rfl (SubF.cons rfl (SubF.cons rfl (SubF.cons rfl SubF.nil)))))))))))
            · exact (SubS.val rfl (by (try dsimp only); first | exact sb_data (by rw [filt_y (by omega) hp0, ← List.append_assoc]) | exact sb_data (by rw [filt_n (by omega) hp0])) (SubS.val rfl (by (try dsimp only); first | exact sb_data (by rw [filt_n (by omega) hp1]) | exact sb_data (by rw [filt_y (by omega) hp1])) (SubS.cons rfl (SubS.cons rfl (SubS.cons rfl SubS.nil)))))
            ·try dsimp only
             omega
            · (try dsimp only); omega
           ·skip
            have hp0 : (fun u => decide (atm[u]! = f)) (unitsL m m[f]!)[k]! = false := decide_eq_false (by omega)
            have hp1 : (fun u => !decide (atm[u]! = f)) (unitsL m m[f]!)[k]! = true := by show (!decide _) = true; rw [decide_eq_false (by omega)]; rfl
            refine W.skip (E.to (W.region (SL.mv rfl rfl (SL.mv rfl rfl ?_))))
            refine SL.val (O.idx_ref (i := 1) (m := 1) rfl rfl (rfl) (by decide) Try.underlying106 (by kernel_rfl) rfl rfl Taken.no) ?_
            refine SL.val (O.ld1 (PtI.ref rfl rfl) rfl Try.underlying39 rfl rfl Taken.no) ?_
            refine SL.mv rfl rfl ?_
            refine SL.memS (O.buildSlice 135 (rows := [(unitsL m m[f]!)[k]!].map eN) rfl rfl Try.underlying39 hi3 hz3 hs3 (by decide) rfl (by decide) rfl rfl rfl Taken.no) rfl rfl (S' := (135, .data 3 1 ([(unitsL m m[f]!)[k]!].map eN)) :: _) rfl ?_
            refine SL.memS (O.app (k' := 136) rfl rfl (SlOf.own rfl rfl) Try.underlying39 hi3 hz3 hs3 rfl rfl (by exact app_map) (by rw [hb3]; (simp only [List.length_map, List.length_singleton]; omega)) (by (simp only [List.length_map, List.length_singleton]; omega)) rfl Taken.no) rfl rfl (S' := (136, _) :: (131, .dead) :: _) rfl ?_
            refine SL.val (O.idx_ref (i := 1) (m := 1) rfl rfl (rfl) (by decide) Try.underlying106 (by kernel_rfl) rfl rfl Taken.no) ?_
            refine SL.effS (O.st_ref (m := 1) rfl rfl rfl (js := [_]) rfl rfl (by kernel_rfl) (by simp) (Nat.le_of_ble_eq_true rfl) rfl (is' := [_, _]) rfl Taken.no) (S' := (121, _) :: _) rfl ?_
            refine SL.nil (E.inn (E.to (W.region ?_)))
            refine SL.val (O.det (fun _ => by first | exact G.R.add64 rfl rfl (by omega) | exact G.R.add rfl rfl) rfl Taken.no) ?_
            refine SL.mv rfl rfl (SL.nil ?_)
            refine E.again ((k + 1)) (rn [(131, 136)]) ?_ ?_ rfl (fixL_spec rfl) ?_ ?_
            · exact (SubF.cons rfl (SubF.cons rfl (SubF.cons rfl (SubF.cons rfl (SubF.cons rfl (SubF.cons rfl (SubF.cons rfl (SubF.cons rfl (SubF.cons rfl (SubF.cons rfl (SubF.cons rfl SubF.nil)))))))))))
            · exact (SubS.val rfl (by (try dsimp only); first | exact sb_data (by rw [filt_y (by omega) hp0, ← List.append_assoc]) | exact sb_data (by rw [filt_n (by omega) hp0])) (SubS.val rfl (by (try dsimp only); first | exact sb_data (by rw [filt_n (by omega) hp1]) | exact sb_data (by rw [filt_y (by omega) hp1])) (SubS.cons rfl (SubS.cons rfl (SubS.cons rfl SubS.nil)))))
            ·try dsimp only
             omega
            · (try dsimp only); omega
          ·skip
           refine W.exit (E.th (E.th (E.hit (E.to (W.rg ?_)))))
           refine SL.val (O.fld_ref (o' := 2) rfl Try.underlying55 rfl (m := 0) (by kernel_rfl) rfl rfl Taken.no) ?_
           refine SL.val (O.ld1 (PtI.ref rfl rfl) rfl Try.underlying3 rfl rfl Taken.no) ?_
           refine SL.val (O.det (fun _ => G.R.mv (G.R.eql rfl rfl) (congrArg Value.bool (decide_eq_false (by omega)))) rfl Taken.no) ?_
           refine SL.mv rfl rfl ?_
           have hg34 : false ≠ true := by decide
           refine SL.sk rfl rfl rfl hg34 (SL.sk rfl rfl rfl hg34 (SL.sk rfl rfl rfl hg34 (SL.sk rfl rfl rfl hg34 ?_)))
           refine SL.val (O.pick_f rfl rfl rfl rfl Taken.no) ?_
           refine E.fo ?_
           refine W.cond_f rfl ?_
           refine W.skip (E.to (W.seq ?_))
           refine W.freezeC 121 0 130 (is' := [_, _]) rfl rfl rfl rfl ?_
           refine W.freezeC 121 1 131 (is' := [_, _]) rfl rfl rfl rfl ?_
           refine W.region ?_
           have hkH : k = (unitsL m m[f]!).length := by omega
           obtain ⟨s, hs⟩ : ∃ s : Stp, s = ⟨false, (f : Int), (t : Int)⟩ := ⟨_, rfl⟩
           have hfe : s.f.toNat = f := by rw [hs]; rfl
           have hth : thereL m s.t = unitsL m t := by rw [hs]; exact there_nat m t
           have hg0 : ((thereL m (t : Int)) ++ ((unitsL m m[f]!).take k).filter (fun u => decide (atm[u]! = f))) = g0L m atm s := by rw [hkH, List.take_length, hs]; rfl
           have hg1 : (((unitsL m m[f]!).take k).filter (fun u => !decide (atm[u]! = f))) = g1L m atm s := by rw [hkH, List.take_length, hs]; rfl
           have hpre : preF n atm m s := by rw [hs]; exact ⟨⟨by show (0 : Int) ≤ f; omega, by show (f : Int) < n; omega, by show (t : Int) < (n : Int); omega, by show -1 ≤ (t : Int); omega, fun h => rfl⟩, fun h => ⟨by show m[t]! = t; omega, by show m[f]! ≠ t; omega⟩, fun h => (by cases h), fun h => ⟨by show atm[f]! = f; omega, fun h => by exfalso; have h2 : (t : Int) < 0 := h; omega⟩⟩
           have hgb := g_b (atm := atm) (s := s) hml
           have hl0 : (partsL lk (g0L m atm s)).length ≤ (g0L m atm s).length := partsN_len
           have hl1 : (partsL lk (g1L m atm s)).length ≤ (g1L m atm s).length := partsN_len
           rw [hg0]
           refine SL.mv rfl rfl ?_
           refine SL.memS (O.call (rn [(0, 137)]) [] rfl rfl rfl (clone_h (rows := m.map eN) (by rw [List.length_map]; omega)) (.cons (ArgOk.same rfl) .nil) SubS.nil rfl rfl rfl rfl rfl (.inl rfl) hcallOk39 (r' := .own 137) rfl rfl Taken.no) rfl rfl (S' := (137, .data _ _ _) :: _) rfl ?_
           refine SL.memS (O.alloc (z := .slice none 0 0) (is := [.u (.sc (.slice none 0 0))]) 138 (by kernel_rfl) rfl rfl rfl Taken.no) rfl rfl (S' := (138, _) :: _) rfl ?_
           refine SL.effS (O.st_ref (m := 1) rfl rfl rfl (js := [_]) rfl rfl (by kernel_rfl) (by simp) (Nat.le_of_ble_eq_true rfl) rfl (is' := [_]) rfl Taken.no) (S' := (138, _) :: _) rfl ?_
           refine E.fo (W.seq (W.rg ?_))
           refine SL.val (O.idx_ref (i := 0) (m := 1) rfl rfl (rfl) (by decide) Try.underlying106 (by kernel_rfl) rfl rfl Taken.no) ?_
           refine SL.val (O.ld1 (PtI.ref rfl rfl) rfl Try.underlying39 rfl rfl Taken.no) ?_
           refine SL.val (O.lenE (SlOf.fz rfl (by decide)) (by first | exact List.length_map _ | rfl) Try.underlying39 rfl Taken.no) ?_
           refine SL.mv rfl rfl (E.fo ?_)
           refine W.pick (K:=[(0,_),(6,_),(7,_),(8,_),(11,_),(12,_),(16,_),(171,_),(172,_),(173,_)]) (Z:=[(101,_),(119,_),(121,_),(137,_),(138,_)]) ⟨rfl,rfl,rfl,rfl,rfl,rfl,rfl,rfl,rfl,rfl,trivial⟩ ⟨rfl,rfl,rfl,rfl,rfl,trivial⟩ ?_
           refine W.block ?_
           refine W.loopx1 (fun (j : Nat) => [(173, vI (j : Int))]) (fun (j : Nat) => [(139, .data 3 1 ((setAll (m.map (fun x : Nat => (x : Int))) ((g0L m atm s).take j) (-1)).map eI)), (138, .cells 39 [.own 139])]) (fun (j : Nat) => j ≤ (g0L m atm s).length) (fun (j : Nat) => (g0L m atm s).length - j) (0) (rn [(139, 137)]) (.cons (t := 0) rfl (.cons (t := 6) rfl (.cons (t := 7) rfl (.cons (t := 8) rfl (.cons (t := 11) rfl (.cons (t := 12) rfl (.cons (t := 16) rfl (.cons (t := 171) rfl (.cons (t := 172) rfl .nil))))))))) (.cons (t := 101) rfl (.cons (t := 119) rfl (.cons (t := 121) rfl .nil))) rfl ?_ ?_ rfl rfl ?_ ?_
           · exact (SubF.cons rfl SubF.nil)
           · exact (SubS.val rfl (by exact sb_data (by rw [List.take_zero]; exact (eI_eN m).symm)) (SubS.cons rfl SubS.nil))
           ·skip
            omega
           intro j hinv
           have hj := hinv
           have hnl : (setAll (m.map (fun x : Nat => (x : Int))) ((g0L m atm s).take j) (-1)).length = n := by rw [setAll_len, List.length_map]; exact hml
           refine W.rg ?_
           refine SL.val (O.det (fun _ => G.R.lss rfl rfl) rfl Taken.no) ?_
           refine E.fo (W.seq ?_)
           first | refine W.cond_d rfl (fun hc35 => ?_) (fun hc35 => ?_) | refine W.cond_nd rfl (fun hc35 => ?_) (fun hc35 => ?_) | refine W.cond rfl (fun hc35 => ?_) (fun hc35 => ?_)
           ·skip
            have hGj := hgb.2.1 (g0L m atm s)[j]! (mem_at (by omega))
            refine W.skip (E.to (W.seq (W.block (W.rg ?_))))
            refine SL.val (O.idx_fz (i := j) rfl rfl (rfl) (row_get (by omega)) Try.underlying39 hi3 hs3 rfl Taken.no) ?_
            refine SL.val (O.ld1 (PtI.ofU (PtU.fz rfl)) rfl Try.underlying3 rfl rfl Taken.no) ?_
            refine SL.an rfl rfl (E.fo (W.region ?_))
            refine SL.val (O.ld1 (PtI.ref rfl rfl) rfl Try.underlying39 rfl rfl Taken.no) ?_
            refine SL.mv rfl rfl ?_
            refine SL.val (O.idx_own (i := ((g0L m atm s)[j]!)) rfl rfl rfl (rfl) (by rw [List.length_map]; omega) Try.underlying39 hi3 hs3 rfl Taken.no) ?_
            refine SL.effS (O.st_els (m := 1) rfl rfl rfl (us := [_]) rfl rfl (by kernel_rfl) (by simp) (row_get (by omega)) (by exact Nat.le_of_ble_eq_true rfl) rfl rfl (rows' := ((setAll (m.map (fun x : Nat => (x : Int))) ((g0L m atm s).take j) (-1)).set ((g0L m atm s)[j]!) (-1)).map eI) (by exact set_map rfl) Taken.no) (S' := (139, _) :: _) rfl ?_
            refine SL.nil (E.inn (E.to (W.region ?_)))
            refine SL.val (O.det (fun _ => by first | exact G.R.add64 rfl rfl (by omega) | exact G.R.add rfl rfl) rfl Taken.no) ?_
            refine SL.mv rfl rfl (SL.nil ?_)
            refine E.again ((j + 1)) (rn []) ?_ ?_ rfl (fixL_spec rfl) ?_ ?_
            · exact (SubF.cons rfl (SubF.cons rfl (SubF.cons rfl (SubF.cons rfl (SubF.cons rfl (SubF.cons rfl (SubF.cons rfl (SubF.cons rfl (SubF.cons rfl (SubF.cons rfl SubF.nil))))))))))
            · exact (SubS.val rfl (by (try dsimp only); exact sb_data (by rw [setAll_sG (by omega)])) (SubS.cons rfl (SubS.cons rfl (SubS.cons rfl (SubS.cons rfl SubS.nil)))))
            ·try dsimp only
             omega
            · (try dsimp only); omega
           ·skip
            refine W.exit (E.th (E.th (E.hit (E.to (W.seq (W.seq ?_))))))
            have hjG : j = (g0L m atm s).length := by omega
            rw [hjG, List.take_length]
            refine W.region (SL.mv rfl rfl ?_)
            refine SL.val (O.nilCheck rfl rfl rfl Taken.no) ?_
            refine SL.val (O.fld_fz rfl Try.underlying78 rfl (m := 0) (by kernel_rfl) rfl rfl Taken.no) ?_
            refine SL.val (O.ld1 (PtI.ofU (PtU.fz rfl)) rfl Try.underlying23 rfl rfl Taken.no) ?_
            refine SL.val (O.makeFunc rfl rfl rfl Taken.no) ?_
            refine SL.memS (O.call (rn [(0, 138), (1, 139)]) [] rfl rfl rfl (containsFuncN (nm := (nm0 m atm s)) (q := bar) (by rw [nm0_len, hml]; exact hb)) (.cons (ArgOk.same rfl) (.cons (ArgOk.same rfl) .nil)) (SubS.cons rfl (SubS.cons rfl SubS.nil)) rfl rfl rfl rfl rfl (.inl rfl) hcallOk63 (r' := .u _) rfl rfl Taken.no) rfl rfl (S' := (138, .cells _ [.own 139]) :: (139, .data _ _ _) :: _) rfl ?_
            refine E.fo ?_
            first | refine W.cond_d rfl (fun hc36 => ?_) (fun hc36 => ?_) | refine W.cond_nd rfl (fun hc36 => ?_) (fun hc36 => ?_) | refine W.cond rfl (fun hc36 => ?_) (fun hc36 => ?_)
            ·skip
             refine W.rg (SL.an rfl rfl (SL.an rfl rfl (SL.an rfl rfl (E.fo (W.ret (E.thr ?_))))))
             refine E.nilsl 6 1 rfl ?_
             refine E.fin (rs := [_, _, _]) (rn []) (.inl rfl) rfl (.cons (ResOne.tmp rfl) (.cons (ResOne.tmp rfl) (.cons (ResOne.tmp rfl) .nil))) ?_ ?_ rfl (fixL_spec rfl)
             ·skip
              have hcl : bar.any (nmHit (nm0 m atm s)) = true := by assumption
              have hno : ¬ posF n bar atm m s := fun q => by rw [hit_eq hml hb, q.2] at hcl; cases hcl
              rw [← hs, apN_n hno, apG_n hno, dec_f hno]; rfl
             · exact SubS.nil
            ·skip
             refine W.skip (E.to (W.rg (SL.an rfl rfl (E.fo (W.seq (W.rg ?_))))))
             have hcl : bar.any (nmHit (nm0 m atm s)) = false := by first | assumption | simp_all
             have hL : ∀ p ∈ gL lk m atm s, p.length ≤ 1000 := fun p hp => by rcases List.mem_append.1 hp with z | z <;> (have := (partsN_units z).2.1; omega)
             refine SL.val (O.ldN (m := 2) (PtI.ref rfl rfl) (js := [_, _]) rfl (Nat.le_of_ble_eq_true rfl) Try.underlying106 rfl (by kernel_rfl) rfl Taken.no) ?_
             refine SL.mv rfl rfl (E.fo (W.block ?_))
             refine W.unroll ?_
             refine W.rg ?_
             refine SL.val (O.det (fun _ => G.R.mv (G.R.lss rfl rfl) (congrArg Value.bool (decide_eq_true (by decide)))) rfl Taken.no) ?_
             refine E.fo (W.seq ?_)
             refine W.cond_t rfl ?_
             refine W.skip (E.to (W.seq (W.block (W.rg ?_))))
             refine SL.val (O.idxval (i := 0) rfl rfl (by rfl) (by decide) (by rfl) Try.underlying106 (by kernel_rfl) Try.underlying39 rfl rfl Taken.no) ?_
             refine SL.an rfl rfl (E.fo (W.rg (SL.mv rfl rfl (SL.mv rfl rfl ?_))))
             refine SL.val (O.nilCheck rfl rfl rfl Taken.no) ?_
             refine SL.val (O.fld_fz rfl Try.underlying78 rfl (m := 0) (by kernel_rfl) rfl rfl Taken.no) ?_
             refine SL.val (O.ld1 (PtI.ofU (PtU.fz rfl)) rfl Try.underlying76 rfl rfl Taken.no) ?_
             refine SL.val (O.callp rfl rfl rfl (parts_h (n := n) (us := (g0L m atm s)) (by omega) hgb.2.1) (.cons (ArgOk.same rfl) (.cons (ArgOk.same rfl) .nil)) hcallOk42 rfl Taken.no) ?_
             refine SL.val (O.lenE (SlOf.fz rfl (by decide)) (by first | exact List.length_map _ | rfl) Try.underlying75 rfl Taken.no) ?_
             refine SL.mv rfl rfl (E.fo ?_)
             refine W.pick (K:=[(0,_),(6,_),(7,_),(8,_),(11,_),(16,_),(19,_),(21,_),(187,_),(188,_),(189,_),(190,_),(191,_),(192,_),(193,_),(194,_),(195,_),(196,_),(197,_),(198,_)]) (Z:=[(101,_),(119,_),(121,_),(138,_),(139,_)]) ⟨rfl,rfl,rfl,rfl,rfl,rfl,rfl,rfl,rfl,rfl,rfl,rfl,rfl,rfl,rfl,rfl,rfl,rfl,rfl,rfl,trivial⟩ ⟨rfl,rfl,rfl,rfl,rfl,trivial⟩ ?_
             refine W.block ?_
             refine W.loopx1 (fun (p : Nat) => [(198, vI (p : Int)), (19, vI (sumV wt ((partsL lk (g0L m atm s)).take p)))]) (fun (p : Nat) => [(140, .data 3 1 ((nameF (fun x : Nat => (x : Int)) (nm0 m atm s) ((partsL lk (g0L m atm s)).take p)).map eI)), (138, .cells 39 [.own 140])]) (fun (p : Nat) => p ≤ (partsL lk (g0L m atm s)).length) (fun (p : Nat) => (partsL lk (g0L m atm s)).length - p) (0) (rn [(140, 139)]) (.cons (t := 0) rfl (.cons (t := 6) rfl (.cons (t := 7) rfl (.cons (t := 8) rfl (.cons (t := 11) rfl (.cons (t := 16) rfl (.cons (t := 21) rfl (.cons (t := 187) rfl (.cons (t := 188) rfl (.cons (t := 189) rfl (.cons (t := 190) rfl (.cons (t := 191) rfl (.cons (t := 192) rfl (.cons (t := 193) rfl (.cons (t := 194) rfl (.cons (t := 195) rfl (.cons (t := 196) rfl (.cons (t := 197) rfl .nil)))))))))))))))))) (.cons (t := 101) rfl (.cons (t := 119) rfl (.cons (t := 121) rfl .nil))) rfl ?_ ?_ rfl rfl ?_ ?_
             · exact (SubF.cons rfl (SubF.val rfl (by exact iv_int rfl) SubF.nil))
             · exact (SubS.val rfl (by exact sb_data (by rw [List.take_zero]; rfl)) (SubS.cons rfl SubS.nil))
             ·skip
              omega
             intro p hinv
             have hp := hinv
             have hpl : ((partsL lk (g0L m atm s)).take p).length ≤ 400 := by (try rw [List.length_append]); rw [List.length_take]; omega
             have hvb := sumV_b2 hw (L := ((partsL lk (g0L m atm s)).take p)) (fun p hp => hL p (List.mem_append_left _ (List.mem_of_mem_take hp)))
             refine W.rg ?_
             refine SL.val (O.det (fun _ => G.R.lss rfl rfl) rfl Taken.no) ?_
             refine E.fo (W.seq ?_)
             first | refine W.cond_d rfl (fun hc37 => ?_) (fun hc37 => ?_) | refine W.cond_nd rfl (fun hc37 => ?_) (fun hc37 => ?_) | refine W.cond rfl (fun hc37 => ?_) (fun hc37 => ?_)
             ·skip
              have hpu := partsN_units (mem_at (l := (partsL lk (g0L m atm s))) (i := p) (by omega))
              have hvp := valF_b hw (l := ((partsL lk (g0L m atm s))[p]!)) (by omega)
              refine W.skip (E.to (W.seq (W.block (W.rg ?_))))
              refine SL.val (O.idx_fz (i := p) rfl rfl (rfl) (row_get (by omega)) Try.underlying75 hi39 hs39 rfl Taken.no) ?_
              refine SL.val (O.ld1 (PtI.ofU (PtU.fz rfl)) rfl Try.underlying39 rfl rfl Taken.no) ?_
              refine SL.an rfl rfl (E.fo (W.rg (SL.mv rfl rfl (SL.mv rfl rfl (SL.mv rfl rfl ?_)))))
              refine SL.val (O.callp rfl rfl rfl (value_h (l := ((partsL lk (g0L m atm s))[p]!)) hw (by omega) (fun u hu => hgb.2.1 u (hpu.2.2 u hu))) (.cons (ArgOk.same rfl) (.cons (ArgOk.same rfl) .nil)) hcallOk45 rfl Taken.no) ?_
              refine SL.val (O.det (fun _ => by first | exact G.R.add64 rfl rfl (by omega) | exact G.R.add rfl rfl) rfl Taken.no) ?_
              refine SL.an rfl rfl (E.fo ?_)
              refine W.pick (K:=[(0,_),(6,_),(7,_),(8,_),(11,_),(16,_),(19,_),(21,_),(23,_),(187,_),(188,_),(189,_),(190,_),(191,_),(192,_),(193,_),(194,_),(195,_),(196,_),(197,_),(198,_),(199,_),(200,_),(201,_),(202,_),(203,_),(204,_),(205,_),(206,_)]) (Z:=[(101,_),(119,_),(121,_),(138,_),(140,_)]) ⟨rfl,rfl,rfl,rfl,rfl,rfl,rfl,rfl,rfl,rfl,rfl,rfl,rfl,rfl,rfl,rfl,rfl,rfl,rfl,rfl,rfl,rfl,rfl,rfl,rfl,rfl,rfl,rfl,rfl,trivial⟩ ⟨rfl,rfl,rfl,rfl,rfl,trivial⟩ ?_
              refine W.rg (SL.mv rfl rfl ?_)
              refine SL.val (O.lenE (SlOf.fz rfl (by decide)) (by first | exact List.length_map _ | rfl) Try.underlying39 rfl Taken.no) ?_
              refine SL.mv rfl rfl (E.fo ?_)
              refine W.pick (K:=[(0,_),(6,_),(7,_),(8,_),(11,_),(16,_),(19,_),(21,_),(23,_),(187,_),(188,_),(189,_),(190,_),(191,_),(192,_),(193,_),(194,_),(195,_),(196,_),(197,_),(198,_),(199,_),(200,_),(201,_),(202,_),(203,_),(204,_),(205,_),(206,_),(207,_),(208,_),(209,_)]) (Z:=[(101,_),(119,_),(121,_),(138,_),(140,_)]) ⟨rfl,rfl,rfl,rfl,rfl,rfl,rfl,rfl,rfl,rfl,rfl,rfl,rfl,rfl,rfl,rfl,rfl,rfl,rfl,rfl,rfl,rfl,rfl,rfl,rfl,rfl,rfl,rfl,rfl,rfl,rfl,rfl,trivial⟩ ⟨rfl,rfl,rfl,rfl,rfl,trivial⟩ ?_
              refine W.block ?_
              refine W.loopx1 (fun (j : Nat) => [(209, vI (j : Int))]) (fun (j : Nat) => [(141, .data 3 1 ((setAll (nameF (fun x : Nat => (x : Int)) (nm0 m atm s) ((partsL lk (g0L m atm s)).take p)) (((partsL lk (g0L m atm s))[p]!).take j) ((minL ((partsL lk (g0L m atm s))[p]!) : Nat) : Int)).map eI)), (138, .cells 39 [.own 141])]) (fun (j : Nat) => j ≤ ((partsL lk (g0L m atm s))[p]!).length) (fun (j : Nat) => ((partsL lk (g0L m atm s))[p]!).length - j) (0) (rn [(141, 140)]) (.cons (t := 0) rfl (.cons (t := 6) rfl (.cons (t := 7) rfl (.cons (t := 8) rfl (.cons (t := 11) rfl (.cons (t := 16) rfl (.cons (t := 19) rfl (.cons (t := 21) rfl (.cons (t := 23) rfl (.cons (t := 187) rfl (.cons (t := 188) rfl (.cons (t := 189) rfl (.cons (t := 190) rfl (.cons (t := 191) rfl (.cons (t := 192) rfl (.cons (t := 193) rfl (.cons (t := 194) rfl (.cons (t := 195) rfl (.cons (t := 196) rfl (.cons (t := 197) rfl (.cons (t := 198) rfl (.cons (t := 199) rfl (.cons (t := 200) rfl (.cons (t := 201) rfl (.cons (t := 202) rfl (.cons (t := 203) rfl (.cons (t := 204) rfl (.cons (t := 205) rfl (.cons (t := 206) rfl (.cons (t := 207) rfl (.cons (t := 208) rfl .nil))))))))))))))))))))))))))))))) (.cons (t := 101) rfl (.cons (t := 119) rfl (.cons (t := 121) rfl .nil))) rfl ?_ ?_ rfl rfl ?_ ?_
              · exact (SubF.cons rfl SubF.nil)
              · exact (SubS.val rfl (by exact sb_data (by rw [List.take_zero]; rfl)) (SubS.cons rfl SubS.nil))
              ·skip
               omega
              intro j hinv
              have hj := hinv
              have hnl : (setAll (nameF (fun x : Nat => (x : Int)) (nm0 m atm s) ((partsL lk (g0L m atm s)).take p)) (((partsL lk (g0L m atm s))[p]!).take j) ((minL ((partsL lk (g0L m atm s))[p]!) : Nat) : Int)).length = n := by rw [setAll_len, nameF_len, nm0_len]; exact hml
              refine W.rg ?_
              refine SL.val (O.det (fun _ => G.R.lss rfl rfl) rfl Taken.no) ?_
              refine E.fo ?_
              refine W.pick (K:=[(0,_),(6,_),(7,_),(8,_),(11,_),(16,_),(19,_),(21,_),(23,_),(187,_),(188,_),(189,_),(190,_),(191,_),(192,_),(193,_),(194,_),(195,_),(196,_),(197,_),(198,_),(199,_),(200,_),(201,_),(202,_),(203,_),(204,_),(205,_),(206,_),(207,_),(208,_),(209,_),(210,_)]) (Z:=[(101,_),(119,_),(121,_),(138,_),(141,_)]) ⟨rfl,rfl,rfl,rfl,rfl,rfl,rfl,rfl,rfl,rfl,rfl,rfl,rfl,rfl,rfl,rfl,rfl,rfl,rfl,rfl,rfl,rfl,rfl,rfl,rfl,rfl,rfl,rfl,rfl,rfl,rfl,rfl,rfl,trivial⟩ ⟨rfl,rfl,rfl,rfl,rfl,trivial⟩ ?_
              refine W.seq ?_
              first | refine W.cond_d rfl (fun hc38 => ?_) (fun hc38 => ?_) | refine W.cond_nd rfl (fun hc38 => ?_) (fun hc38 => ?_) | refine W.cond rfl (fun hc38 => ?_) (fun hc38 => ?_)
              ·skip
               have hun := hgb.2.1 _ (hpu.2.2 ((partsL lk (g0L m atm s))[p]!)[j]! (mem_at (by omega)))
               refine W.skip (E.to ?_)
               refine W.pick (K:=[(0,_),(6,_),(7,_),(8,_),(11,_),(16,_),(19,_),(21,_),(23,_),(187,_),(188,_),(189,_),(190,_),(191,_),(192,_),(193,_),(194,_),(195,_),(196,_),(197,_),(198,_),(199,_),(200,_),(201,_),(202,_),(203,_),(204,_),(205,_),(206,_),(207,_),(208,_),(209,_),(210,_)]) (Z:=[(101,_),(119,_),(121,_),(138,_),(141,_)]) ⟨rfl,rfl,rfl,rfl,rfl,rfl,rfl,rfl,rfl,rfl,rfl,rfl,rfl,rfl,rfl,rfl,rfl,rfl,rfl,rfl,rfl,rfl,rfl,rfl,rfl,rfl,rfl,rfl,rfl,rfl,rfl,rfl,rfl,trivial⟩ ⟨rfl,rfl,rfl,rfl,rfl,trivial⟩ ?_
               refine W.seq (W.block (W.rg ?_))
               refine SL.val (O.idx_fz (i := j) rfl rfl (rfl) (row_get (by omega)) Try.underlying39 hi3 hs3 rfl Taken.no) ?_
               refine SL.val (O.ld1 (PtI.ofU (PtU.fz rfl)) rfl Try.underlying3 rfl rfl Taken.no) ?_
               refine SL.an rfl rfl (E.fo ?_)
               refine W.pick (K:=[(0,_),(6,_),(7,_),(8,_),(11,_),(16,_),(19,_),(21,_),(23,_),(25,_),(187,_),(188,_),(189,_),(190,_),(191,_),(192,_),(193,_),(194,_),(195,_),(196,_),(197,_),(198,_),(199,_),(200,_),(201,_),(202,_),(203,_),(204,_),(205,_),(206,_),(207,_),(208,_),(209,_),(210,_),(211,_),(212,_)]) (Z:=[(101,_),(119,_),(121,_),(138,_),(141,_)]) ⟨rfl,rfl,rfl,rfl,rfl,rfl,rfl,rfl,rfl,rfl,rfl,rfl,rfl,rfl,rfl,rfl,rfl,rfl,rfl,rfl,rfl,rfl,rfl,rfl,rfl,rfl,rfl,rfl,rfl,rfl,rfl,rfl,rfl,rfl,rfl,rfl,trivial⟩ ⟨rfl,rfl,rfl,rfl,rfl,trivial⟩ ?_
               refine W.draw [⟨[138], [], [], [141]⟩, ⟨[], [], [], []⟩, ⟨[], [], [], []⟩, ⟨[], [], [], []⟩, ⟨[141], [], [], []⟩, ⟨[141], [141], [], []⟩] rfl (by kernel_rfl) (by kernel_rfl) rfl rfl ?_
               refine WH.val (O.ld1 (PtI.ref rfl rfl) rfl Try.underlying39 rfl rfl Taken.no) rfl rfl ?_
               refine WH.mv rfl rfl rfl (WH.mv rfl rfl rfl ?_)
               refine WH.val (O.callp rfl rfl rfl (min_h (l := ((partsL lk (g0L m atm s))[p]!)) (by omega)) (.cons (ArgOk.same rfl) .nil) hcallOk62 rfl Taken.no) rfl rfl ?_
               refine WH.val (O.idx_own (i := (((partsL lk (g0L m atm s))[p]!)[j]!)) rfl rfl rfl (rfl) (by rw [List.length_map]; omega) Try.underlying39 hi3 hs3 rfl Taken.no) rfl rfl ?_
               refine WH.effS (O.st_els (m := 1) rfl rfl rfl (us := [_]) rfl rfl (by kernel_rfl) (by simp) (row_get (by omega)) (by exact Nat.le_of_ble_eq_true rfl) rfl rfl (rows' := ((setAll (nameF (fun x : Nat => (x : Int)) (nm0 m atm s) ((partsL lk (g0L m atm s)).take p)) (((partsL lk (g0L m atm s))[p]!).take j) ((minL ((partsL lk (g0L m atm s))[p]!) : Nat) : Int)).set (((partsL lk (g0L m atm s))[p]!)[j]!) ((minL ((partsL lk (g0L m atm s))[p]!) : Nat) : Int)).map eI) (by exact set_map rfl) Taken.no) rfl rfl rfl (S' := (141, _) :: _) rfl ?_
               refine WH.nil (E.inn (E.to ?_))
               refine W.pick (K:=[(0,_),(6,_),(7,_),(8,_),(11,_),(16,_),(19,_),(21,_),(23,_),(25,_),(187,_),(188,_),(189,_),(190,_),(191,_),(192,_),(193,_),(194,_),(195,_),(196,_),(197,_),(198,_),(199,_),(200,_),(201,_),(202,_),(203,_),(204,_),(205,_),(206,_),(207,_),(208,_),(209,_),(210,_),(211,_),(212,_),(213,_),(214,_),(215,_),(216,_),(217,_)]) (Z:=[(101,_),(119,_),(121,_),(138,_),(141,_)]) ⟨rfl,rfl,rfl,rfl,rfl,rfl,rfl,rfl,rfl,rfl,rfl,rfl,rfl,rfl,rfl,rfl,rfl,rfl,rfl,rfl,rfl,rfl,rfl,rfl,rfl,rfl,rfl,rfl,rfl,rfl,rfl,rfl,rfl,rfl,rfl,rfl,rfl,rfl,rfl,rfl,rfl,trivial⟩ ⟨rfl,rfl,rfl,rfl,rfl,trivial⟩ ?_
               refine W.region ?_
               refine SL.val (O.det (fun _ => by first | exact G.R.add64 rfl rfl (by omega) | exact G.R.add rfl rfl) rfl Taken.no) ?_
               refine SL.mv rfl rfl (SL.nil ?_)
               refine E.again ((j + 1)) (rn []) ?_ ?_ rfl (fixL_spec rfl) ?_ ?_
               · exact (SubF.cons rfl (SubF.cons rfl (SubF.cons rfl (SubF.cons rfl (SubF.cons rfl (SubF.cons rfl (SubF.cons rfl (SubF.cons rfl (SubF.cons rfl (SubF.cons rfl (SubF.cons rfl (SubF.cons rfl (SubF.cons rfl (SubF.cons rfl (SubF.cons rfl (SubF.cons rfl (SubF.cons rfl (SubF.cons rfl (SubF.cons rfl (SubF.cons rfl (SubF.cons rfl (SubF.cons rfl (SubF.cons rfl (SubF.cons rfl (SubF.cons rfl (SubF.cons rfl (SubF.cons rfl (SubF.cons rfl (SubF.cons rfl (SubF.cons rfl (SubF.cons rfl (SubF.cons rfl SubF.nil))))))))))))))))))))))))))))))))
               · exact (SubS.val rfl (by (try dsimp only); exact sb_data (by rw [setAll_sG (by omega)])) (SubS.cons rfl (SubS.cons rfl (SubS.cons rfl (SubS.cons rfl SubS.nil)))))
               ·try dsimp only
                omega
               · (try dsimp only); omega
              ·skip
               refine W.exit (E.th (E.th (E.hit (E.inn (E.to ?_)))))
               refine W.pick (K:=[(0,_),(6,_),(7,_),(8,_),(11,_),(16,_),(19,_),(21,_),(23,_),(187,_),(188,_),(189,_),(190,_),(191,_),(192,_),(193,_),(194,_),(195,_),(196,_),(197,_),(198,_),(199,_),(200,_),(201,_),(202,_),(203,_),(204,_),(205,_),(206,_),(207,_),(208,_),(209,_),(210,_)]) (Z:=[(101,_),(119,_),(121,_),(138,_),(141,_)]) ⟨rfl,rfl,rfl,rfl,rfl,rfl,rfl,rfl,rfl,rfl,rfl,rfl,rfl,rfl,rfl,rfl,rfl,rfl,rfl,rfl,rfl,rfl,rfl,rfl,rfl,rfl,rfl,rfl,rfl,rfl,rfl,rfl,rfl,trivial⟩ ⟨rfl,rfl,rfl,rfl,rfl,trivial⟩ ?_
               refine W.region ?_
               refine SL.val (O.det (fun _ => by first | exact G.R.add64 rfl rfl (by omega) | exact G.R.add rfl rfl) rfl Taken.no) ?_
               refine SL.mv rfl rfl (SL.nil ?_)
               refine E.again ((p + 1)) (rn [(140, 141)]) ?_ ?_ rfl (fixL_spec rfl) ?_ ?_
               · exact (SubF.cons rfl (SubF.val rfl (by (try dsimp only); exact iv_int (by rw [snocP (l := (partsL lk (g0L m atm s))) (by omega), sumV_snoc])) (SubF.cons rfl (SubF.cons rfl (SubF.cons rfl (SubF.cons rfl (SubF.cons rfl (SubF.cons rfl (SubF.cons rfl (SubF.cons rfl (SubF.cons rfl (SubF.cons rfl (SubF.cons rfl (SubF.cons rfl (SubF.cons rfl (SubF.cons rfl (SubF.cons rfl (SubF.cons rfl (SubF.cons rfl (SubF.cons rfl SubF.nil))))))))))))))))))))
               · exact (SubS.val rfl (by (try dsimp only); exact sb_data (by rw [snocP (l := (partsL lk (g0L m atm s))) (by omega), nameF_snoc, show j = ((partsL lk (g0L m atm s))[p]!).length by omega, List.take_length])) (SubS.cons rfl (SubS.cons rfl (SubS.cons rfl (SubS.cons rfl SubS.nil)))))
               ·try dsimp only
                omega
               · (try dsimp only); omega
             ·skip
              refine W.exit (E.th (E.th (E.hit (E.inn (E.to (W.region ?_))))))
              refine SL.val (O.det (fun _ => by first | exact G.R.add64 rfl rfl (by omega) | exact G.R.add rfl rfl) rfl Taken.no) ?_
              refine SL.mv rfl rfl (SL.nil ?_)
              refine E.reround ?_
              refine W.pick (K:=[(0,_),(6,_),(7,_),(8,_),(11,_),(16,_),(19,_),(21,_),(187,_),(188,_),(189,_),(190,_),(191,_),(192,_),(193,_),(194,_),(195,_),(196,_),(197,_),(198,_),(199,_),(220,_)]) (Z:=[(101,_),(119,_),(121,_),(138,_),(140,_)]) ⟨rfl,rfl,rfl,rfl,rfl,rfl,rfl,rfl,rfl,rfl,rfl,rfl,rfl,rfl,rfl,rfl,rfl,rfl,rfl,rfl,rfl,rfl,trivial⟩ ⟨rfl,rfl,rfl,rfl,rfl,trivial⟩ ?_
              refine W.rg ?_
              refine SL.val (O.det (fun _ => G.R.mv (G.R.lss rfl rfl) (congrArg Value.bool (decide_eq_true (by decide)))) rfl Taken.no) ?_
              refine E.fo (W.seq ?_)
              refine W.cond_t rfl ?_
              refine W.skip (E.to (W.seq (W.block (W.rg ?_))))
              refine SL.val (O.idxval (i := 1) rfl rfl (by rfl) (by decide) (by rfl) Try.underlying106 (by kernel_rfl) Try.underlying39 rfl rfl Taken.no) ?_
              refine SL.an rfl rfl ?_
              refine SL.as (i' := vL 1 ((g1L m atm s).map eN)) 21 rfl (by (rw [← hg1]; try rfl)) ?_
              refine E.fo ?_
              refine W.pick (K:=[(0,_),(6,_),(7,_),(8,_),(11,_),(16,_),(19,_),(21,_),(187,_),(188,_),(189,_),(190,_),(191,_),(192,_),(193,_),(194,_),(195,_),(196,_),(197,_),(198,_),(199,_),(220,_)]) (Z:=[(101,_),(119,_),(121,_),(138,_),(140,_)]) ⟨rfl,rfl,rfl,rfl,rfl,rfl,rfl,rfl,rfl,rfl,rfl,rfl,rfl,rfl,rfl,rfl,rfl,rfl,rfl,rfl,rfl,rfl,trivial⟩ ⟨rfl,rfl,rfl,rfl,rfl,trivial⟩ ?_
              refine W.rg (SL.mv rfl rfl (SL.mv rfl rfl ?_))
              refine SL.val (O.nilCheck rfl rfl rfl Taken.no) ?_
              refine SL.val (O.fld_fz rfl Try.underlying78 rfl (m := 0) (by kernel_rfl) rfl rfl Taken.no) ?_
              refine SL.val (O.ld1 (PtI.ofU (PtU.fz rfl)) rfl Try.underlying76 rfl rfl Taken.no) ?_
              refine SL.val (O.callp rfl rfl rfl (parts_h (n := n) (us := (g1L m atm s)) (by omega) hgb.2.2) (.cons (ArgOk.same rfl) (.cons (ArgOk.same rfl) .nil)) hcallOk42 rfl Taken.no) ?_
              refine SL.val (O.lenE (SlOf.fz rfl (by decide)) (by first | exact List.length_map _ | rfl) Try.underlying75 rfl Taken.no) ?_
              refine SL.mv rfl rfl (E.fo ?_)
              refine W.pick (K:=[(0,_),(6,_),(7,_),(8,_),(11,_),(16,_),(19,_),(21,_),(187,_),(188,_),(189,_),(190,_),(191,_),(192,_),(193,_),(194,_),(195,_),(196,_),(197,_),(198,_),(199,_),(220,_)]) (Z:=[(101,_),(119,_),(121,_),(138,_),(140,_)]) ⟨rfl,rfl,rfl,rfl,rfl,rfl,rfl,rfl,rfl,rfl,rfl,rfl,rfl,rfl,rfl,rfl,rfl,rfl,rfl,rfl,rfl,rfl,trivial⟩ ⟨rfl,rfl,rfl,rfl,rfl,trivial⟩ ?_
              refine W.block ?_
              refine W.loopx1 (fun (q : Nat) => [(198, vI (q : Int)), (19, vI (sumV wt ((partsL lk (g0L m atm s)) ++ (partsL lk (g1L m atm s)).take q)))]) (fun (q : Nat) => [(142, .data 3 1 ((nameF (fun x : Nat => (x : Int)) (nm0 m atm s) ((partsL lk (g0L m atm s)) ++ (partsL lk (g1L m atm s)).take q)).map eI)), (138, .cells 39 [.own 142])]) (fun (q : Nat) => q ≤ (partsL lk (g1L m atm s)).length) (fun (q : Nat) => (partsL lk (g1L m atm s)).length - q) (0) (rn [(142, 140)]) (.cons (t := 0) rfl (.cons (t := 6) rfl (.cons (t := 7) rfl (.cons (t := 8) rfl (.cons (t := 11) rfl (.cons (t := 16) rfl (.cons (t := 21) rfl (.cons (t := 187) rfl (.cons (t := 188) rfl (.cons (t := 189) rfl (.cons (t := 190) rfl (.cons (t := 191) rfl (.cons (t := 192) rfl (.cons (t := 193) rfl (.cons (t := 194) rfl (.cons (t := 195) rfl (.cons (t := 196) rfl (.cons (t := 197) rfl (.cons (t := 220) rfl .nil))))))))))))))))))) (.cons (t := 101) rfl (.cons (t := 119) rfl (.cons (t := 121) rfl .nil))) rfl ?_ ?_ rfl rfl ?_ ?_
              · exact (SubF.cons rfl (SubF.val rfl (by exact iv_int (by rw [List.take_zero, List.append_nil, show p = (partsL lk (g0L m atm s)).length by omega, List.take_length])) SubF.nil))
              · exact (SubS.val rfl (by exact sb_data (by rw [List.take_zero, List.append_nil, show p = (partsL lk (g0L m atm s)).length by omega, List.take_length])) (SubS.cons rfl SubS.nil))
              ·skip
               omega
              intro q hinv
              have hq := hinv
              have hpl : ((partsL lk (g0L m atm s)) ++ (partsL lk (g1L m atm s)).take q).length ≤ 400 := by (try rw [List.length_append]); rw [List.length_take]; omega
              have hvb := sumV_b2 hw (L := ((partsL lk (g0L m atm s)) ++ (partsL lk (g1L m atm s)).take q)) (fun p hp => hL p ((List.mem_append.1 hp).elim (fun z => List.mem_append_left _ z) fun z => List.mem_append_right _ (List.mem_of_mem_take z)))
              refine W.rg ?_
              refine SL.val (O.det (fun _ => G.R.lss rfl rfl) rfl Taken.no) ?_
              refine E.fo (W.seq ?_)
              first | refine W.cond_d rfl (fun hc39 => ?_) (fun hc39 => ?_) | refine W.cond_nd rfl (fun hc39 => ?_) (fun hc39 => ?_) | refine W.cond rfl (fun hc39 => ?_) (fun hc39 => ?_)
              ·skip
               have hpu := partsN_units (mem_at (l := (partsL lk (g1L m atm s))) (i := q) (by omega))
               have hvp := valF_b hw (l := ((partsL lk (g1L m atm s))[q]!)) (by omega)
               refine W.skip (E.to (W.seq (W.block (W.rg ?_))))
               refine SL.val (O.idx_fz (i := q) rfl rfl (rfl) (row_get (by omega)) Try.underlying75 hi39 hs39 rfl Taken.no) ?_
               refine SL.val (O.ld1 (PtI.ofU (PtU.fz rfl)) rfl Try.underlying39 rfl rfl Taken.no) ?_
               refine SL.an rfl rfl (E.fo ?_)
               refine W.pick (K:=[(0,_),(6,_),(7,_),(8,_),(11,_),(16,_),(19,_),(21,_),(23,_),(187,_),(188,_),(189,_),(190,_),(191,_),(192,_),(193,_),(194,_),(195,_),(196,_),(197,_),(198,_),(199,_),(200,_),(201,_),(220,_)]) (Z:=[(101,_),(119,_),(121,_),(138,_),(142,_)]) ⟨rfl,rfl,rfl,rfl,rfl,rfl,rfl,rfl,rfl,rfl,rfl,rfl,rfl,rfl,rfl,rfl,rfl,rfl,rfl,rfl,rfl,rfl,rfl,rfl,rfl,trivial⟩ ⟨rfl,rfl,rfl,rfl,rfl,trivial⟩ ?_
               refine W.rg (SL.mv rfl rfl (SL.mv rfl rfl (SL.mv rfl rfl ?_)))
               refine SL.val (O.callp rfl rfl rfl (value_h (l := ((partsL lk (g1L m atm s))[q]!)) hw (by omega) (fun u hu => hgb.2.2 u (hpu.2.2 u hu))) (.cons (ArgOk.same rfl) (.cons (ArgOk.same rfl) .nil)) hcallOk45 rfl Taken.no) ?_
               refine SL.val (O.det (fun _ => by first | exact G.R.add64 rfl rfl (by omega) | exact G.R.add rfl rfl) rfl Taken.no) ?_
               refine SL.an rfl rfl (E.fo ?_)
               refine W.pick (K:=[(0,_),(6,_),(7,_),(8,_),(11,_),(16,_),(19,_),(21,_),(23,_),(187,_),(188,_),(189,_),(190,_),(191,_),(192,_),(193,_),(194,_),(195,_),(196,_),(197,_),(198,_),(199,_),(200,_),(201,_),(202,_),(203,_),(204,_),(205,_),(206,_),(220,_)]) (Z:=[(101,_),(119,_),(121,_),(138,_),(142,_)]) ⟨rfl,rfl,rfl,rfl,rfl,rfl,rfl,rfl,rfl,rfl,rfl,rfl,rfl,rfl,rfl,rfl,rfl,rfl,rfl,rfl,rfl,rfl,rfl,rfl,rfl,rfl,rfl,rfl,rfl,rfl,trivial⟩ ⟨rfl,rfl,rfl,rfl,rfl,trivial⟩ ?_
               refine W.rg (SL.mv rfl rfl ?_)
               refine SL.val (O.lenE (SlOf.fz rfl (by decide)) (by first | exact List.length_map _ | rfl) Try.underlying39 rfl Taken.no) ?_
               refine SL.mv rfl rfl (E.fo ?_)
               refine W.pick (K:=[(0,_),(6,_),(7,_),(8,_),(11,_),(16,_),(19,_),(21,_),(23,_),(187,_),(188,_),(189,_),(190,_),(191,_),(192,_),(193,_),(194,_),(195,_),(196,_),(197,_),(198,_),(199,_),(200,_),(201,_),(202,_),(203,_),(204,_),(205,_),(206,_),(207,_),(208,_),(209,_),(220,_)]) (Z:=[(101,_),(119,_),(121,_),(138,_),(142,_)]) ⟨rfl,rfl,rfl,rfl,rfl,rfl,rfl,rfl,rfl,rfl,rfl,rfl,rfl,rfl,rfl,rfl,rfl,rfl,rfl,rfl,rfl,rfl,rfl,rfl,rfl,rfl,rfl,rfl,rfl,rfl,rfl,rfl,rfl,trivial⟩ ⟨rfl,rfl,rfl,rfl,rfl,trivial⟩ ?_
               refine W.block ?_
               refine W.loopx1 (fun (j : Nat) => [(209, vI (j : Int))]) (fun (j : Nat) => [(143, .data 3 1 ((setAll (nameF (fun x : Nat => (x : Int)) (nm0 m atm s) ((partsL lk (g0L m atm s)) ++ (partsL lk (g1L m atm s)).take q)) (((partsL lk (g1L m atm s))[q]!).take j) ((minL ((partsL lk (g1L m atm s))[q]!) : Nat) : Int)).map eI)), (138, .cells 39 [.own 143])]) (fun (j : Nat) => j ≤ ((partsL lk (g1L m atm s))[q]!).length) (fun (j : Nat) => ((partsL lk (g1L m atm s))[q]!).length - j) (0) (rn [(143, 142)]) (.cons (t := 0) rfl (.cons (t := 6) rfl (.cons (t := 7) rfl (.cons (t := 8) rfl (.cons (t := 11) rfl (.cons (t := 16) rfl (.cons (t := 19) rfl (.cons (t := 21) rfl (.cons (t := 23) rfl (.cons (t := 187) rfl (.cons (t := 188) rfl (.cons (t := 189) rfl (.cons (t := 190) rfl (.cons (t := 191) rfl (.cons (t := 192) rfl (.cons (t := 193) rfl (.cons (t := 194) rfl (.cons (t := 195) rfl (.cons (t := 196) rfl (.cons (t := 197) rfl (.cons (t := 198) rfl (.cons (t := 199) rfl (.cons (t := 200) rfl (.cons (t := 201) rfl (.cons (t := 202) rfl (.cons (t := 203) rfl (.cons (t := 204) rfl (.cons (t := 205) rfl (.cons (t := 206) rfl (.cons (t := 207) rfl (.cons (t := 208) rfl (.cons (t := 220) rfl .nil)))))))))))))))))))))))))))))))) (.cons (t := 101) rfl (.cons (t := 119) rfl (.cons (t := 121) rfl .nil))) rfl ?_ ?_ rfl rfl ?_ ?_
               · exact (SubF.cons rfl SubF.nil)
               · exact (SubS.val rfl (by exact sb_data (by rw [List.take_zero]; rfl)) (SubS.cons rfl SubS.nil))
               ·skip
                omega
               intro j hinv
               have hj := hinv
               have hnl : (setAll (nameF (fun x : Nat => (x : Int)) (nm0 m atm s) ((partsL lk (g0L m atm s)) ++ (partsL lk (g1L m atm s)).take q)) (((partsL lk (g1L m atm s))[q]!).take j) ((minL ((partsL lk (g1L m atm s))[q]!) : Nat) : Int)).length = n := by rw [setAll_len, nameF_len, nm0_len]; exact hml
               refine W.rg ?_
               refine SL.val (O.det (fun _ => G.R.lss rfl rfl) rfl Taken.no) ?_
               refine E.fo ?_
               refine W.pick (K:=[(0,_),(6,_),(7,_),(8,_),(11,_),(16,_),(19,_),(21,_),(23,_),(187,_),(188,_),(189,_),(190,_),(191,_),(192,_),(193,_),(194,_),(195,_),(196,_),(197,_),(198,_),(199,_),(200,_),(201,_),(202,_),(203,_),(204,_),(205,_),(206,_),(207,_),(208,_),(209,_),(210,_),(220,_)]) (Z:=[(101,_),(119,_),(121,_),(138,_),(143,_)]) ⟨rfl,rfl,rfl,rfl,rfl,rfl,rfl,rfl,rfl,rfl,rfl,rfl,rfl,rfl,rfl,rfl,rfl,rfl,rfl,rfl,rfl,rfl,rfl,rfl,rfl,rfl,rfl,rfl,rfl,rfl,rfl,rfl,rfl,rfl,trivial⟩ ⟨rfl,rfl,rfl,rfl,rfl,trivial⟩ ?_
               refine W.seq ?_
               first | refine W.cond_d rfl (fun hc40 => ?_) (fun hc40 => ?_) | refine W.cond_nd rfl (fun hc40 => ?_) (fun hc40 => ?_) | refine W.cond rfl (fun hc40 => ?_) (fun hc40 => ?_)
               ·skip
                have hun := hgb.2.2 _ (hpu.2.2 ((partsL lk (g1L m atm s))[q]!)[j]! (mem_at (by omega)))
                refine W.skip (E.to ?_)
                refine W.pick (K:=[(0,_),(6,_),(7,_),(8,_),(11,_),(16,_),(19,_),(21,_),(23,_),(187,_),(188,_),(189,_),(190,_),(191,_),(192,_),(193,_),(194,_),(195,_),(196,_),(197,_),(198,_),(199,_),(200,_),(201,_),(202,_),(203,_),(204,_),(205,_),(206,_),(207,_),(208,_),(209,_),(210,_),(220,_)]) (Z:=[(101,_),(119,_),(121,_),(138,_),(143,_)]) ⟨rfl,rfl,rfl,rfl,rfl,rfl,rfl,rfl,rfl,rfl,rfl,rfl,rfl,rfl,rfl,rfl,rfl,rfl,rfl,rfl,rfl,rfl,rfl,rfl,rfl,rfl,rfl,rfl,rfl,rfl,rfl,rfl,rfl,rfl,trivial⟩ ⟨rfl,rfl,rfl,rfl,rfl,trivial⟩ ?_
                refine W.seq (W.block (W.rg ?_))
                refine SL.val (O.idx_fz (i := j) rfl rfl (rfl) (row_get (by omega)) Try.underlying39 hi3 hs3 rfl Taken.no) ?_
                refine SL.val (O.ld1 (PtI.ofU (PtU.fz rfl)) rfl Try.underlying3 rfl rfl Taken.no) ?_
                refine SL.an rfl rfl (E.fo ?_)
                refine W.pick (K:=[(0,_),(6,_),(7,_),(8,_),(11,_),(16,_),(19,_),(21,_),(23,_),(25,_),(187,_),(188,_),(189,_),(190,_),(191,_),(192,_),(193,_),(194,_),(195,_),(196,_),(197,_),(198,_),(199,_),(200,_),(201,_),(202,_),(203,_),(204,_),(205,_),(206,_),(207,_),(208,_),(209,_),(210,_),(211,_),(212,_),(220,_)]) (Z:=[(101,_),(119,_),(121,_),(138,_),(143,_)]) ⟨rfl,rfl,rfl,rfl,rfl,rfl,rfl,rfl,rfl,rfl,rfl,rfl,rfl,rfl,rfl,rfl,rfl,rfl,rfl,rfl,rfl,rfl,rfl,rfl,rfl,rfl,rfl,rfl,rfl,rfl,rfl,rfl,rfl,rfl,rfl,rfl,rfl,trivial⟩ ⟨rfl,rfl,rfl,rfl,rfl,trivial⟩ ?_
                refine W.draw [⟨[138], [], [], [143]⟩, ⟨[], [], [], []⟩, ⟨[], [], [], []⟩, ⟨[], [], [], []⟩, ⟨[143], [], [], []⟩, ⟨[143], [143], [], []⟩] rfl (by kernel_rfl) (by kernel_rfl) rfl rfl ?_
                refine WH.val (O.ld1 (PtI.ref rfl rfl) rfl Try.underlying39 rfl rfl Taken.no) rfl rfl ?_
                refine WH.mv rfl rfl rfl (WH.mv rfl rfl rfl ?_)
                refine WH.val (O.callp rfl rfl rfl (min_h (l := ((partsL lk (g1L m atm s))[q]!)) (by omega)) (.cons (ArgOk.same rfl) .nil) hcallOk62 rfl Taken.no) rfl rfl ?_
                refine WH.val (O.idx_own (i := (((partsL lk (g1L m atm s))[q]!)[j]!)) rfl rfl rfl (rfl) (by rw [List.length_map]; omega) Try.underlying39 hi3 hs3 rfl Taken.no) rfl rfl ?_
                refine WH.effS (O.st_els (m := 1) rfl rfl rfl (us := [_]) rfl rfl (by kernel_rfl) (by simp) (row_get (by omega)) (by exact Nat.le_of_ble_eq_true rfl) rfl rfl (rows' := ((setAll (nameF (fun x : Nat => (x : Int)) (nm0 m atm s) ((partsL lk (g0L m atm s)) ++ (partsL lk (g1L m atm s)).take q)) (((partsL lk (g1L m atm s))[q]!).take j) ((minL ((partsL lk (g1L m atm s))[q]!) : Nat) : Int)).set (((partsL lk (g1L m atm s))[q]!)[j]!) ((minL ((partsL lk (g1L m atm s))[q]!) : Nat) : Int)).map eI) (by exact set_map rfl) Taken.no) rfl rfl rfl (S' := (143, _) :: _) rfl ?_
                refine WH.nil (E.inn (E.to ?_))
                refine W.pick (K:=[(0,_),(6,_),(7,_),(8,_),(11,_),(16,_),(19,_),(21,_),(23,_),(25,_),(187,_),(188,_),(189,_),(190,_),(191,_),(192,_),(193,_),(194,_),(195,_),(196,_),(197,_),(198,_),(199,_),(200,_),(201,_),(202,_),(203,_),(204,_),(205,_),(206,_),(207,_),(208,_),(209,_),(210,_),(211,_),(212,_),(213,_),(214,_),(215,_),(216,_),(217,_),(220,_)]) (Z:=[(101,_),(119,_),(121,_),(138,_),(143,_)]) ⟨rfl,rfl,rfl,rfl,rfl,rfl,rfl,rfl,rfl,rfl,rfl,rfl,rfl,rfl,rfl,rfl,rfl,rfl,rfl,rfl,rfl,rfl,rfl,rfl,rfl,rfl,rfl,rfl,rfl,rfl,rfl,rfl,rfl,rfl,rfl,rfl,rfl,rfl,rfl,rfl,rfl,rfl,trivial⟩ ⟨rfl,rfl,rfl,rfl,rfl,trivial⟩ ?_
                refine W.region ?_
                refine SL.val (O.det (fun _ => by first | exact G.R.add64 rfl rfl (by omega) | exact G.R.add rfl rfl) rfl Taken.no) ?_
                refine SL.mv rfl rfl (SL.nil ?_)
                refine E.again ((j + 1)) (rn []) ?_ ?_ rfl (fixL_spec rfl) ?_ ?_
                · exact (SubF.cons rfl (SubF.cons rfl (SubF.cons rfl (SubF.cons rfl (SubF.cons rfl (SubF.cons rfl (SubF.cons rfl (SubF.cons rfl (SubF.cons rfl (SubF.cons rfl (SubF.cons rfl (SubF.cons rfl (SubF.cons rfl (SubF.cons rfl (SubF.cons rfl (SubF.cons rfl (SubF.cons rfl (SubF.cons rfl (SubF.cons rfl (SubF.cons rfl (SubF.cons rfl (SubF.cons rfl (SubF.cons rfl (SubF.cons rfl (SubF.cons rfl (SubF.cons rfl (SubF.cons rfl (SubF.cons rfl (SubF.cons rfl (SubF.cons rfl (SubF.cons rfl (SubF.cons rfl (SubF.cons rfl SubF.nil)))))))))))))))))))))))))))))))))
                · exact (SubS.val rfl (by (try dsimp only); exact sb_data (by rw [setAll_sG (by omega)])) (SubS.cons rfl (SubS.cons rfl (SubS.cons rfl (SubS.cons rfl SubS.nil)))))
                ·try dsimp only
                 omega
                · (try dsimp only); omega
               ·skip
                refine W.exit (E.th (E.th (E.hit (E.inn (E.to ?_)))))
                refine W.pick (K:=[(0,_),(6,_),(7,_),(8,_),(11,_),(16,_),(19,_),(21,_),(23,_),(187,_),(188,_),(189,_),(190,_),(191,_),(192,_),(193,_),(194,_),(195,_),(196,_),(197,_),(198,_),(199,_),(200,_),(201,_),(202,_),(203,_),(204,_),(205,_),(206,_),(207,_),(208,_),(209,_),(210,_),(220,_)]) (Z:=[(101,_),(119,_),(121,_),(138,_),(143,_)]) ⟨rfl,rfl,rfl,rfl,rfl,rfl,rfl,rfl,rfl,rfl,rfl,rfl,rfl,rfl,rfl,rfl,rfl,rfl,rfl,rfl,rfl,rfl,rfl,rfl,rfl,rfl,rfl,rfl,rfl,rfl,rfl,rfl,rfl,rfl,trivial⟩ ⟨rfl,rfl,rfl,rfl,rfl,trivial⟩ ?_
                refine W.region ?_
                refine SL.val (O.det (fun _ => by first | exact G.R.add64 rfl rfl (by omega) | exact G.R.add rfl rfl) rfl Taken.no) ?_
                refine SL.mv rfl rfl (SL.nil ?_)
                refine E.again ((q + 1)) (rn [(142, 143)]) ?_ ?_ rfl (fixL_spec rfl) ?_ ?_
                · exact (SubF.cons rfl (SubF.val rfl (by (try dsimp only); exact iv_int (by rw [snocP (l := (partsL lk (g1L m atm s))) (by omega), ← List.append_assoc, sumV_snoc])) (SubF.cons rfl (SubF.cons rfl (SubF.cons rfl (SubF.cons rfl (SubF.cons rfl (SubF.cons rfl (SubF.cons rfl (SubF.cons rfl (SubF.cons rfl (SubF.cons rfl (SubF.cons rfl (SubF.cons rfl (SubF.cons rfl (SubF.cons rfl (SubF.cons rfl (SubF.cons rfl (SubF.cons rfl (SubF.cons rfl (SubF.cons rfl SubF.nil)))))))))))))))))))))
                · exact (SubS.val rfl (by (try dsimp only); exact sb_data (by rw [snocP (l := (partsL lk (g1L m atm s))) (by omega), ← List.append_assoc, nameF_snoc, show j = ((partsL lk (g1L m atm s))[q]!).length by omega, List.take_length])) (SubS.cons rfl (SubS.cons rfl (SubS.cons rfl (SubS.cons rfl SubS.nil)))))
                ·try dsimp only
                 omega
                · (try dsimp only); omega
              ·skip
               refine W.exit (E.th (E.th (E.hit (E.inn (E.to (W.region ?_))))))
               refine SL.val (O.det (fun _ => by first | exact G.R.add64 rfl rfl (by omega) | exact G.R.add rfl rfl) rfl Taken.no) ?_
               refine SL.mv rfl rfl (SL.nil ?_)
               refine E.reround ?_
               refine W.pick (K:=[(0,_),(6,_),(7,_),(8,_),(11,_),(16,_),(19,_),(21,_),(187,_),(188,_),(189,_),(190,_),(191,_),(192,_),(193,_),(194,_),(195,_),(196,_),(197,_),(198,_),(199,_),(220,_)]) (Z:=[(101,_),(119,_),(121,_),(138,_),(142,_)]) ⟨rfl,rfl,rfl,rfl,rfl,rfl,rfl,rfl,rfl,rfl,rfl,rfl,rfl,rfl,rfl,rfl,rfl,rfl,rfl,rfl,rfl,rfl,trivial⟩ ⟨rfl,rfl,rfl,rfl,rfl,trivial⟩ ?_
               refine W.rg ?_
               refine SL.val (O.det (fun _ => G.R.mv (G.R.lss rfl rfl) (congrArg Value.bool (decide_eq_false (by decide)))) rfl Taken.no) ?_
               refine E.fo (W.seq ?_)
               refine W.cond_f rfl ?_
               refine W.exit (E.th (E.th (E.hit (E.to (W.rg ?_)))))
               refine SL.val (O.ld1 (PtI.ref rfl rfl) rfl Try.underlying39 rfl rfl Taken.no) ?_
               refine SL.mv rfl rfl (SL.mv rfl rfl ?_)
               refine SL.val (O.det (fun _ => by first | exact G.R.sub64 rfl rfl (by omega) | exact G.R.sub rfl rfl) rfl Taken.no) ?_
               refine SL.an rfl rfl (SL.an rfl rfl (SL.an rfl rfl (E.fo ?_)))
               refine W.pick (K:=[(6,_),(7,_),(8,_)]) (Z:=[(101,_),(119,_),(121,_),(138,_),(142,_)]) ⟨rfl,rfl,rfl,trivial⟩ ⟨rfl,rfl,rfl,rfl,rfl,trivial⟩ ?_
               refine W.ret ?_
               refine E.freeze 142 rfl (F' := [(6, _)]) (⟨⟨_, rfl, rfl⟩, trivial⟩) ?_
               refine E.fin (rs := [_, _, _]) (rn []) (.inl rfl) rfl (.cons (ResOne.tmp rfl) (.cons (ResOne.tmp rfl) (.cons (ResOne.tmp rfl) .nil))) ?_ ?_ rfl (fixL_spec rfl)
               ·skip
                have hyes : posF n bar atm m s := ⟨hpre, by rw [← hit_eq hml hb]; exact hcl⟩
                rw [← hs, apN_y hyes, apG_y hyes, dec_t hyes, gnF, hfe, hth, show q = (partsL lk (g1L m atm s)).length by omega, List.take_length]; rfl
               · exact SubS.nil
      ·skip
       first | have hg20p := G.gA7 hg20 | have hg20p := G.gA8 hg20 | have hg20p := hg20
       refine WH.sk rfl rfl rfl hg20 (WH.sk rfl rfl rfl hg20 (WH.sk rfl rfl rfl hg20 (WH.sk rfl rfl rfl hg20 (WH.sk rfl rfl rfl hg20 (WH.sk rfl rfl rfl hg20 (WH.sk rfl rfl rfl hg20 (WH.sk rfl rfl rfl hg20 ?_)))))))
       refine WH.val (O.pick_t rfl (G.ne_f hg20) rfl rfl Taken.no) rfl rfl ?_
       refine WH.nil (E.to ?_)
       refine W.pick (K:=[(0,_),(1,_),(5,_),(6,_),(7,_),(8,_),(9,_),(10,_),(88,_)]) (Z:=[(101,_),(119,_)]) ⟨rfl,rfl,rfl,rfl,rfl,rfl,rfl,rfl,rfl,trivial⟩ ⟨rfl,rfl,trivial⟩ ?_
       refine W.cond_t rfl ?_
       refine W.rg (SL.an rfl rfl (SL.an rfl rfl (SL.an rfl rfl (E.fo (W.ret (E.thr (E.thr ?_)))))))
       refine E.nilsl 6 1 rfl ?_
       refine E.fin (rs := [_, _, _]) (rn []) (.inl rfl) rfl (.cons (ResOne.tmp rfl) (.cons (ResOne.tmp rfl) (.cons (ResOne.tmp rfl) .nil))) ?_ ?_ rfl (fixL_spec rfl)
       ·skip
        first | ((have hno : ¬ posF n bar atm m ⟨u, (f : Int), (t : Int)⟩ := fun q => by ((obtain ⟨⟨⟨q1, q2, q3, q4, q5⟩, q6, q7, q8⟩, q9⟩ := posF_iff.1 q); (try simp only [Int.toNat_natCast] at q6 q7 q8); (have q6 := q6 (by omega); omega))); rw [apN_n hno, apG_n hno, dec_f hno]; rfl)
       · exact SubS.nil
     ·skip
      omega
   ·skip
    first | have hg3p := G.gA7 hg3 | have hg3p := G.gA8 hg3 | have hg3p := hg3
    refine WH.sk rfl rfl rfl hg3 (WH.sk rfl rfl rfl hg3 (WH.sk rfl rfl rfl hg3 (WH.sk rfl rfl rfl hg3 ?_)))
    refine WH.skip (OpOk.not2 rfl rfl rfl) ?_
    refine WH.skip (OpOk.not2 rfl rfl rfl) ?_
    refine WH.skip (OpOk.not2 rfl rfl rfl) ?_
    refine WH.skip (OpOk.not2 rfl rfl rfl) ?_
    refine WH.skip (OpOk.not2 rfl rfl rfl) ?_
    refine WH.skip (OpOk.not2 rfl rfl rfl) ?_
    refine WH.skip (OpOk.not2 rfl rfl rfl) ?_
    refine WH.sk rfl rfl rfl hg3 ?_
    refine WH.val (O.pick_t rfl (G.ne_f hg3) rfl rfl Taken.no) rfl rfl ?_
    refine WH.nil (E.to ?_)
    refine W.pick (K:=[(0,_),(1,_),(5,_),(6,_),(7,_),(8,_),(60,_)]) (Z:=[(101,_)]) ⟨rfl,rfl,rfl,rfl,rfl,rfl,rfl,trivial⟩ ⟨rfl,trivial⟩ ?_
    refine W.cond_t rfl ?_
    refine W.rg (SL.an rfl rfl (SL.an rfl rfl (SL.an rfl rfl (E.fo (W.ret (E.thr ?_))))))
    refine E.nilsl 6 1 rfl ?_
    refine E.fin (rs := [_, _, _]) (rn []) (.inl rfl) rfl (.cons (ResOne.tmp rfl) (.cons (ResOne.tmp rfl) (.cons (ResOne.tmp rfl) .nil))) ?_ ?_ rfl (fixL_spec rfl)
    ·skip
     first | ((have hno : ¬ posF n bar atm m ⟨u, f, t⟩ := fun q => by ((obtain ⟨⟨⟨q1, q2, q3, q4, q5⟩, q6, q7, q8⟩, q9⟩ := posF_iff.1 q); (try simp only [Int.toNat_natCast] at q6 q7 q8); (first | omega | (have q5 := q5 (by omega); simp_all)))); rw [apN_n hno, apG_n hno, dec_f hno]; rfl)
    · exact SubS.nil
  ·skip
   first | have hg2p := G.gA7 hg2 | have hg2p := G.gA8 hg2 | have hg2p := hg2
   refine WH.sk rfl rfl rfl hg2 (WH.sk rfl rfl rfl hg2 (WH.sk rfl rfl rfl hg2 (WH.sk rfl rfl rfl hg2 (WH.sk rfl rfl rfl hg2 (WH.sk rfl rfl rfl hg2 (WH.sk rfl rfl rfl hg2 ?_))))))
   refine WH.val (O.pick_t rfl (G.ne_f hg2) rfl rfl Taken.no) rfl rfl ?_
   refine WH.mv rfl rfl rfl ?_
   have hg41 : true ≠ false := by decide
   refine WH.sk rfl rfl rfl hg41 (WH.sk rfl rfl rfl hg41 (WH.sk rfl rfl rfl hg41 (WH.sk rfl rfl rfl hg41 ?_)))
   refine WH.skip (OpOk.not2 rfl rfl rfl) ?_
   refine WH.skip (OpOk.not2 rfl rfl rfl) ?_
   refine WH.skip (OpOk.not2 rfl rfl rfl) ?_
   refine WH.skip (OpOk.not2 rfl rfl rfl) ?_
   refine WH.skip (OpOk.not2 rfl rfl rfl) ?_
   refine WH.skip (OpOk.not2 rfl rfl rfl) ?_
   refine WH.skip (OpOk.not2 rfl rfl rfl) ?_
   refine WH.sk rfl rfl rfl hg41 ?_
   refine WH.val (O.pick_t rfl rfl rfl rfl Taken.no) rfl rfl ?_
   refine WH.nil (E.to ?_)
   refine W.pick (K:=[(0,_),(1,_),(5,_),(6,_),(7,_),(8,_),(60,_)]) (Z:=[(101,_)]) ⟨rfl,rfl,rfl,rfl,rfl,rfl,rfl,trivial⟩ ⟨rfl,trivial⟩ ?_
   refine W.cond_t rfl ?_
   refine W.rg (SL.an rfl rfl (SL.an rfl rfl (SL.an rfl rfl (E.fo (W.ret (E.thr ?_))))))
   refine E.nilsl 6 1 rfl ?_
   refine E.fin (rs := [_, _, _]) (rn []) (.inl rfl) rfl (.cons (ResOne.tmp rfl) (.cons (ResOne.tmp rfl) (.cons (ResOne.tmp rfl) .nil))) ?_ ?_ rfl (fixL_spec rfl)
   ·skip
    first | ((have hno : ¬ posF n bar atm m ⟨u, f, t⟩ := fun q => by ((obtain ⟨⟨⟨q1, q2, q3, q4, q5⟩, q6, q7, q8⟩, q9⟩ := posF_iff.1 q); (try simp only [Int.toNat_natCast] at q6 q7 q8); (first | omega | (have q5 := q5 (by omega); simp_all)))); rw [apN_n hno, apG_n hno, dec_f hno]; rfl)
   · exact SubS.nil
 ·skip
  first | have hg1p := G.gA7 hg1 | have hg1p := G.gA8 hg1 | have hg1p := hg1
  refine WH.sk rfl rfl rfl hg1 (WH.sk rfl rfl rfl hg1 (WH.sk rfl rfl rfl hg1 (WH.sk rfl rfl rfl hg1 (WH.sk rfl rfl rfl hg1 (WH.sk rfl rfl rfl hg1 (WH.sk rfl rfl rfl hg1 ?_))))))
  refine WH.val (O.pick_t rfl (G.ne_f hg1) rfl rfl Taken.no) rfl rfl ?_
  refine WH.mv rfl rfl rfl ?_
  have hg42 : true ≠ false := by decide
  refine WH.sk rfl rfl rfl hg42 (WH.sk rfl rfl rfl hg42 (WH.sk rfl rfl rfl hg42 (WH.sk rfl rfl rfl hg42 (WH.sk rfl rfl rfl hg42 (WH.sk rfl rfl rfl hg42 (WH.sk rfl rfl rfl hg42 ?_))))))
  refine WH.val (O.pick_t rfl rfl rfl rfl Taken.no) rfl rfl ?_
  refine WH.mv rfl rfl rfl ?_
  have hg43 : true ≠ false := by decide
  refine WH.sk rfl rfl rfl hg43 (WH.sk rfl rfl rfl hg43 (WH.sk rfl rfl rfl hg43 (WH.sk rfl rfl rfl hg43 ?_)))
  refine WH.skip (OpOk.not2 rfl rfl rfl) ?_
  refine WH.skip (OpOk.not2 rfl rfl rfl) ?_
  refine WH.skip (OpOk.not2 rfl rfl rfl) ?_
  refine WH.skip (OpOk.not2 rfl rfl rfl) ?_
  refine WH.skip (OpOk.not2 rfl rfl rfl) ?_
  refine WH.skip (OpOk.not2 rfl rfl rfl) ?_
  refine WH.skip (OpOk.not2 rfl rfl rfl) ?_
  refine WH.sk rfl rfl rfl hg43 ?_
  refine WH.val (O.pick_t rfl rfl rfl rfl Taken.no) rfl rfl ?_
  refine WH.nil (E.to ?_)
  refine W.pick (K:=[(0,_),(1,_),(5,_),(6,_),(7,_),(8,_),(60,_)]) (Z:=[(101,_)]) ⟨rfl,rfl,rfl,rfl,rfl,rfl,rfl,trivial⟩ ⟨rfl,trivial⟩ ?_
  refine W.cond_t rfl ?_
  refine W.rg (SL.an rfl rfl (SL.an rfl rfl (SL.an rfl rfl (E.fo (W.ret (E.thr ?_))))))
  refine E.nilsl 6 1 rfl ?_
  refine E.fin (rs := [_, _, _]) (rn []) (.inl rfl) rfl (.cons (ResOne.tmp rfl) (.cons (ResOne.tmp rfl) (.cons (ResOne.tmp rfl) .nil))) ?_ ?_ rfl (fixL_spec rfl)
  ·skip
   first | ((have hno : ¬ posF n bar atm m ⟨u, f, t⟩ := fun q => by ((obtain ⟨⟨⟨q1, q2, q3, q4, q5⟩, q6, q7, q8⟩, q9⟩ := posF_iff.1 q); (try simp only [Int.toNat_natCast] at q6 q7 q8); (first | omega | (have q5 := q5 (by omega); simp_all)))); rw [apN_n hno, apG_n hno, dec_f hno]; rfl)
  · exact SubS.nil

end Go.Proofs.Ytppamigboeaefaa
end
section
namespace Go.Proofs.Ytppamigboeaefaa
open Go Go.RowKit Go.H Go.D33

theorem hcallOk50 : G.callOk Try.prog 50 = true := by kernel_rfl
theorem hcallOk61 : G.callOk Try.prog 61 = true := by kernel_rfl

set_option maxRecDepth 8000 in
set_option maxHeartbeats 3200000 in
/-- (*bookplate/cluster.field).next. -/
theorem next_h {n : Nat} {wt : Nat → Nat → Int} {lk : Nat → Nat → Bool} {bar : List Ru} {atm : List Nat} {m : List Nat} (hn : n ≤ 200) (hw : ∀ i j, -1000 ≤ wt i j ∧ wt i j ≤ 1000) (ha : atm.length = n ∧ ∀ i, i < n → atm[i]! < n) (hb : ∀ x ∈ bar, 0 ≤ x.a ∧ x.a < (n : Int) ∧ 0 ≤ x.b ∧ x.b < (n : Int)) (hml : m.length = n) :
    Con Try.prog 40 [.u (.ptr [uI (n : Int), .sl 1 (gridU (gridF n fun i j => uI (wt i j))), .sl 1 (gridU (gridF n fun i j => uB (lk i j))), .sl 3 (bar.map eRu), .sl 1 (atm.map eN), .sl 1 ((List.range n).map eN)]), vL 1 (m.map eN)] [] (.tup [.agg [vB (bestF (posF n bar atm m) (gnF wt lk m atm) (stepsL (selfs n m) (selfs n atm))).1.u, vI (bestF (posF n bar atm m) (gnF wt lk m atm) (stepsL (selfs n m) (selfs n atm))).1.f, vI (bestF (posF n bar atm m) (gnF wt lk m atm) (stepsL (selfs n m) (selfs n atm))).1.t], vI (bestF (posF n bar atm m) (gnF wt lk m atm) (stepsL (selfs n m) (selfs n atm))).2, vL 1 ((outF lk m atm (bestF (posF n bar atm m) (gnF wt lk m atm) (stepsL (selfs n m) (selfs n atm)))).map eI)]) [] := by
 have hal := ha.1
 have hsb := steps_b n hn m atm
 obtain ⟨i55, hi55, hz55, hs55, hb55⟩ := hinf55
 refine Con.enterL (n := 41) Try.func40 rfl rfl rfl (fun τ w ok vs hin => ?_)
 have hl1 := hin.len (i := 1) rfl
 try rw [List.length_map] at hl1
 clear hin
 refine W.rg ?_
 refine SL.memS (O.alloc (z := .agg #[.bool false, .int .i64 0, .int .i64 0]) (is := [.u (.sc (.bool false)), .u (.sc (.int .i64 0)), .u (.sc (.int .i64 0))]) 101 (by kernel_rfl) rfl rfl rfl Taken.no) rfl rfl (S' := (101, _) :: _) rfl ?_
 refine SL.an rfl rfl (SL.an rfl rfl (E.fo (W.seq (W.rg (SL.mv rfl rfl (SL.mv rfl rfl ?_))))))
 refine SL.val (O.callp rfl rfl rfl (steps_h (m := m) (by omega) (by omega) (by omega)) (.cons (ArgOk.same rfl) (.cons (ArgOk.same rfl) .nil)) hcallOk61 rfl Taken.no) ?_
 refine SL.val (O.lenE (SlOf.fz rfl (by decide)) (by first | exact List.length_map _ | rfl) Try.underlying103 rfl Taken.no) ?_
 refine SL.mv rfl rfl (E.fo (W.block ?_))
 refine W.nilsl 6 1 rfl ?_
 refine W.loopx1 (fun (k : Nat) => [(16, vI (k : Int)), (5, vI (bestF (posF n bar atm m) (gnF wt lk m atm) ((stepsL (selfs n m) (selfs n atm)).take k)).2), (6, vL 1 ((outF lk m atm (bestF (posF n bar atm m) (gnF wt lk m atm) ((stepsL (selfs n m) (selfs n atm)).take k))).map eI))]) (fun (k : Nat) => [(101, .cells 55 [vB (bestF (posF n bar atm m) (gnF wt lk m atm) ((stepsL (selfs n m) (selfs n atm)).take k)).1.u, vI (bestF (posF n bar atm m) (gnF wt lk m atm) ((stepsL (selfs n m) (selfs n atm)).take k)).1.f, vI (bestF (posF n bar atm m) (gnF wt lk m atm) ((stepsL (selfs n m) (selfs n atm)).take k)).1.t])]) (fun (k : Nat) => k ≤ (stepsL (selfs n m) (selfs n atm)).length) (fun (k : Nat) => (stepsL (selfs n m) (selfs n atm)).length - k) (0) (rn []) (.cons (t := 0) rfl (.cons (t := 1) rfl (.cons (t := 4) rfl (.cons (t := 14) rfl (.cons (t := 15) rfl .nil))))) .nil rfl ?_ ?_ rfl rfl ?_ ?_
 · exact (SubF.cons rfl (SubF.cons rfl (SubF.cons rfl SubF.nil)))
 · exact (SubS.cons rfl SubS.nil)
 ·skip
  omega
 intro k hinv
 have hk := hinv
 have hb0 := best_ge (ok := posF n bar atm m) (g := gnF wt lk m atm) (stepsL (selfs n m) (selfs n atm)) hk
 refine W.rg ?_
 refine SL.val (O.det (fun _ => G.R.lss rfl rfl) rfl Taken.no) ?_
 refine E.fo (W.seq ?_)
 first | refine W.cond_d rfl (fun hc1 => ?_) (fun hc1 => ?_) | refine W.cond_nd rfl (fun hc1 => ?_) (fun hc1 => ?_) | refine W.cond rfl (fun hc1 => ?_) (fun hc1 => ?_)
 ·skip
  refine W.skip (E.to (W.seq (W.block (W.rg ?_))))
  refine SL.val (O.idx_fz (i := k) rfl rfl (rfl) (row_get (by omega)) Try.underlying103 hi55 hs55 rfl Taken.no) ?_
  refine SL.val (O.ldU (m := 3) (PtU.fz rfl) rfl Try.underlying55 rfl (by kernel_rfl) rfl Taken.no) ?_
  refine SL.memS (O.alloc (z := .agg #[.bool false, .int .i64 0, .int .i64 0]) (is := [.u (.sc (.bool false)), .u (.sc (.int .i64 0)), .u (.sc (.int .i64 0))]) 102 (by kernel_rfl) rfl rfl rfl Taken.no) rfl rfl (S' := (102, _) :: _) rfl ?_
  refine SL.effS (O.st_ref (m := 3) rfl rfl rfl (js := [_, _, _]) rfl rfl (by kernel_rfl) (by simp) (Nat.le_of_ble_eq_true rfl) rfl (is' := [_, _, _]) rfl Taken.no) (S' := (102, _) :: _) rfl ?_
  refine E.fo (W.rg (SL.mv rfl rfl (SL.mv rfl rfl ?_)))
  refine SL.val (O.ldN (m := 3) (PtI.ref rfl rfl) (js := [_, _, _]) rfl (Nat.le_of_ble_eq_true rfl) Try.underlying55 rfl (by kernel_rfl) rfl Taken.no) ?_
  refine SL.memS (O.call (rn []) [] rfl rfl rfl (apply_h (u := (stepsL (selfs n m) (selfs n atm))[k]!.u) (f := (stepsL (selfs n m) (selfs n atm))[k]!.f) (t := (stepsL (selfs n m) (selfs n atm))[k]!.t) (by omega) hw ha hb hml) (.cons (ArgOk.same rfl) (.cons (ArgOk.same rfl) (.cons (ArgOk.aggU (.cons (ArgOk.same rfl) (.cons (ArgOk.same rfl) (.cons (ArgOk.same rfl) .nil)))) .nil))) SubS.nil rfl rfl rfl rfl rfl (.inl rfl) hcallOk50 (r' := .tup [.u _, .u _, .u _]) rfl rfl Taken.no) rfl rfl (S' := _) rfl ?_
  refine SL.mv rfl rfl ?_
  refine SL.val (O.extract rfl rfl rfl Taken.no) ?_
  refine SL.val (O.extract rfl rfl rfl Taken.no) ?_
  refine SL.val (O.extract rfl rfl rfl Taken.no) ?_
  refine SL.an rfl rfl (SL.an rfl rfl (SL.an rfl rfl (E.fo (W.rg (SL.mv rfl rfl (SL.mv rfl rfl ?_))))))
  refine SL.case (j := 1) (g := 29) (want := true) rfl rfl (fun hg2 => ?_) (fun hg2 => ?_)
  ·skip
   first | have hg2p := G.gA1 hg2 | have hg2p := G.gA2 hg2 | have hg2p := hg2
   refine SL.val (O.move rfl rfl (Taken.yes rfl rfl hg2)) ?_
   refine SL.val (O.move rfl rfl (Taken.yes rfl rfl hg2)) ?_
   refine SL.val (O.det (fun _ => G.R.gtr rfl rfl) rfl (Taken.yes rfl rfl hg2)) ?_
   refine SL.val (O.pick_t rfl hg2 rfl rfl Taken.no) ?_
   refine E.fo ?_
   refine W.pick (K:=[(0,_),(1,_),(4,_),(5,_),(6,_),(8,_),(9,_),(10,_),(14,_),(15,_),(16,_),(33,_)]) (Z:=[(101,_),(102,_)]) ⟨rfl,rfl,rfl,rfl,rfl,rfl,rfl,rfl,rfl,rfl,rfl,rfl,trivial⟩ ⟨rfl,rfl,trivial⟩ ?_
   first | refine W.cond_d rfl (fun hc3 => ?_) (fun hc3 => ?_) | refine W.cond_nd rfl (fun hc3 => ?_) (fun hc3 => ?_) | refine W.cond rfl (fun hc3 => ?_) (fun hc3 => ?_)
   ·skip
    have hp1 : posF n bar atm m (stepsL (selfs n m) (selfs n atm))[k]! := by simp_all
    have hp2 : (bestF (posF n bar atm m) (gnF wt lk m atm) ((stepsL (selfs n m) (selfs n atm)).take k)).2 < gnF wt lk m atm (stepsL (selfs n m) (selfs n atm))[k]! := by rw [← apG_y (w := wt) (lk := lk) hp1]; assumption
    refine W.region ?_
    refine SL.val (O.ldN (m := 3) (PtI.ref rfl rfl) (js := [_, _, _]) rfl (Nat.le_of_ble_eq_true rfl) Try.underlying55 rfl (by kernel_rfl) rfl Taken.no) ?_
    refine SL.mv rfl rfl (SL.mv rfl rfl ?_)
    refine SL.effS (O.st_ref (m := 3) rfl rfl rfl (js := [_, _, _]) rfl rfl (by kernel_rfl) (by simp) (Nat.le_of_ble_eq_true rfl) rfl (is' := [_, _, _]) rfl Taken.no) (S' := (101, _) :: _) rfl ?_
    refine SL.an rfl rfl (SL.an rfl rfl (SL.nil (E.inn (E.to (W.region ?_)))))
    refine SL.val (O.det (fun _ => by first | exact G.R.add64 rfl rfl (by omega) | exact G.R.add rfl rfl) rfl Taken.no) ?_
    refine SL.mv rfl rfl (SL.nil ?_)
    refine E.again ((k + 1)) (rn []) ?_ ?_ rfl (fixL_spec rfl) ?_ ?_
    · exact (SubF.cons rfl (SubF.val rfl (by (try dsimp only); first | exact iv_int (by rw [best_s (by omega), pick_y hp1 hp2]; exact apG_y hp1) | exact iv_int (by rw [best_s (by omega), pick_n hp])) (SubF.val rfl (by (try dsimp only); first | exact iv_sl (by rw [best_s (by omega), pick_y hp1 hp2, outF_y hb0 hp2]; exact congrArg (List.map eI) (apN_y hp1)) | exact iv_sl (by rw [best_s (by omega), pick_n hp])) (SubF.cons rfl (SubF.cons rfl (SubF.cons rfl (SubF.cons rfl (SubF.cons rfl SubF.nil))))))))
    · exact (SubS.val rfl (by (try dsimp only); first | (rw [best_s (by omega), pick_y hp1 hp2]; rfl) | (rw [best_s (by omega), pick_n hp]; rfl)) SubS.nil)
    ·try dsimp only
     omega
    · (try dsimp only); omega
   ·skip
    have hp : ¬ (posF n bar atm m (stepsL (selfs n m) (selfs n atm))[k]! ∧ (bestF (posF n bar atm m) (gnF wt lk m atm) ((stepsL (selfs n m) (selfs n atm)).take k)).2 < gnF wt lk m atm (stepsL (selfs n m) (selfs n atm))[k]!) := fun q => by have q2 := q.2; rw [← apG_y (w := wt) (lk := lk) q.1] at q2; first | exact (show ¬ posF n bar atm m (stepsL (selfs n m) (selfs n atm))[k]! by assumption) q.1 | exact (show ¬ (bestF (posF n bar atm m) (gnF wt lk m atm) ((stepsL (selfs n m) (selfs n atm)).take k)).2 < apG n wt lk bar atm m (stepsL (selfs n m) (selfs n atm))[k]! by assumption) q2
    refine W.skip (E.inn (E.to (W.region ?_)))
    refine SL.val (O.det (fun _ => by first | exact G.R.add64 rfl rfl (by omega) | exact G.R.add rfl rfl) rfl Taken.no) ?_
    refine SL.mv rfl rfl (SL.nil ?_)
    refine E.again ((k + 1)) (rn []) ?_ ?_ rfl (fixL_spec rfl) ?_ ?_
    · exact (SubF.cons rfl (SubF.val rfl (by (try dsimp only); first | exact iv_int (by rw [best_s (by omega), pick_y hp1 hp2]; exact apG_y hp1) | exact iv_int (by rw [best_s (by omega), pick_n hp])) (SubF.val rfl (by (try dsimp only); first | exact iv_sl (by rw [best_s (by omega), pick_y hp1 hp2, outF_y hb0 hp2]; exact congrArg (List.map eI) (apN_y hp1)) | exact iv_sl (by rw [best_s (by omega), pick_n hp])) (SubF.cons rfl (SubF.cons rfl (SubF.cons rfl (SubF.cons rfl (SubF.cons rfl SubF.nil))))))))
    · exact (SubS.val rfl (by (try dsimp only); first | (rw [best_s (by omega), pick_y hp1 hp2]; rfl) | (rw [best_s (by omega), pick_n hp]; rfl)) SubS.nil)
    ·try dsimp only
     omega
    · (try dsimp only); omega
  ·skip
   first | have hg2p := G.gA5 hg2 | have hg2p := G.gA6 hg2 | have hg2p := hg2
   have hp : ¬ (posF n bar atm m (stepsL (selfs n m) (selfs n atm))[k]! ∧ (bestF (posF n bar atm m) (gnF wt lk m atm) ((stepsL (selfs n m) (selfs n atm)).take k)).2 < gnF wt lk m atm (stepsL (selfs n m) (selfs n atm))[k]!) := fun q => (show ¬ posF n bar atm m (stepsL (selfs n m) (selfs n atm))[k]! by assumption) q.1
   refine SL.sk rfl rfl rfl hg2 (SL.sk rfl rfl rfl hg2 (SL.sk rfl rfl rfl hg2 ?_))
   refine SL.val (O.pick_f rfl (G.ne_t hg2) rfl rfl Taken.no) ?_
   refine E.fo ?_
   refine W.pick (K:=[(0,_),(1,_),(4,_),(5,_),(6,_),(8,_),(9,_),(10,_),(14,_),(15,_),(16,_),(33,_)]) (Z:=[(101,_),(102,_)]) ⟨rfl,rfl,rfl,rfl,rfl,rfl,rfl,rfl,rfl,rfl,rfl,rfl,trivial⟩ ⟨rfl,rfl,trivial⟩ ?_
   refine W.cond_f rfl ?_
   refine W.skip (E.inn (E.to (W.region ?_)))
   refine SL.val (O.det (fun _ => by first | exact G.R.add64 rfl rfl (by omega) | exact G.R.add rfl rfl) rfl Taken.no) ?_
   refine SL.mv rfl rfl (SL.nil ?_)
   refine E.again ((k + 1)) (rn []) ?_ ?_ rfl (fixL_spec rfl) ?_ ?_
   · exact (SubF.cons rfl (SubF.val rfl (by (try dsimp only); first | exact iv_int (by rw [best_s (by omega), pick_y hp1 hp2]; exact apG_y hp1) | exact iv_int (by rw [best_s (by omega), pick_n hp])) (SubF.val rfl (by (try dsimp only); first | exact iv_sl (by rw [best_s (by omega), pick_y hp1 hp2, outF_y hb0 hp2]; exact congrArg (List.map eI) (apN_y hp1)) | exact iv_sl (by rw [best_s (by omega), pick_n hp])) (SubF.cons rfl (SubF.cons rfl (SubF.cons rfl (SubF.cons rfl (SubF.cons rfl SubF.nil))))))))
   · exact (SubS.val rfl (by (try dsimp only); first | (rw [best_s (by omega), pick_y hp1 hp2]; rfl) | (rw [best_s (by omega), pick_n hp]; rfl)) SubS.nil)
   ·try dsimp only
    omega
   · (try dsimp only); omega
 ·skip
  refine W.exit (E.th (E.th (E.hit (E.to (W.rg ?_)))))
  refine SL.val (O.ldN (m := 3) (PtI.ref rfl rfl) (js := [_, _, _]) rfl (Nat.le_of_ble_eq_true rfl) Try.underlying55 rfl (by kernel_rfl) rfl Taken.no) ?_
  refine SL.mv rfl rfl (SL.mv rfl rfl ?_)
  refine SL.effS (O.st_ref (m := 3) rfl rfl rfl (js := [_, _, _]) rfl rfl (by kernel_rfl) (by simp) (Nat.le_of_ble_eq_true rfl) rfl (is' := [_, _, _]) rfl Taken.no) (S' := (101, _) :: _) rfl ?_
  refine SL.an rfl rfl (SL.an rfl rfl (E.fo (W.ret ?_)))
  refine E.fin (rs := [_, _, _]) (rn []) (.inl rfl) rfl (.cons (ResOne.cellN (m := 3) (PtI.ref rfl rfl) (js := [_, _, _]) rfl (Nat.le_of_ble_eq_true rfl) Try.underlying55 rfl (by kernel_rfl)) (.cons (ResOne.tmp rfl) (.cons (ResOne.tmp rfl) .nil))) ?_ ?_ rfl (fixL_spec rfl)
  ·skip
   (rw [show k = (stepsL (selfs n m) (selfs n atm)).length by omega, List.take_length]; rfl)
  · exact SubS.nil

end Go.Proofs.Ytppamigboeaefaa
end
section
namespace Go.D33
open Go Go.RowKit Go.H
section
variable {n : Nat} {ps : List Pr} {rs : List Ru} {m : List Nat} {s : Stp} {l : List Int}
theorem ap_eq (hf : (Prob.mk (n : Int) ps rs).formed) (hm : isP n m) (hp : permR n ps rs m) (s : Stp) :
    (posF n (barL rs) (namedL n (partsL (mu rs) (List.range n))) m s ↔ posR n (barL rs) (atomsL n rs) m s) ∧
    (posR n (barL rs) (atomsL n rs) m s → nmF (mF (lF ps) rs) m (namedL n (partsL (mu rs) (List.range n))) s = (resR n ps rs m s).map (fun x : Nat => (x : Int)) ∧ gnF (wF ps) (mF (lF ps) rs) m (namedL n (partsL (mu rs) (List.range n))) s = gnR n ps rs m s) := by
  rw [← atoms_eq hf]
  refine ⟨pos_iff hf hm hp, fun h => ?_⟩
  have := (pos_iff hf hm hp).2 h
  exact apply_eq hf hm hp this.1
def apL (n : Nat) (ps : List Pr) (rs : List Ru) (l : List Int) (s : Stp) : List Nat := if permS n ps rs l ∧ posR n (barL rs) (atomsL n rs) (l.map Int.toNat) s then resR n ps rs (l.map Int.toNat) s else []
def apV (n : Nat) (ps : List Pr) (rs : List Ru) (l : List Int) (s : Stp) : Int := if permS n ps rs l ∧ posR n (barL rs) (atomsL n rs) (l.map Int.toNat) s then gnR n ps rs (l.map Int.toNat) s else 0
def apE (n : Nat) (ps : List Pr) (rs : List Ru) (l : List Int) (s : Stp) : Int := if permS n ps rs l then (if posR n (barL rs) (atomsL n rs) (l.map Int.toNat) s then 0 else 1) else 11
def nxI (n : Nat) (ps : List Pr) (rs : List Ru) (l : List Int) : Stp × Int := if permS n ps rs l then nextR n ps rs (l.map Int.toNat) else (⟨false, 0, 0⟩, 0)
def nxE (n : Nat) (ps : List Pr) (rs : List Ru) (l : List Int) : Int := if permS n ps rs l then 0 else 11
/-- The best step's partition, or none. -/
def outR (n : Nat) (ps : List Pr) (rs : List Ru) (m : List Nat) : List Nat := if (nextR n ps rs m).2 = 0 then [] else resR n ps rs m (nextR n ps rs m).1
theorem next_all (hf : (Prob.mk (n : Int) ps rs).formed) (hm : isP n m) (hp : permR n ps rs m) :
    bestF (posF n (barL rs) (namedL n (partsL (mu rs) (List.range n))) m) (gnF (wF ps) (mF (lF ps) rs) m (namedL n (partsL (mu rs) (List.range n)))) (stepsL (selfs n m) (selfs n (namedL n (partsL (mu rs) (List.range n))))) = nextR n ps rs m := by
  have := next_eq hf hm hp
  unfold nextF at this
  rw [atoms_eq hf] at this
  exact this
theorem out_eq (hf : (Prob.mk (n : Int) ps rs).formed) (hm : isP n m) (hp : permR n ps rs m) : outF (mF (lF ps) rs) m (namedL n (partsL (mu rs) (List.range n))) (nextR n ps rs m) = (outR n ps rs m).map fun x : Nat => (x : Int) := by
  unfold outF outR
  by_cases e : (nextR n ps rs m).2 = 0
  · rw [if_pos e, if_pos e]; rfl
  · rw [if_neg e, if_neg e]
    obtain ⟨h1, h2, _, _⟩ := next_spec n ps rs m
    exact ((ap_eq hf hm hp _).2 (h2 (by omega)).2.1).1
end
end Go.D33
end
section
namespace Go.Proofs.Ytppamigboeaefaa
open Go Go.RowKit Go.H Go.D33

theorem hcallOk40 : G.callOk Try.prog 40 = true := by kernel_rfl





set_option maxRecDepth 8000 in
/-- bookplate/cluster.Solve. -/
theorem solveC_ok {n : Nat} {ps : List Pr} {rs : List Ru} (hok : (Prob.mk (n : Int) ps rs).ok) :
    Con Try.prog 15 [vA [uI (n : Int), .sl 3 (ps.map ePr), .sl 3 (rs.map eRu)]] [] (.tup [vL 1 ((solveR n ps rs).map eN), vI 0]) [] := by
 have hf := hok.1
 have hn2 : (n : Int) ≤ 200 := hf.2.1
 refine Con.enterL (n := 34) Try.func15 rfl rfl rfl (fun τ w ok vs hin => ?_)
 have hl0_1 := hin.lenA (i := 0) (j := 1) rfl rfl
 try rw [List.length_map] at hl0_1
 have hl0_2 := hin.lenA (i := 0) (j := 2) rfl rfl
 try rw [List.length_map] at hl0_2
 clear hin
 refine W.rg ?_
 refine SL.memS (O.box (is := [_, _, _]) 101 rfl rfl (by simp) rfl rfl Taken.no) rfl rfl (S' := (101, _) :: _) rfl ?_
 refine SL.an rfl rfl (SL.an rfl rfl (E.fo (W.rg ?_)))
 refine SL.val (O.ldN (m := 3) (PtI.ref rfl rfl) (js := [_, _, _]) rfl (Nat.le_of_ble_eq_true rfl) Try.underlying32 rfl (by kernel_rfl) rfl Taken.no) ?_
 refine SL.memS (O.call (rn []) [] rfl rfl rfl (check_ok hok) (.cons (ArgOk.aggU (.cons (ArgOk.same rfl) (.cons (ArgOk.same rfl) (.cons (ArgOk.same rfl) .nil)))) .nil) SubS.nil rfl rfl rfl rfl rfl (.inl rfl) hcallOk38 (r' := .tup [.u _, .u _]) rfl rfl Taken.no) rfl rfl (S' := _) rfl ?_
 refine SL.mv rfl rfl ?_
 refine SL.val (O.extract rfl rfl rfl Taken.no) ?_
 refine SL.val (O.extract rfl rfl rfl Taken.no) ?_
 refine SL.an rfl rfl (SL.an rfl rfl (E.fo (W.seq (W.rg (SL.mv rfl rfl ?_)))))
 refine SL.val (O.det (fun _ => G.R.mv (G.R.neq rfl rfl) (congrArg Value.bool (decide_eq_false (by decide)))) rfl Taken.no) ?_
 refine E.fo ?_
 refine W.cond_f rfl ?_
 refine W.skip (E.to (W.rg (SL.mv rfl rfl ?_)))
 refine SL.val (O.nilCheck rfl rfl rfl Taken.no) ?_
 refine SL.val (O.fld_fz rfl Try.underlying78 rfl (m := 0) (by kernel_rfl) rfl rfl Taken.no) ?_
 refine SL.val (O.ld1 (PtI.ofU (PtU.fz rfl)) rfl Try.underlying39 rfl rfl Taken.no) ?_
 refine SL.val (O.callp rfl rfl rfl (Con.fz (clone_h (rows := (namedL n (partsL (mu rs) (List.range n))).map eN) (by rw [List.length_map, (atm_ok n rs).1]; omega)) rfl rfl) (.cons (ArgOk.same rfl) .nil) hcallOk39 rfl Taken.no) ?_
 refine SL.an rfl rfl (E.fo (W.block ?_))
 refine W.loopx1 (fun (m : List Nat) => [(6, vL 1 (m.map eN))]) (fun (m : List Nat) => []) (fun (m : List Nat) => isP n m ∧ permR n ps rs m ∧ solveN n ps rs (muS ps m + 1) m = solveR n ps rs) (fun (m : List Nat) => muS ps m) (atomsL n rs) (rn []) (.cons (t := 4) rfl .nil) (.cons (t := 101) rfl .nil) rfl ?_ ?_ rfl rfl ?_ ?_
 · exact (SubF.val rfl (by exact iv_sl (by rw [atoms_eq hf])) SubF.nil)
 · exact SubS.nil
 ·skip
  exact ⟨(atoms_perm hok).1, (atoms_perm hok).2, rfl⟩
 intro m hinv
 obtain ⟨hQ, hpr, hsv⟩ := hinv
 have hml := hQ.1
 have hna := next_all hf hQ hpr
 have hne := out_eq hf hQ hpr
 refine W.block (W.rg (SL.mv rfl rfl (SL.mv rfl rfl ?_)))
 refine SL.memS (O.call (rn []) [] rfl rfl rfl (next_h (m := m) (by omega) (w_b hf) (atm_ok n rs) (bar_rng hf) hml) (.cons (ArgOk.same rfl) (.cons (ArgOk.same rfl) .nil)) SubS.nil rfl rfl rfl rfl rfl (.inl rfl) hcallOk40 (r' := .tup [.agg [.u _, .u _, .u _], .u _, .u _]) rfl rfl Taken.no) rfl rfl (S' := _) rfl ?_
 refine SL.mv rfl rfl ?_
 refine SL.val (O.extract rfl rfl rfl Taken.no) ?_
 refine SL.val (O.extract rfl rfl rfl Taken.no) ?_
 refine SL.val (O.extract rfl rfl rfl Taken.no) ?_
 refine SL.memS (O.alloc (z := .agg #[.bool false, .int .i64 0, .int .i64 0]) (is := [.u (.sc (.bool false)), .u (.sc (.int .i64 0)), .u (.sc (.int .i64 0))]) 102 (by kernel_rfl) rfl rfl rfl Taken.no) rfl rfl (S' := (102, _) :: _) rfl ?_
 refine SL.effS (O.st_ref (m := 3) rfl rfl rfl (js := [_, _, _]) rfl rfl (by kernel_rfl) (by simp) (Nat.le_of_ble_eq_true rfl) rfl (is' := [_, _, _]) rfl Taken.no) (S' := (102, _) :: _) rfl ?_
 refine SL.an rfl rfl (SL.an rfl rfl (E.fo (W.seq (W.rg (SL.mv rfl rfl ?_)))))
 refine SL.val (O.det (fun _ => G.R.eql rfl rfl) rfl Taken.no) ?_
 refine E.fo ?_
 first | refine W.cond_d rfl (fun hc1 => ?_) (fun hc1 => ?_) | refine W.cond_nd rfl (fun hc1 => ?_) (fun hc1 => ?_) | refine W.cond rfl (fun hc1 => ?_) (fun hc1 => ?_)
 ·skip
  refine W.rg (SL.mv rfl rfl (SL.an rfl rfl (SL.an rfl rfl (E.fo (W.ret (E.thr ?_))))))
  refine E.inr ?_
  refine E.thr ?_
  refine E.inr ?_
  refine E.fin (rs := [_, _]) (rn []) (.inl rfl) rfl (.cons (ResOne.tmp rfl) (.cons (ResOne.tmp rfl) .nil)) ?_ ?_ rfl (fixL_spec rfl)
  ·skip
   have hz : (nextR n ps rs m).2 = 0 := by rw [← hna]; assumption
   rw [← hsv, solve_end hz]; rfl
  · exact SubS.nil
 ·skip
  have hnz : ¬ (nextR n ps rs m).2 = 0 := by rw [← hna]; assumption
  refine W.skip (E.to (W.region (SL.mv rfl rfl (SL.an rfl rfl (SL.nil (E.inn ?_))))))
  refine E.again ((outR n ps rs m)) (rn []) ?_ ?_ rfl (fixL_spec rfl) ?_ ?_
  · exact (SubF.val rfl (by (try dsimp only); exact iv_sl (by rw [hna, hne, eI_eN])) (SubF.cons rfl SubF.nil))
  · exact (SubS.cons rfl SubS.nil)
  ·try dsimp only
   have hns := next_step hf hQ hpr hnz
   have hor : outR n ps rs m = resR n ps rs m (nextR n ps rs m).1 := if_neg hnz
   exact ⟨by rw [hor]; exact hns.1, by rw [hor]; exact hns.2.1, by rw [hor, solve_step hf hQ hpr hnz]; exact hsv⟩
  · (try dsimp only); (have hns := next_step hf hQ hpr hnz; have hor : outR n ps rs m = resR n ps rs m (nextR n ps rs m).1 := if_neg hnz; rw [hor]; exact hns.2.2.2)


end Go.Proofs.Ytppamigboeaefaa
end
section
namespace Go.D33
open Go Go.RowKit Go.H
/-! ### Problems of some units -/
def atF (us : List Int) (x : Int) : Int := idxF (fun y => decide (y = x)) us
def pl (us : List Int) : Nat → List (Int × Int)
  | 0 => []
  | k + 1 => mset (pl us k) us[k]! k
def ascU (us : List Int) : Prop := ∀ i, i < us.length → 0 < i → us[i - 1]! < us[i]!
instance (us : List Int) : Decidable (ascU us) := by unfold ascU; infer_instance
def rngU (N : Int) (us : List Int) : Prop := ∀ i, i < us.length → 0 ≤ us[i]! ∧ us[i]! < N
instance (N : Int) (us : List Int) : Decidable (rngU N us) := by unfold rngU; infer_instance
def okU (N : Int) (us : List Int) : Prop := ascU us ∧ rngU N us
instance (N : Int) (us : List Int) : Decidable (okU N us) := by unfold okU; infer_instance
def subE (N : Int) (us : List Int) : Int := if ¬ ascU us then 19 else if ¬ rngU N us then 2 else 0
def subPr (us : List Int) (x : Pr) : Option Pr := if 0 ≤ atF us x.a ∧ 0 ≤ atF us x.b then some ⟨atF us x.a, atF us x.b, x.w⟩ else none
def subRu (us : List Int) (x : Ru) : Option Ru := if 0 ≤ atF us x.a ∧ 0 ≤ atF us x.b then some ⟨x.k, atF us x.a, atF us x.b⟩ else none
def subP (us : List Int) (ps : List Pr) : List Pr := ps.filterMap (subPr us)
def subR (us : List Int) (rs : List Ru) : List Ru := rs.filterMap (subRu us)
theorem asc_ltU {us : List Int} (h : ascU us) : ∀ {i j : Nat}, i < j → j < us.length → us[i]! < us[j]! := by
  intro i j hij hj
  induction j with
  | zero => omega
  | succ j ih =>
    have h1 := h (j + 1) hj (by omega)
    rw [Nat.add_sub_cancel] at h1
    rcases Nat.lt_succ_iff_lt_or_eq.1 hij with q | q
    · have := ih q (by omega); omega
    · rw [q]; exact h1
def sbN (N : Int) (us : List Int) : Int := if okU N us then us.length else 0
def sbP (N : Int) (us : List Int) (ps : List Pr) : List Pr := if okU N us then subP us ps else []
def sbR (N : Int) (us : List Int) (rs : List Ru) : List Ru := if okU N us then subR us rs else []
/-! ### Names of labels -/
def nmK (l : List Nat) (i j : Nat) : Nat := if (List.range i).any (fun k => decide (j ≤ k ∧ l[k]! = l[i]!)) = true then l.idxOf l[i]! else i
def nmX (l : List Nat) (i : Nat) : List Nat := (nmL l).take i ++ List.replicate (l.length - i) 0
/-! ### Labels behind a move, place by place -/
def mvK (n k : Nat) (atm m : List Nat) (s : Stp) : List Nat := (List.range n).map fun i => if i < k ∧ atm[i]! = s.f.toNat then (if s.t < 0 then n else s.t.toNat) else m[i]!
def apRL (n : Nat) (ps : List Pr) (rs : List Ru) (m : List Nat) (s : Stp) : List Nat := if posR n (barL rs) (atomsL n rs) m s then resR n ps rs m s else []
def apRV (n : Nat) (ps : List Pr) (rs : List Ru) (m : List Nat) (s : Stp) : Int := if posR n (barL rs) (atomsL n rs) m s then gnR n ps rs m s else 0
end Go.D33
end
section
namespace Go.Proofs.Ytppamigboeaefaa
open Go Go.RowKit Go.H Go.D33





end Go.Proofs.Ytppamigboeaefaa
end
section
namespace Go.Proofs.Ytppamigboeaefaa
open Go Go.RowKit Go.H Go.D33






end Go.Proofs.Ytppamigboeaefaa
end
section
namespace Go.Proofs.Ytppamigboeaefaa
open Go Go.RowKit Go.H Go.D33











end Go.Proofs.Ytppamigboeaefaa
end
section
namespace Go.D33
open Go Go.RowKit Go.H
def exP : List Pr := [⟨0, 1, 5⟩, ⟨0, 2, -6⟩, ⟨1, 2, 4⟩]
def exR : List Ru := [⟨1, 2, 1⟩]
theorem ex_ok : (Prob.mk ((3 : Nat) : Int) exP []).ok := ⟨by decide +kernel, by decide +kernel⟩
theorem ex_ok2 : (Prob.mk ((3 : Nat) : Int) exP exR).ok := ⟨by decide +kernel, by decide +kernel⟩
theorem ex_s1 : solveR 3 exP [] = [0, 0, 2] := by decide +kernel
theorem ex_s2 : solveR 3 exP exR = [0, 1, 1] := by decide +kernel
theorem ex_v : valI 3 (wF exP) ([0, 0, 2] : List Int) = 5 ∧ valE 3 ([0, 0, 2] : List Int) = 0 := by decide +kernel
theorem ex_p : permI 3 (mF (lF exP) exR) (barL exR) (namedL 3 (partsL (mu exR) (List.range 3))) ([0, 1, 1] : List Int) := by decide +kernel
/-! ### '==' of pairs, rules and steps -/
def prV (x : Pr) : List Value := [.int .i64 x.a, .int .i64 x.b, .int .i64 x.w]
def ruV (x : Ru) : List Value := [.int .i64 x.k, .int .i64 x.a, .int .i64 x.b]
def stV (x : Stp) : List Value := [.bool x.u, .int .i64 x.f, .int .i64 x.t]
theorem Pr.ext {a b : Pr} (h1 : a.a = b.a) (h2 : a.b = b.b) (h3 : a.w = b.w) : a = b := by cases a; cases b; simp_all
instance : DecidableEq Pr := fun a b => if h : a.a = b.a ∧ a.b = b.b ∧ a.w = b.w then .isTrue (Pr.ext h.1 h.2.1 h.2.2) else .isFalse fun e => h (by subst e; exact ⟨rfl, rfl, rfl⟩)
theorem Ru.ext {a b : Ru} (h1 : a.k = b.k) (h2 : a.a = b.a) (h3 : a.b = b.b) : a = b := by cases a; cases b; simp_all
instance : DecidableEq Ru := fun a b => if h : a.k = b.k ∧ a.a = b.a ∧ a.b = b.b then .isTrue (Ru.ext h.1 h.2.1 h.2.2) else .isFalse fun e => h (by subst e; exact ⟨rfl, rfl, rfl⟩)
end Go.D33
end
section
namespace Go.Proofs.Ytppamigboeaefaa
open Go Go.RowKit Go.H Go.D33

theorem hcallOk15 : G.callOk Try.prog 15 = true := by kernel_rfl
theorem hcallOk21 : G.callOk Try.prog 21 = true := by kernel_rfl
theorem hcallOk24 : G.callOk Try.prog 24 = true := by kernel_rfl


set_option maxRecDepth 8000 in
set_option maxHeartbeats 1600000 in
/-- bookplate/bookplatelaw33.awake. -/
theorem awake_h  :
    Con Try.prog 11 [] [] (vB true) [] := by
 obtain ⟨i3, hi3, hz3, hs3, hb3⟩ := hinf3
 obtain ⟨i36, hi36, hz36, hs36, hb36⟩ := hinf36
 obtain ⟨i38, hi38, hz38, hs38, hb38⟩ := hinf38
 refine Con.enterL (n := 61) Try.func11 rfl rfl rfl (fun τ w ok vs hin => ?_)
 clear hin
 refine W.rg (SL.an rfl rfl (E.fo (W.rg ?_)))
 refine SL.val (O.build (res := [_, _, _]) (z := .agg #[.int .i64 0, .int .i64 0, .int .i64 0]) (places := [(0, 1), (1, 1), (2, 1)]) rfl rfl Try.underlying36 (by kernel_rfl) (fun _ => by kernel_rfl) rfl rfl Taken.no) ?_
 refine SL.val (O.build (res := [_, _, _]) (z := .agg #[.int .i64 0, .int .i64 0, .int .i64 0]) (places := [(0, 1), (1, 1), (2, 1)]) rfl rfl Try.underlying36 (by kernel_rfl) (fun _ => by kernel_rfl) rfl rfl Taken.no) ?_
 refine SL.val (O.build (res := [_, _, _]) (z := .agg #[.int .i64 0, .int .i64 0, .int .i64 0]) (places := [(0, 1), (1, 1), (2, 1)]) rfl rfl Try.underlying36 (by kernel_rfl) (fun _ => by kernel_rfl) rfl rfl Taken.no) ?_
 refine SL.memS (O.buildSlice 101 (rows := exP.map ePr) rfl rfl Try.underlying30 hi36 hz36 hs36 (by decide) rfl (by decide) rfl rfl rfl Taken.no) rfl rfl (S' := (101, .data 36 3 (exP.map ePr)) :: _) rfl ?_
 refine SL.freeze 101 rfl (F' := [(11, _)]) (⟨⟨_, rfl, rfl⟩, trivial⟩) ?_
 refine SL.val (O.build (res := [_, _, _]) (z := .agg #[.int .i64 0, .slice none 0 0, .slice none 0 0]) (places := [(0, 1), (1, 1), (2, 1)]) rfl rfl Try.underlying32 (by kernel_rfl) (fun _ => by kernel_rfl) rfl rfl Taken.no) ?_
 refine SL.memS (O.alloc (z := .agg #[.int .i64 0, .slice none 0 0, .slice none 0 0]) (is := [.u (.sc (.int .i64 0)), .u (.sc (.slice none 0 0)), .u (.sc (.slice none 0 0))]) 102 (by kernel_rfl) rfl rfl rfl Taken.no) rfl rfl (S' := (102, _) :: _) rfl ?_
 refine SL.effS (O.st_ref (m := 3) rfl rfl rfl (js := [_, _, _]) rfl rfl (by kernel_rfl) (by simp) (Nat.le_of_ble_eq_true rfl) rfl (is' := [_, _, _]) rfl Taken.no) (S' := (102, _) :: _) rfl ?_
 refine E.fo (W.rg ?_)
 refine SL.val (O.ldN (m := 3) (PtI.ref rfl rfl) (js := [_, _, _]) rfl (Nat.le_of_ble_eq_true rfl) Try.underlying32 rfl (by kernel_rfl) rfl Taken.no) ?_
 refine SL.memS (O.call (rn []) [] rfl rfl rfl (solveC_ok ex_ok) (.cons (ArgOk.aggU (.cons (ArgOk.same rfl) (.cons (ArgOk.same rfl) (.cons ArgOk.nil .nil)))) .nil) SubS.nil rfl rfl rfl rfl rfl (.inl rfl) hcallOk15 (r' := .tup [.u _, .u _]) rfl rfl Taken.no) rfl rfl (S' := _) rfl ?_
 refine SL.as (i' := .tup [vL 1 (([0, 0, 2] : List Nat).map eN), vI 0]) 15 rfl (by rw [ex_s1]) ?_
 refine SL.mv rfl rfl ?_
 refine SL.val (O.extract rfl rfl rfl Taken.no) ?_
 refine SL.val (O.extract rfl rfl rfl Taken.no) ?_
 refine SL.an rfl rfl (SL.an rfl rfl (E.fo (W.rg ?_)))
 refine SL.val (O.ldN (m := 3) (PtI.ref rfl rfl) (js := [_, _, _]) rfl (Nat.le_of_ble_eq_true rfl) Try.underlying32 rfl (by kernel_rfl) rfl Taken.no) ?_
 refine SL.mv rfl rfl ?_
 refine SL.memS (O.call (rn []) [] rfl rfl rfl (valueC_ok (l := [0, 0, 2]) ex_ok) (.cons (ArgOk.aggU (.cons (ArgOk.same rfl) (.cons (ArgOk.same rfl) (.cons ArgOk.nil .nil)))) (.cons (ArgOk.same rfl) .nil)) SubS.nil rfl rfl rfl rfl rfl (.inl rfl) hcallOk21 (r' := .tup [.u _, .u _]) rfl rfl Taken.no) rfl rfl (S' := _) rfl ?_
 refine SL.as (i' := .tup [vI 5, vI 0]) 21 rfl (by rw [ex_v.1, ex_v.2]) ?_
 refine SL.mv rfl rfl ?_
 refine SL.val (O.extract rfl rfl rfl Taken.no) ?_
 refine SL.val (O.extract rfl rfl rfl Taken.no) ?_
 refine SL.an rfl rfl (SL.an rfl rfl (E.fo ?_))
 refine W.pick (K:=[(0,_),(1,_),(2,_),(3,_),(4,_),(5,_)]) (Z:=[(102,_)]) ⟨rfl,rfl,rfl,rfl,rfl,rfl,trivial⟩ ⟨rfl,trivial⟩ ?_
 refine W.rg ?_
 refine SL.val (O.build (res := [_, _, _]) (z := .agg #[.int .i64 0, .int .i64 0, .int .i64 0]) (places := [(0, 1), (1, 1), (2, 1)]) rfl rfl Try.underlying38 (by kernel_rfl) (fun _ => by kernel_rfl) rfl rfl Taken.no) ?_
 refine SL.memS (O.buildSlice 103 (rows := exR.map eRu) rfl rfl Try.underlying23 hi38 hz38 hs38 (by decide) rfl (by decide) rfl rfl rfl Taken.no) rfl rfl (S' := (103, .data 38 3 (exR.map eRu)) :: _) rfl ?_
 refine SL.val (O.fld_ref (o' := 2) rfl Try.underlying32 rfl (m := 0) (by kernel_rfl) rfl rfl Taken.no) ?_
 refine SL.effS (O.st_ref (m := 1) rfl rfl rfl (js := [_]) rfl rfl (by kernel_rfl) (by simp) (Nat.le_of_ble_eq_true rfl) rfl (is' := [_, _, _]) rfl Taken.no) (S' := (102, _) :: _) rfl ?_
 refine E.fo (W.seq ?_)
 refine W.freezeC 102 2 103 (is' := [_, _, _]) rfl rfl rfl rfl ?_
 refine W.region ?_
 refine SL.val (O.ldN (m := 3) (PtI.ref rfl rfl) (js := [_, _, _]) rfl (Nat.le_of_ble_eq_true rfl) Try.underlying32 rfl (by kernel_rfl) rfl Taken.no) ?_
 refine SL.memS (O.call (rn []) [] rfl rfl rfl (solveC_ok ex_ok2) (.cons (ArgOk.aggU (.cons (ArgOk.same rfl) (.cons (ArgOk.same rfl) (.cons (ArgOk.same rfl) .nil)))) .nil) SubS.nil rfl rfl rfl rfl rfl (.inl rfl) hcallOk15 (r' := .tup [.u _, .u _]) rfl rfl Taken.no) rfl rfl (S' := _) rfl ?_
 refine SL.as (i' := .tup [vL 1 (([0, 1, 1] : List Nat).map eN), vI 0]) 29 rfl (by rw [ex_s2]) ?_
 refine SL.mv rfl rfl ?_
 refine SL.val (O.extract rfl rfl rfl Taken.no) ?_
 refine SL.val (O.extract rfl rfl rfl Taken.no) ?_
 refine SL.an rfl rfl (SL.an rfl rfl (E.fo (W.rg (SL.mv rfl rfl ?_))))
 refine SL.val (O.det (fun _ => G.R.mv (G.R.eql rfl rfl) (congrArg Value.bool (decide_eq_true (by rfl)))) rfl Taken.no) ?_
 refine SL.mv rfl rfl ?_
 have hg1 : true = true := by decide
 refine SL.val (O.move rfl rfl (Taken.yes rfl rfl hg1)) ?_
 refine SL.val (O.det (fun _ => G.R.mv (G.R.eql rfl rfl) (congrArg Value.bool (decide_eq_true (by rfl)))) rfl (Taken.yes rfl rfl hg1)) ?_
 refine SL.val (O.pick_t rfl rfl rfl rfl Taken.no) ?_
 refine SL.mv rfl rfl ?_
 have hg2 : true = true := by decide
 refine SL.val (O.move rfl rfl (Taken.yes rfl rfl hg2)) ?_
 refine SL.val (O.det (fun _ => G.R.mv (G.R.eql rfl rfl) (congrArg Value.bool (decide_eq_true (by rfl)))) rfl (Taken.yes rfl rfl hg2)) ?_
 refine SL.val (O.pick_t rfl rfl rfl rfl Taken.no) ?_
 refine SL.mv rfl rfl ?_
 have hg3 : true = true := by decide
 refine SL.val (O.move rfl rfl (Taken.yes rfl rfl hg3)) ?_
 refine SL.val (O.det (fun _ => G.R.mv (G.R.eql rfl rfl) (congrArg Value.bool (decide_eq_true (by rfl)))) rfl (Taken.yes rfl rfl hg3)) ?_
 refine SL.val (O.pick_t rfl rfl rfl rfl Taken.no) ?_
 refine SL.mv rfl rfl ?_
 have hg4 : true = true := by decide
 refine SL.val (O.move rfl rfl (Taken.yes rfl rfl hg4)) ?_
 refine SL.memS (O.buildSlice 104 (rows := ([0, 0, 2] : List Nat).map eN) rfl rfl Try.underlying39 hi3 hz3 hs3 (by decide) rfl (by decide) rfl rfl rfl (Taken.yes rfl rfl hg4)) rfl rfl (S' := (104, .data 3 1 (([0, 0, 2] : List Nat).map eN)) :: _) rfl ?_
 refine SL.memS (O.call (rn []) [104] rfl rfl rfl (same_h (a := [0, 0, 2]) (b := [0, 0, 2])) (.cons (ArgOk.same rfl) (.cons (ArgOk.own rfl rfl) .nil)) SubS.nil rfl rfl rfl rfl rfl (.inr ⟨rfl, fun x hx => by simp at hx⟩) hcallOk16 (r' := .u _) rfl rfl (Taken.yes rfl rfl hg4)) rfl rfl (S' := _) rfl ?_
 refine SL.as (i' := vB true) 49 rfl (by exact iv_bool (dec_t rfl)) ?_
 refine SL.val (O.pick_t rfl rfl rfl rfl Taken.no) ?_
 refine SL.mv rfl rfl ?_
 have hg5 : true = true := by decide
 refine SL.val (O.move rfl rfl (Taken.yes rfl rfl hg5)) ?_
 refine SL.memS (O.buildSlice 105 (rows := ([0, 1, 1] : List Nat).map eN) rfl rfl Try.underlying39 hi3 hz3 hs3 (by decide) rfl (by decide) rfl rfl rfl (Taken.yes rfl rfl hg5)) rfl rfl (S' := (105, .data 3 1 (([0, 1, 1] : List Nat).map eN)) :: _) rfl ?_
 refine SL.memS (O.call (rn []) [105] rfl rfl rfl (same_h (a := [0, 1, 1]) (b := [0, 1, 1])) (.cons (ArgOk.same rfl) (.cons (ArgOk.own rfl rfl) .nil)) SubS.nil rfl rfl rfl rfl rfl (.inr ⟨rfl, fun x hx => by simp at hx⟩) hcallOk16 (r' := .u _) rfl rfl (Taken.yes rfl rfl hg5)) rfl rfl (S' := _) rfl ?_
 refine SL.as (i' := vB true) 54 rfl (by exact iv_bool (dec_t rfl)) ?_
 refine SL.val (O.pick_t rfl rfl rfl rfl Taken.no) ?_
 refine SL.mv rfl rfl ?_
 have hg6 : true = true := by decide
 refine SL.val (O.ldN (m := 3) (PtI.ref rfl rfl) (js := [_, _, _]) rfl (Nat.le_of_ble_eq_true rfl) Try.underlying32 rfl (by kernel_rfl) rfl (Taken.yes rfl rfl hg6)) ?_
 refine SL.val (O.move rfl rfl (Taken.yes rfl rfl hg6)) ?_
 refine SL.val (O.callp rfl rfl rfl (permC_ok (l := [0, 1, 1]) ex_ok2) (.cons (ArgOk.aggU (.cons (ArgOk.same rfl) (.cons (ArgOk.same rfl) (.cons (ArgOk.same rfl) .nil)))) (.cons (ArgOk.same rfl) .nil)) hcallOk24 rfl (Taken.yes rfl rfl hg6)) ?_
 refine SL.as (i' := vB true) 59 rfl (by exact iv_bool (dec_t ex_p)) ?_
 refine SL.val (O.pick_t rfl rfl rfl rfl Taken.no) ?_
 refine SL.an rfl rfl (E.fo ?_)
 refine W.pick (K:=[(0,_)]) (Z:=[(102,_),(104,_),(105,_)]) ⟨rfl,trivial⟩ ⟨rfl,rfl,rfl,trivial⟩ ?_
 refine W.ret ?_
 refine E.fin (rs := [_]) (rn []) (.inl rfl) rfl (.cons (ResOne.tmp rfl) .nil) ?_ ?_ rfl (fixL_spec rfl)
 ·skip
  rfl
 · exact SubS.nil

end Go.Proofs.Ytppamigboeaefaa
end
section
namespace Go.Proofs.Ytppamigboeaefaa
open Go Go.RowKit Go.H Go.D33

theorem hcallOk11 : G.callOk Try.prog 11 = true := by kernel_rfl
theorem hcallOk12 : G.callOk Try.prog 12 = true := by kernel_rfl
theorem hcallOk14 : G.callOk Try.prog 14 = true := by kernel_rfl
theorem hcallOk17 : G.callOk Try.prog 17 = true := by kernel_rfl










end Go.Proofs.Ytppamigboeaefaa
end
section
namespace Go.Proofs.Ytppamigboeaefaa
open Go Go.RowKit Go.H Go.D33









end Go.Proofs.Ytppamigboeaefaa
end
section
namespace Go.D33
open Go Go.RowKit Go.H
section
variable {n : Nat} {ps : List Pr} {rs ts : List Ru} {m : List Nat} {s : Stp}
/-- Labels that keep atoms together. -/
def resp (n : Nat) (rs : List Ru) (lab : List Nat) : Prop := ∀ i j, i < n → j < n → (atomsL n rs)[i]! = (atomsL n rs)[j]! → lab[i]! = lab[j]!
/-- Rules that say the same. -/
structure Alike (n : Nat) (ps : List Pr) (rs ts : List Ru) : Prop where
  atm : atomsL n ts = atomsL n rs
  con : ∀ lab, resp n rs lab → connL n ps ts lab = connL n ps rs lab
  cl : ∀ lab, resp n rs lab → clash (barL ts) lab = clash (barL rs) lab
theorem alike_next (hf : (Prob.mk (n : Int) ps rs).formed) (h : Alike n ps rs ts) (hm : isP n m) (hp : permR n ps rs m) : nextR n ps ts m = nextR n ps rs m ∧ ∀ s, preR n (atomsL n rs) m s → resR n ps ts m s = resR n ps rs m s := by
  have hl : ∀ s, preR n (atomsL n rs) m s → resp n rs (labL n (atomsL n rs) m s) := fun s h1 i j hi hj e => lab_at hf hm hp ((pre_iff hm hp.2.1).2 h1) hi hj e
  have hres : ∀ s, preR n (atomsL n rs) m s → resR n ps ts m s = resR n ps rs m s := fun s h1 => by
    unfold resR
    rw [h.atm, h.con _ (hl s h1)]
  refine ⟨?_, hres⟩
  unfold nextR
  refine best_congr fun s _ => ⟨?_, fun q => ?_⟩
  · unfold posR
    rw [h.atm]
    exact ⟨fun q => ⟨q.1, by rw [← h.cl _ (hl s q.1)]; exact q.2⟩, fun q => ⟨q.1, by rw [h.cl _ (hl s q.1)]; exact q.2⟩⟩
  · have q1 := q.1
    rw [h.atm] at q1
    unfold gnR
    rw [hres s q1]
theorem alike_solve (hf : (Prob.mk (n : Int) ps rs).formed) (h : Alike n ps rs ts) : ∀ {k : Nat} {m : List Nat}, isP n m → permR n ps rs m → solveN n ps ts k m = solveN n ps rs k m
  | 0, _, _, _ => rfl
  | k + 1, m, hm, hp => by
    have := alike_next hf h hm hp
    rw [solveN, solveN, this.1]
    split
    · rfl
    · rename_i e
      have h1 := next_spec n ps rs m
      have hpos := (h1.2.1 (by have := h1.1; omega)).2.1
      have hs := next_step hf hm hp e
      rw [this.2 _ hpos.1]
      exact alike_solve hf h hs.1 hs.2.1
theorem alike_solveR (hok : (Prob.mk (n : Int) ps rs).ok) (h : Alike n ps rs ts) : solveR n ps ts = solveR n ps rs := by
  unfold solveR
  rw [h.atm]
  exact alike_solve hok.1 h (atoms_perm hok).1 (atoms_perm hok).2
/-- The same units, in some order. -/
def swp (t r : Ru) : Prop := t.k = r.k ∧ ((t.a = r.a ∧ t.b = r.b) ∨ (t.a = r.b ∧ t.b = r.a))
def fol (n : Nat) (rs : List Ru) (t : Ru) : Prop := (t.k = 1 ∧ ∃ i, i < n ∧ (atomsL n rs)[i]! ≠ i ∧ t.a = (i : Int) ∧ t.b = ((atomsL n rs)[i]! : Nat)) ∨ (t.k = 2 ∧ ∃ r ∈ rs, r.k = 2 ∧ t.a = ((atomsL n rs)[r.a.toNat]! : Nat) ∧ t.b = ((atomsL n rs)[r.b.toNat]! : Nat))
theorem must_cn (hf : (Prob.mk (n : Int) ps rs).formed) {lab : List Nat} (hr : resp n rs lab) {i : Nat} (hi : i < n) : Cn (inC n ps rs lab) i (atomsL n rs)[i]! := by
  have ha := atoms_comp hf
  refine (ha.cn i hi).lift fun x y q => .base ?_
  obtain ⟨hx, hy⟩ := ha.bnd x y q
  obtain ⟨r, hrr, hk, e⟩ := mem_muE.1 q
  cases e
  exact ⟨(mF_iff rs).2 (.inr ⟨r, hrr, (ru_lt hf hrr).2.2.2 hk, .inl ⟨rfl, rfl⟩⟩), hr _ _ hx hy (ha.rel _ _ q), hx, hy⟩
theorem alike_of (hok : (Prob.mk (n : Int) ps rs).ok) (h1 : ∀ r ∈ rs, ∃ t ∈ ts, swp t r) (h2 : ∀ t ∈ ts, (∃ r ∈ rs, swp t r) ∨ fol n rs t) (hl : ts.length ≤ 400) : (Prob.mk (n : Int) ps ts).ok ∧ Alike n ps rs ts := by
  have hf := hok.1
  have ha := atoms_comp hf
  have hat0 : clash (barL rs) (atomsL n rs) = false := by rw [← bad_eq hf]; exact hok.2
  have hno : ∀ r ∈ rs, r.k = 2 → (atomsL n rs)[r.a.toNat]! ≠ (atomsL n rs)[r.b.toNat]! := fun r hr hk e => by
    unfold clash at hat0
    rw [List.any_eq_false] at hat0
    exact hat0 r (List.mem_filter.2 ⟨hr, decide_eq_true hk⟩) (decide_eq_true e)
  have hru : ∀ t ∈ ts, ruOk (n : Int) t := fun t ht => by
    rcases h2 t ht with ⟨r, hr, hk, e⟩ | ⟨hk, i, hi, hne, e1, e2⟩ | ⟨hk, r, hr, hrk, e1, e2⟩
    · have := formed_ru hf hr
      unfold ruOk at this ⊢
      have this : (r.k = 1 ∨ r.k = 2) ∧ 0 ≤ r.a ∧ r.a < (n : Int) ∧ 0 ≤ r.b ∧ r.b < (n : Int) ∧ r.a ≠ r.b := this
      omega
    · have := ha.lt hi
      unfold ruOk
      omega
    · have q := formed_ru hf hr
      have q : (r.k = 1 ∨ r.k = 2) ∧ 0 ≤ r.a ∧ r.a < (n : Int) ∧ 0 ≤ r.b ∧ r.b < (n : Int) ∧ r.a ≠ r.b := q
      have l1 := ha.lt (show r.a.toNat < n by omega)
      have l2 := ha.lt (show r.b.toNat < n by omega)
      have := hno r hr hrk
      unfold ruOk
      omega
  have hft : (Prob.mk (n : Int) ps ts).formed := ⟨hf.1, hf.2.1, hl, hf.2.2.2.1, fun i hi => hru _ (mem_at hi)⟩
  have hlk1 : ∀ {r : Ru}, r ∈ rs → r.k = 1 → ∃ t ∈ ts, t.k = 1 ∧ ((t.a = r.a ∧ t.b = r.b) ∨ (t.a = r.b ∧ t.b = r.a)) := fun {r} hr hk => by
    obtain ⟨t, ht, q1, q2⟩ := h1 r hr
    exact ⟨t, ht, q1.trans hk, q2⟩
  have hatm : atomsL n ts = atomsL n rs := by
    refine (atoms_comp hft).uniq (ha.congr (fun i j q => (atoms_comp hft).bnd i j q) (fun i j q => ?_) fun i j q => ?_)
    · obtain ⟨t, ht, hk, e⟩ := mem_muE.1 q
      cases e
      rcases h2 t ht with ⟨r, hr, hk2, e⟩ | ⟨_, i, hi, _, e1, e2⟩ | ⟨hk2, _⟩
      · rcases e with ⟨e1, e2⟩ | ⟨e1, e2⟩
        · rw [e1, e2]; exact .base (mem_muE.2 ⟨r, hr, by omega, rfl⟩)
        · rw [e1, e2]; exact .symm (.base (mem_muE.2 ⟨r, hr, by omega, rfl⟩))
      · rw [e1, e2, Int.toNat_natCast, Int.toNat_natCast]; exact ha.cn i hi
      · omega
    · obtain ⟨r, hr, hk, e⟩ := mem_muE.1 q
      cases e
      obtain ⟨t, ht, hk2, e⟩ := hlk1 hr hk
      rcases e with ⟨e1, e2⟩ | ⟨e1, e2⟩
      · rw [← e1, ← e2]; exact .base (mem_muE.2 ⟨t, ht, hk2, rfl⟩)
      · rw [← e1, ← e2]; exact .symm (.base (mem_muE.2 ⟨t, ht, hk2, rfl⟩))
  have hcl : ∀ lab, resp n rs lab → clash (barL ts) lab = clash (barL rs) lab := fun lab hr => by
    rw [Bool.eq_iff_iff]
    unfold clash
    rw [List.any_eq_true, List.any_eq_true]
    constructor
    · rintro ⟨t, ht, e⟩
      obtain ⟨ht, hk⟩ := bar_in ht
      have e := of_decide_eq_true e
      rcases h2 t ht with ⟨r, hrr, hk2, q⟩ | ⟨hk2, _⟩ | ⟨_, r, hrr, hrk, q1, q2⟩
      · refine ⟨r, List.mem_filter.2 ⟨hrr, decide_eq_true (by omega)⟩, decide_eq_true ?_⟩
        rcases q with ⟨q1, q2⟩ | ⟨q1, q2⟩
        · rw [← q1, ← q2]; exact e
        · rw [← q1, ← q2]; exact e.symm
      · omega
      · have q := formed_ru hf hrr
        have q : (r.k = 1 ∨ r.k = 2) ∧ 0 ≤ r.a ∧ r.a < (n : Int) ∧ 0 ≤ r.b ∧ r.b < (n : Int) ∧ r.a ≠ r.b := q
        have l1 := ha.lt (show r.a.toNat < n by omega)
        have l2 := ha.lt (show r.b.toNat < n by omega)
        rw [q1, q2, Int.toNat_natCast, Int.toNat_natCast] at e
        refine ⟨r, List.mem_filter.2 ⟨hrr, decide_eq_true hrk⟩, decide_eq_true ?_⟩
        rw [hr _ _ (show r.a.toNat < n by omega) l1 (ha.idem (by omega)).symm, hr _ _ (show r.b.toNat < n by omega) l2 (ha.idem (by omega)).symm]
        exact e
    · rintro ⟨r, hrr, e⟩
      obtain ⟨hrr, hk⟩ := bar_in hrr
      have e := of_decide_eq_true e
      obtain ⟨t, ht, hk2, q⟩ := h1 r hrr
      refine ⟨t, List.mem_filter.2 ⟨ht, decide_eq_true (by omega)⟩, decide_eq_true ?_⟩
      rcases q with ⟨q1, q2⟩ | ⟨q1, q2⟩
      · rw [q1, q2]; exact e
      · rw [q1, q2]; exact e.symm
  have hrat : resp n rs (atomsL n rs) := fun i j _ _ e => e
  refine ⟨⟨hft, ?_⟩, hatm, fun lab hr => ?_, hcl⟩
  · rw [bad_eq hft, hatm, hcl _ hrat]; exact hat0
  · refine (conn_in hft lab).uniq ((conn_in hf lab).congr (fun i j q => ⟨q.2.2.1, q.2.2.2⟩) (fun i j q => ?_) fun i j q => ?_)
    · obtain ⟨q1, q0, q2, q3⟩ := q
      rcases (mF_iff ts).1 q1 with q1 | ⟨t, ht, hk, q⟩
      · exact .base ⟨(mF_iff rs).2 (.inl q1), q0, q2, q3⟩
      · rcases h2 t ht with ⟨r, hr2, hk2, e⟩ | ⟨_, x, hx, _, e1, e2⟩ | ⟨hk2, _⟩
        · refine .base ⟨(mF_iff rs).2 (.inr ⟨r, hr2, by omega, ?_⟩), q0, q2, q3⟩
          rcases e with ⟨e1, e2⟩ | ⟨e1, e2⟩
          · rw [← e1, ← e2]; exact q
          · rw [← e1, ← e2]; exact q.symm
        · rw [e1, e2, Int.toNat_natCast, Int.toNat_natCast] at q
          have hc := must_cn hf hr hx
          rcases q with ⟨z1, z2⟩ | ⟨z1, z2⟩
          · rw [z1, z2]; exact hc
          · rw [z1, z2]; exact hc.symm
        · omega
    · obtain ⟨q1, q0, q2, q3⟩ := q
      rcases (mF_iff rs).1 q1 with q1 | ⟨r, hr2, hk, q⟩
      · exact .base ⟨(mF_iff ts).2 (.inl q1), q0, q2, q3⟩
      · obtain ⟨t, ht, hk2, e⟩ := h1 r hr2
        refine .base ⟨(mF_iff ts).2 (.inr ⟨t, ht, by omega, ?_⟩), q0, q2, q3⟩
        rcases e with ⟨e1, e2⟩ | ⟨e1, e2⟩
        · rw [e1, e2]; exact q
        · rw [e1, e2]; exact q.symm
end
end Go.D33
end
section
namespace Go.D33
open Go Go.RowKit Go.H
/-! ### The first of the best steps -/
def ltS (a b : Stp) : Prop := (a.u = false ∧ b.u = true) ∨ (a.u = b.u ∧ (a.f < b.f ∨ (a.f = b.f ∧ a.t < b.t)))
theorem ltS_asymm {a b : Stp} (h : ltS a b) : ¬ ltS b a := by
  rintro (q | q) <;> rcases h with h | h
  · rw [h.1] at q; cases q.2
  · rw [h.1, q.1] at q; cases q.2
  · rw [h.1, h.2] at q; cases q.1
  · omega
theorem ltS_tri (a b : Stp) : a = b ∨ ltS a b ∨ ltS b a := by
  obtain ⟨u, f, t⟩ := a
  obtain ⟨u', f', t'⟩ := b
  by_cases hu : u = u'
  · subst hu
    rcases Int.lt_trichotomy f f' with h | h | h
    · exact .inr (.inl (.inr ⟨rfl, .inl h⟩))
    · subst h
      rcases Int.lt_trichotomy t t' with h | h | h
      · exact .inr (.inl (.inr ⟨rfl, .inr ⟨rfl, h⟩⟩))
      · subst h; exact .inl rfl
      · exact .inr (.inr (.inr ⟨rfl, .inr ⟨rfl, h⟩⟩))
    · exact .inr (.inr (.inr ⟨rfl, .inl h⟩))
  · cases u <;> cases u'
    · exact absurd rfl hu
    · exact .inr (.inl (.inl ⟨rfl, rfl⟩))
    · exact .inr (.inr (.inl ⟨rfl, rfl⟩))
    · exact absurd rfl hu
theorem rowS_in {n : Nat} {u : Bool} {f : Nat} {s : Stp} (h : s ∈ rowS n u f) : s.u = u ∧ s.f = (f : Int) := by
  obtain ⟨t, _, rfl⟩ := List.mem_map.1 h
  exact ⟨rfl, rfl⟩
theorem kindS_in {n : Nat} {u : Bool} {k : Nat} {s : Stp} (h : s ∈ kindS n u k) : s.u = u ∧ s.f < (k : Int) := by
  obtain ⟨l, hl, hs⟩ := List.mem_flatten.1 h
  obtain ⟨f, hf, rfl⟩ := List.mem_map.1 hl
  have := rowS_in hs
  have h2 := List.mem_range.1 hf
  exact ⟨this.1, by rw [this.2]; omega⟩
theorem places_asc (n : Nat) : (places (List.range n)).Pairwise (· < ·) := by
  unfold places
  refine List.pairwise_cons.2 ⟨fun t ht => ?_, ?_⟩
  · obtain ⟨x, _, rfl⟩ := List.mem_map.1 ht
    omega
  · rw [List.pairwise_map]
    exact (List.pairwise_lt_range (n := n)).imp fun h => by omega
theorem kindS_asc (n : Nat) (u : Bool) : ∀ k, (kindS n u k).Pairwise ltS
  | 0 => List.Pairwise.nil
  | k + 1 => by
    rw [kindS_s, List.pairwise_append]
    refine ⟨kindS_asc n u k, ?_, fun a ha b hb => ?_⟩
    · unfold rowS
      rw [List.pairwise_map]
      exact (places_asc n).imp fun h => .inr ⟨rfl, .inr ⟨rfl, h⟩⟩
    · have h1 := kindS_in ha
      have h2 := rowS_in hb
      exact .inr ⟨h1.1.trans h2.1.symm, .inl (by rw [h2.2]; exact h1.2)⟩
theorem allS_asc (n : Nat) : (allS n).Pairwise ltS := by
  unfold allS
  rw [List.pairwise_append]
  exact ⟨kindS_asc n false n, kindS_asc n true n, fun a ha b hb => .inl ⟨(kindS_in ha).1, (kindS_in hb).1⟩⟩
section
variable {ok : Stp → Prop} [DecidablePred ok] {g : Stp → Int}
theorem best_first' {l : List Stp} (hl : l.Pairwise ltS) : ∀ k, k ≤ l.length → 0 < (bestF ok g (l.take k)).2 → ∀ x ∈ l.take k, ok x → ltS x (bestF ok g (l.take k)).1 → g x < (bestF ok g (l.take k)).2 := by
  intro k
  induction k with
  | zero => intro _ _ x hx; rw [List.take_zero] at hx; cases hx
  | succ k ih =>
    intro hk h0 x hx hok hlt
    have hk' : k < l.length := hk
    obtain ⟨s1, s2, s3, _⟩ := best_spec (ok := ok) (g := g) (l.take k)
    rw [best_s hk'] at h0 hlt ⊢
    have hs : (l.take (k + 1)).Pairwise ltS := hl.sublist (List.take_sublist _ _)
    rw [snocP hk'] at hs hx
    by_cases hp : ok l[k]! ∧ (bestF ok g (l.take k)).2 < g l[k]!
    · rw [pick_y hp.1 hp.2] at h0 hlt ⊢
      rcases List.mem_append.1 hx with q | q
      · have := s3 x q hok
        show g x < g l[k]!
        omega
      · rw [List.mem_singleton.1 q] at hlt
        exact absurd hlt (ltS_asymm hlt)
    · rw [pick_n hp] at h0 hlt ⊢
      rcases List.mem_append.1 hx with q | q
      · exact ih (by omega) h0 x q hok hlt
      · rw [List.mem_singleton.1 q] at hlt
        have := (List.pairwise_append.1 hs).2.2 _ (s2 h0).1 l[k]! (by simp)
        exact absurd hlt (ltS_asymm this)
theorem best_first {l : List Stp} (hl : l.Pairwise ltS) (h0 : 0 < (bestF ok g l).2) : ∀ x ∈ l, ok x → ltS x (bestF ok g l).1 → g x < (bestF ok g l).2 := by
  have := best_first' (ok := ok) (g := g) hl l.length (Nat.le_refl _)
  rw [List.take_length] at this
  exact this h0
theorem best_char {l : List Stp} (hl : l.Pairwise ltS) {s : Stp} (hs : s ∈ l) (hok : ok s) (hg : 0 < g s) (hmax : ∀ x ∈ l, ok x → g x ≤ g s) (hfirst : ∀ x ∈ l, ok x → ltS x s → g x < g s) : bestF ok g l = (s, g s) := by
  obtain ⟨s1, s2, s3, _⟩ := best_spec (ok := ok) (g := g) l
  have h1 := s3 s hs hok
  obtain ⟨t1, t2, t3⟩ := s2 (by omega)
  have h2 := hmax _ t1 t2
  have e : (bestF ok g l).2 = g s := by omega
  rcases ltS_tri (bestF ok g l).1 s with q | q | q
  · exact Prod.ext q e
  · have := hfirst _ t1 t2 q
    omega
  · have := best_first hl (by omega) s hs hok q
    omega
end
/-! ### Closed sets -/
structure Emb (n k : Nat) (ps : List Pr) (rs : List Ru) (us : List Nat) (ps' : List Pr) (rs' : List Ru) : Prop where
  len : us.length = k
  asc : ∀ i j, i < j → j < k → us[i]! < us[j]!
  lt : ∀ i, i < k → us[i]! < n
  cl : ∀ i y, i < k → y < n → mF (lF ps) rs us[i]! y = true → y ∈ us
  lk : ∀ i j, i < k → j < k → mF (lF ps') rs' i j = mF (lF ps) rs us[i]! us[j]!
  mu : ∀ i j, i < k → j < k → mu rs' i j = mu rs us[i]! us[j]!
  can : ∀ i j, i < k → j < k → ((∃ x ∈ barL rs', x.a.toNat = i ∧ x.b.toNat = j) ↔ ∃ x ∈ barL rs, x.a.toNat = us[i]! ∧ x.b.toNat = us[j]!)
  val : ∀ (q q' : Nat → Nat → Prop) [∀ a b, Decidable (q a b)] [∀ a b, Decidable (q' a b)], (∀ i j, i < k → j < k → (q' i j ↔ q us[i]! us[j]!)) → sumQ q' ps' = sumQ (fun a b => (a ∈ us ∧ b ∈ us) ∧ q a b) ps
namespace Emb
variable {n k : Nat} {ps ps' : List Pr} {rs rs' : List Ru} {us : List Nat}
theorem inj (E : Emb n k ps rs us ps' rs') {i j : Nat} (hi : i < k) (hj : j < k) (e : us[i]! = us[j]!) : i = j := by
  rcases Nat.lt_trichotomy i j with h | h | h
  · have := E.asc i j h hj; omega
  · exact h
  · have := E.asc j i h hi; omega
theorem mono (E : Emb n k ps rs us ps' rs') {i j : Nat} (hi : i < k) (hj : j < k) : us[i]! ≤ us[j]! ↔ i ≤ j := by
  rcases Nat.lt_trichotomy i j with h | h | h
  · have := E.asc i j h hj; omega
  · subst h; simp
  · have := E.asc j i h hi; omega
theorem mem (E : Emb n k ps rs us ps' rs') {x : Nat} : x ∈ us ↔ ∃ i, i < k ∧ x = us[i]! := by
  constructor
  · intro h
    obtain ⟨i, hi, rfl⟩ := List.getElem_of_mem h
    exact ⟨i, by rw [← E.len]; exact hi, (getElem!_pos us i hi).symm⟩
  · rintro ⟨i, hi, rfl⟩
    exact mem_at (by rw [E.len]; exact hi)
theorem at_ (E : Emb n k ps rs us ps' rs') {i : Nat} (hi : i < k) : us[i]! ∈ us := E.mem.2 ⟨i, hi, rfl⟩
theorem lkc (E : Emb n k ps rs us ps' rs') {x y : Nat} (hx : x < n) (hy : y < n) (h : mF (lF ps) rs x y = true) : x ∈ us ↔ y ∈ us := by
  constructor
  · intro q
    obtain ⟨i, hi, rfl⟩ := E.mem.1 q
    exact E.cl i y hi hy h
  · intro q
    obtain ⟨i, hi, rfl⟩ := E.mem.1 q
    rw [lk_sym] at h
    exact E.cl i x hi hx h
theorem cn (E : Emb n k ps rs us ps' rs') {R R' : Nat → Nat → Prop} (hcl : ∀ x y, R x y → (x ∈ us ↔ y ∈ us)) (hR : ∀ i j, i < k → j < k → (R' i j ↔ R us[i]! us[j]!)) {x y : Nat} (g : Cn R x y) :
    (x ∈ us ↔ y ∈ us) ∧ ∀ i j, i < k → j < k → x = us[i]! → y = us[j]! → Cn R' i j := by
  induction g with
  | base h => exact ⟨hcl _ _ h, fun i j hi hj e1 e2 => .base ((hR i j hi hj).2 (by rw [← e1, ← e2]; exact h))⟩
  | refl x => exact ⟨Iff.rfl, fun i j hi hj e1 e2 => by rw [E.inj hi hj (e1.symm.trans e2)]; exact .refl j⟩
  | symm _ ih => exact ⟨ih.1.symm, fun i j hi hj e1 e2 => (ih.2 j i hj hi e2 e1).symm⟩
  | trans _ _ ih ih' =>
    refine ⟨ih.1.trans ih'.1, fun i j hi hj e1 e2 => ?_⟩
    obtain ⟨l, hl, e⟩ := E.mem.1 (ih.1.1 (by rw [e1]; exact E.at_ hi))
    exact (ih.2 i l hi hl e1 e).trans (ih'.2 l j hl hj e e2)
theorem comp (E : Emb n k ps rs us ps' rs') {R R' : Nat → Nat → Prop} {l l' : List Nat} (hcl : ∀ x y, R x y → (x ∈ us ↔ y ∈ us)) (hR : ∀ i j, i < k → j < k → (R' i j ↔ R us[i]! us[j]!)) (h : Comp n R l) (h' : Comp k R' l') {i : Nat} (hi : i < k) : l[us[i]!]! = us[l'[i]!]! := by
  have hin := E.lt i hi
  have c1 := h.cn _ hin
  have q := (E.cn hcl hR c1).1.1 (E.at_ hi)
  obtain ⟨j, hj, e⟩ := E.mem.1 q
  have c2 := (E.cn hcl hR c1).2 i j hi hj rfl e
  have l1 : l'[i]! ≤ j := by rw [h'.same c2]; exact h'.le j hj
  have hl := h'.lt hi
  have c3 : Cn R us[i]! us[l'[i]!]! := by
    have key : ∀ {x y : Nat}, Cn R' x y → x < k → Cn R us[x]! us[y]! ∧ y < k := fun {x y} g => by
      have hb : ∀ {x y}, Cn R' x y → (x < k ↔ y < k) := fun {x y} g => by
        have := Cn.keep (f := fun x => decide (x < k)) (fun i j r => by rw [decide_eq_true (h'.bnd i j r).1, decide_eq_true (h'.bnd i j r).2]) g
        simpa using this
      intro hx
      refine ⟨?_, (hb g).1 hx⟩
      induction g with
      | base r => have := h'.bnd _ _ r; exact .base ((hR _ _ this.1 this.2).1 r)
      | refl x => exact .refl _
      | symm g ih => exact (ih ((hb g).2 hx)).symm
      | trans g _ ih ih' => exact (ih hx).trans (ih' ((hb g).1 hx))
    exact (key (h'.cn i hi) hi).1
  have l2 : l[us[i]!]! ≤ us[l'[i]!]! := by rw [h.same c3]; exact h.le _ (E.lt _ hl)
  have l3 := (E.mono hl hj).2 l1
  rw [e] at l2 ⊢
  omega
end Emb
theorem comp_on {n : Nat} {R S : Nat → Nat → Prop} {l m : List Nat} (O : Nat → Prop) (hO : ∀ x y, R x y → (O x ↔ O y)) (hO' : ∀ x y, S x y → (O x ↔ O y)) (hRS : ∀ x y, O x → O y → (R x y ↔ S x y)) (h : Comp n R l) (h' : Comp n S m) {x : Nat} (hx : x < n) (ho : O x) : l[x]! = m[x]! := by
  have c1 := ((h.cn x hx).inside (R' := S) hO fun i j r o => (hRS i j o ((hO i j r).1 o)).1 r).2 ho
  have c2 := ((h'.cn x hx).inside (R' := R) hO' fun i j r o => (hRS i j o ((hO' i j r).1 o)).2 r).2 ho
  have l1 : l[x]! ≤ m[x]! := by rw [h.same c2]; exact h.le _ (h'.lt hx)
  have l2 : m[x]! ≤ l[x]! := by rw [h'.same c1]; exact h'.le _ (h.lt hx)
  omega
def embS (us : List Nat) (s : Stp) : Stp := ⟨s.u, (us[s.f.toNat]! : Nat), if s.t < 0 then s.t else (us[s.t.toNat]! : Nat)⟩
/-- A partition, and that of the closed set. -/
def RelE (us : List Nat) (k : Nat) (m m' : List Nat) : Prop := ∀ i, i < k → m[us[i]!]! = us[m'[i]!]!
section
variable {n k : Nat} {ps ps' : List Pr} {rs rs' : List Ru} {us m m' : List Nat} {s : Stp}
theorem inC_cl (E : Emb n k ps rs us ps' rs') {lab : List Nat} : ∀ x y, inC n ps rs lab x y → (x ∈ us ↔ y ∈ us) := fun _ _ q => E.lkc q.2.2.1 q.2.2.2 q.1
theorem perm_cl (E : Emb n k ps rs us ps' rs') (hf : (Prob.mk (n : Int) ps rs).formed) (hp : permR n ps rs m) {x y : Nat} (hx : x < n) (hy : y < n) (e : m[x]! = m[y]!) : x ∈ us ↔ y ∈ us :=
  (E.cn (R := inC n ps rs m) (R' := fun i j => inC n ps rs m us[i]! us[j]!) (inC_cl E) (fun _ _ _ _ => Iff.rfl) (((perm_comp hf hp).iff hx hy).1 e)).1
theorem name_cl (E : Emb n k ps rs us ps' rs') (hf : (Prob.mk (n : Int) ps rs).formed) (hm : isP n m) (hp : permR n ps rs m) {x : Nat} (hx : x < n) : x ∈ us ↔ m[x]! ∈ us := by
  have h := hm.2 x hx
  exact perm_cl E hf hp hx (by omega) h.2.symm
theorem atoms_emb (E : Emb n k ps rs us ps' rs') (hf : (Prob.mk (n : Int) ps rs).formed) (hf' : (Prob.mk (k : Int) ps' rs').formed) : RelE us k (atomsL n rs) (atomsL k rs') := fun i hi => by
  rw [atoms_eq hf, atoms_eq hf']
  refine E.comp (R := fun i j => mu rs i j = true ∧ i < n ∧ j < n) (R' := fun i j => mu rs' i j = true ∧ i < k ∧ j < k) (fun x y q => ?_) (fun i j hi hj => ?_) (comp_parts (mu_sym rs)) (comp_parts (mu_sym rs')) hi
  · refine E.lkc q.2.1 q.2.2 ?_
    rcases (mF_iff rs).1 q.1 with h | h
    · cases h
    · exact (mF_iff rs).2 (.inr h)
  · rw [E.mu i j hi hj]
    exact ⟨fun q => ⟨q.1, E.lt i hi, E.lt j hj⟩, fun q => ⟨q.1, hi, hj⟩⟩
/-- What is known of a partition and that of the closed set. -/
structure Two (n k : Nat) (ps : List Pr) (rs : List Ru) (us : List Nat) (ps' : List Pr) (rs' : List Ru) (m m' : List Nat) : Prop where
  E : Emb n k ps rs us ps' rs'
  ok : (Prob.mk (n : Int) ps rs).ok
  ok' : (Prob.mk (k : Int) ps' rs').ok
  hm : isP n m
  hp : permR n ps rs m
  hm' : isP k m'
  hp' : permR k ps' rs' m'
  rel : RelE us k m m'
namespace Two
theorem eqm (T : Two n k ps rs us ps' rs' m m') {i j : Nat} (hi : i < k) (hj : j < k) : m[us[i]!]! = m[us[j]!]! ↔ m'[i]! = m'[j]! := by
  have h1 := (T.hm'.2 i hi).1
  have h2 := (T.hm'.2 j hj).1
  rw [T.rel i hi, T.rel j hj]
  exact ⟨T.E.inj (by omega) (by omega), fun e => by rw [e]⟩
theorem eqn (T : Two n k ps rs us ps' rs' m m') {i j : Nat} (hi : i < k) (hj : j < k) : m[us[i]!]! = us[j]! ↔ m'[i]! = j := by
  have h1 := (T.hm'.2 i hi).1
  rw [T.rel i hi]
  exact ⟨T.E.inj (by omega) hj, fun e => by rw [e]⟩
theorem eqa (T : Two n k ps rs us ps' rs' m m') {i j : Nat} (hi : i < k) (hj : j < k) : (atomsL n rs)[us[i]!]! = us[j]! ↔ (atomsL k rs')[i]! = j := by
  have ha := atoms_comp T.ok'.1
  rw [atoms_emb T.E T.ok.1 T.ok'.1 i hi]
  exact ⟨T.E.inj (ha.lt hi) hj, fun e => by rw [e]⟩
theorem rng (T : Two n k ps rs us ps' rs' m m') (h : rngF k s) : rngF n (embS us s) ∧ (embS us s).f.toNat = us[s.f.toNat]! ∧ (0 ≤ s.t → (embS us s).t.toNat = us[s.t.toNat]! ∧ 0 ≤ (embS us s).t) ∧ (s.t < 0 → (embS us s).t < 0) := by
  obtain ⟨h1, h2, h3, h4, h5⟩ := h
  have e1 : (embS us s).f = (us[s.f.toNat]! : Nat) := rfl
  have e2 : (embS us s).t = if s.t < 0 then s.t else (us[s.t.toNat]! : Nat) := rfl
  have e3 : (embS us s).u = s.u := rfl
  have l1 := T.E.lt s.f.toNat (by omega)
  unfold rngF
  rw [e1, e2, e3]
  by_cases ht : s.t < 0
  · rw [if_pos ht]
    exact ⟨⟨by omega, by omega, by omega, by omega, h5⟩, by omega, fun q => by omega, fun _ => ht⟩
  · have l2 := T.E.lt s.t.toNat (by omega)
    rw [if_neg ht]
    exact ⟨⟨by omega, by omega, by omega, by omega, fun q => by omega⟩, by omega, fun q => ⟨by omega, by omega⟩, fun q => absurd q ht⟩
theorem g0 (T : Two n k ps rs us ps' rs' m m') (h : rngF k s) {i : Nat} (hi : i < k) : us[i]! ∈ g0L m (atomsL n rs) (embS us s) ↔ i ∈ g0L m' (atomsL k rs') s := by
  obtain ⟨_, r1, r2, r3⟩ := T.rng h
  obtain ⟨h1, h2, h3, h4, h5⟩ := h
  have hf : s.f.toNat < k := by omega
  have e0 := T.eqm hi hf
  have e1 := T.eqa hi hf
  have hl := T.E.lt i hi
  have e2 : (0 ≤ (embS us s).t ∧ m[us[i]!]! = (embS us s).t.toNat) ↔ (0 ≤ s.t ∧ m'[i]! = s.t.toNat) := by
    by_cases ht : s.t < 0
    · have := r3 ht
      exact ⟨fun q => by omega, fun q => by omega⟩
    · have r := r2 (by omega)
      rw [r.1, T.eqn hi (show s.t.toNat < k by omega)]
      exact ⟨fun q => ⟨by omega, q.2⟩, fun q => ⟨r.2, q.2⟩⟩
  cases hu : s.u with
  | true =>
    rw [mem_g0u T.hm.1 (show (embS us s).u = true from hu), mem_g0u T.hm'.1 hu, r1, e0, e2]
    exact ⟨fun q => ⟨hi, q.2⟩, fun q => ⟨hl, q.2⟩⟩
  | false =>
    rw [mem_g0m T.hm.1 (show (embS us s).u = false from hu), mem_g0m T.hm'.1 hu, r1, e0, e1, e2]
    exact ⟨fun q => ⟨hi, q.2⟩, fun q => ⟨hl, q.2⟩⟩
theorem g0_out (T : Two n k ps rs us ps' rs' m m') (h : rngF k s) {x : Nat} (hx : x ∉ us) : x ∉ g0L m (atomsL n rs) (embS us s) := by
  obtain ⟨_, r1, r2, r3⟩ := T.rng h
  obtain ⟨h1, h2, h3, h4, h5⟩ := h
  have hf : s.f.toNat < k := by omega
  have key : x < n → m[x]! = m[us[s.f.toNat]!]! → False := fun hxn e => hx ((perm_cl T.E T.ok.1 T.hp hxn (T.E.lt _ hf) e).2 (T.E.at_ hf))
  have key2 : x < n → 0 ≤ (embS us s).t → m[x]! = (embS us s).t.toNat → False := fun hxn q e => by
    by_cases ht : s.t < 0
    · have := r3 ht; omega
    · have r := r2 (by omega)
      rw [r.1] at e
      exact hx ((name_cl T.E T.ok.1 T.hm T.hp hxn).2 (by rw [e]; exact T.E.at_ (by omega)))
  intro q
  cases hu : s.u with
  | true =>
    rw [mem_g0u T.hm.1 (show (embS us s).u = true from hu), r1] at q
    rcases q.2 with z | z
    · exact key q.1 z
    · exact key2 q.1 z.1 z.2
  | false =>
    rw [mem_g0m T.hm.1 (show (embS us s).u = false from hu), r1] at q
    rcases q.2 with z | z
    · exact key2 q.1 z.1 z.2
    · exact key q.1 z.1
theorem pre (T : Two n k ps rs us ps' rs' m m') (h : rngF k s) : preR n (atomsL n rs) m (embS us s) ↔ preR k (atomsL k rs') m' s := by
  obtain ⟨r0, r1, r2, r3⟩ := T.rng h
  have hr := h
  obtain ⟨h1, h2, h3, h4, h5⟩ := h
  have hf : s.f.toNat < k := by omega
  have eo : othR n (atomsL n rs) m us[s.f.toNat]! = true ↔ othR k (atomsL k rs') m' s.f.toNat = true := by
    unfold othR
    rw [List.any_eq_true, List.any_eq_true]
    constructor
    · rintro ⟨x, hx, q⟩
      have hx := List.mem_range.1 hx
      have q := of_decide_eq_true q
      obtain ⟨i, hi, e⟩ := T.E.mem.1 ((perm_cl T.E T.ok.1 T.hp hx (T.E.lt _ hf) q.1).2 (T.E.at_ hf))
      rw [e] at q
      exact ⟨i, List.mem_range.2 hi, decide_eq_true ⟨(T.eqm hi hf).1 q.1, fun z => q.2 ((T.eqa hi hf).2 z)⟩⟩
    · rintro ⟨i, hi, q⟩
      have hi := List.mem_range.1 hi
      have q := of_decide_eq_true q
      exact ⟨us[i]!, List.mem_range.2 (T.E.lt i hi), decide_eq_true ⟨(T.eqm hi hf).2 q.1, fun z => q.2 ((T.eqa hi hf).1 z)⟩⟩
  have ef : us[s.f.toNat]! < us[s.t.toNat]! ∧ 0 ≤ s.t ↔ s.f < s.t := by
    by_cases ht : s.t < 0
    · exact ⟨fun q => by omega, fun q => by omega⟩
    · have := T.E.mono (i := s.t.toNat) (j := s.f.toNat) (by omega) hf
      constructor
      · intro q; omega
      · intro q; exact ⟨by omega, by omega⟩
  have et : (embS us s).f < (embS us s).t ↔ s.f < s.t := by
    rw [← ef]
    by_cases ht : s.t < 0
    · have := r3 ht
      have := r0.1
      exact ⟨fun q => by omega, fun q => by omega⟩
    · have r := r2 (by omega)
      have := r0.1
      constructor
      · intro q; exact ⟨by omega, by omega⟩
      · intro q; omega
  unfold preR
  rw [r1, T.eqn hf hf, T.eqa hf hf, et]
  have eu : (embS us s).u = s.u := rfl
  rw [eu]
  by_cases ht : s.t < 0
  · have q := r3 ht
    constructor
    · rintro ⟨_, _, z2, z3⟩
      exact ⟨hr, fun w => by omega, z2, fun hu => ⟨(z3 hu).1, fun w => by omega, fun _ => eo.1 ((z3 hu).2.2 q)⟩⟩
    · rintro ⟨_, _, z2, z3⟩
      exact ⟨r0, fun w => by omega, z2, fun hu => ⟨(z3 hu).1, fun w => by omega, fun _ => eo.2 ((z3 hu).2.2 ht)⟩⟩
  · have r := r2 (by omega)
    have htk : s.t.toNat < k := by omega
    rw [r.1, T.eqn htk htk, ne_eq, ne_eq, T.eqn hf htk]
    constructor
    · rintro ⟨_, z1, z2, z3⟩
      exact ⟨hr, fun _ => z1 r.2, z2, fun hu => ⟨(z3 hu).1, fun _ => (z3 hu).2.1 r.2, fun w => absurd w ht⟩⟩
    · rintro ⟨_, z1, z2, z3⟩
      exact ⟨r0, fun _ => z1 (by omega), z2, fun hu => ⟨(z3 hu).1, fun _ => (z3 hu).2.1 (by omega), fun w => by omega⟩⟩
theorem preF_ (T : Two n k ps rs us ps' rs' m m') (h : rngF k s) : preF n (atomsL n rs) m (embS us s) ↔ preF k (atomsL k rs') m' s := by
  rw [pre_iff T.hm T.hp.2.1, pre_iff T.hm' T.hp'.2.1]
  exact T.pre h
theorem pos (T : Two n k ps rs us ps' rs' m m') (h : rngF k s) : posR n (barL rs) (atomsL n rs) m (embS us s) ↔ posR k (barL rs') (atomsL k rs') m' s := by
  rw [← pos_iff T.ok.1 T.hm T.hp, ← pos_iff T.ok'.1 T.hm' T.hp']
  unfold posF
  rw [T.preF_ h]
  have e : (barL rs).any (hitR (g0L m (atomsL n rs) (embS us s))) = true ↔ (barL rs').any (hitR (g0L m' (atomsL k rs') s)) = true := by
    rw [List.any_eq_true, List.any_eq_true]
    constructor
    · rintro ⟨x, hx, q⟩
      have q := of_decide_eq_true q
      have ha : x.a.toNat ∈ us := Decidable.byContradiction fun z => T.g0_out h z q.1
      have hb : x.b.toNat ∈ us := Decidable.byContradiction fun z => T.g0_out h z q.2
      obtain ⟨i, hi, ei⟩ := T.E.mem.1 ha
      obtain ⟨j, hj, ej⟩ := T.E.mem.1 hb
      obtain ⟨x', hx', e1, e2⟩ := (T.E.can i j hi hj).2 ⟨x, hx, ei, ej⟩
      rw [ei, ej, T.g0 h hi, T.g0 h hj] at q
      exact ⟨x', hx', decide_eq_true (by rw [e1, e2]; exact q)⟩
    · rintro ⟨x', hx', q⟩
      have q := of_decide_eq_true q
      have hb := bar_rng T.ok'.1 x' hx'
      obtain ⟨x, hx, e1, e2⟩ := (T.E.can _ _ (show x'.a.toNat < k by omega) (show x'.b.toNat < k by omega)).1 ⟨x', hx', rfl, rfl⟩
      refine ⟨x, hx, decide_eq_true ?_⟩
      rw [e1, e2, T.g0 h (by omega), T.g0 h (by omega)]
      exact q
  constructor
  · rintro ⟨q1, q2⟩
    refine ⟨q1, ?_⟩
    rw [Bool.eq_false_iff] at q2 ⊢
    exact fun z => q2 (e.2 z)
  · rintro ⟨q1, q2⟩
    refine ⟨q1, ?_⟩
    rw [Bool.eq_false_iff] at q2 ⊢
    exact fun z => q2 (e.1 z)
theorem lab (T : Two n k ps rs us ps' rs' m m') (h : preR k (atomsL k rs') m' s) {i j : Nat} (hi : i < k) (hj : j < k) : (labL n (atomsL n rs) m (embS us s))[us[i]!]! = (labL n (atomsL n rs) m (embS us s))[us[j]!]! ↔ (labL k (atomsL k rs') m' s)[i]! = (labL k (atomsL k rs') m' s)[j]! := by
  have g1 := grp_of T.hm T.hp.2.1 ((pre_iff T.hm T.hp.2.1).2 ((T.pre h.1).2 h))
  have g2 := grp_of T.hm' T.hp'.2.1 ((pre_iff T.hm' T.hp'.2.1).2 h)
  rw [g1.lab _ _ (T.E.lt i hi) (T.E.lt j hj), g2.lab _ _ hi hj, T.g0 h.1 hi, T.g0 h.1 hj, T.eqm hi hj]
theorem res (T : Two n k ps rs us ps' rs' m m') (h : preR k (atomsL k rs') m' s) : RelE us k (resR n ps rs m (embS us s)) (resR k ps' rs' m' s) := fun i hi => by
  refine T.E.comp (inC_cl T.E) (fun i j hi hj => ?_) (res_comp T.ok.1 m (embS us s)) (res_comp T.ok'.1 m' s) hi
  unfold inC
  rw [T.E.lk i j hi hj, T.lab h hi hj]
  exact ⟨fun q => ⟨q.1, q.2.1, T.E.lt i hi, T.E.lt j hj⟩, fun q => ⟨q.1, q.2.1, hi, hj⟩⟩
theorem res_out (T : Two n k ps rs us ps' rs' m m') (h : preR k (atomsL k rs') m' s) {x : Nat} (hx : x < n) (ho : x ∉ us) : (resR n ps rs m (embS us s))[x]! = m[x]! := by
  have g1 := grp_of T.hm T.hp.2.1 ((pre_iff T.hm T.hp.2.1).2 ((T.pre h.1).2 h))
  refine comp_on (fun x => x ∉ us) (fun x y q => not_congr (inC_cl T.E x y q)) (fun x y q => not_congr (inC_cl T.E x y q)) (fun x y ox oy => ?_) (res_comp T.ok.1 m (embS us s)) (perm_comp T.ok.1 T.hp) hx ho
  unfold inC
  constructor
  · rintro ⟨q1, q2, q3, q4⟩
    rcases (g1.lab _ _ q3 q4).1 q2 with z | z
    · exact absurd z.1 (T.g0_out h.1 ox)
    · exact ⟨q1, z.2.2, q3, q4⟩
  · rintro ⟨q1, q2, q3, q4⟩
    exact ⟨q1, (g1.lab _ _ q3 q4).2 (.inr ⟨T.g0_out h.1 ox, T.g0_out h.1 oy, q2⟩), q3, q4⟩
theorem gain (T : Two n k ps rs us ps' rs' m m') (h : posR k (barL rs') (atomsL k rs') m' s) : gnR n ps rs m (embS us s) = gnR k ps' rs' m' s := by
  have hr := T.res h.1
  have hp2 := res_perm T.ok.1 T.hm T.hp ((T.pos h.1.1).2 h)
  have hp3 := res_perm T.ok'.1 T.hm' T.hp' h
  unfold gnR
  rw [valR_sum, valR_sum, valR_sum, valR_sum]
  rw [T.E.val (fun a b => (resR n ps rs m (embS us s))[a]! = (resR n ps rs m (embS us s))[b]!) (fun a b => (resR k ps' rs' m' s)[a]! = (resR k ps' rs' m' s)[b]!) fun i j hi hj => ?_,
    T.E.val (fun a b => m[a]! = m[b]!) (fun a b => m'[a]! = m'[b]!) fun i j hi hj => (T.eqm hi hj).symm]
  · refine sumQ_four fun x hx => ?_
    obtain ⟨ha, hb⟩ := pr_lt T.ok.1 hx
    by_cases qa : x.a.toNat ∈ us
    · by_cases qb : x.b.toNat ∈ us
      · exact .inl ⟨⟨fun e => ⟨⟨qa, qb⟩, e⟩, fun e => e.2⟩, ⟨fun e => ⟨⟨qa, qb⟩, e⟩, fun e => e.2⟩⟩
      · exact .inl ⟨⟨fun e => absurd ((perm_cl T.E T.ok.1 hp2.2 ha hb e).1 qa) qb, fun e => e.2⟩, ⟨fun e => absurd ((perm_cl T.E T.ok.1 T.hp ha hb e).1 qa) qb, fun e => e.2⟩⟩
    · by_cases qb : x.b.toNat ∈ us
      · exact .inl ⟨⟨fun e => absurd ((perm_cl T.E T.ok.1 hp2.2 ha hb e).2 qb) qa, fun e => e.2⟩, ⟨fun e => absurd ((perm_cl T.E T.ok.1 T.hp ha hb e).2 qb) qa, fun e => e.2⟩⟩
      · refine .inr ⟨?_, ⟨fun e => absurd e.1.1 qa, fun e => absurd e.1.1 qa⟩⟩
        rw [T.res_out h.1 ha qa, T.res_out h.1 hb qb]
  · have l1 := (hp3.1.2 i hi).1
    have l2 := (hp3.1.2 j hj).1
    rw [hr i hi, hr j hj]
    exact ⟨fun e => by rw [e], T.E.inj (by omega) (by omega)⟩
end Two
end
end Go.D33
end
