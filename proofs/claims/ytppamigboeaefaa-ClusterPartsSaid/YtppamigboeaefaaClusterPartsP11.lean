/-
  What the proof rests on: part 11 of 12.
-/
import Derived.Test.YtppamigboeaefaaClusterPartsP10
section
namespace Go.Proofs.Ytppamigboeaefaa
open Go Go.RowKit Go.H Go.D33



set_option maxRecDepth 8000 in
set_option maxHeartbeats 6400000 in
/-- (*bookplate/cluster.field).apply. -/
theorem apply_h {n : Nat} {wt : Nat → Nat → Int} {lk : Nat → Nat → Bool} {bar : List Ru} {atm : List Nat} {m : List Nat} {u : Bool} {f t : Int} (hn : n ≤ 200) (hw : ∀ i j, -1000 ≤ wt i j ∧ wt i j ≤ 1000) (ha : atm.length = n ∧ ∀ i, i < n → atm[i]! < n) (hb : ∀ x ∈ bar, 0 ≤ x.a ∧ x.a < (n : Int) ∧ 0 ≤ x.b ∧ x.b < (n : Int)) (hml : m.length = n) :
    Con Try.prog 50 [.u (.ptr [uI (n : Int), .sl 1 (gridU (gridF n fun i j => uI (wt i j))), .sl 1 (gridU (gridF n fun i j => uB (lk i j))), .sl 3 (bar.map eRu), .sl 1 (atm.map eN), .sl 1 ((List.range n).map eN)]), vL 1 (m.map eN), vA [uB u, uI f, uI t]] [] (.tup [vL 1 ((apN n lk bar atm m ⟨u, f, t⟩).map eI), vI (apG n wt lk bar atm m ⟨u, f, t⟩), vB (decide (posF n bar atm m ⟨u, f, t⟩))]) [] := by
 have hal := ha.1
 obtain ⟨i3, hi3, hz3, hs3, hb3⟩ := hinf3
 obtain ⟨i39, hi39, hz39, hs39, hb39⟩ := hinf39
 refine Con.enterL (n := 225) Try.func50 rfl rfl rfl (fun τ w ok vs hin => ?_)
 have hl1 := hin.len (i := 1) rfl
 try rw [List.length_map] at hl1
 clear hin
 refine W.rg ?_
 refine SL.memS (O.box (is := [_, _, _]) 101 rfl rfl (by simp) rfl rfl Taken.no) rfl rfl (S' := (101, _) :: _) rfl ?_
 refine SL.an rfl rfl (SL.an rfl rfl (SL.an rfl rfl (E.fo (W.seq (W.seq ?_)))))
 refine W.draw [⟨[], [], [], [101]⟩, ⟨[101], [], [], []⟩, ⟨[], [], [], []⟩, ⟨[], [], [], []⟩, ⟨[], [], [], [101]⟩, ⟨[101], [], [], []⟩, ⟨[], [], [], []⟩, ⟨[], [], [], []⟩, ⟨[], [], [], []⟩, ⟨[], [], [], []⟩, ⟨[], [], [], []⟩, ⟨[], [], [], []⟩, ⟨[], [], [], []⟩, ⟨[], [], [], [101]⟩, ⟨[101], [], [], []⟩, ⟨[], [], [], []⟩, ⟨[], [], [], []⟩, ⟨[], [], [], []⟩, ⟨[], [], [], []⟩, ⟨[], [], [], []⟩, ⟨[], [], [], []⟩, ⟨[], [], [], []⟩, ⟨[], [], [], [101]⟩, ⟨[101], [], [], []⟩, ⟨[], [], [], []⟩, ⟨[], [], [], []⟩, ⟨[], [], [], [101]⟩, ⟨[101], [], [], []⟩, ⟨[], [], [], []⟩, ⟨[], [], [], [101]⟩, ⟨[101], [], [], []⟩, ⟨[], [], [], []⟩, ⟨[], [], [], []⟩, ⟨[], [], [], []⟩, ⟨[], [], [], []⟩] rfl (by kernel_rfl) (by kernel_rfl) rfl rfl ?_
 refine WH.val (O.fld_ref (o' := 1) rfl Try.underlying55 rfl (m := 0) (by kernel_rfl) rfl rfl Taken.no) rfl rfl ?_
 refine WH.val (O.ld1 (PtI.ref rfl rfl) rfl Try.underlying3 rfl rfl Taken.no) rfl rfl ?_
 refine WH.val (O.det (fun _ => G.R.lss rfl rfl) rfl Taken.no) rfl rfl ?_
 refine WH.mv rfl rfl rfl ?_
 refine WH.case (j := 3) (g := 29) (want := false) rfl rfl (fun hg1 => ?_) (fun hg1 => ?_)
 ·skip
  first | have hg1p := G.gA3 hg1 | have hg1p := G.gA4 hg1 | have hg1p := hg1
  refine WH.val (O.fld_ref (o' := 1) rfl Try.underlying55 rfl (m := 0) (by kernel_rfl) rfl rfl (Taken.yes rfl rfl hg1)) rfl rfl ?_
  refine WH.val (O.ld1 (PtI.ref rfl rfl) rfl Try.underlying3 rfl rfl (Taken.yes rfl rfl hg1)) rfl rfl ?_
  refine WH.val (O.move rfl rfl (Taken.yes rfl rfl hg1)) rfl rfl ?_
  refine WH.val (O.nilCheck rfl rfl rfl (Taken.yes rfl rfl hg1)) rfl rfl ?_
  refine WH.val (O.fld_fz rfl Try.underlying78 rfl (m := 0) (by kernel_rfl) rfl rfl (Taken.yes rfl rfl hg1)) rfl rfl ?_
  refine WH.val (O.ld1 (PtI.ofU (PtU.fz rfl)) rfl Try.underlying3 rfl rfl (Taken.yes rfl rfl hg1)) rfl rfl ?_
  refine WH.val (O.det (fun _ => G.R.geq rfl rfl) rfl (Taken.yes rfl rfl hg1)) rfl rfl ?_
  refine WH.val (O.pick_f rfl hg1 rfl rfl Taken.no) rfl rfl ?_
  refine WH.mv rfl rfl rfl ?_
  refine WH.case (j := 12) (g := 38) (want := false) rfl rfl (fun hg2 => ?_) (fun hg2 => ?_)
  ·skip
   first | have hg2p := G.gA3 hg2 | have hg2p := G.gA4 hg2 | have hg2p := hg2
   refine WH.val (O.fld_ref (o' := 2) rfl Try.underlying55 rfl (m := 0) (by kernel_rfl) rfl rfl (Taken.yes rfl rfl hg2)) rfl rfl ?_
   refine WH.val (O.ld1 (PtI.ref rfl rfl) rfl Try.underlying3 rfl rfl (Taken.yes rfl rfl hg2)) rfl rfl ?_
   refine WH.val (O.move rfl rfl (Taken.yes rfl rfl hg2)) rfl rfl ?_
   refine WH.val (O.nilCheck rfl rfl rfl (Taken.yes rfl rfl hg2)) rfl rfl ?_
   refine WH.val (O.fld_fz rfl Try.underlying78 rfl (m := 0) (by kernel_rfl) rfl rfl (Taken.yes rfl rfl hg2)) rfl rfl ?_
   refine WH.val (O.ld1 (PtI.ofU (PtU.fz rfl)) rfl Try.underlying3 rfl rfl (Taken.yes rfl rfl hg2)) rfl rfl ?_
   refine WH.val (O.det (fun _ => G.R.geq rfl rfl) rfl (Taken.yes rfl rfl hg2)) rfl rfl ?_
   refine WH.val (O.pick_f rfl hg2 rfl rfl Taken.no) rfl rfl ?_
   refine WH.mv rfl rfl rfl ?_
   refine WH.case (j := 21) (g := 47) (want := false) rfl rfl (fun hg3 => ?_) (fun hg3 => ?_)
   ·skip
    first | have hg3p := G.gA3 hg3 | have hg3p := G.gA4 hg3 | have hg3p := hg3
    refine WH.val (O.fld_ref (o' := 2) rfl Try.underlying55 rfl (m := 0) (by kernel_rfl) rfl rfl (Taken.yes rfl rfl hg3)) rfl rfl ?_
    refine WH.val (O.ld1 (PtI.ref rfl rfl) rfl Try.underlying3 rfl rfl (Taken.yes rfl rfl hg3)) rfl rfl ?_
    refine WH.val (O.det (fun _ => G.R.lss rfl rfl) rfl (Taken.yes rfl rfl hg3)) rfl rfl ?_
    refine WH.val (O.move rfl rfl (Taken.yes rfl rfl hg3)) rfl rfl ?_
    refine WH.case (j := 25) (g := 51) (want := true) rfl rfl (fun hg4 => ?_) (fun hg4 => ?_)
    ·skip
     first | have hg4p := G.gA1 hg4 | have hg4p := G.gA2 hg4 | have hg4p := hg4
     refine WH.val (O.fld_ref (o' := 0) rfl Try.underlying55 rfl (m := 0) (by kernel_rfl) rfl rfl (Taken.yes rfl rfl hg4)) rfl rfl ?_
     refine WH.val (O.ld1 (PtI.ref rfl rfl) rfl Try.underlying4 rfl rfl (Taken.yes rfl rfl hg4)) rfl rfl ?_
     refine WH.val (O.move rfl rfl (Taken.yes rfl rfl hg4)) rfl rfl ?_
     refine WH.case (j := 28) (g := 54) (want := false) rfl rfl (fun hg5 => ?_) (fun hg5 => ?_)
     ·skip
      first | have hg5p := G.gA3 hg5 | have hg5p := G.gA4 hg5 | have hg5p := hg5
      refine WH.val (O.fld_ref (o' := 2) rfl Try.underlying55 rfl (m := 0) (by kernel_rfl) rfl rfl (Taken.yes rfl rfl hg5)) rfl rfl ?_
      refine WH.val (O.ld1 (PtI.ref rfl rfl) rfl Try.underlying3 rfl rfl (Taken.yes rfl rfl hg5)) rfl rfl ?_
      refine WH.val (O.det (fun _ => G.R.neq rfl rfl) rfl (Taken.yes rfl rfl hg5)) rfl rfl ?_
      refine WH.val (O.pick_f rfl hg5 rfl rfl (Taken.yes rfl rfl hg4)) rfl rfl ?_
      refine WH.val (O.pick_t rfl hg4 rfl rfl (Taken.yes rfl rfl hg3)) rfl rfl ?_
      refine WH.val (O.pick_f rfl hg3 rfl rfl Taken.no) rfl rfl ?_
      refine WH.nil (E.to ?_)
      refine W.pick (K:=[(0,_),(1,_),(5,_),(6,_),(7,_),(8,_),(60,_)]) (Z:=[(101,_)]) ⟨rfl,rfl,rfl,rfl,rfl,rfl,rfl,trivial⟩ ⟨rfl,trivial⟩ ?_
      first | refine W.cond_d rfl (fun hc6 => ?_) (fun hc6 => ?_) | refine W.cond_nd rfl (fun hc6 => ?_) (fun hc6 => ?_) | refine W.cond rfl (fun hc6 => ?_) (fun hc6 => ?_)
      ·skip
       refine W.rg (SL.an rfl rfl (SL.an rfl rfl (SL.an rfl rfl (E.fo (W.ret (E.thr ?_))))))
       refine E.nilsl 6 1 rfl ?_
       refine E.fin (rs := [_, _, _]) (rn []) (.inl rfl) rfl (.cons (ResOne.tmp rfl) (.cons (ResOne.tmp rfl) (.cons (ResOne.tmp rfl) .nil))) ?_ ?_ rfl (fixL_spec rfl)
       ·skip
        first | ((have hno : ¬ posF n bar atm m ⟨u, f, t⟩ := fun q => by ((obtain ⟨⟨⟨q1, q2, q3, q4, q5⟩, q6, q7, q8⟩, q9⟩ := posF_iff.1 q); (try simp only [Int.toNat_natCast] at q6 q7 q8); (first | omega | (have q5 := q5 (by omega); simp_all)))); rw [apN_n hno, apG_n hno, dec_f hno]; rfl)
       · exact SubS.nil
      ·skip
       refine W.skip (E.to (W.rg ?_))
       obtain rfl : t = -1 := by omega
       obtain rfl : u = false := by simp_all
       have hvb2 := valF_b hw (l := []) (by simp)
       obtain ⟨f, rfl⟩ : ∃ k : Nat, f = (k : Int) := ⟨f.toNat, by omega⟩
       have hul := units_len m m[f]!
       have hvb1 := valF_b hw (l := (unitsL m m[f]!)) (by omega)
       have hHn : ∀ u ∈ (unitsL m m[f]!), u < n := fun u hu => ((mem_here hml).1 hu).1
       refine SL.mv rfl rfl (SL.mv rfl rfl ?_)
       refine SL.val (O.fld_ref (o' := 1) rfl Try.underlying55 rfl (m := 0) (by kernel_rfl) rfl rfl Taken.no) ?_
       refine SL.val (O.ld1 (PtI.ref rfl rfl) rfl Try.underlying3 rfl rfl Taken.no) ?_
       refine SL.val (O.idx_fz (i := f) rfl rfl (rfl) (row_get (by omega)) Try.underlying39 hi3 hs3 rfl Taken.no) ?_
       refine SL.val (O.ld1 (PtI.ofU (PtU.fz rfl)) rfl Try.underlying3 rfl rfl Taken.no) ?_
       refine SL.memS (O.call (rn [(0, 102)]) [] rfl rfl rfl (units_h (l := m) (c := m[f]!) (by omega)) (.cons (ArgOk.same rfl) (.cons (ArgOk.same rfl) .nil)) SubS.nil rfl rfl rfl rfl rfl (.inl rfl) hcallOk46 (r' := .own 102) rfl rfl Taken.no) rfl rfl (S' := (102, .data _ _ _) :: _) rfl ?_
       refine SL.an rfl rfl (E.fo (W.rg (SL.an rfl rfl (E.fo (W.seq (W.rg ?_))))))
       refine SL.val (O.fld_ref (o' := 2) rfl Try.underlying55 rfl (m := 0) (by kernel_rfl) rfl rfl Taken.no) ?_
       refine SL.val (O.ld1 (PtI.ref rfl rfl) rfl Try.underlying3 rfl rfl Taken.no) ?_
       refine SL.val (O.det (fun _ => G.R.geq rfl rfl) rfl Taken.no) ?_
       refine E.fo ?_
       first | refine W.cond_d rfl (fun hc7 => ?_) (fun hc7 => ?_) | refine W.cond_nd rfl (fun hc7 => ?_) (fun hc7 => ?_) | refine W.cond rfl (fun hc7 => ?_) (fun hc7 => ?_)
       ·skip
        omega
       ·skip
        refine W.skip (E.to (W.rg (SL.mv rfl rfl (SL.mv rfl rfl ?_))))
        refine SL.memS (O.call (rn []) [102] rfl rfl rfl (value_h (l := (unitsL m m[f]!)) hw (by omega) hHn) (.cons (ArgOk.same rfl) (.cons (ArgOk.own rfl rfl) .nil)) SubS.nil rfl rfl rfl rfl rfl (.inr ⟨rfl, fun x hx => by simp at hx⟩) hcallOk45 (r' := .u _) rfl rfl Taken.no) rfl rfl (S' := _) rfl ?_
        refine SL.mv rfl rfl (SL.mv rfl rfl ?_)
        refine SL.val (O.callp rfl rfl rfl (value_h (l := []) hw (by simp) (fun u hu => by cases hu)) (.cons (ArgOk.same rfl) (.cons ArgOk.nil .nil)) hcallOk45 rfl Taken.no) ?_
        refine SL.val (O.det (fun _ => by first | exact G.R.add64 rfl rfl (by omega) | exact G.R.add rfl rfl) rfl Taken.no) ?_
        refine SL.an rfl rfl (E.fo ?_)
        refine W.pick (K:=[(0,_),(1,_),(5,_),(6,_),(7,_),(8,_),(9,_),(10,_),(11,_)]) (Z:=[(101,_),(102,_)]) ⟨rfl,rfl,rfl,rfl,rfl,rfl,rfl,rfl,rfl,trivial⟩ ⟨rfl,rfl,trivial⟩ ?_
        refine W.rg ?_
        refine SL.memS (O.alloc (z := .agg #[.slice none 0 0, .slice none 0 0]) (is := [.u (.sc (.slice none 0 0)), .u (.sc (.slice none 0 0))]) 103 (by kernel_rfl) rfl rfl rfl Taken.no) rfl rfl (S' := (103, _) :: _) rfl ?_
        refine E.fo (W.seq (W.rg ?_))
        refine SL.val (O.fld_ref (o' := 0) rfl Try.underlying55 rfl (m := 0) (by kernel_rfl) rfl rfl Taken.no) ?_
        refine SL.val (O.ld1 (PtI.ref rfl rfl) rfl Try.underlying4 rfl rfl Taken.no) ?_
        refine E.fo ?_
        refine W.cond_f rfl ?_
        refine W.seq (W.seq ?_)
        refine W.draw [⟨[], [], [], []⟩, ⟨[], [], [], []⟩, ⟨[], [], [], []⟩, ⟨[], [], [], []⟩, ⟨[], [], [], [101]⟩, ⟨[101], [], [], []⟩, ⟨[], [], [], []⟩, ⟨[], [], [], []⟩, ⟨[], [], [], [101]⟩, ⟨[101], [], [], []⟩, ⟨[], [], [], []⟩] rfl (by kernel_rfl) (by kernel_rfl) rfl rfl ?_
        refine WH.mv rfl rfl rfl ?_
        refine WH.val (O.nilCheck rfl rfl rfl Taken.no) rfl rfl ?_
        refine WH.val (O.fld_fz rfl Try.underlying78 rfl (m := 0) (by kernel_rfl) rfl rfl Taken.no) rfl rfl ?_
        refine WH.val (O.ld1 (PtI.ofU (PtU.fz rfl)) rfl Try.underlying39 rfl rfl Taken.no) rfl rfl ?_
        refine WH.val (O.fld_ref (o' := 1) rfl Try.underlying55 rfl (m := 0) (by kernel_rfl) rfl rfl Taken.no) rfl rfl ?_
        refine WH.val (O.ld1 (PtI.ref rfl rfl) rfl Try.underlying3 rfl rfl Taken.no) rfl rfl ?_
        refine WH.val (O.idx_fz (i := f) rfl rfl (rfl) (row_get (by omega)) Try.underlying39 hi3 hs3 rfl Taken.no) rfl rfl ?_
        refine WH.val (O.ld1 (PtI.ofU (PtU.fz rfl)) rfl Try.underlying3 rfl rfl Taken.no) rfl rfl ?_
        refine WH.val (O.fld_ref (o' := 1) rfl Try.underlying55 rfl (m := 0) (by kernel_rfl) rfl rfl Taken.no) rfl rfl ?_
        refine WH.val (O.ld1 (PtI.ref rfl rfl) rfl Try.underlying3 rfl rfl Taken.no) rfl rfl ?_
        refine WH.val (O.det (fun _ => G.R.neq rfl rfl) rfl Taken.no) rfl rfl ?_
        refine WH.nil (E.to ?_)
        first | refine W.cond_d rfl (fun hc8 => ?_) (fun hc8 => ?_) | refine W.cond_nd rfl (fun hc8 => ?_) (fun hc8 => ?_) | refine W.cond rfl (fun hc8 => ?_) (fun hc8 => ?_)
        ·skip
         refine W.rg (SL.an rfl rfl (SL.an rfl rfl (SL.an rfl rfl (E.fo ?_))))
         refine W.pick (K:=[(0,_),(1,_),(5,_),(6,_),(7,_),(8,_),(9,_),(10,_),(11,_),(12,_)]) (Z:=[(101,_),(102,_),(103,_)]) ⟨rfl,rfl,rfl,rfl,rfl,rfl,rfl,rfl,rfl,rfl,trivial⟩ ⟨rfl,rfl,rfl,trivial⟩ ?_
         refine W.ret (E.thr (E.thr ?_))
         refine E.nilsl 6 1 rfl ?_
         refine E.fin (rs := [_, _, _]) (rn []) (.inl rfl) rfl (.cons (ResOne.tmp rfl) (.cons (ResOne.tmp rfl) (.cons (ResOne.tmp rfl) .nil))) ?_ ?_ rfl (fixL_spec rfl)
         ·skip
          first | ((have hno : ¬ posF n bar atm m ⟨false, (f : Int), (t : Int)⟩ := fun q => by ((obtain ⟨⟨⟨q1, q2, q3, q4, q5⟩, q6, q7, q8⟩, q9⟩ := posF_iff.1 q); (try simp only [Int.toNat_natCast] at q6 q7 q8); (have q8 := (q8 (by trivial)).1; omega))); rw [apN_n hno, apG_n hno, dec_f hno]; rfl) | ((have hno : ¬ posF n bar atm m ⟨false, (f : Int), -1⟩ := fun q => by ((obtain ⟨⟨⟨q1, q2, q3, q4, q5⟩, q6, q7, q8⟩, q9⟩ := posF_iff.1 q); (try simp only [Int.toNat_natCast] at q6 q7 q8); (have q8 := (q8 (by trivial)).1; omega))); rw [apN_n hno, apG_n hno, dec_f hno]; rfl)
         · exact SubS.nil
        ·skip
         refine W.skip (E.to (W.rg (SL.mv rfl rfl ?_)))
         refine SL.val (O.idx_ref (i := 0) (m := 1) rfl rfl (rfl) (by decide) Try.underlying106 (by kernel_rfl) rfl rfl Taken.no) ?_
         refine SL.effS (O.st_ref (m := 1) rfl rfl rfl (js := [_]) rfl rfl (by kernel_rfl) (by simp) (Nat.le_of_ble_eq_true rfl) rfl (is' := [_, _]) rfl Taken.no) (S' := (103, _) :: _) rfl ?_
         refine E.fo ?_
         refine W.pick (K:=[(0,_),(1,_),(5,_),(6,_),(7,_),(8,_),(9,_),(11,_),(12,_)]) (Z:=[(101,_),(102,_),(103,_)]) ⟨rfl,rfl,rfl,rfl,rfl,rfl,rfl,rfl,rfl,trivial⟩ ⟨rfl,rfl,rfl,trivial⟩ ?_
         refine W.seq (W.rg (SL.mv rfl rfl ?_))
         refine SL.val (O.lenE (SlOf.own rfl rfl) (by first | exact List.length_map _ | rfl) Try.underlying39 rfl Taken.no) ?_
         refine SL.mv rfl rfl (E.fo (W.block ?_))
         refine W.adoptC 103 0 106 3 1 (is' := [_, _]) (by decide) rfl rfl rfl rfl rfl ?_
         refine W.adoptC 103 1 107 3 1 (is' := [_, _]) (by decide) rfl rfl rfl rfl rfl ?_
         refine W.loopx1 (fun (k : Nat) => [(136, vI (k : Int))]) (fun (k : Nat) => [(104, .data 3 1 (((thereL m (-1)) ++ ((unitsL m m[f]!).take k).filter (fun u => decide (atm[u]! = f))).map eN)), (105, .data 3 1 ((((unitsL m m[f]!).take k).filter (fun u => !decide (atm[u]! = f))).map eN)), (103, .cells 106 [.own 104, .own 105])]) (fun (k : Nat) => k ≤ (unitsL m m[f]!).length) (fun (k : Nat) => (unitsL m m[f]!).length - k) (0) (rn [(104, 106), (105, 107)]) (.cons (t := 0) rfl (.cons (t := 1) rfl (.cons (t := 5) rfl (.cons (t := 6) rfl (.cons (t := 7) rfl (.cons (t := 8) rfl (.cons (t := 11) rfl (.cons (t := 12) rfl (.cons (t := 134) rfl (.cons (t := 135) rfl .nil)))))))))) (.cons (t := 101) rfl (.cons (t := 102) rfl .nil)) rfl ?_ ?_ rfl rfl ?_ ?_
         · exact (SubF.cons rfl SubF.nil)
         · exact (SubS.val rfl (by exact sb_data (by rw [List.take_zero, List.filter_nil, List.append_nil]; rfl)) (SubS.val rfl (by exact sb_data (by rw [List.take_zero, List.filter_nil]; rfl)) (SubS.cons rfl SubS.nil)))
         ·skip
          omega
         intro k hinv
         have hk := hinv
         have hf0 := List.length_filter_le (fun u => decide (atm[u]! = f)) ((unitsL m m[f]!).take k)
         have hf1 := List.length_filter_le (fun u => !decide (atm[u]! = f)) ((unitsL m m[f]!).take k)
         rw [List.length_take] at hf0 hf1
         have hthl := there_len m (-1)
         refine W.rg ?_
         refine SL.val (O.det (fun _ => G.R.lss rfl rfl) rfl Taken.no) ?_
         refine E.fo (W.seq ?_)
         first | refine W.cond_d rfl (fun hc9 => ?_) (fun hc9 => ?_) | refine W.cond_nd rfl (fun hc9 => ?_) (fun hc9 => ?_) | refine W.cond rfl (fun hc9 => ?_) (fun hc9 => ?_)
         ·skip
          have hHk := hHn (unitsL m m[f]!)[k]! (mem_at (by omega))
          refine W.skip (E.to (W.seq (W.block (W.rg ?_))))
          refine SL.val (O.idx_own (i := k) rfl rfl rfl (rfl) (by rw [List.length_map]; omega) Try.underlying39 hi3 hs3 rfl Taken.no) ?_
          refine SL.val (O.ld1 (PtI.ofU (PtU.el rfl rfl (row_get (by omega)))) rfl Try.underlying3 rfl rfl Taken.no) ?_
          refine SL.an rfl rfl (E.fo (W.rg (SL.an rfl rfl (E.fo (W.seq (W.seq ?_))))))
          refine W.draw [⟨[], [], [], []⟩, ⟨[], [], [], []⟩, ⟨[], [], [], []⟩, ⟨[], [], [], []⟩, ⟨[], [], [], []⟩, ⟨[], [], [], []⟩, ⟨[], [], [], []⟩, ⟨[], [], [], [101]⟩, ⟨[101], [], [], []⟩, ⟨[], [], [], []⟩] rfl (by kernel_rfl) (by kernel_rfl) rfl rfl ?_
          refine WH.mv rfl rfl rfl ?_
          refine WH.val (O.nilCheck rfl rfl rfl Taken.no) rfl rfl ?_
          refine WH.val (O.fld_fz rfl Try.underlying78 rfl (m := 0) (by kernel_rfl) rfl rfl Taken.no) rfl rfl ?_
          refine WH.val (O.ld1 (PtI.ofU (PtU.fz rfl)) rfl Try.underlying39 rfl rfl Taken.no) rfl rfl ?_
          refine WH.mv rfl rfl rfl ?_
          refine WH.val (O.idx_fz (i := ((unitsL m m[f]!)[k]!)) rfl rfl (rfl) (row_get (by omega)) Try.underlying39 hi3 hs3 rfl Taken.no) rfl rfl ?_
          refine WH.val (O.ld1 (PtI.ofU (PtU.fz rfl)) rfl Try.underlying3 rfl rfl Taken.no) rfl rfl ?_
          refine WH.val (O.fld_ref (o' := 1) rfl Try.underlying55 rfl (m := 0) (by kernel_rfl) rfl rfl Taken.no) rfl rfl ?_
          refine WH.val (O.ld1 (PtI.ref rfl rfl) rfl Try.underlying3 rfl rfl Taken.no) rfl rfl ?_
          refine WH.val (O.det (fun _ => G.R.eql rfl rfl) rfl Taken.no) rfl rfl ?_
          refine WH.nil (E.to ?_)
          refine W.pick (K:=[(0,_),(1,_),(5,_),(6,_),(7,_),(8,_),(11,_),(12,_),(14,_),(15,_),(134,_),(135,_),(136,_),(149,_)]) (Z:=[(101,_),(102,_),(103,_),(104,_),(105,_)]) ⟨rfl,rfl,rfl,rfl,rfl,rfl,rfl,rfl,rfl,rfl,rfl,rfl,rfl,rfl,trivial⟩ ⟨rfl,rfl,rfl,rfl,rfl,trivial⟩ ?_
          first | refine W.cond_d rfl (fun hc10 => ?_) (fun hc10 => ?_) | refine W.cond_nd rfl (fun hc10 => ?_) (fun hc10 => ?_) | refine W.cond rfl (fun hc10 => ?_) (fun hc10 => ?_)
          ·skip
           have hp0 : (fun u => decide (atm[u]! = f)) (unitsL m m[f]!)[k]! = true := decide_eq_true (by omega)
           have hp1 : (fun u => !decide (atm[u]! = f)) (unitsL m m[f]!)[k]! = false := by show (!decide _) = false; rw [decide_eq_true (by omega)]; rfl
           refine W.region (SL.an rfl rfl (E.fo (W.region (SL.mv rfl rfl (SL.mv rfl rfl ?_)))))
           refine SL.val (O.idx_ref (i := 0) (m := 1) rfl rfl (rfl) (by decide) Try.underlying106 (by kernel_rfl) rfl rfl Taken.no) ?_
           refine SL.val (O.ld1 (PtI.ref rfl rfl) rfl Try.underlying39 rfl rfl Taken.no) ?_
           refine SL.mv rfl rfl ?_
           refine SL.memS (O.buildSlice 108 (rows := [(unitsL m m[f]!)[k]!].map eN) rfl rfl Try.underlying39 hi3 hz3 hs3 (by decide) rfl (by decide) rfl rfl rfl Taken.no) rfl rfl (S' := (108, .data 3 1 ([(unitsL m m[f]!)[k]!].map eN)) :: _) rfl ?_
           refine SL.memS (O.app (k' := 109) rfl rfl (SlOf.own rfl rfl) Try.underlying39 hi3 hz3 hs3 rfl rfl (by exact app_map) (by rw [hb3]; (simp only [List.length_map, List.length_singleton, List.length_append]; omega)) (by (simp only [List.length_map, List.length_singleton, List.length_append]; omega)) rfl Taken.no) rfl rfl (S' := (109, _) :: (104, .dead) :: _) rfl ?_
           refine SL.val (O.idx_ref (i := 0) (m := 1) rfl rfl (rfl) (by decide) Try.underlying106 (by kernel_rfl) rfl rfl Taken.no) ?_
           refine SL.effS (O.st_ref (m := 1) rfl rfl rfl (js := [_]) rfl rfl (by kernel_rfl) (by simp) (Nat.le_of_ble_eq_true rfl) rfl (is' := [_, _]) rfl Taken.no) (S' := (103, _) :: _) rfl ?_
           refine SL.nil (E.inn (E.to (W.region ?_)))
           refine SL.val (O.det (fun _ => by first | exact G.R.add64 rfl rfl (by omega) | exact G.R.add rfl rfl) rfl Taken.no) ?_
           refine SL.mv rfl rfl (SL.nil ?_)
           refine E.again ((k + 1)) (rn [(104, 109)]) ?_ ?_ rfl (fixL_spec rfl) ?_ ?_
           · exact (SubF.cons rfl (SubF.cons rfl (SubF.cons rfl (SubF.cons rfl (SubF.cons rfl (SubF.cons rfl (SubF.cons rfl (SubF.cons rfl (SubF.cons rfl (SubF.cons rfl (SubF.cons rfl SubF.nil)))))))))))
           · exact (SubS.val rfl (by (try dsimp only); first | exact sb_data (by rw [filt_y (by omega) hp0, ← List.append_assoc]) | exact sb_data (by rw [filt_n (by omega) hp0])) (SubS.val rfl (by (try dsimp only); first | exact sb_data (by rw [filt_n (by omega) hp1]) | exact sb_data (by rw [filt_y (by omega) hp1])) (SubS.cons rfl (SubS.cons rfl (SubS.cons rfl SubS.nil)))))
           ·try dsimp only
            omega
           · (try dsimp only); omega
          ·skip
           have hp0 : (fun u => decide (atm[u]! = f)) (unitsL m m[f]!)[k]! = false := decide_eq_false (by omega)
           have hp1 : (fun u => !decide (atm[u]! = f)) (unitsL m m[f]!)[k]! = true := by show (!decide _) = true; rw [decide_eq_false (by omega)]; rfl
           refine W.skip (E.to (W.region (SL.mv rfl rfl (SL.mv rfl rfl ?_))))
           refine SL.val (O.idx_ref (i := 1) (m := 1) rfl rfl (rfl) (by decide) Try.underlying106 (by kernel_rfl) rfl rfl Taken.no) ?_
           refine SL.val (O.ld1 (PtI.ref rfl rfl) rfl Try.underlying39 rfl rfl Taken.no) ?_
           refine SL.mv rfl rfl ?_
           refine SL.memS (O.buildSlice 110 (rows := [(unitsL m m[f]!)[k]!].map eN) rfl rfl Try.underlying39 hi3 hz3 hs3 (by decide) rfl (by decide) rfl rfl rfl Taken.no) rfl rfl (S' := (110, .data 3 1 ([(unitsL m m[f]!)[k]!].map eN)) :: _) rfl ?_
           refine SL.memS (O.app (k' := 111) rfl rfl (SlOf.own rfl rfl) Try.underlying39 hi3 hz3 hs3 rfl rfl (by exact app_map) (by rw [hb3]; (simp only [List.length_map, List.length_singleton]; omega)) (by (simp only [List.length_map, List.length_singleton]; omega)) rfl Taken.no) rfl rfl (S' := (111, _) :: (105, .dead) :: _) rfl ?_
           refine SL.val (O.idx_ref (i := 1) (m := 1) rfl rfl (rfl) (by decide) Try.underlying106 (by kernel_rfl) rfl rfl Taken.no) ?_
           refine SL.effS (O.st_ref (m := 1) rfl rfl rfl (js := [_]) rfl rfl (by kernel_rfl) (by simp) (Nat.le_of_ble_eq_true rfl) rfl (is' := [_, _]) rfl Taken.no) (S' := (103, _) :: _) rfl ?_
           refine SL.nil (E.inn (E.to (W.region ?_)))
           refine SL.val (O.det (fun _ => by first | exact G.R.add64 rfl rfl (by omega) | exact G.R.add rfl rfl) rfl Taken.no) ?_
           refine SL.mv rfl rfl (SL.nil ?_)
           refine E.again ((k + 1)) (rn [(105, 111)]) ?_ ?_ rfl (fixL_spec rfl) ?_ ?_
           · exact (SubF.cons rfl (SubF.cons rfl (SubF.cons rfl (SubF.cons rfl (SubF.cons rfl (SubF.cons rfl (SubF.cons rfl (SubF.cons rfl (SubF.cons rfl (SubF.cons rfl (SubF.cons rfl SubF.nil)))))))))))
           · exact (SubS.val rfl (by (try dsimp only); first | exact sb_data (by rw [filt_y (by omega) hp0, ← List.append_assoc]) | exact sb_data (by rw [filt_n (by omega) hp0])) (SubS.val rfl (by (try dsimp only); first | exact sb_data (by rw [filt_n (by omega) hp1]) | exact sb_data (by rw [filt_y (by omega) hp1])) (SubS.cons rfl (SubS.cons rfl (SubS.cons rfl SubS.nil)))))
           ·try dsimp only
            omega
           · (try dsimp only); omega
         ·skip
          refine W.exit (E.th (E.th (E.hit (E.to (W.rg ?_)))))
          refine SL.val (O.fld_ref (o' := 2) rfl Try.underlying55 rfl (m := 0) (by kernel_rfl) rfl rfl Taken.no) ?_
          refine SL.val (O.ld1 (PtI.ref rfl rfl) rfl Try.underlying3 rfl rfl Taken.no) ?_
          refine SL.val (O.det (fun _ => G.R.mv (G.R.eql rfl rfl) (congrArg Value.bool (decide_eq_true (by rfl)))) rfl Taken.no) ?_
          refine SL.mv rfl rfl ?_
          have hg11 : true = true := by decide
          refine SL.val (O.idx_ref (i := 1) (m := 1) rfl rfl (rfl) (by decide) Try.underlying106 (by kernel_rfl) rfl rfl (Taken.yes rfl rfl hg11)) ?_
          refine SL.val (O.ld1 (PtI.ref rfl rfl) rfl Try.underlying39 rfl rfl (Taken.yes rfl rfl hg11)) ?_
          refine SL.val (O.lenE (SlOf.own rfl rfl) (by first | exact List.length_map _ | rfl) Try.underlying39 rfl (Taken.yes rfl rfl hg11)) ?_
          refine SL.val (O.det (fun _ => G.R.eql rfl rfl) rfl (Taken.yes rfl rfl hg11)) ?_
          refine SL.val (O.pick_t rfl rfl rfl rfl Taken.no) ?_
          refine E.fo ?_
          first | refine W.cond_d rfl (fun hc12 => ?_) (fun hc12 => ?_) | refine W.cond_nd rfl (fun hc12 => ?_) (fun hc12 => ?_) | refine W.cond rfl (fun hc12 => ?_) (fun hc12 => ?_)
          ·skip
           refine W.rg (SL.an rfl rfl (SL.an rfl rfl (SL.an rfl rfl (E.fo (W.ret (E.thr ?_))))))
           refine E.nilsl 6 1 rfl ?_
           refine E.fin (rs := [_, _, _]) (rn []) (.inl rfl) rfl (.cons (ResOne.tmp rfl) (.cons (ResOne.tmp rfl) (.cons (ResOne.tmp rfl) .nil))) ?_ ?_ rfl (fixL_spec rfl)
           ·skip
            first | ((have hno : ¬ posF n bar atm m ⟨false, (f : Int), -1⟩ := fun q => by ((obtain ⟨⟨⟨q1, q2, q3, q4, q5⟩, q6, q7, q8⟩, q9⟩ := posF_iff.1 q); (try simp only [Int.toNat_natCast] at q6 q7 q8); (refine (q8 (by trivial)).2 (by omega) ?_; show (unitsL m m[f]!).filter (fun u => !decide (atm[u]! = f)) = []; rw [← List.take_length (l := unitsL m m[f]!), show (unitsL m m[f]!).length = k by omega]; exact List.eq_nil_of_length_eq_zero (by omega)))); rw [apN_n hno, apG_n hno, dec_f hno]; rfl)
           · exact SubS.nil
          ·skip
           refine W.skip (E.to (W.seq ?_))
           refine W.freezeC 103 0 104 (is' := [_, _]) rfl rfl rfl rfl ?_
           refine W.freezeC 103 1 105 (is' := [_, _]) rfl rfl rfl rfl ?_
           refine W.region ?_
           have hkH : k = (unitsL m m[f]!).length := by omega
           obtain ⟨s, hs⟩ : ∃ s : Stp, s = ⟨false, (f : Int), -1⟩ := ⟨_, rfl⟩
           have hfe : s.f.toNat = f := by rw [hs]; rfl
           have hth : thereL m s.t = [] := by rw [hs]; exact there_neg m
           have hg0 : ((thereL m (-1)) ++ ((unitsL m m[f]!).take k).filter (fun u => decide (atm[u]! = f))) = g0L m atm s := by rw [hkH, List.take_length, hs]; rfl
           have hg1 : (((unitsL m m[f]!).take k).filter (fun u => !decide (atm[u]! = f))) = g1L m atm s := by rw [hkH, List.take_length, hs]; rfl
           have hpre : preF n atm m s := by rw [hs]; exact ⟨⟨by show (0 : Int) ≤ f; omega, by show (f : Int) < n; omega, by show (-1 : Int) < (n : Int); omega, by show -1 ≤ (-1 : Int); omega, fun h => rfl⟩, fun h => ⟨by exfalso; have h2 : (0 : Int) ≤ -1 := h; omega, by exfalso; have h2 : (0 : Int) ≤ -1 := h; omega⟩, fun h => (by cases h), fun h => ⟨by show atm[f]! = f; omega, fun _ e => by have e2 := congrArg List.length e; rw [← hs, ← hg1] at e2; rw [List.length_nil] at e2; omega⟩⟩
           have hgb := g_b (atm := atm) (s := s) hml
           have hl0 : (partsL lk (g0L m atm s)).length ≤ (g0L m atm s).length := partsN_len
           have hl1 : (partsL lk (g1L m atm s)).length ≤ (g1L m atm s).length := partsN_len
           rw [hg0]
           refine SL.mv rfl rfl ?_
           refine SL.memS (O.call (rn [(0, 112)]) [] rfl rfl rfl (clone_h (rows := m.map eN) (by rw [List.length_map]; omega)) (.cons (ArgOk.same rfl) .nil) SubS.nil rfl rfl rfl rfl rfl (.inl rfl) hcallOk39 (r' := .own 112) rfl rfl Taken.no) rfl rfl (S' := (112, .data _ _ _) :: _) rfl ?_
           refine SL.memS (O.alloc (z := .slice none 0 0) (is := [.u (.sc (.slice none 0 0))]) 113 (by kernel_rfl) rfl rfl rfl Taken.no) rfl rfl (S' := (113, _) :: _) rfl ?_
           refine SL.effS (O.st_ref (m := 1) rfl rfl rfl (js := [_]) rfl rfl (by kernel_rfl) (by simp) (Nat.le_of_ble_eq_true rfl) rfl (is' := [_]) rfl Taken.no) (S' := (113, _) :: _) rfl ?_
           refine E.fo (W.seq (W.rg ?_))
           refine SL.val (O.idx_ref (i := 0) (m := 1) rfl rfl (rfl) (by decide) Try.underlying106 (by kernel_rfl) rfl rfl Taken.no) ?_
           refine SL.val (O.ld1 (PtI.ref rfl rfl) rfl Try.underlying39 rfl rfl Taken.no) ?_
           refine SL.val (O.lenE (SlOf.fz rfl (by decide)) (by first | exact List.length_map _ | rfl) Try.underlying39 rfl Taken.no) ?_
           refine SL.mv rfl rfl (E.fo ?_)
           refine W.pick (K:=[(0,_),(6,_),(7,_),(8,_),(11,_),(12,_),(16,_),(171,_),(172,_),(173,_)]) (Z:=[(101,_),(102,_),(103,_),(112,_),(113,_)]) ⟨rfl,rfl,rfl,rfl,rfl,rfl,rfl,rfl,rfl,rfl,trivial⟩ ⟨rfl,rfl,rfl,rfl,rfl,trivial⟩ ?_
           refine W.block ?_
           refine W.loopx1 (fun (j : Nat) => [(173, vI (j : Int))]) (fun (j : Nat) => [(114, .data 3 1 ((setAll (m.map (fun x : Nat => (x : Int))) ((g0L m atm s).take j) (-1)).map eI)), (113, .cells 39 [.own 114])]) (fun (j : Nat) => j ≤ (g0L m atm s).length) (fun (j : Nat) => (g0L m atm s).length - j) (0) (rn [(114, 112)]) (.cons (t := 0) rfl (.cons (t := 6) rfl (.cons (t := 7) rfl (.cons (t := 8) rfl (.cons (t := 11) rfl (.cons (t := 12) rfl (.cons (t := 16) rfl (.cons (t := 171) rfl (.cons (t := 172) rfl .nil))))))))) (.cons (t := 101) rfl (.cons (t := 102) rfl (.cons (t := 103) rfl .nil))) rfl ?_ ?_ rfl rfl ?_ ?_
           · exact (SubF.cons rfl SubF.nil)
           · exact (SubS.val rfl (by exact sb_data (by rw [List.take_zero]; exact (eI_eN m).symm)) (SubS.cons rfl SubS.nil))
           ·skip
            omega
           intro j hinv
           have hj := hinv
           have hnl : (setAll (m.map (fun x : Nat => (x : Int))) ((g0L m atm s).take j) (-1)).length = n := by rw [setAll_len, List.length_map]; exact hml
           refine W.rg ?_
           refine SL.val (O.det (fun _ => G.R.lss rfl rfl) rfl Taken.no) ?_
           refine E.fo (W.seq ?_)
           first | refine W.cond_d rfl (fun hc13 => ?_) (fun hc13 => ?_) | refine W.cond_nd rfl (fun hc13 => ?_) (fun hc13 => ?_) | refine W.cond rfl (fun hc13 => ?_) (fun hc13 => ?_)
           ·skip
            have hGj := hgb.2.1 (g0L m atm s)[j]! (mem_at (by omega))
            refine W.skip (E.to (W.seq (W.block (W.rg ?_))))
            refine SL.val (O.idx_fz (i := j) rfl rfl (rfl) (row_get (by omega)) Try.underlying39 hi3 hs3 rfl Taken.no) ?_
            refine SL.val (O.ld1 (PtI.ofU (PtU.fz rfl)) rfl Try.underlying3 rfl rfl Taken.no) ?_
            refine SL.an rfl rfl (E.fo (W.region ?_))
            refine SL.val (O.ld1 (PtI.ref rfl rfl) rfl Try.underlying39 rfl rfl Taken.no) ?_
            refine SL.mv rfl rfl ?_
            refine SL.val (O.idx_own (i := ((g0L m atm s)[j]!)) rfl rfl rfl (rfl) (by rw [List.length_map]; omega) Try.underlying39 hi3 hs3 rfl Taken.no) ?_
            refine SL.effS (O.st_els (m := 1) rfl rfl rfl (us := [_]) rfl rfl (by kernel_rfl) (by simp) (row_get (by omega)) (by exact Nat.le_of_ble_eq_true rfl) rfl rfl (rows' := ((setAll (m.map (fun x : Nat => (x : Int))) ((g0L m atm s).take j) (-1)).set ((g0L m atm s)[j]!) (-1)).map eI) (by exact set_map rfl) Taken.no) (S' := (114, _) :: _) rfl ?_
            refine SL.nil (E.inn (E.to (W.region ?_)))
            refine SL.val (O.det (fun _ => by first | exact G.R.add64 rfl rfl (by omega) | exact G.R.add rfl rfl) rfl Taken.no) ?_
            refine SL.mv rfl rfl (SL.nil ?_)
            refine E.again ((j + 1)) (rn []) ?_ ?_ rfl (fixL_spec rfl) ?_ ?_
            · exact (SubF.cons rfl (SubF.cons rfl (SubF.cons rfl (SubF.cons rfl (SubF.cons rfl (SubF.cons rfl (SubF.cons rfl (SubF.cons rfl (SubF.cons rfl (SubF.cons rfl SubF.nil))))))))))
            · exact (SubS.val rfl (by (try dsimp only); exact sb_data (by rw [setAll_sG (by omega)])) (SubS.cons rfl (SubS.cons rfl (SubS.cons rfl (SubS.cons rfl SubS.nil)))))
            ·try dsimp only
             omega
            · (try dsimp only); omega
           ·skip
            refine W.exit (E.th (E.th (E.hit (E.to (W.seq (W.seq ?_))))))
            have hjG : j = (g0L m atm s).length := by omega
            rw [hjG, List.take_length]
            refine W.region (SL.mv rfl rfl ?_)
            refine SL.val (O.nilCheck rfl rfl rfl Taken.no) ?_
            refine SL.val (O.fld_fz rfl Try.underlying78 rfl (m := 0) (by kernel_rfl) rfl rfl Taken.no) ?_
            refine SL.val (O.ld1 (PtI.ofU (PtU.fz rfl)) rfl Try.underlying23 rfl rfl Taken.no) ?_
            refine SL.val (O.makeFunc rfl rfl rfl Taken.no) ?_
            refine SL.memS (O.call (rn [(0, 113), (1, 114)]) [] rfl rfl rfl (containsFuncN (nm := (nm0 m atm s)) (q := bar) (by rw [nm0_len, hml]; exact hb)) (.cons (ArgOk.same rfl) (.cons (ArgOk.same rfl) .nil)) (SubS.cons rfl (SubS.cons rfl SubS.nil)) rfl rfl rfl rfl rfl (.inl rfl) hcallOk63 (r' := .u _) rfl rfl Taken.no) rfl rfl (S' := (113, .cells _ [.own 114]) :: (114, .data _ _ _) :: _) rfl ?_
            refine E.fo ?_
            first | refine W.cond_d rfl (fun hc14 => ?_) (fun hc14 => ?_) | refine W.cond_nd rfl (fun hc14 => ?_) (fun hc14 => ?_) | refine W.cond rfl (fun hc14 => ?_) (fun hc14 => ?_)
            ·skip
             refine W.rg (SL.an rfl rfl (SL.an rfl rfl (SL.an rfl rfl (E.fo (W.ret (E.thr ?_))))))
             refine E.nilsl 6 1 rfl ?_
             refine E.fin (rs := [_, _, _]) (rn []) (.inl rfl) rfl (.cons (ResOne.tmp rfl) (.cons (ResOne.tmp rfl) (.cons (ResOne.tmp rfl) .nil))) ?_ ?_ rfl (fixL_spec rfl)
             ·skip
              have hcl : bar.any (nmHit (nm0 m atm s)) = true := by assumption
              have hno : ¬ posF n bar atm m s := fun q => by rw [hit_eq hml hb, q.2] at hcl; cases hcl
              rw [← hs, apN_n hno, apG_n hno, dec_f hno]; rfl
             · exact SubS.nil
            ·skip
             refine W.skip (E.to (W.rg (SL.an rfl rfl (E.fo (W.seq (W.rg ?_))))))
             have hcl : bar.any (nmHit (nm0 m atm s)) = false := by first | assumption | simp_all
             have hL : ∀ p ∈ gL lk m atm s, p.length ≤ 1000 := fun p hp => by rcases List.mem_append.1 hp with z | z <;> (have := (partsN_units z).2.1; omega)
             refine SL.val (O.ldN (m := 2) (PtI.ref rfl rfl) (js := [_, _]) rfl (Nat.le_of_ble_eq_true rfl) Try.underlying106 rfl (by kernel_rfl) rfl Taken.no) ?_
             refine SL.mv rfl rfl (E.fo (W.block ?_))
             refine W.unroll ?_
             refine W.rg ?_
             refine SL.val (O.det (fun _ => G.R.mv (G.R.lss rfl rfl) (congrArg Value.bool (decide_eq_true (by decide)))) rfl Taken.no) ?_
             refine E.fo (W.seq ?_)
             refine W.cond_t rfl ?_
             refine W.skip (E.to (W.seq (W.block (W.rg ?_))))
             refine SL.val (O.idxval (i := 0) rfl rfl (by rfl) (by decide) (by rfl) Try.underlying106 (by kernel_rfl) Try.underlying39 rfl rfl Taken.no) ?_
             refine SL.an rfl rfl (E.fo (W.rg (SL.mv rfl rfl (SL.mv rfl rfl ?_))))
             refine SL.val (O.nilCheck rfl rfl rfl Taken.no) ?_
             refine SL.val (O.fld_fz rfl Try.underlying78 rfl (m := 0) (by kernel_rfl) rfl rfl Taken.no) ?_
             refine SL.val (O.ld1 (PtI.ofU (PtU.fz rfl)) rfl Try.underlying76 rfl rfl Taken.no) ?_
             refine SL.val (O.callp rfl rfl rfl (parts_h (n := n) (us := (g0L m atm s)) (by omega) hgb.2.1) (.cons (ArgOk.same rfl) (.cons (ArgOk.same rfl) .nil)) hcallOk42 rfl Taken.no) ?_
             refine SL.val (O.lenE (SlOf.fz rfl (by decide)) (by first | exact List.length_map _ | rfl) Try.underlying75 rfl Taken.no) ?_
             refine SL.mv rfl rfl (E.fo ?_)
             refine W.pick (K:=[(0,_),(6,_),(7,_),(8,_),(11,_),(16,_),(19,_),(21,_),(187,_),(188,_),(189,_),(190,_),(191,_),(192,_),(193,_),(194,_),(195,_),(196,_),(197,_),(198,_)]) (Z:=[(101,_),(102,_),(103,_),(113,_),(114,_)]) ⟨rfl,rfl,rfl,rfl,rfl,rfl,rfl,rfl,rfl,rfl,rfl,rfl,rfl,rfl,rfl,rfl,rfl,rfl,rfl,rfl,trivial⟩ ⟨rfl,rfl,rfl,rfl,rfl,trivial⟩ ?_
             refine W.block ?_
             refine W.loopx1 (fun (p : Nat) => [(198, vI (p : Int)), (19, vI (sumV wt ((partsL lk (g0L m atm s)).take p)))]) (fun (p : Nat) => [(115, .data 3 1 ((nameF (fun x : Nat => (x : Int)) (nm0 m atm s) ((partsL lk (g0L m atm s)).take p)).map eI)), (113, .cells 39 [.own 115])]) (fun (p : Nat) => p ≤ (partsL lk (g0L m atm s)).length) (fun (p : Nat) => (partsL lk (g0L m atm s)).length - p) (0) (rn [(115, 114)]) (.cons (t := 0) rfl (.cons (t := 6) rfl (.cons (t := 7) rfl (.cons (t := 8) rfl (.cons (t := 11) rfl (.cons (t := 16) rfl (.cons (t := 21) rfl (.cons (t := 187) rfl (.cons (t := 188) rfl (.cons (t := 189) rfl (.cons (t := 190) rfl (.cons (t := 191) rfl (.cons (t := 192) rfl (.cons (t := 193) rfl (.cons (t := 194) rfl (.cons (t := 195) rfl (.cons (t := 196) rfl (.cons (t := 197) rfl .nil)))))))))))))))))) (.cons (t := 101) rfl (.cons (t := 102) rfl (.cons (t := 103) rfl .nil))) rfl ?_ ?_ rfl rfl ?_ ?_
             · exact (SubF.cons rfl (SubF.val rfl (by exact iv_int rfl) SubF.nil))
             · exact (SubS.val rfl (by exact sb_data (by rw [List.take_zero]; rfl)) (SubS.cons rfl SubS.nil))
             ·skip
              omega
             intro p hinv
             have hp := hinv
             have hpl : ((partsL lk (g0L m atm s)).take p).length ≤ 400 := by (try rw [List.length_append]); rw [List.length_take]; omega
             have hvb := sumV_b2 hw (L := ((partsL lk (g0L m atm s)).take p)) (fun p hp => hL p (List.mem_append_left _ (List.mem_of_mem_take hp)))
             refine W.rg ?_
             refine SL.val (O.det (fun _ => G.R.lss rfl rfl) rfl Taken.no) ?_
             refine E.fo (W.seq ?_)
             first | refine W.cond_d rfl (fun hc15 => ?_) (fun hc15 => ?_) | refine W.cond_nd rfl (fun hc15 => ?_) (fun hc15 => ?_) | refine W.cond rfl (fun hc15 => ?_) (fun hc15 => ?_)
             ·skip
              have hpu := partsN_units (mem_at (l := (partsL lk (g0L m atm s))) (i := p) (by omega))
              have hvp := valF_b hw (l := ((partsL lk (g0L m atm s))[p]!)) (by omega)
              refine W.skip (E.to (W.seq (W.block (W.rg ?_))))
              refine SL.val (O.idx_fz (i := p) rfl rfl (rfl) (row_get (by omega)) Try.underlying75 hi39 hs39 rfl Taken.no) ?_
              refine SL.val (O.ld1 (PtI.ofU (PtU.fz rfl)) rfl Try.underlying39 rfl rfl Taken.no) ?_
              refine SL.an rfl rfl (E.fo (W.rg (SL.mv rfl rfl (SL.mv rfl rfl (SL.mv rfl rfl ?_)))))
              refine SL.val (O.callp rfl rfl rfl (value_h (l := ((partsL lk (g0L m atm s))[p]!)) hw (by omega) (fun u hu => hgb.2.1 u (hpu.2.2 u hu))) (.cons (ArgOk.same rfl) (.cons (ArgOk.same rfl) .nil)) hcallOk45 rfl Taken.no) ?_
              refine SL.val (O.det (fun _ => by first | exact G.R.add64 rfl rfl (by omega) | exact G.R.add rfl rfl) rfl Taken.no) ?_
              refine SL.an rfl rfl (E.fo ?_)
              refine W.pick (K:=[(0,_),(6,_),(7,_),(8,_),(11,_),(16,_),(19,_),(21,_),(23,_),(187,_),(188,_),(189,_),(190,_),(191,_),(192,_),(193,_),(194,_),(195,_),(196,_),(197,_),(198,_),(199,_),(200,_),(201,_),(202,_),(203,_),(204,_),(205,_),(206,_)]) (Z:=[(101,_),(102,_),(103,_),(113,_),(115,_)]) ⟨rfl,rfl,rfl,rfl,rfl,rfl,rfl,rfl,rfl,rfl,rfl,rfl,rfl,rfl,rfl,rfl,rfl,rfl,rfl,rfl,rfl,rfl,rfl,rfl,rfl,rfl,rfl,rfl,rfl,trivial⟩ ⟨rfl,rfl,rfl,rfl,rfl,trivial⟩ ?_
              refine W.rg (SL.mv rfl rfl ?_)
              refine SL.val (O.lenE (SlOf.fz rfl (by decide)) (by first | exact List.length_map _ | rfl) Try.underlying39 rfl Taken.no) ?_
              refine SL.mv rfl rfl (E.fo ?_)
              refine W.pick (K:=[(0,_),(6,_),(7,_),(8,_),(11,_),(16,_),(19,_),(21,_),(23,_),(187,_),(188,_),(189,_),(190,_),(191,_),(192,_),(193,_),(194,_),(195,_),(196,_),(197,_),(198,_),(199,_),(200,_),(201,_),(202,_),(203,_),(204,_),(205,_),(206,_),(207,_),(208,_),(209,_)]) (Z:=[(101,_),(102,_),(103,_),(113,_),(115,_)]) ⟨rfl,rfl,rfl,rfl,rfl,rfl,rfl,rfl,rfl,rfl,rfl,rfl,rfl,rfl,rfl,rfl,rfl,rfl,rfl,rfl,rfl,rfl,rfl,rfl,rfl,rfl,rfl,rfl,rfl,rfl,rfl,rfl,trivial⟩ ⟨rfl,rfl,rfl,rfl,rfl,trivial⟩ ?_
              refine W.block ?_
              refine W.loopx1 (fun (j : Nat) => [(209, vI (j : Int))]) (fun (j : Nat) => [(116, .data 3 1 ((setAll (nameF (fun x : Nat => (x : Int)) (nm0 m atm s) ((partsL lk (g0L m atm s)).take p)) (((partsL lk (g0L m atm s))[p]!).take j) ((minL ((partsL lk (g0L m atm s))[p]!) : Nat) : Int)).map eI)), (113, .cells 39 [.own 116])]) (fun (j : Nat) => j ≤ ((partsL lk (g0L m atm s))[p]!).length) (fun (j : Nat) => ((partsL lk (g0L m atm s))[p]!).length - j) (0) (rn [(116, 115)]) (.cons (t := 0) rfl (.cons (t := 6) rfl (.cons (t := 7) rfl (.cons (t := 8) rfl (.cons (t := 11) rfl (.cons (t := 16) rfl (.cons (t := 19) rfl (.cons (t := 21) rfl (.cons (t := 23) rfl (.cons (t := 187) rfl (.cons (t := 188) rfl (.cons (t := 189) rfl (.cons (t := 190) rfl (.cons (t := 191) rfl (.cons (t := 192) rfl (.cons (t := 193) rfl (.cons (t := 194) rfl (.cons (t := 195) rfl (.cons (t := 196) rfl (.cons (t := 197) rfl (.cons (t := 198) rfl (.cons (t := 199) rfl (.cons (t := 200) rfl (.cons (t := 201) rfl (.cons (t := 202) rfl (.cons (t := 203) rfl (.cons (t := 204) rfl (.cons (t := 205) rfl (.cons (t := 206) rfl (.cons (t := 207) rfl (.cons (t := 208) rfl .nil))))))))))))))))))))))))))))))) (.cons (t := 101) rfl (.cons (t := 102) rfl (.cons (t := 103) rfl .nil))) rfl ?_ ?_ rfl rfl ?_ ?_
              · exact (SubF.cons rfl SubF.nil)
              · exact (SubS.val rfl (by exact sb_data (by rw [List.take_zero]; rfl)) (SubS.cons rfl SubS.nil))
              ·skip
               omega
              intro j hinv
              have hj := hinv
              have hnl : (setAll (nameF (fun x : Nat => (x : Int)) (nm0 m atm s) ((partsL lk (g0L m atm s)).take p)) (((partsL lk (g0L m atm s))[p]!).take j) ((minL ((partsL lk (g0L m atm s))[p]!) : Nat) : Int)).length = n := by rw [setAll_len, nameF_len, nm0_len]; exact hml
              refine W.rg ?_
              refine SL.val (O.det (fun _ => G.R.lss rfl rfl) rfl Taken.no) ?_
              refine E.fo ?_
              refine W.pick (K:=[(0,_),(6,_),(7,_),(8,_),(11,_),(16,_),(19,_),(21,_),(23,_),(187,_),(188,_),(189,_),(190,_),(191,_),(192,_),(193,_),(194,_),(195,_),(196,_),(197,_),(198,_),(199,_),(200,_),(201,_),(202,_),(203,_),(204,_),(205,_),(206,_),(207,_),(208,_),(209,_),(210,_)]) (Z:=[(101,_),(102,_),(103,_),(113,_),(116,_)]) ⟨rfl,rfl,rfl,rfl,rfl,rfl,rfl,rfl,rfl,rfl,rfl,rfl,rfl,rfl,rfl,rfl,rfl,rfl,rfl,rfl,rfl,rfl,rfl,rfl,rfl,rfl,rfl,rfl,rfl,rfl,rfl,rfl,rfl,trivial⟩ ⟨rfl,rfl,rfl,rfl,rfl,trivial⟩ ?_
              refine W.seq ?_
              first | refine W.cond_d rfl (fun hc16 => ?_) (fun hc16 => ?_) | refine W.cond_nd rfl (fun hc16 => ?_) (fun hc16 => ?_) | refine W.cond rfl (fun hc16 => ?_) (fun hc16 => ?_)
              ·skip
               have hun := hgb.2.1 _ (hpu.2.2 ((partsL lk (g0L m atm s))[p]!)[j]! (mem_at (by omega)))
               refine W.skip (E.to ?_)
               refine W.pick (K:=[(0,_),(6,_),(7,_),(8,_),(11,_),(16,_),(19,_),(21,_),(23,_),(187,_),(188,_),(189,_),(190,_),(191,_),(192,_),(193,_),(194,_),(195,_),(196,_),(197,_),(198,_),(199,_),(200,_),(201,_),(202,_),(203,_),(204,_),(205,_),(206,_),(207,_),(208,_),(209,_),(210,_)]) (Z:=[(101,_),(102,_),(103,_),(113,_),(116,_)]) ⟨rfl,rfl,rfl,rfl,rfl,rfl,rfl,rfl,rfl,rfl,rfl,rfl,rfl,rfl,rfl,rfl,rfl,rfl,rfl,rfl,rfl,rfl,rfl,rfl,rfl,rfl,rfl,rfl,rfl,rfl,rfl,rfl,rfl,trivial⟩ ⟨rfl,rfl,rfl,rfl,rfl,trivial⟩ ?_
               refine W.seq (W.block (W.rg ?_))
               refine SL.val (O.idx_fz (i := j) rfl rfl (rfl) (row_get (by omega)) Try.underlying39 hi3 hs3 rfl Taken.no) ?_
               refine SL.val (O.ld1 (PtI.ofU (PtU.fz rfl)) rfl Try.underlying3 rfl rfl Taken.no) ?_
               refine SL.an rfl rfl (E.fo ?_)
               refine W.pick (K:=[(0,_),(6,_),(7,_),(8,_),(11,_),(16,_),(19,_),(21,_),(23,_),(25,_),(187,_),(188,_),(189,_),(190,_),(191,_),(192,_),(193,_),(194,_),(195,_),(196,_),(197,_),(198,_),(199,_),(200,_),(201,_),(202,_),(203,_),(204,_),(205,_),(206,_),(207,_),(208,_),(209,_),(210,_),(211,_),(212,_)]) (Z:=[(101,_),(102,_),(103,_),(113,_),(116,_)]) ⟨rfl,rfl,rfl,rfl,rfl,rfl,rfl,rfl,rfl,rfl,rfl,rfl,rfl,rfl,rfl,rfl,rfl,rfl,rfl,rfl,rfl,rfl,rfl,rfl,rfl,rfl,rfl,rfl,rfl,rfl,rfl,rfl,rfl,rfl,rfl,rfl,trivial⟩ ⟨rfl,rfl,rfl,rfl,rfl,trivial⟩ ?_
               refine W.draw [⟨[113], [], [], [116]⟩, ⟨[], [], [], []⟩, ⟨[], [], [], []⟩, ⟨[], [], [], []⟩, ⟨[116], [], [], []⟩, ⟨[116], [116], [], []⟩] rfl (by kernel_rfl) (by kernel_rfl) rfl rfl ?_
               refine WH.val (O.ld1 (PtI.ref rfl rfl) rfl Try.underlying39 rfl rfl Taken.no) rfl rfl ?_
               refine WH.mv rfl rfl rfl (WH.mv rfl rfl rfl ?_)
               refine WH.val (O.callp rfl rfl rfl (min_h (l := ((partsL lk (g0L m atm s))[p]!)) (by omega)) (.cons (ArgOk.same rfl) .nil) hcallOk62 rfl Taken.no) rfl rfl ?_
               refine WH.val (O.idx_own (i := (((partsL lk (g0L m atm s))[p]!)[j]!)) rfl rfl rfl (rfl) (by rw [List.length_map]; omega) Try.underlying39 hi3 hs3 rfl Taken.no) rfl rfl ?_
               refine WH.effS (O.st_els (m := 1) rfl rfl rfl (us := [_]) rfl rfl (by kernel_rfl) (by simp) (row_get (by omega)) (by exact Nat.le_of_ble_eq_true rfl) rfl rfl (rows' := ((setAll (nameF (fun x : Nat => (x : Int)) (nm0 m atm s) ((partsL lk (g0L m atm s)).take p)) (((partsL lk (g0L m atm s))[p]!).take j) ((minL ((partsL lk (g0L m atm s))[p]!) : Nat) : Int)).set (((partsL lk (g0L m atm s))[p]!)[j]!) ((minL ((partsL lk (g0L m atm s))[p]!) : Nat) : Int)).map eI) (by exact set_map rfl) Taken.no) rfl rfl rfl (S' := (116, _) :: _) rfl ?_
               refine WH.nil (E.inn (E.to ?_))
               refine W.pick (K:=[(0,_),(6,_),(7,_),(8,_),(11,_),(16,_),(19,_),(21,_),(23,_),(25,_),(187,_),(188,_),(189,_),(190,_),(191,_),(192,_),(193,_),(194,_),(195,_),(196,_),(197,_),(198,_),(199,_),(200,_),(201,_),(202,_),(203,_),(204,_),(205,_),(206,_),(207,_),(208,_),(209,_),(210,_),(211,_),(212,_),(213,_),(214,_),(215,_),(216,_),(217,_)]) (Z:=[(101,_),(102,_),(103,_),(113,_),(116,_)]) ⟨rfl,rfl,rfl,rfl,rfl,rfl,rfl,rfl,rfl,rfl,rfl,rfl,rfl,rfl,rfl,rfl,rfl,rfl,rfl,rfl,rfl,rfl,rfl,rfl,rfl,rfl,rfl,rfl,rfl,rfl,rfl,rfl,rfl,rfl,rfl,rfl,rfl,rfl,rfl,rfl,rfl,trivial⟩ ⟨rfl,rfl,rfl,rfl,rfl,trivial⟩ ?_
               refine W.region ?_
               refine SL.val (O.det (fun _ => by first | exact G.R.add64 rfl rfl (by omega) | exact G.R.add rfl rfl) rfl Taken.no) ?_
               refine SL.mv rfl rfl (SL.nil ?_)
               refine E.again ((j + 1)) (rn []) ?_ ?_ rfl (fixL_spec rfl) ?_ ?_
               · exact (SubF.cons rfl (SubF.cons rfl (SubF.cons rfl (SubF.cons rfl (SubF.cons rfl (SubF.cons rfl (SubF.cons rfl (SubF.cons rfl (SubF.cons rfl (SubF.cons rfl (SubF.cons rfl (SubF.cons rfl (SubF.cons rfl (SubF.cons rfl (SubF.cons rfl (SubF.cons rfl (SubF.cons rfl (SubF.cons rfl (SubF.cons rfl (SubF.cons rfl (SubF.cons rfl (SubF.cons rfl (SubF.cons rfl (SubF.cons rfl (SubF.cons rfl (SubF.cons rfl (SubF.cons rfl (SubF.cons rfl (SubF.cons rfl (SubF.cons rfl (SubF.cons rfl (SubF.cons rfl SubF.nil))))))))))))))))))))))))))))))))
               · exact (SubS.val rfl (by (try dsimp only); exact sb_data (by rw [setAll_sG (by omega)])) (SubS.cons rfl (SubS.cons rfl (SubS.cons rfl (SubS.cons rfl SubS.nil)))))
               ·try dsimp only
                omega
               · (try dsimp only); omega
              ·skip
               refine W.exit (E.th (E.th (E.hit (E.inn (E.to ?_)))))
               refine W.pick (K:=[(0,_),(6,_),(7,_),(8,_),(11,_),(16,_),(19,_),(21,_),(23,_),(187,_),(188,_),(189,_),(190,_),(191,_),(192,_),(193,_),(194,_),(195,_),(196,_),(197,_),(198,_),(199,_),(200,_),(201,_),(202,_),(203,_),(204,_),(205,_),(206,_),(207,_),(208,_),(209,_),(210,_)]) (Z:=[(101,_),(102,_),(103,_),(113,_),(116,_)]) ⟨rfl,rfl,rfl,rfl,rfl,rfl,rfl,rfl,rfl,rfl,rfl,rfl,rfl,rfl,rfl,rfl,rfl,rfl,rfl,rfl,rfl,rfl,rfl,rfl,rfl,rfl,rfl,rfl,rfl,rfl,rfl,rfl,rfl,trivial⟩ ⟨rfl,rfl,rfl,rfl,rfl,trivial⟩ ?_
               refine W.region ?_
               refine SL.val (O.det (fun _ => by first | exact G.R.add64 rfl rfl (by omega) | exact G.R.add rfl rfl) rfl Taken.no) ?_
               refine SL.mv rfl rfl (SL.nil ?_)
               refine E.again ((p + 1)) (rn [(115, 116)]) ?_ ?_ rfl (fixL_spec rfl) ?_ ?_
               · exact (SubF.cons rfl (SubF.val rfl (by (try dsimp only); exact iv_int (by rw [snocP (l := (partsL lk (g0L m atm s))) (by omega), sumV_snoc])) (SubF.cons rfl (SubF.cons rfl (SubF.cons rfl (SubF.cons rfl (SubF.cons rfl (SubF.cons rfl (SubF.cons rfl (SubF.cons rfl (SubF.cons rfl (SubF.cons rfl (SubF.cons rfl (SubF.cons rfl (SubF.cons rfl (SubF.cons rfl (SubF.cons rfl (SubF.cons rfl (SubF.cons rfl (SubF.cons rfl SubF.nil))))))))))))))))))))
               · exact (SubS.val rfl (by (try dsimp only); exact sb_data (by rw [snocP (l := (partsL lk (g0L m atm s))) (by omega), nameF_snoc, show j = ((partsL lk (g0L m atm s))[p]!).length by omega, List.take_length])) (SubS.cons rfl (SubS.cons rfl (SubS.cons rfl (SubS.cons rfl SubS.nil)))))
               ·try dsimp only
                omega
               · (try dsimp only); omega
             ·skip
              refine W.exit (E.th (E.th (E.hit (E.inn (E.to (W.region ?_))))))
              refine SL.val (O.det (fun _ => by first | exact G.R.add64 rfl rfl (by omega) | exact G.R.add rfl rfl) rfl Taken.no) ?_
              refine SL.mv rfl rfl (SL.nil ?_)
              refine E.reround ?_
              refine W.pick (K:=[(0,_),(6,_),(7,_),(8,_),(11,_),(16,_),(19,_),(21,_),(187,_),(188,_),(189,_),(190,_),(191,_),(192,_),(193,_),(194,_),(195,_),(196,_),(197,_),(198,_),(199,_),(220,_)]) (Z:=[(101,_),(102,_),(103,_),(113,_),(115,_)]) ⟨rfl,rfl,rfl,rfl,rfl,rfl,rfl,rfl,rfl,rfl,rfl,rfl,rfl,rfl,rfl,rfl,rfl,rfl,rfl,rfl,rfl,rfl,trivial⟩ ⟨rfl,rfl,rfl,rfl,rfl,trivial⟩ ?_
              refine W.rg ?_
              refine SL.val (O.det (fun _ => G.R.mv (G.R.lss rfl rfl) (congrArg Value.bool (decide_eq_true (by decide)))) rfl Taken.no) ?_
              refine E.fo (W.seq ?_)
              refine W.cond_t rfl ?_
              refine W.skip (E.to (W.seq (W.block (W.rg ?_))))
              refine SL.val (O.idxval (i := 1) rfl rfl (by rfl) (by decide) (by rfl) Try.underlying106 (by kernel_rfl) Try.underlying39 rfl rfl Taken.no) ?_
              refine SL.an rfl rfl ?_
              refine SL.as (i' := vL 1 ((g1L m atm s).map eN)) 21 rfl (by (rw [← hg1]; try rfl)) ?_
              refine E.fo ?_
              refine W.pick (K:=[(0,_),(6,_),(7,_),(8,_),(11,_),(16,_),(19,_),(21,_),(187,_),(188,_),(189,_),(190,_),(191,_),(192,_),(193,_),(194,_),(195,_),(196,_),(197,_),(198,_),(199,_),(220,_)]) (Z:=[(101,_),(102,_),(103,_),(113,_),(115,_)]) ⟨rfl,rfl,rfl,rfl,rfl,rfl,rfl,rfl,rfl,rfl,rfl,rfl,rfl,rfl,rfl,rfl,rfl,rfl,rfl,rfl,rfl,rfl,trivial⟩ ⟨rfl,rfl,rfl,rfl,rfl,trivial⟩ ?_
              refine W.rg (SL.mv rfl rfl (SL.mv rfl rfl ?_))
              refine SL.val (O.nilCheck rfl rfl rfl Taken.no) ?_
              refine SL.val (O.fld_fz rfl Try.underlying78 rfl (m := 0) (by kernel_rfl) rfl rfl Taken.no) ?_
              refine SL.val (O.ld1 (PtI.ofU (PtU.fz rfl)) rfl Try.underlying76 rfl rfl Taken.no) ?_
              refine SL.val (O.callp rfl rfl rfl (parts_h (n := n) (us := (g1L m atm s)) (by omega) hgb.2.2) (.cons (ArgOk.same rfl) (.cons (ArgOk.same rfl) .nil)) hcallOk42 rfl Taken.no) ?_
              refine SL.val (O.lenE (SlOf.fz rfl (by decide)) (by first | exact List.length_map _ | rfl) Try.underlying75 rfl Taken.no) ?_
              refine SL.mv rfl rfl (E.fo ?_)
              refine W.pick (K:=[(0,_),(6,_),(7,_),(8,_),(11,_),(16,_),(19,_),(21,_),(187,_),(188,_),(189,_),(190,_),(191,_),(192,_),(193,_),(194,_),(195,_),(196,_),(197,_),(198,_),(199,_),(220,_)]) (Z:=[(101,_),(102,_),(103,_),(113,_),(115,_)]) ⟨rfl,rfl,rfl,rfl,rfl,rfl,rfl,rfl,rfl,rfl,rfl,rfl,rfl,rfl,rfl,rfl,rfl,rfl,rfl,rfl,rfl,rfl,trivial⟩ ⟨rfl,rfl,rfl,rfl,rfl,trivial⟩ ?_
              refine W.block ?_
              refine W.loopx1 (fun (q : Nat) => [(198, vI (q : Int)), (19, vI (sumV wt ((partsL lk (g0L m atm s)) ++ (partsL lk (g1L m atm s)).take q)))]) (fun (q : Nat) => [(117, .data 3 1 ((nameF (fun x : Nat => (x : Int)) (nm0 m atm s) ((partsL lk (g0L m atm s)) ++ (partsL lk (g1L m atm s)).take q)).map eI)), (113, .cells 39 [.own 117])]) (fun (q : Nat) => q ≤ (partsL lk (g1L m atm s)).length) (fun (q : Nat) => (partsL lk (g1L m atm s)).length - q) (0) (rn [(117, 115)]) (.cons (t := 0) rfl (.cons (t := 6) rfl (.cons (t := 7) rfl (.cons (t := 8) rfl (.cons (t := 11) rfl (.cons (t := 16) rfl (.cons (t := 21) rfl (.cons (t := 187) rfl (.cons (t := 188) rfl (.cons (t := 189) rfl (.cons (t := 190) rfl (.cons (t := 191) rfl (.cons (t := 192) rfl (.cons (t := 193) rfl (.cons (t := 194) rfl (.cons (t := 195) rfl (.cons (t := 196) rfl (.cons (t := 197) rfl (.cons (t := 220) rfl .nil))))))))))))))))))) (.cons (t := 101) rfl (.cons (t := 102) rfl (.cons (t := 103) rfl .nil))) rfl ?_ ?_ rfl rfl ?_ ?_
              · exact (SubF.cons rfl (SubF.val rfl (by exact iv_int (by rw [List.take_zero, List.append_nil, show p = (partsL lk (g0L m atm s)).length by omega, List.take_length])) SubF.nil))
              · exact (SubS.val rfl (by exact sb_data (by rw [List.take_zero, List.append_nil, show p = (partsL lk (g0L m atm s)).length by omega, List.take_length])) (SubS.cons rfl SubS.nil))
              ·skip
               omega
              intro q hinv
              have hq := hinv
              have hpl : ((partsL lk (g0L m atm s)) ++ (partsL lk (g1L m atm s)).take q).length ≤ 400 := by (try rw [List.length_append]); rw [List.length_take]; omega
              have hvb := sumV_b2 hw (L := ((partsL lk (g0L m atm s)) ++ (partsL lk (g1L m atm s)).take q)) (fun p hp => hL p ((List.mem_append.1 hp).elim (fun z => List.mem_append_left _ z) fun z => List.mem_append_right _ (List.mem_of_mem_take z)))
              refine W.rg ?_
              refine SL.val (O.det (fun _ => G.R.lss rfl rfl) rfl Taken.no) ?_
              refine E.fo (W.seq ?_)
              first | refine W.cond_d rfl (fun hc17 => ?_) (fun hc17 => ?_) | refine W.cond_nd rfl (fun hc17 => ?_) (fun hc17 => ?_) | refine W.cond rfl (fun hc17 => ?_) (fun hc17 => ?_)
              ·skip
               have hpu := partsN_units (mem_at (l := (partsL lk (g1L m atm s))) (i := q) (by omega))
               have hvp := valF_b hw (l := ((partsL lk (g1L m atm s))[q]!)) (by omega)
               refine W.skip (E.to (W.seq (W.block (W.rg ?_))))
               refine SL.val (O.idx_fz (i := q) rfl rfl (rfl) (row_get (by omega)) Try.underlying75 hi39 hs39 rfl Taken.no) ?_
               refine SL.val (O.ld1 (PtI.ofU (PtU.fz rfl)) rfl Try.underlying39 rfl rfl Taken.no) ?_
               refine SL.an rfl rfl (E.fo ?_)
               refine W.pick (K:=[(0,_),(6,_),(7,_),(8,_),(11,_),(16,_),(19,_),(21,_),(23,_),(187,_),(188,_),(189,_),(190,_),(191,_),(192,_),(193,_),(194,_),(195,_),(196,_),(197,_),(198,_),(199,_),(200,_),(201,_),(220,_)]) (Z:=[(101,_),(102,_),(103,_),(113,_),(117,_)]) ⟨rfl,rfl,rfl,rfl,rfl,rfl,rfl,rfl,rfl,rfl,rfl,rfl,rfl,rfl,rfl,rfl,rfl,rfl,rfl,rfl,rfl,rfl,rfl,rfl,rfl,trivial⟩ ⟨rfl,rfl,rfl,rfl,rfl,trivial⟩ ?_
               refine W.rg (SL.mv rfl rfl (SL.mv rfl rfl (SL.mv rfl rfl ?_)))
               refine SL.val (O.callp rfl rfl rfl (value_h (l := ((partsL lk (g1L m atm s))[q]!)) hw (by omega) (fun u hu => hgb.2.2 u (hpu.2.2 u hu))) (.cons (ArgOk.same rfl) (.cons (ArgOk.same rfl) .nil)) hcallOk45 rfl Taken.no) ?_
               refine SL.val (O.det (fun _ => by first | exact G.R.add64 rfl rfl (by omega) | exact G.R.add rfl rfl) rfl Taken.no) ?_
               refine SL.an rfl rfl (E.fo ?_)
               refine W.pick (K:=[(0,_),(6,_),(7,_),(8,_),(11,_),(16,_),(19,_),(21,_),(23,_),(187,_),(188,_),(189,_),(190,_),(191,_),(192,_),(193,_),(194,_),(195,_),(196,_),(197,_),(198,_),(199,_),(200,_),(201,_),(202,_),(203,_),(204,_),(205,_),(206,_),(220,_)]) (Z:=[(101,_),(102,_),(103,_),(113,_),(117,_)]) ⟨rfl,rfl,rfl,rfl,rfl,rfl,rfl,rfl,rfl,rfl,rfl,rfl,rfl,rfl,rfl,rfl,rfl,rfl,rfl,rfl,rfl,rfl,rfl,rfl,rfl,rfl,rfl,rfl,rfl,rfl,trivial⟩ ⟨rfl,rfl,rfl,rfl,rfl,trivial⟩ ?_
               refine W.rg (SL.mv rfl rfl ?_)
               refine SL.val (O.lenE (SlOf.fz rfl (by decide)) (by first | exact List.length_map _ | rfl) Try.underlying39 rfl Taken.no) ?_
               refine SL.mv rfl rfl (E.fo ?_)
               refine W.pick (K:=[(0,_),(6,_),(7,_),(8,_),(11,_),(16,_),(19,_),(21,_),(23,_),(187,_),(188,_),(189,_),(190,_),(191,_),(192,_),(193,_),(194,_),(195,_),(196,_),(197,_),(198,_),(199,_),(200,_),(201,_),(202,_),(203,_),(204,_),(205,_),(206,_),(207,_),(208,_),(209,_),(220,_)]) (Z:=[(101,_),(102,_),(103,_),(113,_),(117,_)]) ⟨rfl,rfl,rfl,rfl,rfl,rfl,rfl,rfl,rfl,rfl,rfl,rfl,rfl,rfl,rfl,rfl,rfl,rfl,rfl,rfl,rfl,rfl,rfl,rfl,rfl,rfl,rfl,rfl,rfl,rfl,rfl,rfl,rfl,trivial⟩ ⟨rfl,rfl,rfl,rfl,rfl,trivial⟩ ?_
               refine W.block ?_
               refine W.loopx1 (fun (j : Nat) => [(209, vI (j : Int))]) (fun (j : Nat) => [(118, .data 3 1 ((setAll (nameF (fun x : Nat => (x : Int)) (nm0 m atm s) ((partsL lk (g0L m atm s)) ++ (partsL lk (g1L m atm s)).take q)) (((partsL lk (g1L m atm s))[q]!).take j) ((minL ((partsL lk (g1L m atm s))[q]!) : Nat) : Int)).map eI)), (113, .cells 39 [.own 118])]) (fun (j : Nat) => j ≤ ((partsL lk (g1L m atm s))[q]!).length) (fun (j : Nat) => ((partsL lk (g1L m atm s))[q]!).length - j) (0) (rn [(118, 117)]) (.cons (t := 0) rfl (.cons (t := 6) rfl (.cons (t := 7) rfl (.cons (t := 8) rfl (.cons (t := 11) rfl (.cons (t := 16) rfl (.cons (t := 19) rfl (.cons (t := 21) rfl (.cons (t := 23) rfl (.cons (t := 187) rfl (.cons (t := 188) rfl (.cons (t := 189) rfl (.cons (t := 190) rfl (.cons (t := 191) rfl (.cons (t := 192) rfl (.cons (t := 193) rfl (.cons (t := 194) rfl (.cons (t := 195) rfl (.cons (t := 196) rfl (.cons (t := 197) rfl (.cons (t := 198) rfl (.cons (t := 199) rfl (.cons (t := 200) rfl (.cons (t := 201) rfl (.cons (t := 202) rfl (.cons (t := 203) rfl (.cons (t := 204) rfl (.cons (t := 205) rfl (.cons (t := 206) rfl (.cons (t := 207) rfl (.cons (t := 208) rfl (.cons (t := 220) rfl .nil)))))))))))))))))))))))))))))))) (.cons (t := 101) rfl (.cons (t := 102) rfl (.cons (t := 103) rfl .nil))) rfl ?_ ?_ rfl rfl ?_ ?_
               · exact (SubF.cons rfl SubF.nil)
               · exact (SubS.val rfl (by exact sb_data (by rw [List.take_zero]; rfl)) (SubS.cons rfl SubS.nil))
               ·skip
                omega
               intro j hinv
               have hj := hinv
               have hnl : (setAll (nameF (fun x : Nat => (x : Int)) (nm0 m atm s) ((partsL lk (g0L m atm s)) ++ (partsL lk (g1L m atm s)).take q)) (((partsL lk (g1L m atm s))[q]!).take j) ((minL ((partsL lk (g1L m atm s))[q]!) : Nat) : Int)).length = n := by rw [setAll_len, nameF_len, nm0_len]; exact hml
               refine W.rg ?_
               refine SL.val (O.det (fun _ => G.R.lss rfl rfl) rfl Taken.no) ?_
               refine E.fo ?_
               refine W.pick (K:=[(0,_),(6,_),(7,_),(8,_),(11,_),(16,_),(19,_),(21,_),(23,_),(187,_),(188,_),(189,_),(190,_),(191,_),(192,_),(193,_),(194,_),(195,_),(196,_),(197,_),(198,_),(199,_),(200,_),(201,_),(202,_),(203,_),(204,_),(205,_),(206,_),(207,_),(208,_),(209,_),(210,_),(220,_)]) (Z:=[(101,_),(102,_),(103,_),(113,_),(118,_)]) ⟨rfl,rfl,rfl,rfl,rfl,rfl,rfl,rfl,rfl,rfl,rfl,rfl,rfl,rfl,rfl,rfl,rfl,rfl,rfl,rfl,rfl,rfl,rfl,rfl,rfl,rfl,rfl,rfl,rfl,rfl,rfl,rfl,rfl,rfl,trivial⟩ ⟨rfl,rfl,rfl,rfl,rfl,trivial⟩ ?_
               refine W.seq ?_
               first | refine W.cond_d rfl (fun hc18 => ?_) (fun hc18 => ?_) | refine W.cond_nd rfl (fun hc18 => ?_) (fun hc18 => ?_) | refine W.cond rfl (fun hc18 => ?_) (fun hc18 => ?_)
               ·skip
                have hun := hgb.2.2 _ (hpu.2.2 ((partsL lk (g1L m atm s))[q]!)[j]! (mem_at (by omega)))
                refine W.skip (E.to ?_)
                refine W.pick (K:=[(0,_),(6,_),(7,_),(8,_),(11,_),(16,_),(19,_),(21,_),(23,_),(187,_),(188,_),(189,_),(190,_),(191,_),(192,_),(193,_),(194,_),(195,_),(196,_),(197,_),(198,_),(199,_),(200,_),(201,_),(202,_),(203,_),(204,_),(205,_),(206,_),(207,_),(208,_),(209,_),(210,_),(220,_)]) (Z:=[(101,_),(102,_),(103,_),(113,_),(118,_)]) ⟨rfl,rfl,rfl,rfl,rfl,rfl,rfl,rfl,rfl,rfl,rfl,rfl,rfl,rfl,rfl,rfl,rfl,rfl,rfl,rfl,rfl,rfl,rfl,rfl,rfl,rfl,rfl,rfl,rfl,rfl,rfl,rfl,rfl,rfl,trivial⟩ ⟨rfl,rfl,rfl,rfl,rfl,trivial⟩ ?_
                refine W.seq (W.block (W.rg ?_))
                refine SL.val (O.idx_fz (i := j) rfl rfl (rfl) (row_get (by omega)) Try.underlying39 hi3 hs3 rfl Taken.no) ?_
                refine SL.val (O.ld1 (PtI.ofU (PtU.fz rfl)) rfl Try.underlying3 rfl rfl Taken.no) ?_
                refine SL.an rfl rfl (E.fo ?_)
                refine W.pick (K:=[(0,_),(6,_),(7,_),(8,_),(11,_),(16,_),(19,_),(21,_),(23,_),(25,_),(187,_),(188,_),(189,_),(190,_),(191,_),(192,_),(193,_),(194,_),(195,_),(196,_),(197,_),(198,_),(199,_),(200,_),(201,_),(202,_),(203,_),(204,_),(205,_),(206,_),(207,_),(208,_),(209,_),(210,_),(211,_),(212,_),(220,_)]) (Z:=[(101,_),(102,_),(103,_),(113,_),(118,_)]) ⟨rfl,rfl,rfl,rfl,rfl,rfl,rfl,rfl,rfl,rfl,rfl,rfl,rfl,rfl,rfl,rfl,rfl,rfl,rfl,rfl,rfl,rfl,rfl,rfl,rfl,rfl,rfl,rfl,rfl,rfl,rfl,rfl,rfl,rfl,rfl,rfl,rfl,trivial⟩ ⟨rfl,rfl,rfl,rfl,rfl,trivial⟩ ?_
                refine W.draw [⟨[113], [], [], [118]⟩, ⟨[], [], [], []⟩, ⟨[], [], [], []⟩, ⟨[], [], [], []⟩, ⟨[118], [], [], []⟩, ⟨[118], [118], [], []⟩] rfl (by kernel_rfl) (by kernel_rfl) rfl rfl ?_
                refine WH.val (O.ld1 (PtI.ref rfl rfl) rfl Try.underlying39 rfl rfl Taken.no) rfl rfl ?_
                refine WH.mv rfl rfl rfl (WH.mv rfl rfl rfl ?_)
                refine WH.val (O.callp rfl rfl rfl (min_h (l := ((partsL lk (g1L m atm s))[q]!)) (by omega)) (.cons (ArgOk.same rfl) .nil) hcallOk62 rfl Taken.no) rfl rfl ?_
                refine WH.val (O.idx_own (i := (((partsL lk (g1L m atm s))[q]!)[j]!)) rfl rfl rfl (rfl) (by rw [List.length_map]; omega) Try.underlying39 hi3 hs3 rfl Taken.no) rfl rfl ?_
                refine WH.effS (O.st_els (m := 1) rfl rfl rfl (us := [_]) rfl rfl (by kernel_rfl) (by simp) (row_get (by omega)) (by exact Nat.le_of_ble_eq_true rfl) rfl rfl (rows' := ((setAll (nameF (fun x : Nat => (x : Int)) (nm0 m atm s) ((partsL lk (g0L m atm s)) ++ (partsL lk (g1L m atm s)).take q)) (((partsL lk (g1L m atm s))[q]!).take j) ((minL ((partsL lk (g1L m atm s))[q]!) : Nat) : Int)).set (((partsL lk (g1L m atm s))[q]!)[j]!) ((minL ((partsL lk (g1L m atm s))[q]!) : Nat) : Int)).map eI) (by exact set_map rfl) Taken.no) rfl rfl rfl (S' := (118, _) :: _) rfl ?_
                refine WH.nil (E.inn (E.to ?_))
                refine W.pick (K:=[(0,_),(6,_),(7,_),(8,_),(11,_),(16,_),(19,_),(21,_),(23,_),(25,_),(187,_),(188,_),(189,_),(190,_),(191,_),(192,_),(193,_),(194,_),(195,_),(196,_),(197,_),(198,_),(199,_),(200,_),(201,_),(202,_),(203,_),(204,_),(205,_),(206,_),(207,_),(208,_),(209,_),(210,_),(211,_),(212,_),(213,_),(214,_),(215,_),(216,_),(217,_),(220,_)]) (Z:=[(101,_),(102,_),(103,_),(113,_),(118,_)]) ⟨rfl,rfl,rfl,rfl,rfl,rfl,rfl,rfl,rfl,rfl,rfl,rfl,rfl,rfl,rfl,rfl,rfl,rfl,rfl,rfl,rfl,rfl,rfl,rfl,rfl,rfl,rfl,rfl,rfl,rfl,rfl,rfl,rfl,rfl,rfl,rfl,rfl,rfl,rfl,rfl,rfl,rfl,trivial⟩ ⟨rfl,rfl,rfl,rfl,rfl,trivial⟩ ?_
                refine W.region ?_
                refine SL.val (O.det (fun _ => by first | exact G.R.add64 rfl rfl (by omega) | exact G.R.add rfl rfl) rfl Taken.no) ?_
                refine SL.mv rfl rfl (SL.nil ?_)
                refine E.again ((j + 1)) (rn []) ?_ ?_ rfl (fixL_spec rfl) ?_ ?_
                · exact (SubF.cons rfl (SubF.cons rfl (SubF.cons rfl (SubF.cons rfl (SubF.cons rfl (SubF.cons rfl (SubF.cons rfl (SubF.cons rfl (SubF.cons rfl (SubF.cons rfl (SubF.cons rfl (SubF.cons rfl (SubF.cons rfl (SubF.cons rfl (SubF.cons rfl (SubF.cons rfl (SubF.cons rfl (SubF.cons rfl (SubF.cons rfl (SubF.cons rfl (SubF.cons rfl (SubF.cons rfl (SubF.cons rfl (SubF.cons rfl (SubF.cons rfl (SubF.cons rfl (SubF.cons rfl (SubF.cons rfl (SubF.cons rfl (SubF.cons rfl (SubF.cons rfl (SubF.cons rfl (SubF.cons rfl SubF.nil)))))))))))))))))))))))))))))))))
                · exact (SubS.val rfl (by (try dsimp only); exact sb_data (by rw [setAll_sG (by omega)])) (SubS.cons rfl (SubS.cons rfl (SubS.cons rfl (SubS.cons rfl SubS.nil)))))
                ·try dsimp only
                 omega
                · (try dsimp only); omega
               ·skip
                refine W.exit (E.th (E.th (E.hit (E.inn (E.to ?_)))))
                refine W.pick (K:=[(0,_),(6,_),(7,_),(8,_),(11,_),(16,_),(19,_),(21,_),(23,_),(187,_),(188,_),(189,_),(190,_),(191,_),(192,_),(193,_),(194,_),(195,_),(196,_),(197,_),(198,_),(199,_),(200,_),(201,_),(202,_),(203,_),(204,_),(205,_),(206,_),(207,_),(208,_),(209,_),(210,_),(220,_)]) (Z:=[(101,_),(102,_),(103,_),(113,_),(118,_)]) ⟨rfl,rfl,rfl,rfl,rfl,rfl,rfl,rfl,rfl,rfl,rfl,rfl,rfl,rfl,rfl,rfl,rfl,rfl,rfl,rfl,rfl,rfl,rfl,rfl,rfl,rfl,rfl,rfl,rfl,rfl,rfl,rfl,rfl,rfl,trivial⟩ ⟨rfl,rfl,rfl,rfl,rfl,trivial⟩ ?_
                refine W.region ?_
                refine SL.val (O.det (fun _ => by first | exact G.R.add64 rfl rfl (by omega) | exact G.R.add rfl rfl) rfl Taken.no) ?_
                refine SL.mv rfl rfl (SL.nil ?_)
                refine E.again ((q + 1)) (rn [(117, 118)]) ?_ ?_ rfl (fixL_spec rfl) ?_ ?_
                · exact (SubF.cons rfl (SubF.val rfl (by (try dsimp only); exact iv_int (by rw [snocP (l := (partsL lk (g1L m atm s))) (by omega), ← List.append_assoc, sumV_snoc])) (SubF.cons rfl (SubF.cons rfl (SubF.cons rfl (SubF.cons rfl (SubF.cons rfl (SubF.cons rfl (SubF.cons rfl (SubF.cons rfl (SubF.cons rfl (SubF.cons rfl (SubF.cons rfl (SubF.cons rfl (SubF.cons rfl (SubF.cons rfl (SubF.cons rfl (SubF.cons rfl (SubF.cons rfl (SubF.cons rfl (SubF.cons rfl SubF.nil)))))))))))))))))))))
                · exact (SubS.val rfl (by (try dsimp only); exact sb_data (by rw [snocP (l := (partsL lk (g1L m atm s))) (by omega), ← List.append_assoc, nameF_snoc, show j = ((partsL lk (g1L m atm s))[q]!).length by omega, List.take_length])) (SubS.cons rfl (SubS.cons rfl (SubS.cons rfl (SubS.cons rfl SubS.nil)))))
                ·try dsimp only
                 omega
                · (try dsimp only); omega
              ·skip
               refine W.exit (E.th (E.th (E.hit (E.inn (E.to (W.region ?_))))))
               refine SL.val (O.det (fun _ => by first | exact G.R.add64 rfl rfl (by omega) | exact G.R.add rfl rfl) rfl Taken.no) ?_
               refine SL.mv rfl rfl (SL.nil ?_)
               refine E.reround ?_
               refine W.pick (K:=[(0,_),(6,_),(7,_),(8,_),(11,_),(16,_),(19,_),(21,_),(187,_),(188,_),(189,_),(190,_),(191,_),(192,_),(193,_),(194,_),(195,_),(196,_),(197,_),(198,_),(199,_),(220,_)]) (Z:=[(101,_),(102,_),(103,_),(113,_),(117,_)]) ⟨rfl,rfl,rfl,rfl,rfl,rfl,rfl,rfl,rfl,rfl,rfl,rfl,rfl,rfl,rfl,rfl,rfl,rfl,rfl,rfl,rfl,rfl,trivial⟩ ⟨rfl,rfl,rfl,rfl,rfl,trivial⟩ ?_
               refine W.rg ?_
               refine SL.val (O.det (fun _ => G.R.mv (G.R.lss rfl rfl) (congrArg Value.bool (decide_eq_false (by decide)))) rfl Taken.no) ?_
               refine E.fo (W.seq ?_)
               refine W.cond_f rfl ?_
               refine W.exit (E.th (E.th (E.hit (E.to (W.rg ?_)))))
               refine SL.val (O.ld1 (PtI.ref rfl rfl) rfl Try.underlying39 rfl rfl Taken.no) ?_
               refine SL.mv rfl rfl (SL.mv rfl rfl ?_)
               refine SL.val (O.det (fun _ => by first | exact G.R.sub64 rfl rfl (by omega) | exact G.R.sub rfl rfl) rfl Taken.no) ?_
               refine SL.an rfl rfl (SL.an rfl rfl (SL.an rfl rfl (E.fo ?_)))
               refine W.pick (K:=[(6,_),(7,_),(8,_)]) (Z:=[(101,_),(102,_),(103,_),(113,_),(117,_)]) ⟨rfl,rfl,rfl,trivial⟩ ⟨rfl,rfl,rfl,rfl,rfl,trivial⟩ ?_
               refine W.ret ?_
               refine E.freeze 117 rfl (F' := [(6, _)]) (⟨⟨_, rfl, rfl⟩, trivial⟩) ?_
               refine E.fin (rs := [_, _, _]) (rn []) (.inl rfl) rfl (.cons (ResOne.tmp rfl) (.cons (ResOne.tmp rfl) (.cons (ResOne.tmp rfl) .nil))) ?_ ?_ rfl (fixL_spec rfl)
               ·skip
                have hyes : posF n bar atm m s := ⟨hpre, by rw [← hit_eq hml hb]; exact hcl⟩
                rw [← hs, apN_y hyes, apG_y hyes, dec_t hyes, gnF, hfe, hth, show q = (partsL lk (g1L m atm s)).length by omega, List.take_length]; rfl
               · exact SubS.nil
     ·skip
      first | have hg5p := G.gA7 hg5 | have hg5p := G.gA8 hg5 | have hg5p := hg5
      refine WH.sk rfl rfl rfl hg5 (WH.sk rfl rfl rfl hg5 (WH.sk rfl rfl rfl hg5 ?_))
      refine WH.val (O.pick_t rfl (G.ne_f hg5) rfl rfl (Taken.yes rfl rfl hg4)) rfl rfl ?_
      refine WH.val (O.pick_t rfl hg4 rfl rfl (Taken.yes rfl rfl hg3)) rfl rfl ?_
      refine WH.val (O.pick_f rfl hg3 rfl rfl Taken.no) rfl rfl ?_
      refine WH.nil (E.to ?_)
      refine W.pick (K:=[(0,_),(1,_),(5,_),(6,_),(7,_),(8,_),(60,_)]) (Z:=[(101,_)]) ⟨rfl,rfl,rfl,rfl,rfl,rfl,rfl,trivial⟩ ⟨rfl,trivial⟩ ?_
      refine W.cond_t rfl ?_
      refine W.rg (SL.an rfl rfl (SL.an rfl rfl (SL.an rfl rfl (E.fo (W.ret (E.thr ?_))))))
      refine E.nilsl 6 1 rfl ?_
      refine E.fin (rs := [_, _, _]) (rn []) (.inl rfl) rfl (.cons (ResOne.tmp rfl) (.cons (ResOne.tmp rfl) (.cons (ResOne.tmp rfl) .nil))) ?_ ?_ rfl (fixL_spec rfl)
      ·skip
       first | ((have hno : ¬ posF n bar atm m ⟨u, f, t⟩ := fun q => by ((obtain ⟨⟨⟨q1, q2, q3, q4, q5⟩, q6, q7, q8⟩, q9⟩ := posF_iff.1 q); (try simp only [Int.toNat_natCast] at q6 q7 q8); (first | omega | (have q5 := q5 (by omega); simp_all)))); rw [apN_n hno, apG_n hno, dec_f hno]; rfl)
      · exact SubS.nil
    ·skip
     first | have hg4p := G.gA5 hg4 | have hg4p := G.gA6 hg4 | have hg4p := hg4
     refine WH.sk rfl rfl rfl hg4 (WH.sk rfl rfl rfl hg4 (WH.sk rfl rfl rfl hg4 ?_))
     refine WH.skip (OpOk.not2 rfl rfl rfl) ?_
     refine WH.skip (OpOk.not2 rfl rfl rfl) ?_
     refine WH.skip (OpOk.not2 rfl rfl rfl) ?_
     refine WH.sk rfl rfl rfl hg4 ?_
     refine WH.val (O.pick_f rfl (G.ne_t hg4) rfl rfl (Taken.yes rfl rfl hg3)) rfl rfl ?_
     refine WH.val (O.pick_f rfl hg3 rfl rfl Taken.no) rfl rfl ?_
     refine WH.nil (E.to ?_)
     refine W.pick (K:=[(0,_),(1,_),(5,_),(6,_),(7,_),(8,_),(60,_)]) (Z:=[(101,_)]) ⟨rfl,rfl,rfl,rfl,rfl,rfl,rfl,trivial⟩ ⟨rfl,trivial⟩ ?_
     refine W.cond_f rfl ?_
     refine W.skip (E.to (W.rg ?_))
     obtain ⟨t, rfl⟩ : ∃ k : Nat, t = (k : Int) := ⟨t.toNat, by omega⟩
     have hul2 := units_len m t
     have hvb2 := valF_b hw (l := unitsL m t) (by omega)
     have hTn : ∀ u ∈ unitsL m t, u < n := fun u hu => ((mem_here hml).1 hu).1
     obtain ⟨f, rfl⟩ : ∃ k : Nat, f = (k : Int) := ⟨f.toNat, by omega⟩
     have hul := units_len m m[f]!
     have hvb1 := valF_b hw (l := (unitsL m m[f]!)) (by omega)
     have hHn : ∀ u ∈ (unitsL m m[f]!), u < n := fun u hu => ((mem_here hml).1 hu).1
     refine SL.mv rfl rfl (SL.mv rfl rfl ?_)
     refine SL.val (O.fld_ref (o' := 1) rfl Try.underlying55 rfl (m := 0) (by kernel_rfl) rfl rfl Taken.no) ?_
     refine SL.val (O.ld1 (PtI.ref rfl rfl) rfl Try.underlying3 rfl rfl Taken.no) ?_
     refine SL.val (O.idx_fz (i := f) rfl rfl (rfl) (row_get (by omega)) Try.underlying39 hi3 hs3 rfl Taken.no) ?_
     refine SL.val (O.ld1 (PtI.ofU (PtU.fz rfl)) rfl Try.underlying3 rfl rfl Taken.no) ?_
     refine SL.memS (O.call (rn [(0, 119)]) [] rfl rfl rfl (units_h (l := m) (c := m[f]!) (by omega)) (.cons (ArgOk.same rfl) (.cons (ArgOk.same rfl) .nil)) SubS.nil rfl rfl rfl rfl rfl (.inl rfl) hcallOk46 (r' := .own 119) rfl rfl Taken.no) rfl rfl (S' := (119, .data _ _ _) :: _) rfl ?_
     refine SL.an rfl rfl (E.fo (W.rg (SL.an rfl rfl (E.fo (W.seq (W.rg ?_))))))
     refine SL.val (O.fld_ref (o' := 2) rfl Try.underlying55 rfl (m := 0) (by kernel_rfl) rfl rfl Taken.no) ?_
     refine SL.val (O.ld1 (PtI.ref rfl rfl) rfl Try.underlying3 rfl rfl Taken.no) ?_
     refine SL.val (O.det (fun _ => G.R.geq rfl rfl) rfl Taken.no) ?_
     refine E.fo ?_
     first | refine W.cond_d rfl (fun hc19 => ?_) (fun hc19 => ?_) | refine W.cond_nd rfl (fun hc19 => ?_) (fun hc19 => ?_) | refine W.cond rfl (fun hc19 => ?_) (fun hc19 => ?_)
     ·skip
      refine W.seq (W.seq ?_)
      refine W.draw [⟨[], [], [], []⟩, ⟨[], [], [], [101]⟩, ⟨[101], [], [], []⟩, ⟨[], [], [], []⟩, ⟨[], [], [], []⟩, ⟨[], [], [], [101]⟩, ⟨[101], [], [], []⟩, ⟨[], [], [], []⟩, ⟨[], [], [], []⟩, ⟨[], [], [], []⟩, ⟨[], [], [], [101]⟩, ⟨[101], [], [], []⟩, ⟨[], [], [], []⟩, ⟨[], [], [], []⟩, ⟨[], [], [], [101]⟩, ⟨[101], [], [], []⟩, ⟨[], [], [], []⟩, ⟨[], [], [], []⟩] rfl (by kernel_rfl) (by kernel_rfl) rfl rfl ?_
      refine WH.mv rfl rfl rfl ?_
      refine WH.val (O.fld_ref (o' := 2) rfl Try.underlying55 rfl (m := 0) (by kernel_rfl) rfl rfl Taken.no) rfl rfl ?_
      refine WH.val (O.ld1 (PtI.ref rfl rfl) rfl Try.underlying3 rfl rfl Taken.no) rfl rfl ?_
      refine WH.val (O.idx_fz (i := t) rfl rfl (rfl) (row_get (by omega)) Try.underlying39 hi3 hs3 rfl Taken.no) rfl rfl ?_
      refine WH.val (O.ld1 (PtI.ofU (PtU.fz rfl)) rfl Try.underlying3 rfl rfl Taken.no) rfl rfl ?_
      refine WH.val (O.fld_ref (o' := 2) rfl Try.underlying55 rfl (m := 0) (by kernel_rfl) rfl rfl Taken.no) rfl rfl ?_
      refine WH.val (O.ld1 (PtI.ref rfl rfl) rfl Try.underlying3 rfl rfl Taken.no) rfl rfl ?_
      refine WH.val (O.det (fun _ => G.R.neq rfl rfl) rfl Taken.no) rfl rfl ?_
      refine WH.mv rfl rfl rfl ?_
      refine WH.case (j := 8) (g := 79) (want := false) rfl rfl (fun hg20 => ?_) (fun hg20 => ?_)
      ·skip
       first | have hg20p := G.gA3 hg20 | have hg20p := G.gA4 hg20 | have hg20p := hg20
       refine WH.val (O.move rfl rfl (Taken.yes rfl rfl hg20)) rfl rfl ?_
       refine WH.val (O.fld_ref (o' := 1) rfl Try.underlying55 rfl (m := 0) (by kernel_rfl) rfl rfl (Taken.yes rfl rfl hg20)) rfl rfl ?_
       refine WH.val (O.ld1 (PtI.ref rfl rfl) rfl Try.underlying3 rfl rfl (Taken.yes rfl rfl hg20)) rfl rfl ?_
       refine WH.val (O.idx_fz (i := f) rfl rfl (rfl) (row_get (by omega)) Try.underlying39 hi3 hs3 rfl (Taken.yes rfl rfl hg20)) rfl rfl ?_
       refine WH.val (O.ld1 (PtI.ofU (PtU.fz rfl)) rfl Try.underlying3 rfl rfl (Taken.yes rfl rfl hg20)) rfl rfl ?_
       refine WH.val (O.fld_ref (o' := 2) rfl Try.underlying55 rfl (m := 0) (by kernel_rfl) rfl rfl (Taken.yes rfl rfl hg20)) rfl rfl ?_
       refine WH.val (O.ld1 (PtI.ref rfl rfl) rfl Try.underlying3 rfl rfl (Taken.yes rfl rfl hg20)) rfl rfl ?_
       refine WH.val (O.det (fun _ => G.R.eql rfl rfl) rfl (Taken.yes rfl rfl hg20)) rfl rfl ?_
       refine WH.val (O.pick_f rfl hg20 rfl rfl Taken.no) rfl rfl ?_
       refine WH.nil (E.to ?_)
       refine W.pick (K:=[(0,_),(1,_),(5,_),(6,_),(7,_),(8,_),(9,_),(10,_),(88,_)]) (Z:=[(101,_),(119,_)]) ⟨rfl,rfl,rfl,rfl,rfl,rfl,rfl,rfl,rfl,trivial⟩ ⟨rfl,rfl,trivial⟩ ?_
       first | refine W.cond_d rfl (fun hc21 => ?_) (fun hc21 => ?_) | refine W.cond_nd rfl (fun hc21 => ?_) (fun hc21 => ?_) | refine W.cond rfl (fun hc21 => ?_) (fun hc21 => ?_)
       ·skip
        refine W.rg (SL.an rfl rfl (SL.an rfl rfl (SL.an rfl rfl (E.fo (W.ret (E.thr (E.thr ?_)))))))
        refine E.nilsl 6 1 rfl ?_
        refine E.fin (rs := [_, _, _]) (rn []) (.inl rfl) rfl (.cons (ResOne.tmp rfl) (.cons (ResOne.tmp rfl) (.cons (ResOne.tmp rfl) .nil))) ?_ ?_ rfl (fixL_spec rfl)
        ·skip
         first | ((have hno : ¬ posF n bar atm m ⟨u, (f : Int), (t : Int)⟩ := fun q => by ((obtain ⟨⟨⟨q1, q2, q3, q4, q5⟩, q6, q7, q8⟩, q9⟩ := posF_iff.1 q); (try simp only [Int.toNat_natCast] at q6 q7 q8); (have q6 := q6 (by omega); omega))); rw [apN_n hno, apG_n hno, dec_f hno]; rfl)
        · exact SubS.nil
       ·skip
        refine W.skip (E.to (W.region (SL.mv rfl rfl ?_)))
        refine SL.val (O.fld_ref (o' := 2) rfl Try.underlying55 rfl (m := 0) (by kernel_rfl) rfl rfl Taken.no) ?_
        refine SL.val (O.ld1 (PtI.ref rfl rfl) rfl Try.underlying3 rfl rfl Taken.no) ?_
        refine SL.memS (O.call (rn [(0, 120)]) [] rfl rfl rfl (units_h (l := m) (c := t) (by omega)) (.cons (ArgOk.same rfl) (.cons (ArgOk.same rfl) .nil)) SubS.nil rfl rfl rfl rfl rfl (.inl rfl) hcallOk46 (r' := .own 120) rfl rfl Taken.no) rfl rfl (S' := (120, .data _ _ _) :: _) rfl ?_
        refine SL.an rfl rfl (E.fo (W.rg (SL.mv rfl rfl (SL.mv rfl rfl ?_))))
        refine SL.memS (O.call (rn []) [119] rfl rfl rfl (value_h (l := (unitsL m m[f]!)) hw (by omega) hHn) (.cons (ArgOk.same rfl) (.cons (ArgOk.own rfl rfl) .nil)) SubS.nil rfl rfl rfl rfl rfl (.inr ⟨rfl, fun x hx => by simp at hx⟩) hcallOk45 (r' := .u _) rfl rfl Taken.no) rfl rfl (S' := _) rfl ?_
        refine SL.mv rfl rfl (SL.mv rfl rfl ?_)
        refine SL.memS (O.call (rn []) [120] rfl rfl rfl (value_h (l := unitsL m t) hw (by omega) hTn) (.cons (ArgOk.same rfl) (.cons (ArgOk.own rfl rfl) .nil)) SubS.nil rfl rfl rfl rfl rfl (.inr ⟨rfl, fun x hx => by simp at hx⟩) hcallOk45 (r' := .u _) rfl rfl Taken.no) rfl rfl (S' := _) rfl ?_
        refine SL.val (O.det (fun _ => by first | exact G.R.add64 rfl rfl (by omega) | exact G.R.add rfl rfl) rfl Taken.no) ?_
        refine SL.an rfl rfl (E.fo (W.rg ?_))
        refine SL.memS (O.alloc (z := .agg #[.slice none 0 0, .slice none 0 0]) (is := [.u (.sc (.slice none 0 0)), .u (.sc (.slice none 0 0))]) 121 (by kernel_rfl) rfl rfl rfl Taken.no) rfl rfl (S' := (121, _) :: _) rfl ?_
        refine E.fo (W.seq (W.rg ?_))
        refine SL.val (O.fld_ref (o' := 0) rfl Try.underlying55 rfl (m := 0) (by kernel_rfl) rfl rfl Taken.no) ?_
        refine SL.val (O.ld1 (PtI.ref rfl rfl) rfl Try.underlying4 rfl rfl Taken.no) ?_
        refine E.fo ?_
        refine W.pick (K:=[(0,_),(1,_),(5,_),(6,_),(7,_),(8,_),(9,_),(10,_),(11,_),(12,_),(101,_)]) (Z:=[(101,_),(119,_),(120,_),(121,_)]) ⟨rfl,rfl,rfl,rfl,rfl,rfl,rfl,rfl,rfl,rfl,rfl,trivial⟩ ⟨rfl,rfl,rfl,rfl,trivial⟩ ?_
        first | refine W.cond_d rfl (fun hc22 => ?_) (fun hc22 => ?_) | refine W.cond_nd rfl (fun hc22 => ?_) (fun hc22 => ?_) | refine W.cond rfl (fun hc22 => ?_) (fun hc22 => ?_)
        ·skip
         obtain rfl : u = true := by simp_all
         refine W.seq (W.seq ?_)
         refine W.draw [⟨[], [], [], []⟩, ⟨[], [], [], [101]⟩, ⟨[101], [], [], []⟩, ⟨[], [], [], []⟩, ⟨[], [], [], []⟩, ⟨[], [], [], [101]⟩, ⟨[101], [], [], []⟩, ⟨[], [], [], []⟩, ⟨[], [], [], []⟩, ⟨[], [], [], [101]⟩, ⟨[101], [], [], []⟩, ⟨[], [], [], [101]⟩, ⟨[101], [], [], []⟩, ⟨[], [], [], []⟩, ⟨[], [], [], []⟩] rfl (by kernel_rfl) (by kernel_rfl) rfl rfl ?_
         refine WH.mv rfl rfl rfl ?_
         refine WH.val (O.fld_ref (o' := 1) rfl Try.underlying55 rfl (m := 0) (by kernel_rfl) rfl rfl Taken.no) rfl rfl ?_
         refine WH.val (O.ld1 (PtI.ref rfl rfl) rfl Try.underlying3 rfl rfl Taken.no) rfl rfl ?_
         refine WH.val (O.idx_fz (i := f) rfl rfl (rfl) (row_get (by omega)) Try.underlying39 hi3 hs3 rfl Taken.no) rfl rfl ?_
         refine WH.val (O.ld1 (PtI.ofU (PtU.fz rfl)) rfl Try.underlying3 rfl rfl Taken.no) rfl rfl ?_
         refine WH.val (O.fld_ref (o' := 1) rfl Try.underlying55 rfl (m := 0) (by kernel_rfl) rfl rfl Taken.no) rfl rfl ?_
         refine WH.val (O.ld1 (PtI.ref rfl rfl) rfl Try.underlying3 rfl rfl Taken.no) rfl rfl ?_
         refine WH.val (O.det (fun _ => G.R.neq rfl rfl) rfl Taken.no) rfl rfl ?_
         refine WH.mv rfl rfl rfl ?_
         refine WH.case (j := 8) (g := 110) (want := false) rfl rfl (fun hg23 => ?_) (fun hg23 => ?_)
         ·skip
          first | have hg23p := G.gA3 hg23 | have hg23p := G.gA4 hg23 | have hg23p := hg23
          refine WH.val (O.fld_ref (o' := 1) rfl Try.underlying55 rfl (m := 0) (by kernel_rfl) rfl rfl (Taken.yes rfl rfl hg23)) rfl rfl ?_
          refine WH.val (O.ld1 (PtI.ref rfl rfl) rfl Try.underlying3 rfl rfl (Taken.yes rfl rfl hg23)) rfl rfl ?_
          refine WH.val (O.fld_ref (o' := 2) rfl Try.underlying55 rfl (m := 0) (by kernel_rfl) rfl rfl (Taken.yes rfl rfl hg23)) rfl rfl ?_
          refine WH.val (O.ld1 (PtI.ref rfl rfl) rfl Try.underlying3 rfl rfl (Taken.yes rfl rfl hg23)) rfl rfl ?_
          refine WH.val (O.det (fun _ => G.R.geq rfl rfl) rfl (Taken.yes rfl rfl hg23)) rfl rfl ?_
          refine WH.val (O.pick_f rfl hg23 rfl rfl Taken.no) rfl rfl ?_
          refine WH.nil (E.to ?_)
          refine W.pick (K:=[(0,_),(1,_),(6,_),(7,_),(8,_),(9,_),(10,_),(11,_),(12,_),(116,_)]) (Z:=[(101,_),(119,_),(120,_),(121,_)]) ⟨rfl,rfl,rfl,rfl,rfl,rfl,rfl,rfl,rfl,rfl,trivial⟩ ⟨rfl,rfl,rfl,rfl,trivial⟩ ?_
          first | refine W.cond_d rfl (fun hc24 => ?_) (fun hc24 => ?_) | refine W.cond_nd rfl (fun hc24 => ?_) (fun hc24 => ?_) | refine W.cond rfl (fun hc24 => ?_) (fun hc24 => ?_)
          ·skip
           refine W.rg (SL.an rfl rfl (SL.an rfl rfl (SL.an rfl rfl (E.fo (W.ret (E.thr (E.thr ?_)))))))
           refine E.nilsl 6 1 rfl ?_
           refine E.fin (rs := [_, _, _]) (rn []) (.inl rfl) rfl (.cons (ResOne.tmp rfl) (.cons (ResOne.tmp rfl) (.cons (ResOne.tmp rfl) .nil))) ?_ ?_ rfl (fixL_spec rfl)
           ·skip
            first | ((have hno : ¬ posF n bar atm m ⟨true, (f : Int), (t : Int)⟩ := fun q => by ((obtain ⟨⟨⟨q1, q2, q3, q4, q5⟩, q6, q7, q8⟩, q9⟩ := posF_iff.1 q); (try simp only [Int.toNat_natCast] at q6 q7 q8); (have q7 := q7 (by trivial); omega))); rw [apN_n hno, apG_n hno, dec_f hno]; rfl)
           · exact SubS.nil
          ·skip
           refine W.skip (E.to (W.region (SL.mv rfl rfl (SL.mv rfl rfl ?_))))
           refine SL.memS (O.app (k' := 122) rfl rfl (SlOf.own rfl rfl) Try.underlying39 hi3 hz3 hs3 rfl rfl (by exact app_map) (by rw [hb3]; (simp only [List.length_map]; omega)) (by (simp only [List.length_map]; omega)) rfl Taken.no) rfl rfl (S' := (122, _) :: (119, .dead) :: _) rfl ?_
           refine SL.val (O.idx_ref (i := 0) (m := 1) rfl rfl (rfl) (by decide) Try.underlying106 (by kernel_rfl) rfl rfl Taken.no) ?_
           refine SL.effS (O.st_ref (m := 1) rfl rfl rfl (js := [_]) rfl rfl (by kernel_rfl) (by simp) (Nat.le_of_ble_eq_true rfl) rfl (is' := [_, _]) rfl Taken.no) (S' := (121, _) :: _) rfl ?_
           refine E.fo (W.seq ?_)
           refine W.freezeC 121 0 122 (is' := [_, _]) rfl rfl rfl rfl ?_
           refine W.nilslC 121 1 1 (is' := [_, _]) rfl rfl rfl ?_
           refine W.region ?_
           obtain ⟨s, hs⟩ : ∃ s : Stp, s = ⟨true, (f : Int), (t : Int)⟩ := ⟨_, rfl⟩
           have hfe : s.f.toNat = f := by rw [hs]; rfl
           have hth : thereL m s.t = unitsL m t := by rw [hs]; exact there_nat m t
           have hg0 : ((unitsL m m[f]!) ++ unitsL m t) = g0L m atm s := by rw [hs]; show _ = unitsL m m[f]! ++ thereL m (t : Int); rw [there_nat]
           have hg1 : ([] : List Nat) = g1L m atm s := by rw [hs]; rfl
           have hpre : preF n atm m s := by rw [hs]; exact ⟨⟨by show (0 : Int) ≤ f; omega, by show (f : Int) < n; omega, by show (t : Int) < (n : Int); omega, by show -1 ≤ (t : Int); omega, fun h => by exfalso; have h2 : (t : Int) < 0 := h; omega⟩, fun h => ⟨by show m[t]! = t; omega, by show m[f]! ≠ t; omega⟩, fun h => ⟨by show m[f]! = f; omega, by show (f : Int) < t; omega⟩, fun h => by cases h⟩
           have hgb := g_b (atm := atm) (s := s) hml
           have hl0 : (partsL lk (g0L m atm s)).length ≤ (g0L m atm s).length := partsN_len
           have hl1 : (partsL lk (g1L m atm s)).length ≤ (g1L m atm s).length := partsN_len
           rw [hg0]
           refine SL.mv rfl rfl ?_
           refine SL.memS (O.call (rn [(0, 123)]) [] rfl rfl rfl (clone_h (rows := m.map eN) (by rw [List.length_map]; omega)) (.cons (ArgOk.same rfl) .nil) SubS.nil rfl rfl rfl rfl rfl (.inl rfl) hcallOk39 (r' := .own 123) rfl rfl Taken.no) rfl rfl (S' := (123, .data _ _ _) :: _) rfl ?_
           refine SL.memS (O.alloc (z := .slice none 0 0) (is := [.u (.sc (.slice none 0 0))]) 124 (by kernel_rfl) rfl rfl rfl Taken.no) rfl rfl (S' := (124, _) :: _) rfl ?_
           refine SL.effS (O.st_ref (m := 1) rfl rfl rfl (js := [_]) rfl rfl (by kernel_rfl) (by simp) (Nat.le_of_ble_eq_true rfl) rfl (is' := [_]) rfl Taken.no) (S' := (124, _) :: _) rfl ?_
           refine E.fo (W.seq (W.rg ?_))
           refine SL.val (O.idx_ref (i := 0) (m := 1) rfl rfl (rfl) (by decide) Try.underlying106 (by kernel_rfl) rfl rfl Taken.no) ?_
           refine SL.val (O.ld1 (PtI.ref rfl rfl) rfl Try.underlying39 rfl rfl Taken.no) ?_
           refine SL.val (O.lenE (SlOf.fz rfl (by decide)) (by first | exact List.length_map _ | rfl) Try.underlying39 rfl Taken.no) ?_
           refine SL.mv rfl rfl (E.fo (W.block ?_))
           refine W.loopx1 (fun (j : Nat) => [(173, vI (j : Int))]) (fun (j : Nat) => [(125, .data 3 1 ((setAll (m.map (fun x : Nat => (x : Int))) ((g0L m atm s).take j) (-1)).map eI)), (124, .cells 39 [.own 125])]) (fun (j : Nat) => j ≤ (g0L m atm s).length) (fun (j : Nat) => (g0L m atm s).length - j) (0) (rn [(125, 123)]) (.cons (t := 0) rfl (.cons (t := 6) rfl (.cons (t := 7) rfl (.cons (t := 8) rfl (.cons (t := 11) rfl (.cons (t := 12) rfl (.cons (t := 16) rfl (.cons (t := 171) rfl (.cons (t := 172) rfl .nil))))))))) (.cons (t := 101) rfl (.cons (t := 120) rfl (.cons (t := 121) rfl .nil))) rfl ?_ ?_ rfl rfl ?_ ?_
           · exact (SubF.cons rfl SubF.nil)
           · exact (SubS.val rfl (by exact sb_data (by rw [List.take_zero]; exact (eI_eN m).symm)) (SubS.cons rfl SubS.nil))
           ·skip
            omega
           intro j hinv
           have hj := hinv
           have hnl : (setAll (m.map (fun x : Nat => (x : Int))) ((g0L m atm s).take j) (-1)).length = n := by rw [setAll_len, List.length_map]; exact hml
           refine W.rg ?_
           refine SL.val (O.det (fun _ => G.R.lss rfl rfl) rfl Taken.no) ?_
           refine E.fo (W.seq ?_)
           first | refine W.cond_d rfl (fun hc25 => ?_) (fun hc25 => ?_) | refine W.cond_nd rfl (fun hc25 => ?_) (fun hc25 => ?_) | refine W.cond rfl (fun hc25 => ?_) (fun hc25 => ?_)
           ·skip
            have hGj := hgb.2.1 (g0L m atm s)[j]! (mem_at (by omega))
            refine W.skip (E.to (W.seq (W.block (W.rg ?_))))
            refine SL.val (O.idx_fz (i := j) rfl rfl (rfl) (row_get (by omega)) Try.underlying39 hi3 hs3 rfl Taken.no) ?_
            refine SL.val (O.ld1 (PtI.ofU (PtU.fz rfl)) rfl Try.underlying3 rfl rfl Taken.no) ?_
            refine SL.an rfl rfl (E.fo (W.region ?_))
            refine SL.val (O.ld1 (PtI.ref rfl rfl) rfl Try.underlying39 rfl rfl Taken.no) ?_
            refine SL.mv rfl rfl ?_
            refine SL.val (O.idx_own (i := ((g0L m atm s)[j]!)) rfl rfl rfl (rfl) (by rw [List.length_map]; omega) Try.underlying39 hi3 hs3 rfl Taken.no) ?_
            refine SL.effS (O.st_els (m := 1) rfl rfl rfl (us := [_]) rfl rfl (by kernel_rfl) (by simp) (row_get (by omega)) (by exact Nat.le_of_ble_eq_true rfl) rfl rfl (rows' := ((setAll (m.map (fun x : Nat => (x : Int))) ((g0L m atm s).take j) (-1)).set ((g0L m atm s)[j]!) (-1)).map eI) (by exact set_map rfl) Taken.no) (S' := (125, _) :: _) rfl ?_
            refine SL.nil (E.inn (E.to (W.region ?_)))
            refine SL.val (O.det (fun _ => by first | exact G.R.add64 rfl rfl (by omega) | exact G.R.add rfl rfl) rfl Taken.no) ?_
            refine SL.mv rfl rfl (SL.nil ?_)
            refine E.again ((j + 1)) (rn []) ?_ ?_ rfl (fixL_spec rfl) ?_ ?_
            · exact (SubF.cons rfl (SubF.cons rfl (SubF.cons rfl (SubF.cons rfl (SubF.cons rfl (SubF.cons rfl (SubF.cons rfl (SubF.cons rfl (SubF.cons rfl (SubF.cons rfl SubF.nil))))))))))
            · exact (SubS.val rfl (by (try dsimp only); exact sb_data (by rw [setAll_sG (by omega)])) (SubS.cons rfl (SubS.cons rfl (SubS.cons rfl (SubS.cons rfl SubS.nil)))))
            ·try dsimp only
             omega
            · (try dsimp only); omega
           ·skip
            refine W.exit (E.th (E.th (E.hit (E.to (W.seq (W.seq ?_))))))
            have hjG : j = (g0L m atm s).length := by omega
            rw [hjG, List.take_length]
            refine W.region (SL.mv rfl rfl ?_)
            refine SL.val (O.nilCheck rfl rfl rfl Taken.no) ?_
            refine SL.val (O.fld_fz rfl Try.underlying78 rfl (m := 0) (by kernel_rfl) rfl rfl Taken.no) ?_
            refine SL.val (O.ld1 (PtI.ofU (PtU.fz rfl)) rfl Try.underlying23 rfl rfl Taken.no) ?_
            refine SL.val (O.makeFunc rfl rfl rfl Taken.no) ?_
            refine SL.memS (O.call (rn [(0, 124), (1, 125)]) [] rfl rfl rfl (containsFuncN (nm := (nm0 m atm s)) (q := bar) (by rw [nm0_len, hml]; exact hb)) (.cons (ArgOk.same rfl) (.cons (ArgOk.same rfl) .nil)) (SubS.cons rfl (SubS.cons rfl SubS.nil)) rfl rfl rfl rfl rfl (.inl rfl) hcallOk63 (r' := .u _) rfl rfl Taken.no) rfl rfl (S' := (124, .cells _ [.own 125]) :: (125, .data _ _ _) :: _) rfl ?_
            refine E.fo ?_
            first | refine W.cond_d rfl (fun hc26 => ?_) (fun hc26 => ?_) | refine W.cond_nd rfl (fun hc26 => ?_) (fun hc26 => ?_) | refine W.cond rfl (fun hc26 => ?_) (fun hc26 => ?_)
            ·skip
             refine W.rg (SL.an rfl rfl (SL.an rfl rfl (SL.an rfl rfl (E.fo (W.ret (E.thr ?_))))))
             refine E.nilsl 6 1 rfl ?_
             refine E.fin (rs := [_, _, _]) (rn []) (.inl rfl) rfl (.cons (ResOne.tmp rfl) (.cons (ResOne.tmp rfl) (.cons (ResOne.tmp rfl) .nil))) ?_ ?_ rfl (fixL_spec rfl)
             ·skip
              have hcl : bar.any (nmHit (nm0 m atm s)) = true := by assumption
              have hno : ¬ posF n bar atm m s := fun q => by rw [hit_eq hml hb, q.2] at hcl; cases hcl
              rw [← hs, apN_n hno, apG_n hno, dec_f hno]; rfl
             · exact SubS.nil
            ·skip
             refine W.skip (E.to (W.rg (SL.an rfl rfl (E.fo (W.seq (W.rg ?_))))))
             have hcl : bar.any (nmHit (nm0 m atm s)) = false := by first | assumption | simp_all
             have hL : ∀ p ∈ gL lk m atm s, p.length ≤ 1000 := fun p hp => by rcases List.mem_append.1 hp with z | z <;> (have := (partsN_units z).2.1; omega)
             refine SL.val (O.ldN (m := 2) (PtI.ref rfl rfl) (js := [_, _]) rfl (Nat.le_of_ble_eq_true rfl) Try.underlying106 rfl (by kernel_rfl) rfl Taken.no) ?_
             refine SL.mv rfl rfl (E.fo (W.block ?_))
             refine W.unroll ?_
             refine W.rg ?_
             refine SL.val (O.det (fun _ => G.R.mv (G.R.lss rfl rfl) (congrArg Value.bool (decide_eq_true (by decide)))) rfl Taken.no) ?_
             refine E.fo (W.seq ?_)
             refine W.cond_t rfl ?_
             refine W.skip (E.to (W.seq (W.block (W.rg ?_))))
             refine SL.val (O.idxval (i := 0) rfl rfl (by rfl) (by decide) (by rfl) Try.underlying106 (by kernel_rfl) Try.underlying39 rfl rfl Taken.no) ?_
             refine SL.an rfl rfl (E.fo (W.rg (SL.mv rfl rfl (SL.mv rfl rfl ?_))))
             refine SL.val (O.nilCheck rfl rfl rfl Taken.no) ?_
             refine SL.val (O.fld_fz rfl Try.underlying78 rfl (m := 0) (by kernel_rfl) rfl rfl Taken.no) ?_
             refine SL.val (O.ld1 (PtI.ofU (PtU.fz rfl)) rfl Try.underlying76 rfl rfl Taken.no) ?_
             refine SL.val (O.callp rfl rfl rfl (parts_h (n := n) (us := (g0L m atm s)) (by omega) hgb.2.1) (.cons (ArgOk.same rfl) (.cons (ArgOk.same rfl) .nil)) hcallOk42 rfl Taken.no) ?_
             refine SL.val (O.lenE (SlOf.fz rfl (by decide)) (by first | exact List.length_map _ | rfl) Try.underlying75 rfl Taken.no) ?_
             refine SL.mv rfl rfl (E.fo ?_)
             refine W.pick (K:=[(0,_),(6,_),(7,_),(8,_),(11,_),(16,_),(19,_),(21,_),(187,_),(188,_),(189,_),(190,_),(191,_),(192,_),(193,_),(194,_),(195,_),(196,_),(197,_),(198,_)]) (Z:=[(101,_),(120,_),(121,_),(124,_),(125,_)]) ⟨rfl,rfl,rfl,rfl,rfl,rfl,rfl,rfl,rfl,rfl,rfl,rfl,rfl,rfl,rfl,rfl,rfl,rfl,rfl,rfl,trivial⟩ ⟨rfl,rfl,rfl,rfl,rfl,trivial⟩ ?_
             refine W.block ?_
             refine W.loopx1 (fun (p : Nat) => [(198, vI (p : Int)), (19, vI (sumV wt ((partsL lk (g0L m atm s)).take p)))]) (fun (p : Nat) => [(126, .data 3 1 ((nameF (fun x : Nat => (x : Int)) (nm0 m atm s) ((partsL lk (g0L m atm s)).take p)).map eI)), (124, .cells 39 [.own 126])]) (fun (p : Nat) => p ≤ (partsL lk (g0L m atm s)).length) (fun (p : Nat) => (partsL lk (g0L m atm s)).length - p) (0) (rn [(126, 125)]) (.cons (t := 0) rfl (.cons (t := 6) rfl (.cons (t := 7) rfl (.cons (t := 8) rfl (.cons (t := 11) rfl (.cons (t := 16) rfl (.cons (t := 21) rfl (.cons (t := 187) rfl (.cons (t := 188) rfl (.cons (t := 189) rfl (.cons (t := 190) rfl (.cons (t := 191) rfl (.cons (t := 192) rfl (.cons (t := 193) rfl (.cons (t := 194) rfl (.cons (t := 195) rfl (.cons (t := 196) rfl (.cons (t := 197) rfl .nil)))))))))))))))))) (.cons (t := 101) rfl (.cons (t := 120) rfl (.cons (t := 121) rfl .nil))) rfl ?_ ?_ rfl rfl ?_ ?_
             · exact (SubF.cons rfl (SubF.val rfl (by exact iv_int rfl) SubF.nil))
             · exact (SubS.val rfl (by exact sb_data (by rw [List.take_zero]; rfl)) (SubS.cons rfl SubS.nil))
             ·skip
              omega
             intro p hinv
             have hp := hinv
             have hpl : ((partsL lk (g0L m atm s)).take p).length ≤ 400 := by (try rw [List.length_append]); rw [List.length_take]; omega
             have hvb := sumV_b2 hw (L := ((partsL lk (g0L m atm s)).take p)) (fun p hp => hL p (List.mem_append_left _ (List.mem_of_mem_take hp)))
             refine W.rg ?_
             refine SL.val (O.det (fun _ => G.R.lss rfl rfl) rfl Taken.no) ?_
             refine E.fo (W.seq ?_)
             first | refine W.cond_d rfl (fun hc27 => ?_) (fun hc27 => ?_) | refine W.cond_nd rfl (fun hc27 => ?_) (fun hc27 => ?_) | refine W.cond rfl (fun hc27 => ?_) (fun hc27 => ?_)
             ·skip
              have hpu := partsN_units (mem_at (l := (partsL lk (g0L m atm s))) (i := p) (by omega))
              have hvp := valF_b hw (l := ((partsL lk (g0L m atm s))[p]!)) (by omega)
              refine W.skip (E.to (W.seq (W.block (W.rg ?_))))
              refine SL.val (O.idx_fz (i := p) rfl rfl (rfl) (row_get (by omega)) Try.underlying75 hi39 hs39 rfl Taken.no) ?_
              refine SL.val (O.ld1 (PtI.ofU (PtU.fz rfl)) rfl Try.underlying39 rfl rfl Taken.no) ?_
              refine SL.an rfl rfl (E.fo (W.rg (SL.mv rfl rfl (SL.mv rfl rfl (SL.mv rfl rfl ?_)))))
              refine SL.val (O.callp rfl rfl rfl (value_h (l := ((partsL lk (g0L m atm s))[p]!)) hw (by omega) (fun u hu => hgb.2.1 u (hpu.2.2 u hu))) (.cons (ArgOk.same rfl) (.cons (ArgOk.same rfl) .nil)) hcallOk45 rfl Taken.no) ?_
              refine SL.val (O.det (fun _ => by first | exact G.R.add64 rfl rfl (by omega) | exact G.R.add rfl rfl) rfl Taken.no) ?_
              refine SL.an rfl rfl (E.fo ?_)
              refine W.pick (K:=[(0,_),(6,_),(7,_),(8,_),(11,_),(16,_),(19,_),(21,_),(23,_),(187,_),(188,_),(189,_),(190,_),(191,_),(192,_),(193,_),(194,_),(195,_),(196,_),(197,_),(198,_),(199,_),(200,_),(201,_),(202,_),(203,_),(204,_),(205,_),(206,_)]) (Z:=[(101,_),(120,_),(121,_),(124,_),(126,_)]) ⟨rfl,rfl,rfl,rfl,rfl,rfl,rfl,rfl,rfl,rfl,rfl,rfl,rfl,rfl,rfl,rfl,rfl,rfl,rfl,rfl,rfl,rfl,rfl,rfl,rfl,rfl,rfl,rfl,rfl,trivial⟩ ⟨rfl,rfl,rfl,rfl,rfl,trivial⟩ ?_
              refine W.rg (SL.mv rfl rfl ?_)
              refine SL.val (O.lenE (SlOf.fz rfl (by decide)) (by first | exact List.length_map _ | rfl) Try.underlying39 rfl Taken.no) ?_
              refine SL.mv rfl rfl (E.fo ?_)
              refine W.pick (K:=[(0,_),(6,_),(7,_),(8,_),(11,_),(16,_),(19,_),(21,_),(23,_),(187,_),(188,_),(189,_),(190,_),(191,_),(192,_),(193,_),(194,_),(195,_),(196,_),(197,_),(198,_),(199,_),(200,_),(201,_),(202,_),(203,_),(204,_),(205,_),(206,_),(207,_),(208,_),(209,_)]) (Z:=[(101,_),(120,_),(121,_),(124,_),(126,_)]) ⟨rfl,rfl,rfl,rfl,rfl,rfl,rfl,rfl,rfl,rfl,rfl,rfl,rfl,rfl,rfl,rfl,rfl,rfl,rfl,rfl,rfl,rfl,rfl,rfl,rfl,rfl,rfl,rfl,rfl,rfl,rfl,rfl,trivial⟩ ⟨rfl,rfl,rfl,rfl,rfl,trivial⟩ ?_
              refine W.block ?_
              refine W.loopx1 (fun (j : Nat) => [(209, vI (j : Int))]) (fun (j : Nat) => [(127, .data 3 1 ((setAll (nameF (fun x : Nat => (x : Int)) (nm0 m atm s) ((partsL lk (g0L m atm s)).take p)) (((partsL lk (g0L m atm s))[p]!).take j) ((minL ((partsL lk (g0L m atm s))[p]!) : Nat) : Int)).map eI)), (124, .cells 39 [.own 127])]) (fun (j : Nat) => j ≤ ((partsL lk (g0L m atm s))[p]!).length) (fun (j : Nat) => ((partsL lk (g0L m atm s))[p]!).length - j) (0) (rn [(127, 126)]) (.cons (t := 0) rfl (.cons (t := 6) rfl (.cons (t := 7) rfl (.cons (t := 8) rfl (.cons (t := 11) rfl (.cons (t := 16) rfl (.cons (t := 19) rfl (.cons (t := 21) rfl (.cons (t := 23) rfl (.cons (t := 187) rfl (.cons (t := 188) rfl (.cons (t := 189) rfl (.cons (t := 190) rfl (.cons (t := 191) rfl (.cons (t := 192) rfl (.cons (t := 193) rfl (.cons (t := 194) rfl (.cons (t := 195) rfl (.cons (t := 196) rfl (.cons (t := 197) rfl (.cons (t := 198) rfl (.cons (t := 199) rfl (.cons (t := 200) rfl (.cons (t := 201) rfl (.cons (t := 202) rfl (.cons (t := 203) rfl (.cons (t := 204) rfl (.cons (t := 205) rfl (.cons (t := 206) rfl (.cons (t := 207) rfl (.cons (t := 208) rfl .nil))))))))))))))))))))))))))))))) (.cons (t := 101) rfl (.cons (t := 120) rfl (.cons (t := 121) rfl .nil))) rfl ?_ ?_ rfl rfl ?_ ?_
              · exact (SubF.cons rfl SubF.nil)
              · exact (SubS.val rfl (by exact sb_data (by rw [List.take_zero]; rfl)) (SubS.cons rfl SubS.nil))
              ·skip
               omega
              intro j hinv
              have hj := hinv
              have hnl : (setAll (nameF (fun x : Nat => (x : Int)) (nm0 m atm s) ((partsL lk (g0L m atm s)).take p)) (((partsL lk (g0L m atm s))[p]!).take j) ((minL ((partsL lk (g0L m atm s))[p]!) : Nat) : Int)).length = n := by rw [setAll_len, nameF_len, nm0_len]; exact hml
              refine W.rg ?_
              refine SL.val (O.det (fun _ => G.R.lss rfl rfl) rfl Taken.no) ?_
              refine E.fo ?_
              refine W.pick (K:=[(0,_),(6,_),(7,_),(8,_),(11,_),(16,_),(19,_),(21,_),(23,_),(187,_),(188,_),(189,_),(190,_),(191,_),(192,_),(193,_),(194,_),(195,_),(196,_),(197,_),(198,_),(199,_),(200,_),(201,_),(202,_),(203,_),(204,_),(205,_),(206,_),(207,_),(208,_),(209,_),(210,_)]) (Z:=[(101,_),(120,_),(121,_),(124,_),(127,_)]) ⟨rfl,rfl,rfl,rfl,rfl,rfl,rfl,rfl,rfl,rfl,rfl,rfl,rfl,rfl,rfl,rfl,rfl,rfl,rfl,rfl,rfl,rfl,rfl,rfl,rfl,rfl,rfl,rfl,rfl,rfl,rfl,rfl,rfl,trivial⟩ ⟨rfl,rfl,rfl,rfl,rfl,trivial⟩ ?_
              refine W.seq ?_
              first | refine W.cond_d rfl (fun hc28 => ?_) (fun hc28 => ?_) | refine W.cond_nd rfl (fun hc28 => ?_) (fun hc28 => ?_) | refine W.cond rfl (fun hc28 => ?_) (fun hc28 => ?_)
              ·skip
               have hun := hgb.2.1 _ (hpu.2.2 ((partsL lk (g0L m atm s))[p]!)[j]! (mem_at (by omega)))
               refine W.skip (E.to ?_)
               refine W.pick (K:=[(0,_),(6,_),(7,_),(8,_),(11,_),(16,_),(19,_),(21,_),(23,_),(187,_),(188,_),(189,_),(190,_),(191,_),(192,_),(193,_),(194,_),(195,_),(196,_),(197,_),(198,_),(199,_),(200,_),(201,_),(202,_),(203,_),(204,_),(205,_),(206,_),(207,_),(208,_),(209,_),(210,_)]) (Z:=[(101,_),(120,_),(121,_),(124,_),(127,_)]) ⟨rfl,rfl,rfl,rfl,rfl,rfl,rfl,rfl,rfl,rfl,rfl,rfl,rfl,rfl,rfl,rfl,rfl,rfl,rfl,rfl,rfl,rfl,rfl,rfl,rfl,rfl,rfl,rfl,rfl,rfl,rfl,rfl,rfl,trivial⟩ ⟨rfl,rfl,rfl,rfl,rfl,trivial⟩ ?_
               refine W.seq (W.block (W.rg ?_))
               refine SL.val (O.idx_fz (i := j) rfl rfl (rfl) (row_get (by omega)) Try.underlying39 hi3 hs3 rfl Taken.no) ?_
               refine SL.val (O.ld1 (PtI.ofU (PtU.fz rfl)) rfl Try.underlying3 rfl rfl Taken.no) ?_
               refine SL.an rfl rfl (E.fo ?_)
               refine W.pick (K:=[(0,_),(6,_),(7,_),(8,_),(11,_),(16,_),(19,_),(21,_),(23,_),(25,_),(187,_),(188,_),(189,_),(190,_),(191,_),(192,_),(193,_),(194,_),(195,_),(196,_),(197,_),(198,_),(199,_),(200,_),(201,_),(202,_),(203,_),(204,_),(205,_),(206,_),(207,_),(208,_),(209,_),(210,_),(211,_),(212,_)]) (Z:=[(101,_),(120,_),(121,_),(124,_),(127,_)]) ⟨rfl,rfl,rfl,rfl,rfl,rfl,rfl,rfl,rfl,rfl,rfl,rfl,rfl,rfl,rfl,rfl,rfl,rfl,rfl,rfl,rfl,rfl,rfl,rfl,rfl,rfl,rfl,rfl,rfl,rfl,rfl,rfl,rfl,rfl,rfl,rfl,trivial⟩ ⟨rfl,rfl,rfl,rfl,rfl,trivial⟩ ?_
               refine W.draw [⟨[124], [], [], [127]⟩, ⟨[], [], [], []⟩, ⟨[], [], [], []⟩, ⟨[], [], [], []⟩, ⟨[127], [], [], []⟩, ⟨[127], [127], [], []⟩] rfl (by kernel_rfl) (by kernel_rfl) rfl rfl ?_
               refine WH.val (O.ld1 (PtI.ref rfl rfl) rfl Try.underlying39 rfl rfl Taken.no) rfl rfl ?_
               refine WH.mv rfl rfl rfl (WH.mv rfl rfl rfl ?_)
               refine WH.val (O.callp rfl rfl rfl (min_h (l := ((partsL lk (g0L m atm s))[p]!)) (by omega)) (.cons (ArgOk.same rfl) .nil) hcallOk62 rfl Taken.no) rfl rfl ?_
               refine WH.val (O.idx_own (i := (((partsL lk (g0L m atm s))[p]!)[j]!)) rfl rfl rfl (rfl) (by rw [List.length_map]; omega) Try.underlying39 hi3 hs3 rfl Taken.no) rfl rfl ?_
               refine WH.effS (O.st_els (m := 1) rfl rfl rfl (us := [_]) rfl rfl (by kernel_rfl) (by simp) (row_get (by omega)) (by exact Nat.le_of_ble_eq_true rfl) rfl rfl (rows' := ((setAll (nameF (fun x : Nat => (x : Int)) (nm0 m atm s) ((partsL lk (g0L m atm s)).take p)) (((partsL lk (g0L m atm s))[p]!).take j) ((minL ((partsL lk (g0L m atm s))[p]!) : Nat) : Int)).set (((partsL lk (g0L m atm s))[p]!)[j]!) ((minL ((partsL lk (g0L m atm s))[p]!) : Nat) : Int)).map eI) (by exact set_map rfl) Taken.no) rfl rfl rfl (S' := (127, _) :: _) rfl ?_
               refine WH.nil (E.inn (E.to ?_))
               refine W.pick (K:=[(0,_),(6,_),(7,_),(8,_),(11,_),(16,_),(19,_),(21,_),(23,_),(25,_),(187,_),(188,_),(189,_),(190,_),(191,_),(192,_),(193,_),(194,_),(195,_),(196,_),(197,_),(198,_),(199,_),(200,_),(201,_),(202,_),(203,_),(204,_),(205,_),(206,_),(207,_),(208,_),(209,_),(210,_),(211,_),(212,_),(213,_),(214,_),(215,_),(216,_),(217,_)]) (Z:=[(101,_),(120,_),(121,_),(124,_),(127,_)]) ⟨rfl,rfl,rfl,rfl,rfl,rfl,rfl,rfl,rfl,rfl,rfl,rfl,rfl,rfl,rfl,rfl,rfl,rfl,rfl,rfl,rfl,rfl,rfl,rfl,rfl,rfl,rfl,rfl,rfl,rfl,rfl,rfl,rfl,rfl,rfl,rfl,rfl,rfl,rfl,rfl,rfl,trivial⟩ ⟨rfl,rfl,rfl,rfl,rfl,trivial⟩ ?_
               refine W.region ?_
               refine SL.val (O.det (fun _ => by first | exact G.R.add64 rfl rfl (by omega) | exact G.R.add rfl rfl) rfl Taken.no) ?_
               refine SL.mv rfl rfl (SL.nil ?_)
               refine E.again ((j + 1)) (rn []) ?_ ?_ rfl (fixL_spec rfl) ?_ ?_
               · exact (SubF.cons rfl (SubF.cons rfl (SubF.cons rfl (SubF.cons rfl (SubF.cons rfl (SubF.cons rfl (SubF.cons rfl (SubF.cons rfl (SubF.cons rfl (SubF.cons rfl (SubF.cons rfl (SubF.cons rfl (SubF.cons rfl (SubF.cons rfl (SubF.cons rfl (SubF.cons rfl (SubF.cons rfl (SubF.cons rfl (SubF.cons rfl (SubF.cons rfl (SubF.cons rfl (SubF.cons rfl (SubF.cons rfl (SubF.cons rfl (SubF.cons rfl (SubF.cons rfl (SubF.cons rfl (SubF.cons rfl (SubF.cons rfl (SubF.cons rfl (SubF.cons rfl (SubF.cons rfl SubF.nil))))))))))))))))))))))))))))))))
               · exact (SubS.val rfl (by (try dsimp only); exact sb_data (by rw [setAll_sG (by omega)])) (SubS.cons rfl (SubS.cons rfl (SubS.cons rfl (SubS.cons rfl SubS.nil)))))
               ·try dsimp only
                omega
               · (try dsimp only); omega
              ·skip
               refine W.exit (E.th (E.th (E.hit (E.inn (E.to ?_)))))
               refine W.pick (K:=[(0,_),(6,_),(7,_),(8,_),(11,_),(16,_),(19,_),(21,_),(23,_),(187,_),(188,_),(189,_),(190,_),(191,_),(192,_),(193,_),(194,_),(195,_),(196,_),(197,_),(198,_),(199,_),(200,_),(201,_),(202,_),(203,_),(204,_),(205,_),(206,_),(207,_),(208,_),(209,_),(210,_)]) (Z:=[(101,_),(120,_),(121,_),(124,_),(127,_)]) ⟨rfl,rfl,rfl,rfl,rfl,rfl,rfl,rfl,rfl,rfl,rfl,rfl,rfl,rfl,rfl,rfl,rfl,rfl,rfl,rfl,rfl,rfl,rfl,rfl,rfl,rfl,rfl,rfl,rfl,rfl,rfl,rfl,rfl,trivial⟩ ⟨rfl,rfl,rfl,rfl,rfl,trivial⟩ ?_
               refine W.region ?_
               refine SL.val (O.det (fun _ => by first | exact G.R.add64 rfl rfl (by omega) | exact G.R.add rfl rfl) rfl Taken.no) ?_
               refine SL.mv rfl rfl (SL.nil ?_)
               refine E.again ((p + 1)) (rn [(126, 127)]) ?_ ?_ rfl (fixL_spec rfl) ?_ ?_
               · exact (SubF.cons rfl (SubF.val rfl (by (try dsimp only); exact iv_int (by rw [snocP (l := (partsL lk (g0L m atm s))) (by omega), sumV_snoc])) (SubF.cons rfl (SubF.cons rfl (SubF.cons rfl (SubF.cons rfl (SubF.cons rfl (SubF.cons rfl (SubF.cons rfl (SubF.cons rfl (SubF.cons rfl (SubF.cons rfl (SubF.cons rfl (SubF.cons rfl (SubF.cons rfl (SubF.cons rfl (SubF.cons rfl (SubF.cons rfl (SubF.cons rfl (SubF.cons rfl SubF.nil))))))))))))))))))))
               · exact (SubS.val rfl (by (try dsimp only); exact sb_data (by rw [snocP (l := (partsL lk (g0L m atm s))) (by omega), nameF_snoc, show j = ((partsL lk (g0L m atm s))[p]!).length by omega, List.take_length])) (SubS.cons rfl (SubS.cons rfl (SubS.cons rfl (SubS.cons rfl SubS.nil)))))
               ·try dsimp only
                omega
               · (try dsimp only); omega
             ·skip
              refine W.exit (E.th (E.th (E.hit (E.inn (E.to (W.region ?_))))))
              refine SL.val (O.det (fun _ => by first | exact G.R.add64 rfl rfl (by omega) | exact G.R.add rfl rfl) rfl Taken.no) ?_
              refine SL.mv rfl rfl (SL.nil ?_)
              refine E.reround ?_
              refine W.pick (K:=[(0,_),(6,_),(7,_),(8,_),(11,_),(16,_),(19,_),(21,_),(187,_),(188,_),(189,_),(190,_),(191,_),(192,_),(193,_),(194,_),(195,_),(196,_),(197,_),(198,_),(199,_),(220,_)]) (Z:=[(101,_),(120,_),(121,_),(124,_),(126,_)]) ⟨rfl,rfl,rfl,rfl,rfl,rfl,rfl,rfl,rfl,rfl,rfl,rfl,rfl,rfl,rfl,rfl,rfl,rfl,rfl,rfl,rfl,rfl,trivial⟩ ⟨rfl,rfl,rfl,rfl,rfl,trivial⟩ ?_
              refine W.rg ?_
              refine SL.val (O.det (fun _ => G.R.mv (G.R.lss rfl rfl) (congrArg Value.bool (decide_eq_true (by decide)))) rfl Taken.no) ?_
              refine E.fo (W.seq ?_)
              refine W.cond_t rfl ?_
              refine W.skip (E.to (W.seq (W.block (W.rg ?_))))
              refine SL.val (O.idxval (i := 1) rfl rfl (by rfl) (by decide) (by rfl) Try.underlying106 (by kernel_rfl) Try.underlying39 rfl rfl Taken.no) ?_
              refine SL.an rfl rfl ?_
              refine SL.as (i' := vL 1 ((g1L m atm s).map eN)) 21 rfl (by (rw [← hg1]; try rfl)) ?_
              refine E.fo ?_
              refine W.pick (K:=[(0,_),(6,_),(7,_),(8,_),(11,_),(16,_),(19,_),(21,_),(187,_),(188,_),(189,_),(190,_),(191,_),(192,_),(193,_),(194,_),(195,_),(196,_),(197,_),(198,_),(199,_),(220,_)]) (Z:=[(101,_),(120,_),(121,_),(124,_),(126,_)]) ⟨rfl,rfl,rfl,rfl,rfl,rfl,rfl,rfl,rfl,rfl,rfl,rfl,rfl,rfl,rfl,rfl,rfl,rfl,rfl,rfl,rfl,rfl,trivial⟩ ⟨rfl,rfl,rfl,rfl,rfl,trivial⟩ ?_
              refine W.rg (SL.mv rfl rfl (SL.mv rfl rfl ?_))
              refine SL.val (O.nilCheck rfl rfl rfl Taken.no) ?_
              refine SL.val (O.fld_fz rfl Try.underlying78 rfl (m := 0) (by kernel_rfl) rfl rfl Taken.no) ?_
              refine SL.val (O.ld1 (PtI.ofU (PtU.fz rfl)) rfl Try.underlying76 rfl rfl Taken.no) ?_
              refine SL.val (O.callp rfl rfl rfl (parts_h (n := n) (us := (g1L m atm s)) (by omega) hgb.2.2) (.cons (ArgOk.same rfl) (.cons (ArgOk.same rfl) .nil)) hcallOk42 rfl Taken.no) ?_
              refine SL.val (O.lenE (SlOf.fz rfl (by decide)) (by first | exact List.length_map _ | rfl) Try.underlying75 rfl Taken.no) ?_
              refine SL.mv rfl rfl (E.fo ?_)
              refine W.pick (K:=[(0,_),(6,_),(7,_),(8,_),(11,_),(16,_),(19,_),(21,_),(187,_),(188,_),(189,_),(190,_),(191,_),(192,_),(193,_),(194,_),(195,_),(196,_),(197,_),(198,_),(199,_),(220,_)]) (Z:=[(101,_),(120,_),(121,_),(124,_),(126,_)]) ⟨rfl,rfl,rfl,rfl,rfl,rfl,rfl,rfl,rfl,rfl,rfl,rfl,rfl,rfl,rfl,rfl,rfl,rfl,rfl,rfl,rfl,rfl,trivial⟩ ⟨rfl,rfl,rfl,rfl,rfl,trivial⟩ ?_
              refine W.block ?_
              refine W.loopx1 (fun (q : Nat) => [(198, vI (q : Int)), (19, vI (sumV wt ((partsL lk (g0L m atm s)) ++ (partsL lk (g1L m atm s)).take q)))]) (fun (q : Nat) => [(128, .data 3 1 ((nameF (fun x : Nat => (x : Int)) (nm0 m atm s) ((partsL lk (g0L m atm s)) ++ (partsL lk (g1L m atm s)).take q)).map eI)), (124, .cells 39 [.own 128])]) (fun (q : Nat) => q ≤ (partsL lk (g1L m atm s)).length) (fun (q : Nat) => (partsL lk (g1L m atm s)).length - q) (0) (rn [(128, 126)]) (.cons (t := 0) rfl (.cons (t := 6) rfl (.cons (t := 7) rfl (.cons (t := 8) rfl (.cons (t := 11) rfl (.cons (t := 16) rfl (.cons (t := 21) rfl (.cons (t := 187) rfl (.cons (t := 188) rfl (.cons (t := 189) rfl (.cons (t := 190) rfl (.cons (t := 191) rfl (.cons (t := 192) rfl (.cons (t := 193) rfl (.cons (t := 194) rfl (.cons (t := 195) rfl (.cons (t := 196) rfl (.cons (t := 197) rfl (.cons (t := 220) rfl .nil))))))))))))))))))) (.cons (t := 101) rfl (.cons (t := 120) rfl (.cons (t := 121) rfl .nil))) rfl ?_ ?_ rfl rfl ?_ ?_
              · exact (SubF.cons rfl (SubF.val rfl (by exact iv_int (by rw [List.take_zero, List.append_nil, show p = (partsL lk (g0L m atm s)).length by omega, List.take_length])) SubF.nil))
              · exact (SubS.val rfl (by exact sb_data (by rw [List.take_zero, List.append_nil, show p = (partsL lk (g0L m atm s)).length by omega, List.take_length])) (SubS.cons rfl SubS.nil))
              ·skip
               omega
              intro q hinv
              have hq := hinv
              have hpl : ((partsL lk (g0L m atm s)) ++ (partsL lk (g1L m atm s)).take q).length ≤ 400 := by (try rw [List.length_append]); rw [List.length_take]; omega
              have hvb := sumV_b2 hw (L := ((partsL lk (g0L m atm s)) ++ (partsL lk (g1L m atm s)).take q)) (fun p hp => hL p ((List.mem_append.1 hp).elim (fun z => List.mem_append_left _ z) fun z => List.mem_append_right _ (List.mem_of_mem_take z)))
              refine W.rg ?_
              refine SL.val (O.det (fun _ => G.R.lss rfl rfl) rfl Taken.no) ?_
              refine E.fo (W.seq ?_)
              first | refine W.cond_d rfl (fun hc29 => ?_) (fun hc29 => ?_) | refine W.cond_nd rfl (fun hc29 => ?_) (fun hc29 => ?_) | refine W.cond rfl (fun hc29 => ?_) (fun hc29 => ?_)
              ·skip
               have hpu := partsN_units (mem_at (l := (partsL lk (g1L m atm s))) (i := q) (by omega))
               have hvp := valF_b hw (l := ((partsL lk (g1L m atm s))[q]!)) (by omega)
               refine W.skip (E.to (W.seq (W.block (W.rg ?_))))
               refine SL.val (O.idx_fz (i := q) rfl rfl (rfl) (row_get (by omega)) Try.underlying75 hi39 hs39 rfl Taken.no) ?_
               refine SL.val (O.ld1 (PtI.ofU (PtU.fz rfl)) rfl Try.underlying39 rfl rfl Taken.no) ?_
               refine SL.an rfl rfl (E.fo ?_)
               refine W.pick (K:=[(0,_),(6,_),(7,_),(8,_),(11,_),(16,_),(19,_),(21,_),(23,_),(187,_),(188,_),(189,_),(190,_),(191,_),(192,_),(193,_),(194,_),(195,_),(196,_),(197,_),(198,_),(199,_),(200,_),(201,_),(220,_)]) (Z:=[(101,_),(120,_),(121,_),(124,_),(128,_)]) ⟨rfl,rfl,rfl,rfl,rfl,rfl,rfl,rfl,rfl,rfl,rfl,rfl,rfl,rfl,rfl,rfl,rfl,rfl,rfl,rfl,rfl,rfl,rfl,rfl,rfl,trivial⟩ ⟨rfl,rfl,rfl,rfl,rfl,trivial⟩ ?_
               refine W.rg (SL.mv rfl rfl (SL.mv rfl rfl (SL.mv rfl rfl ?_)))
               refine SL.val (O.callp rfl rfl rfl (value_h (l := ((partsL lk (g1L m atm s))[q]!)) hw (by omega) (fun u hu => hgb.2.2 u (hpu.2.2 u hu))) (.cons (ArgOk.same rfl) (.cons (ArgOk.same rfl) .nil)) hcallOk45 rfl Taken.no) ?_
               refine SL.val (O.det (fun _ => by first | exact G.R.add64 rfl rfl (by omega) | exact G.R.add rfl rfl) rfl Taken.no) ?_
               refine SL.an rfl rfl (E.fo ?_)
               refine W.pick (K:=[(0,_),(6,_),(7,_),(8,_),(11,_),(16,_),(19,_),(21,_),(23,_),(187,_),(188,_),(189,_),(190,_),(191,_),(192,_),(193,_),(194,_),(195,_),(196,_),(197,_),(198,_),(199,_),(200,_),(201,_),(202,_),(203,_),(204,_),(205,_),(206,_),(220,_)]) (Z:=[(101,_),(120,_),(121,_),(124,_),(128,_)]) ⟨rfl,rfl,rfl,rfl,rfl,rfl,rfl,rfl,rfl,rfl,rfl,rfl,rfl,rfl,rfl,rfl,rfl,rfl,rfl,rfl,rfl,rfl,rfl,rfl,rfl,rfl,rfl,rfl,rfl,rfl,trivial⟩ ⟨rfl,rfl,rfl,rfl,rfl,trivial⟩ ?_
               refine W.rg (SL.mv rfl rfl ?_)
               refine SL.val (O.lenE (SlOf.fz rfl (by decide)) (by first | exact List.length_map _ | rfl) Try.underlying39 rfl Taken.no) ?_
               refine SL.mv rfl rfl (E.fo ?_)
               refine W.pick (K:=[(0,_),(6,_),(7,_),(8,_),(11,_),(16,_),(19,_),(21,_),(23,_),(187,_),(188,_),(189,_),(190,_),(191,_),(192,_),(193,_),(194,_),(195,_),(196,_),(197,_),(198,_),(199,_),(200,_),(201,_),(202,_),(203,_),(204,_),(205,_),(206,_),(207,_),(208,_),(209,_),(220,_)]) (Z:=[(101,_),(120,_),(121,_),(124,_),(128,_)]) ⟨rfl,rfl,rfl,rfl,rfl,rfl,rfl,rfl,rfl,rfl,rfl,rfl,rfl,rfl,rfl,rfl,rfl,rfl,rfl,rfl,rfl,rfl,rfl,rfl,rfl,rfl,rfl,rfl,rfl,rfl,rfl,rfl,rfl,trivial⟩ ⟨rfl,rfl,rfl,rfl,rfl,trivial⟩ ?_
               refine W.block ?_
               refine W.loopx1 (fun (j : Nat) => [(209, vI (j : Int))]) (fun (j : Nat) => [(129, .data 3 1 ((setAll (nameF (fun x : Nat => (x : Int)) (nm0 m atm s) ((partsL lk (g0L m atm s)) ++ (partsL lk (g1L m atm s)).take q)) (((partsL lk (g1L m atm s))[q]!).take j) ((minL ((partsL lk (g1L m atm s))[q]!) : Nat) : Int)).map eI)), (124, .cells 39 [.own 129])]) (fun (j : Nat) => j ≤ ((partsL lk (g1L m atm s))[q]!).length) (fun (j : Nat) => ((partsL lk (g1L m atm s))[q]!).length - j) (0) (rn [(129, 128)]) (.cons (t := 0) rfl (.cons (t := 6) rfl (.cons (t := 7) rfl (.cons (t := 8) rfl (.cons (t := 11) rfl (.cons (t := 16) rfl (.cons (t := 19) rfl (.cons (t := 21) rfl (.cons (t := 23) rfl (.cons (t := 187) rfl (.cons (t := 188) rfl (.cons (t := 189) rfl (.cons (t := 190) rfl (.cons (t := 191) rfl (.cons (t := 192) rfl (.cons (t := 193) rfl (.cons (t := 194) rfl (.cons (t := 195) rfl (.cons (t := 196) rfl (.cons (t := 197) rfl (.cons (t := 198) rfl (.cons (t := 199) rfl (.cons (t := 200) rfl (.cons (t := 201) rfl (.cons (t := 202) rfl (.cons (t := 203) rfl (.cons (t := 204) rfl (.cons (t := 205) rfl (.cons (t := 206) rfl (.cons (t := 207) rfl (.cons (t := 208) rfl (.cons (t := 220) rfl .nil)))))))))))))))))))))))))))))))) (.cons (t := 101) rfl (.cons (t := 120) rfl (.cons (t := 121) rfl .nil))) rfl ?_ ?_ rfl rfl ?_ ?_
               · exact (SubF.cons rfl SubF.nil)
               · exact (SubS.val rfl (by exact sb_data (by rw [List.take_zero]; rfl)) (SubS.cons rfl SubS.nil))
               ·skip
                omega
               intro j hinv
               have hj := hinv
               have hnl : (setAll (nameF (fun x : Nat => (x : Int)) (nm0 m atm s) ((partsL lk (g0L m atm s)) ++ (partsL lk (g1L m atm s)).take q)) (((partsL lk (g1L m atm s))[q]!).take j) ((minL ((partsL lk (g1L m atm s))[q]!) : Nat) : Int)).length = n := by rw [setAll_len, nameF_len, nm0_len]; exact hml
               refine W.rg ?_
               refine SL.val (O.det (fun _ => G.R.lss rfl rfl) rfl Taken.no) ?_
               refine E.fo ?_
               refine W.pick (K:=[(0,_),(6,_),(7,_),(8,_),(11,_),(16,_),(19,_),(21,_),(23,_),(187,_),(188,_),(189,_),(190,_),(191,_),(192,_),(193,_),(194,_),(195,_),(196,_),(197,_),(198,_),(199,_),(200,_),(201,_),(202,_),(203,_),(204,_),(205,_),(206,_),(207,_),(208,_),(209,_),(210,_),(220,_)]) (Z:=[(101,_),(120,_),(121,_),(124,_),(129,_)]) ⟨rfl,rfl,rfl,rfl,rfl,rfl,rfl,rfl,rfl,rfl,rfl,rfl,rfl,rfl,rfl,rfl,rfl,rfl,rfl,rfl,rfl,rfl,rfl,rfl,rfl,rfl,rfl,rfl,rfl,rfl,rfl,rfl,rfl,rfl,trivial⟩ ⟨rfl,rfl,rfl,rfl,rfl,trivial⟩ ?_
               refine W.seq ?_
               first | refine W.cond_d rfl (fun hc30 => ?_) (fun hc30 => ?_) | refine W.cond_nd rfl (fun hc30 => ?_) (fun hc30 => ?_) | refine W.cond rfl (fun hc30 => ?_) (fun hc30 => ?_)
               ·skip
                have hun := hgb.2.2 _ (hpu.2.2 ((partsL lk (g1L m atm s))[q]!)[j]! (mem_at (by omega)))
                refine W.skip (E.to ?_)
                refine W.pick (K:=[(0,_),(6,_),(7,_),(8,_),(11,_),(16,_),(19,_),(21,_),(23,_),(187,_),(188,_),(189,_),(190,_),(191,_),(192,_),(193,_),(194,_),(195,_),(196,_),(197,_),(198,_),(199,_),(200,_),(201,_),(202,_),(203,_),(204,_),(205,_),(206,_),(207,_),(208,_),(209,_),(210,_),(220,_)]) (Z:=[(101,_),(120,_),(121,_),(124,_),(129,_)]) ⟨rfl,rfl,rfl,rfl,rfl,rfl,rfl,rfl,rfl,rfl,rfl,rfl,rfl,rfl,rfl,rfl,rfl,rfl,rfl,rfl,rfl,rfl,rfl,rfl,rfl,rfl,rfl,rfl,rfl,rfl,rfl,rfl,rfl,rfl,trivial⟩ ⟨rfl,rfl,rfl,rfl,rfl,trivial⟩ ?_
                refine W.seq (W.block (W.rg ?_))
                refine SL.val (O.idx_fz (i := j) rfl rfl (rfl) (row_get (by omega)) Try.underlying39 hi3 hs3 rfl Taken.no) ?_
                refine SL.val (O.ld1 (PtI.ofU (PtU.fz rfl)) rfl Try.underlying3 rfl rfl Taken.no) ?_
                refine SL.an rfl rfl (E.fo ?_)
                refine W.pick (K:=[(0,_),(6,_),(7,_),(8,_),(11,_),(16,_),(19,_),(21,_),(23,_),(25,_),(187,_),(188,_),(189,_),(190,_),(191,_),(192,_),(193,_),(194,_),(195,_),(196,_),(197,_),(198,_),(199,_),(200,_),(201,_),(202,_),(203,_),(204,_),(205,_),(206,_),(207,_),(208,_),(209,_),(210,_),(211,_),(212,_),(220,_)]) (Z:=[(101,_),(120,_),(121,_),(124,_),(129,_)]) ⟨rfl,rfl,rfl,rfl,rfl,rfl,rfl,rfl,rfl,rfl,rfl,rfl,rfl,rfl,rfl,rfl,rfl,rfl,rfl,rfl,rfl,rfl,rfl,rfl,rfl,rfl,rfl,rfl,rfl,rfl,rfl,rfl,rfl,rfl,rfl,rfl,rfl,trivial⟩ ⟨rfl,rfl,rfl,rfl,rfl,trivial⟩ ?_
                refine W.draw [⟨[124], [], [], [129]⟩, ⟨[], [], [], []⟩, ⟨[], [], [], []⟩, ⟨[], [], [], []⟩, ⟨[129], [], [], []⟩, ⟨[129], [129], [], []⟩] rfl (by kernel_rfl) (by kernel_rfl) rfl rfl ?_
                refine WH.val (O.ld1 (PtI.ref rfl rfl) rfl Try.underlying39 rfl rfl Taken.no) rfl rfl ?_
                refine WH.mv rfl rfl rfl (WH.mv rfl rfl rfl ?_)
                refine WH.val (O.callp rfl rfl rfl (min_h (l := ((partsL lk (g1L m atm s))[q]!)) (by omega)) (.cons (ArgOk.same rfl) .nil) hcallOk62 rfl Taken.no) rfl rfl ?_
                refine WH.val (O.idx_own (i := (((partsL lk (g1L m atm s))[q]!)[j]!)) rfl rfl rfl (rfl) (by rw [List.length_map]; omega) Try.underlying39 hi3 hs3 rfl Taken.no) rfl rfl ?_
                refine WH.effS (O.st_els (m := 1) rfl rfl rfl (us := [_]) rfl rfl (by kernel_rfl) (by simp) (row_get (by omega)) (by exact Nat.le_of_ble_eq_true rfl) rfl rfl (rows' := ((setAll (nameF (fun x : Nat => (x : Int)) (nm0 m atm s) ((partsL lk (g0L m atm s)) ++ (partsL lk (g1L m atm s)).take q)) (((partsL lk (g1L m atm s))[q]!).take j) ((minL ((partsL lk (g1L m atm s))[q]!) : Nat) : Int)).set (((partsL lk (g1L m atm s))[q]!)[j]!) ((minL ((partsL lk (g1L m atm s))[q]!) : Nat) : Int)).map eI) (by exact set_map rfl) Taken.no) rfl rfl rfl (S' := (129, _) :: _) rfl ?_
                refine WH.nil (E.inn (E.to ?_))
                refine W.pick (K:=[(0,_),(6,_),(7,_),(8,_),(11,_),(16,_),(19,_),(21,_),(23,_),(25,_),(187,_),(188,_),(189,_),(190,_),(191,_),(192,_),(193,_),(194,_),(195,_),(196,_),(197,_),(198,_),(199,_),(200,_),(201,_),(202,_),(203,_),(204,_),(205,_),(206,_),(207,_),(208,_),(209,_),(210,_),(211,_),(212,_),(213,_),(214,_),(215,_),(216,_),(217,_),(220,_)]) (Z:=[(101,_),(120,_),(121,_),(124,_),(129,_)]) ⟨rfl,rfl,rfl,rfl,rfl,rfl,rfl,rfl,rfl,rfl,rfl,rfl,rfl,rfl,rfl,rfl,rfl,rfl,rfl,rfl,rfl,rfl,rfl,rfl,rfl,rfl,rfl,rfl,rfl,rfl,rfl,rfl,rfl,rfl,rfl,rfl,rfl,rfl,rfl,rfl,rfl,rfl,trivial⟩ ⟨rfl,rfl,rfl,rfl,rfl,trivial⟩ ?_
                refine W.region ?_
                refine SL.val (O.det (fun _ => by first | exact G.R.add64 rfl rfl (by omega) | exact G.R.add rfl rfl) rfl Taken.no) ?_
                refine SL.mv rfl rfl (SL.nil ?_)
                refine E.again ((j + 1)) (rn []) ?_ ?_ rfl (fixL_spec rfl) ?_ ?_
                · exact (SubF.cons rfl (SubF.cons rfl (SubF.cons rfl (SubF.cons rfl (SubF.cons rfl (SubF.cons rfl (SubF.cons rfl (SubF.cons rfl (SubF.cons rfl (SubF.cons rfl (SubF.cons rfl (SubF.cons rfl (SubF.cons rfl (SubF.cons rfl (SubF.cons rfl (SubF.cons rfl (SubF.cons rfl (SubF.cons rfl (SubF.cons rfl (SubF.cons rfl (SubF.cons rfl (SubF.cons rfl (SubF.cons rfl (SubF.cons rfl (SubF.cons rfl (SubF.cons rfl (SubF.cons rfl (SubF.cons rfl (SubF.cons rfl (SubF.cons rfl (SubF.cons rfl (SubF.cons rfl (SubF.cons rfl SubF.nil)))))))))))))))))))))))))))))))))
                · exact (SubS.val rfl (by (try dsimp only); exact sb_data (by rw [setAll_sG (by omega)])) (SubS.cons rfl (SubS.cons rfl (SubS.cons rfl (SubS.cons rfl SubS.nil)))))
                ·try dsimp only
                 omega
                · (try dsimp only); omega
               ·skip
                refine W.exit (E.th (E.th (E.hit (E.inn (E.to ?_)))))
                refine W.pick (K:=[(0,_),(6,_),(7,_),(8,_),(11,_),(16,_),(19,_),(21,_),(23,_),(187,_),(188,_),(189,_),(190,_),(191,_),(192,_),(193,_),(194,_),(195,_),(196,_),(197,_),(198,_),(199,_),(200,_),(201,_),(202,_),(203,_),(204,_),(205,_),(206,_),(207,_),(208,_),(209,_),(210,_),(220,_)]) (Z:=[(101,_),(120,_),(121,_),(124,_),(129,_)]) ⟨rfl,rfl,rfl,rfl,rfl,rfl,rfl,rfl,rfl,rfl,rfl,rfl,rfl,rfl,rfl,rfl,rfl,rfl,rfl,rfl,rfl,rfl,rfl,rfl,rfl,rfl,rfl,rfl,rfl,rfl,rfl,rfl,rfl,rfl,trivial⟩ ⟨rfl,rfl,rfl,rfl,rfl,trivial⟩ ?_
                refine W.region ?_
                refine SL.val (O.det (fun _ => by first | exact G.R.add64 rfl rfl (by omega) | exact G.R.add rfl rfl) rfl Taken.no) ?_
                refine SL.mv rfl rfl (SL.nil ?_)
                refine E.again ((q + 1)) (rn [(128, 129)]) ?_ ?_ rfl (fixL_spec rfl) ?_ ?_
                · exact (SubF.cons rfl (SubF.val rfl (by (try dsimp only); exact iv_int (by rw [snocP (l := (partsL lk (g1L m atm s))) (by omega), ← List.append_assoc, sumV_snoc])) (SubF.cons rfl (SubF.cons rfl (SubF.cons rfl (SubF.cons rfl (SubF.cons rfl (SubF.cons rfl (SubF.cons rfl (SubF.cons rfl (SubF.cons rfl (SubF.cons rfl (SubF.cons rfl (SubF.cons rfl (SubF.cons rfl (SubF.cons rfl (SubF.cons rfl (SubF.cons rfl (SubF.cons rfl (SubF.cons rfl (SubF.cons rfl SubF.nil)))))))))))))))))))))
                · exact (SubS.val rfl (by (try dsimp only); exact sb_data (by rw [snocP (l := (partsL lk (g1L m atm s))) (by omega), ← List.append_assoc, nameF_snoc, show j = ((partsL lk (g1L m atm s))[q]!).length by omega, List.take_length])) (SubS.cons rfl (SubS.cons rfl (SubS.cons rfl (SubS.cons rfl SubS.nil)))))
                ·try dsimp only
                 omega
                · (try dsimp only); omega
              ·skip
               refine W.exit (E.th (E.th (E.hit (E.inn (E.to (W.region ?_))))))
               refine SL.val (O.det (fun _ => by first | exact G.R.add64 rfl rfl (by omega) | exact G.R.add rfl rfl) rfl Taken.no) ?_
               refine SL.mv rfl rfl (SL.nil ?_)
               refine E.reround ?_
               refine W.pick (K:=[(0,_),(6,_),(7,_),(8,_),(11,_),(16,_),(19,_),(21,_),(187,_),(188,_),(189,_),(190,_),(191,_),(192,_),(193,_),(194,_),(195,_),(196,_),(197,_),(198,_),(199,_),(220,_)]) (Z:=[(101,_),(120,_),(121,_),(124,_),(128,_)]) ⟨rfl,rfl,rfl,rfl,rfl,rfl,rfl,rfl,rfl,rfl,rfl,rfl,rfl,rfl,rfl,rfl,rfl,rfl,rfl,rfl,rfl,rfl,trivial⟩ ⟨rfl,rfl,rfl,rfl,rfl,trivial⟩ ?_
               refine W.rg ?_
               refine SL.val (O.det (fun _ => G.R.mv (G.R.lss rfl rfl) (congrArg Value.bool (decide_eq_false (by decide)))) rfl Taken.no) ?_
               refine E.fo (W.seq ?_)
               refine W.cond_f rfl ?_
               refine W.exit (E.th (E.th (E.hit (E.to (W.rg ?_)))))
               refine SL.val (O.ld1 (PtI.ref rfl rfl) rfl Try.underlying39 rfl rfl Taken.no) ?_
               refine SL.mv rfl rfl (SL.mv rfl rfl ?_)
               refine SL.val (O.det (fun _ => by first | exact G.R.sub64 rfl rfl (by omega) | exact G.R.sub rfl rfl) rfl Taken.no) ?_
               refine SL.an rfl rfl (SL.an rfl rfl (SL.an rfl rfl (E.fo ?_)))
               refine W.pick (K:=[(6,_),(7,_),(8,_)]) (Z:=[(101,_),(120,_),(121,_),(124,_),(128,_)]) ⟨rfl,rfl,rfl,trivial⟩ ⟨rfl,rfl,rfl,rfl,rfl,trivial⟩ ?_
               refine W.ret ?_
               refine E.freeze 128 rfl (F' := [(6, _)]) (⟨⟨_, rfl, rfl⟩, trivial⟩) ?_
               refine E.fin (rs := [_, _, _]) (rn []) (.inl rfl) rfl (.cons (ResOne.tmp rfl) (.cons (ResOne.tmp rfl) (.cons (ResOne.tmp rfl) .nil))) ?_ ?_ rfl (fixL_spec rfl)
               ·skip
                have hyes : posF n bar atm m s := ⟨hpre, by rw [← hit_eq hml hb]; exact hcl⟩
                rw [← hs, apN_y hyes, apG_y hyes, dec_t hyes, gnF, hfe, hth, show q = (partsL lk (g1L m atm s)).length by omega, List.take_length]; rfl
               · exact SubS.nil
         ·skip
          first | have hg23p := G.gA7 hg23 | have hg23p := G.gA8 hg23 | have hg23p := hg23
          refine WH.sk rfl rfl rfl hg23 (WH.sk rfl rfl rfl hg23 (WH.sk rfl rfl rfl hg23 (WH.sk rfl rfl rfl hg23 (WH.sk rfl rfl rfl hg23 ?_))))
          refine WH.val (O.pick_t rfl (G.ne_f hg23) rfl rfl Taken.no) rfl rfl ?_
          refine WH.nil (E.to ?_)
          refine W.pick (K:=[(0,_),(1,_),(6,_),(7,_),(8,_),(9,_),(10,_),(11,_),(12,_),(116,_)]) (Z:=[(101,_),(119,_),(120,_),(121,_)]) ⟨rfl,rfl,rfl,rfl,rfl,rfl,rfl,rfl,rfl,rfl,trivial⟩ ⟨rfl,rfl,rfl,rfl,trivial⟩ ?_
          refine W.cond_t rfl ?_
          refine W.rg (SL.an rfl rfl (SL.an rfl rfl (SL.an rfl rfl (E.fo (W.ret (E.thr (E.thr ?_)))))))
          refine E.nilsl 6 1 rfl ?_
          refine E.fin (rs := [_, _, _]) (rn []) (.inl rfl) rfl (.cons (ResOne.tmp rfl) (.cons (ResOne.tmp rfl) (.cons (ResOne.tmp rfl) .nil))) ?_ ?_ rfl (fixL_spec rfl)
          ·skip
           first | ((have hno : ¬ posF n bar atm m ⟨true, (f : Int), (t : Int)⟩ := fun q => by ((obtain ⟨⟨⟨q1, q2, q3, q4, q5⟩, q6, q7, q8⟩, q9⟩ := posF_iff.1 q); (try simp only [Int.toNat_natCast] at q6 q7 q8); (have q7 := q7 (by trivial); omega))); rw [apN_n hno, apG_n hno, dec_f hno]; rfl)
          · exact SubS.nil
        ·skip
         obtain rfl : u = false := by simp_all
         refine W.seq (W.seq ?_)
         refine W.draw [⟨[], [], [], []⟩, ⟨[], [], [], []⟩, ⟨[], [], [], []⟩, ⟨[], [], [], []⟩, ⟨[], [], [], [101]⟩, ⟨[101], [], [], []⟩, ⟨[], [], [], []⟩, ⟨[], [], [], []⟩, ⟨[], [], [], [101]⟩, ⟨[101], [], [], []⟩, ⟨[], [], [], []⟩] rfl (by kernel_rfl) (by kernel_rfl) rfl rfl ?_
         refine WH.mv rfl rfl rfl ?_
         refine WH.val (O.nilCheck rfl rfl rfl Taken.no) rfl rfl ?_
         refine WH.val (O.fld_fz rfl Try.underlying78 rfl (m := 0) (by kernel_rfl) rfl rfl Taken.no) rfl rfl ?_
         refine WH.val (O.ld1 (PtI.ofU (PtU.fz rfl)) rfl Try.underlying39 rfl rfl Taken.no) rfl rfl ?_
         refine WH.val (O.fld_ref (o' := 1) rfl Try.underlying55 rfl (m := 0) (by kernel_rfl) rfl rfl Taken.no) rfl rfl ?_
         refine WH.val (O.ld1 (PtI.ref rfl rfl) rfl Try.underlying3 rfl rfl Taken.no) rfl rfl ?_
         refine WH.val (O.idx_fz (i := f) rfl rfl (rfl) (row_get (by omega)) Try.underlying39 hi3 hs3 rfl Taken.no) rfl rfl ?_
         refine WH.val (O.ld1 (PtI.ofU (PtU.fz rfl)) rfl Try.underlying3 rfl rfl Taken.no) rfl rfl ?_
         refine WH.val (O.fld_ref (o' := 1) rfl Try.underlying55 rfl (m := 0) (by kernel_rfl) rfl rfl Taken.no) rfl rfl ?_
         refine WH.val (O.ld1 (PtI.ref rfl rfl) rfl Try.underlying3 rfl rfl Taken.no) rfl rfl ?_
         refine WH.val (O.det (fun _ => G.R.neq rfl rfl) rfl Taken.no) rfl rfl ?_
         refine WH.nil (E.to ?_)
         first | refine W.cond_d rfl (fun hc31 => ?_) (fun hc31 => ?_) | refine W.cond_nd rfl (fun hc31 => ?_) (fun hc31 => ?_) | refine W.cond rfl (fun hc31 => ?_) (fun hc31 => ?_)
         ·skip
          refine W.rg (SL.an rfl rfl (SL.an rfl rfl (SL.an rfl rfl (E.fo ?_))))
          refine W.pick (K:=[(0,_),(1,_),(5,_),(6,_),(7,_),(8,_),(9,_),(10,_),(11,_),(12,_)]) (Z:=[(101,_),(119,_),(120,_),(121,_)]) ⟨rfl,rfl,rfl,rfl,rfl,rfl,rfl,rfl,rfl,rfl,trivial⟩ ⟨rfl,rfl,rfl,rfl,trivial⟩ ?_
          refine W.ret (E.thr (E.thr ?_))
          refine E.nilsl 6 1 rfl ?_
          refine E.fin (rs := [_, _, _]) (rn []) (.inl rfl) rfl (.cons (ResOne.tmp rfl) (.cons (ResOne.tmp rfl) (.cons (ResOne.tmp rfl) .nil))) ?_ ?_ rfl (fixL_spec rfl)
          ·skip
           first | ((have hno : ¬ posF n bar atm m ⟨false, (f : Int), (t : Int)⟩ := fun q => by ((obtain ⟨⟨⟨q1, q2, q3, q4, q5⟩, q6, q7, q8⟩, q9⟩ := posF_iff.1 q); (try simp only [Int.toNat_natCast] at q6 q7 q8); (have q8 := (q8 (by trivial)).1; omega))); rw [apN_n hno, apG_n hno, dec_f hno]; rfl) | ((have hno : ¬ posF n bar atm m ⟨false, (f : Int), -1⟩ := fun q => by ((obtain ⟨⟨⟨q1, q2, q3, q4, q5⟩, q6, q7, q8⟩, q9⟩ := posF_iff.1 q); (try simp only [Int.toNat_natCast] at q6 q7 q8); (have q8 := (q8 (by trivial)).1; omega))); rw [apN_n hno, apG_n hno, dec_f hno]; rfl)
          · exact SubS.nil
         ·skip
          refine W.skip (E.to (W.rg (SL.mv rfl rfl ?_)))
          refine SL.val (O.idx_ref (i := 0) (m := 1) rfl rfl (rfl) (by decide) Try.underlying106 (by kernel_rfl) rfl rfl Taken.no) ?_
          refine SL.effS (O.st_ref (m := 1) rfl rfl rfl (js := [_]) rfl rfl (by kernel_rfl) (by simp) (Nat.le_of_ble_eq_true rfl) rfl (is' := [_, _]) rfl Taken.no) (S' := (121, _) :: _) rfl ?_
          refine E.fo (W.seq (W.rg (SL.mv rfl rfl ?_)))
          refine SL.val (O.lenE (SlOf.own rfl rfl) (by first | exact List.length_map _ | rfl) Try.underlying39 rfl Taken.no) ?_
          refine SL.mv rfl rfl (E.fo ?_)
          refine W.pick (K:=[(0,_),(1,_),(5,_),(6,_),(7,_),(8,_),(11,_),(12,_),(134,_),(135,_),(136,_)]) (Z:=[(101,_),(119,_),(120,_),(121,_)]) ⟨rfl,rfl,rfl,rfl,rfl,rfl,rfl,rfl,rfl,rfl,rfl,trivial⟩ ⟨rfl,rfl,rfl,rfl,trivial⟩ ?_
          refine W.block ?_
          refine W.adoptC 121 1 132 3 1 (is' := [_, _]) (by decide) rfl rfl rfl rfl rfl ?_
          refine W.loopx1 (fun (k : Nat) => [(136, vI (k : Int))]) (fun (k : Nat) => [(130, .data 3 1 (((thereL m (t : Int)) ++ ((unitsL m m[f]!).take k).filter (fun u => decide (atm[u]! = f))).map eN)), (131, .data 3 1 ((((unitsL m m[f]!).take k).filter (fun u => !decide (atm[u]! = f))).map eN)), (121, .cells 106 [.own 130, .own 131])]) (fun (k : Nat) => k ≤ (unitsL m m[f]!).length) (fun (k : Nat) => (unitsL m m[f]!).length - k) (0) (rn [(130, 120), (131, 132)]) (.cons (t := 0) rfl (.cons (t := 1) rfl (.cons (t := 5) rfl (.cons (t := 6) rfl (.cons (t := 7) rfl (.cons (t := 8) rfl (.cons (t := 11) rfl (.cons (t := 12) rfl (.cons (t := 134) rfl (.cons (t := 135) rfl .nil)))))))))) (.cons (t := 101) rfl (.cons (t := 119) rfl .nil)) rfl ?_ ?_ rfl rfl ?_ ?_
          · exact (SubF.cons rfl SubF.nil)
          · exact (SubS.val rfl (by exact sb_data (by rw [List.take_zero, List.filter_nil, List.append_nil, there_nat])) (SubS.val rfl (by exact sb_data (by rw [List.take_zero, List.filter_nil]; rfl)) (SubS.cons rfl SubS.nil)))
          ·skip
           omega
          intro k hinv
          have hk := hinv
          have hf0 := List.length_filter_le (fun u => decide (atm[u]! = f)) ((unitsL m m[f]!).take k)
          have hf1 := List.length_filter_le (fun u => !decide (atm[u]! = f)) ((unitsL m m[f]!).take k)
          rw [List.length_take] at hf0 hf1
          have hthl := there_len m (t : Int)
          refine W.rg ?_
          refine SL.val (O.det (fun _ => G.R.lss rfl rfl) rfl Taken.no) ?_
          refine E.fo (W.seq ?_)
          first | refine W.cond_d rfl (fun hc32 => ?_) (fun hc32 => ?_) | refine W.cond_nd rfl (fun hc32 => ?_) (fun hc32 => ?_) | refine W.cond rfl (fun hc32 => ?_) (fun hc32 => ?_)
          ·skip
           have hHk := hHn (unitsL m m[f]!)[k]! (mem_at (by omega))
           refine W.skip (E.to (W.seq (W.block (W.rg ?_))))
           refine SL.val (O.idx_own (i := k) rfl rfl rfl (rfl) (by rw [List.length_map]; omega) Try.underlying39 hi3 hs3 rfl Taken.no) ?_
           refine SL.val (O.ld1 (PtI.ofU (PtU.el rfl rfl (row_get (by omega)))) rfl Try.underlying3 rfl rfl Taken.no) ?_
           refine SL.an rfl rfl (E.fo (W.rg (SL.an rfl rfl (E.fo (W.seq (W.seq ?_))))))
           refine W.draw [⟨[], [], [], []⟩, ⟨[], [], [], []⟩, ⟨[], [], [], []⟩, ⟨[], [], [], []⟩, ⟨[], [], [], []⟩, ⟨[], [], [], []⟩, ⟨[], [], [], []⟩, ⟨[], [], [], [101]⟩, ⟨[101], [], [], []⟩, ⟨[], [], [], []⟩] rfl (by kernel_rfl) (by kernel_rfl) rfl rfl ?_
           refine WH.mv rfl rfl rfl ?_
           refine WH.val (O.nilCheck rfl rfl rfl Taken.no) rfl rfl ?_
           refine WH.val (O.fld_fz rfl Try.underlying78 rfl (m := 0) (by kernel_rfl) rfl rfl Taken.no) rfl rfl ?_
           refine WH.val (O.ld1 (PtI.ofU (PtU.fz rfl)) rfl Try.underlying39 rfl rfl Taken.no) rfl rfl ?_
           refine WH.mv rfl rfl rfl ?_
           refine WH.val (O.idx_fz (i := ((unitsL m m[f]!)[k]!)) rfl rfl (rfl) (row_get (by omega)) Try.underlying39 hi3 hs3 rfl Taken.no) rfl rfl ?_
           refine WH.val (O.ld1 (PtI.ofU (PtU.fz rfl)) rfl Try.underlying3 rfl rfl Taken.no) rfl rfl ?_
           refine WH.val (O.fld_ref (o' := 1) rfl Try.underlying55 rfl (m := 0) (by kernel_rfl) rfl rfl Taken.no) rfl rfl ?_
           refine WH.val (O.ld1 (PtI.ref rfl rfl) rfl Try.underlying3 rfl rfl Taken.no) rfl rfl ?_
           refine WH.val (O.det (fun _ => G.R.eql rfl rfl) rfl Taken.no) rfl rfl ?_
           refine WH.nil (E.to ?_)
           refine W.pick (K:=[(0,_),(1,_),(5,_),(6,_),(7,_),(8,_),(11,_),(12,_),(14,_),(15,_),(134,_),(135,_),(136,_),(149,_)]) (Z:=[(101,_),(119,_),(121,_),(130,_),(131,_)]) ⟨rfl,rfl,rfl,rfl,rfl,rfl,rfl,rfl,rfl,rfl,rfl,rfl,rfl,rfl,trivial⟩ ⟨rfl,rfl,rfl,rfl,rfl,trivial⟩ ?_
           first | refine W.cond_d rfl (fun hc33 => ?_) (fun hc33 => ?_) | refine W.cond_nd rfl (fun hc33 => ?_) (fun hc33 => ?_) | refine W.cond rfl (fun hc33 => ?_) (fun hc33 => ?_)
           ·skip
            have hp0 : (fun u => decide (atm[u]! = f)) (unitsL m m[f]!)[k]! = true := decide_eq_true (by omega)
            have hp1 : (fun u => !decide (atm[u]! = f)) (unitsL m m[f]!)[k]! = false := by show (!decide _) = false; rw [decide_eq_true (by omega)]; rfl
            refine W.region (SL.an rfl rfl (E.fo (W.region (SL.mv rfl rfl (SL.mv rfl rfl ?_)))))
            refine SL.val (O.idx_ref (i := 0) (m := 1) rfl rfl (rfl) (by decide) Try.underlying106 (by kernel_rfl) rfl rfl Taken.no) ?_
            refine SL.val (O.ld1 (PtI.ref rfl rfl) rfl Try.underlying39 rfl rfl Taken.no) ?_
            refine SL.mv rfl rfl ?_
            refine SL.memS (O.buildSlice 133 (rows := [(unitsL m m[f]!)[k]!].map eN) rfl rfl Try.underlying39 hi3 hz3 hs3 (by decide) rfl (by decide) rfl rfl rfl Taken.no) rfl rfl (S' := (133, .data 3 1 ([(unitsL m m[f]!)[k]!].map eN)) :: _) rfl ?_
            refine SL.memS (O.app (k' := 134) rfl rfl (SlOf.own rfl rfl) Try.underlying39 hi3 hz3 hs3 rfl rfl (by exact app_map) (by rw [hb3]; (simp only [List.length_map, List.length_singleton, List.length_append]; omega)) (by (simp only [List.length_map, List.length_singleton, List.length_append]; omega)) rfl Taken.no) rfl rfl (S' := (134, _) :: (130, .dead) :: _) rfl ?_
            refine SL.val (O.idx_ref (i := 0) (m := 1) rfl rfl (rfl) (by decide) Try.underlying106 (by kernel_rfl) rfl rfl Taken.no) ?_
            refine SL.effS (O.st_ref (m := 1) rfl rfl rfl (js := [_]) rfl rfl (by kernel_rfl) (by simp) (Nat.le_of_ble_eq_true rfl) rfl (is' := [_, _]) rfl Taken.no) (S' := (121, _) :: _) rfl ?_
            refine SL.nil (E.inn (E.to (W.region ?_)))
            refine SL.val (O.det (fun _ => by first | exact G.R.add64 rfl rfl (by omega) | exact G.R.add rfl rfl) rfl Taken.no) ?_
            refine SL.mv rfl rfl (SL.nil ?_)
            refine E.again ((k + 1)) (rn [(130, 134)]) ?_ ?_ rfl (fixL_spec rfl) ?_ ?_
            · exact (SubF.cons rfl (SubF.cons rfl (SubF.cons rfl (SubF.cons rfl (SubF.cons rfl (SubF.cons rfl (SubF.cons rfl (SubF.cons rfl (SubF.cons rfl (SubF.cons rfl (SubF.cons rfl SubF.nil)))))))))))
            · exact (SubS.val rfl (by (try dsimp only); first | exact sb_data (by rw [filt_y (by omega) hp0, ← List.append_assoc]) | exact sb_data (by rw [filt_n (by omega) hp0])) (SubS.val rfl (by (try dsimp only); first | exact sb_data (by rw [filt_n (by omega) hp1]) | exact sb_data (by rw [filt_y (by omega) hp1])) (SubS.cons rfl (SubS.cons rfl (SubS.cons rfl SubS.nil)))))
            ·try dsimp only
             omega
            · (try dsimp only); omega
           ·skip
            have hp0 : (fun u => decide (atm[u]! = f)) (unitsL m m[f]!)[k]! = false := decide_eq_false (by omega)
            have hp1 : (fun u => !decide (atm[u]! = f)) (unitsL m m[f]!)[k]! = true := by show (!decide _) = true; rw [decide_eq_false (by omega)]; rfl
            refine W.skip (E.to (W.region (SL.mv rfl rfl (SL.mv rfl rfl ?_))))
            refine SL.val (O.idx_ref (i := 1) (m := 1) rfl rfl (rfl) (by decide) Try.underlying106 (by kernel_rfl) rfl rfl Taken.no) ?_
            refine SL.val (O.ld1 (PtI.ref rfl rfl) rfl Try.underlying39 rfl rfl Taken.no) ?_
            refine SL.mv rfl rfl ?_
            refine SL.memS (O.buildSlice 135 (rows := [(unitsL m m[f]!)[k]!].map eN) rfl rfl Try.underlying39 hi3 hz3 hs3 (by decide) rfl (by decide) rfl rfl rfl Taken.no) rfl rfl (S' := (135, .data 3 1 ([(unitsL m m[f]!)[k]!].map eN)) :: _) rfl ?_
            refine SL.memS (O.app (k' := 136) rfl rfl (SlOf.own rfl rfl) Try.underlying39 hi3 hz3 hs3 rfl rfl (by exact app_map) (by rw [hb3]; (simp only [List.length_map, List.length_singleton]; omega)) (by (simp only [List.length_map, List.length_singleton]; omega)) rfl Taken.no) rfl rfl (S' := (136, _) :: (131, .dead) :: _) rfl ?_
            refine SL.val (O.idx_ref (i := 1) (m := 1) rfl rfl (rfl) (by decide) Try.underlying106 (by kernel_rfl) rfl rfl Taken.no) ?_
            refine SL.effS (O.st_ref (m := 1) rfl rfl rfl (js := [_]) rfl rfl (by kernel_rfl) (by simp) (Nat.le_of_ble_eq_true rfl) rfl (is' := [_, _]) rfl Taken.no) (S' := (121, _) :: _) rfl ?_
            refine SL.nil (E.inn (E.to (W.region ?_)))
            refine SL.val (O.det (fun _ => by first | exact G.R.add64 rfl rfl (by omega) | exact G.R.add rfl rfl) rfl Taken.no) ?_
            refine SL.mv rfl rfl (SL.nil ?_)
            refine E.again ((k + 1)) (rn [(131, 136)]) ?_ ?_ rfl (fixL_spec rfl) ?_ ?_
            · exact (SubF.cons rfl (SubF.cons rfl (SubF.cons rfl (SubF.cons rfl (SubF.cons rfl (SubF.cons rfl (SubF.cons rfl (SubF.cons rfl (SubF.cons rfl (SubF.cons rfl (SubF.cons rfl SubF.nil)))))))))))
            · exact (SubS.val rfl (by (try dsimp only); first | exact sb_data (by rw [filt_y (by omega) hp0, ← List.append_assoc]) | exact sb_data (by rw [filt_n (by omega) hp0])) (SubS.val rfl (by (try dsimp only); first | exact sb_data (by rw [filt_n (by omega) hp1]) | exact sb_data (by rw [filt_y (by omega) hp1])) (SubS.cons rfl (SubS.cons rfl (SubS.cons rfl SubS.nil)))))
            ·try dsimp only
             omega
            · (try dsimp only); omega
          ·skip
           refine W.exit (E.th (E.th (E.hit (E.to (W.rg ?_)))))
           refine SL.val (O.fld_ref (o' := 2) rfl Try.underlying55 rfl (m := 0) (by kernel_rfl) rfl rfl Taken.no) ?_
           refine SL.val (O.ld1 (PtI.ref rfl rfl) rfl Try.underlying3 rfl rfl Taken.no) ?_
           refine SL.val (O.det (fun _ => G.R.mv (G.R.eql rfl rfl) (congrArg Value.bool (decide_eq_false (by omega)))) rfl Taken.no) ?_
           refine SL.mv rfl rfl ?_
           have hg34 : false ≠ true := by decide
           refine SL.sk rfl rfl rfl hg34 (SL.sk rfl rfl rfl hg34 (SL.sk rfl rfl rfl hg34 (SL.sk rfl rfl rfl hg34 ?_)))
           refine SL.val (O.pick_f rfl rfl rfl rfl Taken.no) ?_
           refine E.fo ?_
           refine W.cond_f rfl ?_
           refine W.skip (E.to (W.seq ?_))
           refine W.freezeC 121 0 130 (is' := [_, _]) rfl rfl rfl rfl ?_
           refine W.freezeC 121 1 131 (is' := [_, _]) rfl rfl rfl rfl ?_
           refine W.region ?_
           have hkH : k = (unitsL m m[f]!).length := by omega
           obtain ⟨s, hs⟩ : ∃ s : Stp, s = ⟨false, (f : Int), (t : Int)⟩ := ⟨_, rfl⟩
           have hfe : s.f.toNat = f := by rw [hs]; rfl
           have hth : thereL m s.t = unitsL m t := by rw [hs]; exact there_nat m t
           have hg0 : ((thereL m (t : Int)) ++ ((unitsL m m[f]!).take k).filter (fun u => decide (atm[u]! = f))) = g0L m atm s := by rw [hkH, List.take_length, hs]; rfl
           have hg1 : (((unitsL m m[f]!).take k).filter (fun u => !decide (atm[u]! = f))) = g1L m atm s := by rw [hkH, List.take_length, hs]; rfl
           have hpre : preF n atm m s := by rw [hs]; exact ⟨⟨by show (0 : Int) ≤ f; omega, by show (f : Int) < n; omega, by show (t : Int) < (n : Int); omega, by show -1 ≤ (t : Int); omega, fun h => rfl⟩, fun h => ⟨by show m[t]! = t; omega, by show m[f]! ≠ t; omega⟩, fun h => (by cases h), fun h => ⟨by show atm[f]! = f; omega, fun h => by exfalso; have h2 : (t : Int) < 0 := h; omega⟩⟩
           have hgb := g_b (atm := atm) (s := s) hml
           have hl0 : (partsL lk (g0L m atm s)).length ≤ (g0L m atm s).length := partsN_len
           have hl1 : (partsL lk (g1L m atm s)).length ≤ (g1L m atm s).length := partsN_len
           rw [hg0]
           refine SL.mv rfl rfl ?_
           refine SL.memS (O.call (rn [(0, 137)]) [] rfl rfl rfl (clone_h (rows := m.map eN) (by rw [List.length_map]; omega)) (.cons (ArgOk.same rfl) .nil) SubS.nil rfl rfl rfl rfl rfl (.inl rfl) hcallOk39 (r' := .own 137) rfl rfl Taken.no) rfl rfl (S' := (137, .data _ _ _) :: _) rfl ?_
           refine SL.memS (O.alloc (z := .slice none 0 0) (is := [.u (.sc (.slice none 0 0))]) 138 (by kernel_rfl) rfl rfl rfl Taken.no) rfl rfl (S' := (138, _) :: _) rfl ?_
           refine SL.effS (O.st_ref (m := 1) rfl rfl rfl (js := [_]) rfl rfl (by kernel_rfl) (by simp) (Nat.le_of_ble_eq_true rfl) rfl (is' := [_]) rfl Taken.no) (S' := (138, _) :: _) rfl ?_
           refine E.fo (W.seq (W.rg ?_))
           refine SL.val (O.idx_ref (i := 0) (m := 1) rfl rfl (rfl) (by decide) Try.underlying106 (by kernel_rfl) rfl rfl Taken.no) ?_
           refine SL.val (O.ld1 (PtI.ref rfl rfl) rfl Try.underlying39 rfl rfl Taken.no) ?_
           refine SL.val (O.lenE (SlOf.fz rfl (by decide)) (by first | exact List.length_map _ | rfl) Try.underlying39 rfl Taken.no) ?_
           refine SL.mv rfl rfl (E.fo ?_)
           refine W.pick (K:=[(0,_),(6,_),(7,_),(8,_),(11,_),(12,_),(16,_),(171,_),(172,_),(173,_)]) (Z:=[(101,_),(119,_),(121,_),(137,_),(138,_)]) ⟨rfl,rfl,rfl,rfl,rfl,rfl,rfl,rfl,rfl,rfl,trivial⟩ ⟨rfl,rfl,rfl,rfl,rfl,trivial⟩ ?_
           refine W.block ?_
           refine W.loopx1 (fun (j : Nat) => [(173, vI (j : Int))]) (fun (j : Nat) => [(139, .data 3 1 ((setAll (m.map (fun x : Nat => (x : Int))) ((g0L m atm s).take j) (-1)).map eI)), (138, .cells 39 [.own 139])]) (fun (j : Nat) => j ≤ (g0L m atm s).length) (fun (j : Nat) => (g0L m atm s).length - j) (0) (rn [(139, 137)]) (.cons (t := 0) rfl (.cons (t := 6) rfl (.cons (t := 7) rfl (.cons (t := 8) rfl (.cons (t := 11) rfl (.cons (t := 12) rfl (.cons (t := 16) rfl (.cons (t := 171) rfl (.cons (t := 172) rfl .nil))))))))) (.cons (t := 101) rfl (.cons (t := 119) rfl (.cons (t := 121) rfl .nil))) rfl ?_ ?_ rfl rfl ?_ ?_
           · exact (SubF.cons rfl SubF.nil)
           · exact (SubS.val rfl (by exact sb_data (by rw [List.take_zero]; exact (eI_eN m).symm)) (SubS.cons rfl SubS.nil))
           ·skip
            omega
           intro j hinv
           have hj := hinv
           have hnl : (setAll (m.map (fun x : Nat => (x : Int))) ((g0L m atm s).take j) (-1)).length = n := by rw [setAll_len, List.length_map]; exact hml
           refine W.rg ?_
           refine SL.val (O.det (fun _ => G.R.lss rfl rfl) rfl Taken.no) ?_
           refine E.fo (W.seq ?_)
           first | refine W.cond_d rfl (fun hc35 => ?_) (fun hc35 => ?_) | refine W.cond_nd rfl (fun hc35 => ?_) (fun hc35 => ?_) | refine W.cond rfl (fun hc35 => ?_) (fun hc35 => ?_)
           ·skip
            have hGj := hgb.2.1 (g0L m atm s)[j]! (mem_at (by omega))
            refine W.skip (E.to (W.seq (W.block (W.rg ?_))))
            refine SL.val (O.idx_fz (i := j) rfl rfl (rfl) (row_get (by omega)) Try.underlying39 hi3 hs3 rfl Taken.no) ?_
            refine SL.val (O.ld1 (PtI.ofU (PtU.fz rfl)) rfl Try.underlying3 rfl rfl Taken.no) ?_
            refine SL.an rfl rfl (E.fo (W.region ?_))
            refine SL.val (O.ld1 (PtI.ref rfl rfl) rfl Try.underlying39 rfl rfl Taken.no) ?_
            refine SL.mv rfl rfl ?_
            refine SL.val (O.idx_own (i := ((g0L m atm s)[j]!)) rfl rfl rfl (rfl) (by rw [List.length_map]; omega) Try.underlying39 hi3 hs3 rfl Taken.no) ?_
            refine SL.effS (O.st_els (m := 1) rfl rfl rfl (us := [_]) rfl rfl (by kernel_rfl) (by simp) (row_get (by omega)) (by exact Nat.le_of_ble_eq_true rfl) rfl rfl (rows' := ((setAll (m.map (fun x : Nat => (x : Int))) ((g0L m atm s).take j) (-1)).set ((g0L m atm s)[j]!) (-1)).map eI) (by exact set_map rfl) Taken.no) (S' := (139, _) :: _) rfl ?_
            refine SL.nil (E.inn (E.to (W.region ?_)))
            refine SL.val (O.det (fun _ => by first | exact G.R.add64 rfl rfl (by omega) | exact G.R.add rfl rfl) rfl Taken.no) ?_
            refine SL.mv rfl rfl (SL.nil ?_)
            refine E.again ((j + 1)) (rn []) ?_ ?_ rfl (fixL_spec rfl) ?_ ?_
            · exact (SubF.cons rfl (SubF.cons rfl (SubF.cons rfl (SubF.cons rfl (SubF.cons rfl (SubF.cons rfl (SubF.cons rfl (SubF.cons rfl (SubF.cons rfl (SubF.cons rfl SubF.nil))))))))))
            · exact (SubS.val rfl (by (try dsimp only); exact sb_data (by rw [setAll_sG (by omega)])) (SubS.cons rfl (SubS.cons rfl (SubS.cons rfl (SubS.cons rfl SubS.nil)))))
            ·try dsimp only
             omega
            · (try dsimp only); omega
           ·skip
            refine W.exit (E.th (E.th (E.hit (E.to (W.seq (W.seq ?_))))))
            have hjG : j = (g0L m atm s).length := by omega
            rw [hjG, List.take_length]
            refine W.region (SL.mv rfl rfl ?_)
            refine SL.val (O.nilCheck rfl rfl rfl Taken.no) ?_
            refine SL.val (O.fld_fz rfl Try.underlying78 rfl (m := 0) (by kernel_rfl) rfl rfl Taken.no) ?_
            refine SL.val (O.ld1 (PtI.ofU (PtU.fz rfl)) rfl Try.underlying23 rfl rfl Taken.no) ?_
            refine SL.val (O.makeFunc rfl rfl rfl Taken.no) ?_
            refine SL.memS (O.call (rn [(0, 138), (1, 139)]) [] rfl rfl rfl (containsFuncN (nm := (nm0 m atm s)) (q := bar) (by rw [nm0_len, hml]; exact hb)) (.cons (ArgOk.same rfl) (.cons (ArgOk.same rfl) .nil)) (SubS.cons rfl (SubS.cons rfl SubS.nil)) rfl rfl rfl rfl rfl (.inl rfl) hcallOk63 (r' := .u _) rfl rfl Taken.no) rfl rfl (S' := (138, .cells _ [.own 139]) :: (139, .data _ _ _) :: _) rfl ?_
            refine E.fo ?_
            first | refine W.cond_d rfl (fun hc36 => ?_) (fun hc36 => ?_) | refine W.cond_nd rfl (fun hc36 => ?_) (fun hc36 => ?_) | refine W.cond rfl (fun hc36 => ?_) (fun hc36 => ?_)
            ·skip
             refine W.rg (SL.an rfl rfl (SL.an rfl rfl (SL.an rfl rfl (E.fo (W.ret (E.thr ?_))))))
             refine E.nilsl 6 1 rfl ?_
             refine E.fin (rs := [_, _, _]) (rn []) (.inl rfl) rfl (.cons (ResOne.tmp rfl) (.cons (ResOne.tmp rfl) (.cons (ResOne.tmp rfl) .nil))) ?_ ?_ rfl (fixL_spec rfl)
             ·skip
              have hcl : bar.any (nmHit (nm0 m atm s)) = true := by assumption
              have hno : ¬ posF n bar atm m s := fun q => by rw [hit_eq hml hb, q.2] at hcl; cases hcl
              rw [← hs, apN_n hno, apG_n hno, dec_f hno]; rfl
             · exact SubS.nil
            ·skip
             refine W.skip (E.to (W.rg (SL.an rfl rfl (E.fo (W.seq (W.rg ?_))))))
             have hcl : bar.any (nmHit (nm0 m atm s)) = false := by first | assumption | simp_all
             have hL : ∀ p ∈ gL lk m atm s, p.length ≤ 1000 := fun p hp => by rcases List.mem_append.1 hp with z | z <;> (have := (partsN_units z).2.1; omega)
             refine SL.val (O.ldN (m := 2) (PtI.ref rfl rfl) (js := [_, _]) rfl (Nat.le_of_ble_eq_true rfl) Try.underlying106 rfl (by kernel_rfl) rfl Taken.no) ?_
             refine SL.mv rfl rfl (E.fo (W.block ?_))
             refine W.unroll ?_
             refine W.rg ?_
             refine SL.val (O.det (fun _ => G.R.mv (G.R.lss rfl rfl) (congrArg Value.bool (decide_eq_true (by decide)))) rfl Taken.no) ?_
             refine E.fo (W.seq ?_)
             refine W.cond_t rfl ?_
             refine W.skip (E.to (W.seq (W.block (W.rg ?_))))
             refine SL.val (O.idxval (i := 0) rfl rfl (by rfl) (by decide) (by rfl) Try.underlying106 (by kernel_rfl) Try.underlying39 rfl rfl Taken.no) ?_
             refine SL.an rfl rfl (E.fo (W.rg (SL.mv rfl rfl (SL.mv rfl rfl ?_))))
             refine SL.val (O.nilCheck rfl rfl rfl Taken.no) ?_
             refine SL.val (O.fld_fz rfl Try.underlying78 rfl (m := 0) (by kernel_rfl) rfl rfl Taken.no) ?_
             refine SL.val (O.ld1 (PtI.ofU (PtU.fz rfl)) rfl Try.underlying76 rfl rfl Taken.no) ?_
             refine SL.val (O.callp rfl rfl rfl (parts_h (n := n) (us := (g0L m atm s)) (by omega) hgb.2.1) (.cons (ArgOk.same rfl) (.cons (ArgOk.same rfl) .nil)) hcallOk42 rfl Taken.no) ?_
             refine SL.val (O.lenE (SlOf.fz rfl (by decide)) (by first | exact List.length_map _ | rfl) Try.underlying75 rfl Taken.no) ?_
             refine SL.mv rfl rfl (E.fo ?_)
             refine W.pick (K:=[(0,_),(6,_),(7,_),(8,_),(11,_),(16,_),(19,_),(21,_),(187,_),(188,_),(189,_),(190,_),(191,_),(192,_),(193,_),(194,_),(195,_),(196,_),(197,_),(198,_)]) (Z:=[(101,_),(119,_),(121,_),(138,_),(139,_)]) ⟨rfl,rfl,rfl,rfl,rfl,rfl,rfl,rfl,rfl,rfl,rfl,rfl,rfl,rfl,rfl,rfl,rfl,rfl,rfl,rfl,trivial⟩ ⟨rfl,rfl,rfl,rfl,rfl,trivial⟩ ?_
             refine W.block ?_
             refine W.loopx1 (fun (p : Nat) => [(198, vI (p : Int)), (19, vI (sumV wt ((partsL lk (g0L m atm s)).take p)))]) (fun (p : Nat) => [(140, .data 3 1 ((nameF (fun x : Nat => (x : Int)) (nm0 m atm s) ((partsL lk (g0L m atm s)).take p)).map eI)), (138, .cells 39 [.own 140])]) (fun (p : Nat) => p ≤ (partsL lk (g0L m atm s)).length) (fun (p : Nat) => (partsL lk (g0L m atm s)).length - p) (0) (rn [(140, 139)]) (.cons (t := 0) rfl (.cons (t := 6) rfl (.cons (t := 7) rfl (.cons (t := 8) rfl (.cons (t := 11) rfl (.cons (t := 16) rfl (.cons (t := 21) rfl (.cons (t := 187) rfl (.cons (t := 188) rfl (.cons (t := 189) rfl (.cons (t := 190) rfl (.cons (t := 191) rfl (.cons (t := 192) rfl (.cons (t := 193) rfl (.cons (t := 194) rfl (.cons (t := 195) rfl (.cons (t := 196) rfl (.cons (t := 197) rfl .nil)))))))))))))))))) (.cons (t := 101) rfl (.cons (t := 119) rfl (.cons (t := 121) rfl .nil))) rfl ?_ ?_ rfl rfl ?_ ?_
             · exact (SubF.cons rfl (SubF.val rfl (by exact iv_int rfl) SubF.nil))
             · exact (SubS.val rfl (by exact sb_data (by rw [List.take_zero]; rfl)) (SubS.cons rfl SubS.nil))
             ·skip
              omega
             intro p hinv
             have hp := hinv
             have hpl : ((partsL lk (g0L m atm s)).take p).length ≤ 400 := by (try rw [List.length_append]); rw [List.length_take]; omega
             have hvb := sumV_b2 hw (L := ((partsL lk (g0L m atm s)).take p)) (fun p hp => hL p (List.mem_append_left _ (List.mem_of_mem_take hp)))
             refine W.rg ?_
             refine SL.val (O.det (fun _ => G.R.lss rfl rfl) rfl Taken.no) ?_
             refine E.fo (W.seq ?_)
             first | refine W.cond_d rfl (fun hc37 => ?_) (fun hc37 => ?_) | refine W.cond_nd rfl (fun hc37 => ?_) (fun hc37 => ?_) | refine W.cond rfl (fun hc37 => ?_) (fun hc37 => ?_)
             ·skip
              have hpu := partsN_units (mem_at (l := (partsL lk (g0L m atm s))) (i := p) (by omega))
              have hvp := valF_b hw (l := ((partsL lk (g0L m atm s))[p]!)) (by omega)
              refine W.skip (E.to (W.seq (W.block (W.rg ?_))))
              refine SL.val (O.idx_fz (i := p) rfl rfl (rfl) (row_get (by omega)) Try.underlying75 hi39 hs39 rfl Taken.no) ?_
              refine SL.val (O.ld1 (PtI.ofU (PtU.fz rfl)) rfl Try.underlying39 rfl rfl Taken.no) ?_
              refine SL.an rfl rfl (E.fo (W.rg (SL.mv rfl rfl (SL.mv rfl rfl (SL.mv rfl rfl ?_)))))
              refine SL.val (O.callp rfl rfl rfl (value_h (l := ((partsL lk (g0L m atm s))[p]!)) hw (by omega) (fun u hu => hgb.2.1 u (hpu.2.2 u hu))) (.cons (ArgOk.same rfl) (.cons (ArgOk.same rfl) .nil)) hcallOk45 rfl Taken.no) ?_
              refine SL.val (O.det (fun _ => by first | exact G.R.add64 rfl rfl (by omega) | exact G.R.add rfl rfl) rfl Taken.no) ?_
              refine SL.an rfl rfl (E.fo ?_)
              refine W.pick (K:=[(0,_),(6,_),(7,_),(8,_),(11,_),(16,_),(19,_),(21,_),(23,_),(187,_),(188,_),(189,_),(190,_),(191,_),(192,_),(193,_),(194,_),(195,_),(196,_),(197,_),(198,_),(199,_),(200,_),(201,_),(202,_),(203,_),(204,_),(205,_),(206,_)]) (Z:=[(101,_),(119,_),(121,_),(138,_),(140,_)]) ⟨rfl,rfl,rfl,rfl,rfl,rfl,rfl,rfl,rfl,rfl,rfl,rfl,rfl,rfl,rfl,rfl,rfl,rfl,rfl,rfl,rfl,rfl,rfl,rfl,rfl,rfl,rfl,rfl,rfl,trivial⟩ ⟨rfl,rfl,rfl,rfl,rfl,trivial⟩ ?_
              refine W.rg (SL.mv rfl rfl ?_)
              refine SL.val (O.lenE (SlOf.fz rfl (by decide)) (by first | exact List.length_map _ | rfl) Try.underlying39 rfl Taken.no) ?_
              refine SL.mv rfl rfl (E.fo ?_)
              refine W.pick (K:=[(0,_),(6,_),(7,_),(8,_),(11,_),(16,_),(19,_),(21,_),(23,_),(187,_),(188,_),(189,_),(190,_),(191,_),(192,_),(193,_),(194,_),(195,_),(196,_),(197,_),(198,_),(199,_),(200,_),(201,_),(202,_),(203,_),(204,_),(205,_),(206,_),(207,_),(208,_),(209,_)]) (Z:=[(101,_),(119,_),(121,_),(138,_),(140,_)]) ⟨rfl,rfl,rfl,rfl,rfl,rfl,rfl,rfl,rfl,rfl,rfl,rfl,rfl,rfl,rfl,rfl,rfl,rfl,rfl,rfl,rfl,rfl,rfl,rfl,rfl,rfl,rfl,rfl,rfl,rfl,rfl,rfl,trivial⟩ ⟨rfl,rfl,rfl,rfl,rfl,trivial⟩ ?_
              refine W.block ?_
              refine W.loopx1 (fun (j : Nat) => [(209, vI (j : Int))]) (fun (j : Nat) => [(141, .data 3 1 ((setAll (nameF (fun x : Nat => (x : Int)) (nm0 m atm s) ((partsL lk (g0L m atm s)).take p)) (((partsL lk (g0L m atm s))[p]!).take j) ((minL ((partsL lk (g0L m atm s))[p]!) : Nat) : Int)).map eI)), (138, .cells 39 [.own 141])]) (fun (j : Nat) => j ≤ ((partsL lk (g0L m atm s))[p]!).length) (fun (j : Nat) => ((partsL lk (g0L m atm s))[p]!).length - j) (0) (rn [(141, 140)]) (.cons (t := 0) rfl (.cons (t := 6) rfl (.cons (t := 7) rfl (.cons (t := 8) rfl (.cons (t := 11) rfl (.cons (t := 16) rfl (.cons (t := 19) rfl (.cons (t := 21) rfl (.cons (t := 23) rfl (.cons (t := 187) rfl (.cons (t := 188) rfl (.cons (t := 189) rfl (.cons (t := 190) rfl (.cons (t := 191) rfl (.cons (t := 192) rfl (.cons (t := 193) rfl (.cons (t := 194) rfl (.cons (t := 195) rfl (.cons (t := 196) rfl (.cons (t := 197) rfl (.cons (t := 198) rfl (.cons (t := 199) rfl (.cons (t := 200) rfl (.cons (t := 201) rfl (.cons (t := 202) rfl (.cons (t := 203) rfl (.cons (t := 204) rfl (.cons (t := 205) rfl (.cons (t := 206) rfl (.cons (t := 207) rfl (.cons (t := 208) rfl .nil))))))))))))))))))))))))))))))) (.cons (t := 101) rfl (.cons (t := 119) rfl (.cons (t := 121) rfl .nil))) rfl ?_ ?_ rfl rfl ?_ ?_
              · exact (SubF.cons rfl SubF.nil)
              · exact (SubS.val rfl (by exact sb_data (by rw [List.take_zero]; rfl)) (SubS.cons rfl SubS.nil))
              ·skip
               omega
              intro j hinv
              have hj := hinv
              have hnl : (setAll (nameF (fun x : Nat => (x : Int)) (nm0 m atm s) ((partsL lk (g0L m atm s)).take p)) (((partsL lk (g0L m atm s))[p]!).take j) ((minL ((partsL lk (g0L m atm s))[p]!) : Nat) : Int)).length = n := by rw [setAll_len, nameF_len, nm0_len]; exact hml
              refine W.rg ?_
              refine SL.val (O.det (fun _ => G.R.lss rfl rfl) rfl Taken.no) ?_
              refine E.fo ?_
              refine W.pick (K:=[(0,_),(6,_),(7,_),(8,_),(11,_),(16,_),(19,_),(21,_),(23,_),(187,_),(188,_),(189,_),(190,_),(191,_),(192,_),(193,_),(194,_),(195,_),(196,_),(197,_),(198,_),(199,_),(200,_),(201,_),(202,_),(203,_),(204,_),(205,_),(206,_),(207,_),(208,_),(209,_),(210,_)]) (Z:=[(101,_),(119,_),(121,_),(138,_),(141,_)]) ⟨rfl,rfl,rfl,rfl,rfl,rfl,rfl,rfl,rfl,rfl,rfl,rfl,rfl,rfl,rfl,rfl,rfl,rfl,rfl,rfl,rfl,rfl,rfl,rfl,rfl,rfl,rfl,rfl,rfl,rfl,rfl,rfl,rfl,trivial⟩ ⟨rfl,rfl,rfl,rfl,rfl,trivial⟩ ?_
              refine W.seq ?_
              first | refine W.cond_d rfl (fun hc38 => ?_) (fun hc38 => ?_) | refine W.cond_nd rfl (fun hc38 => ?_) (fun hc38 => ?_) | refine W.cond rfl (fun hc38 => ?_) (fun hc38 => ?_)
              ·skip
               have hun := hgb.2.1 _ (hpu.2.2 ((partsL lk (g0L m atm s))[p]!)[j]! (mem_at (by omega)))
               refine W.skip (E.to ?_)
               refine W.pick (K:=[(0,_),(6,_),(7,_),(8,_),(11,_),(16,_),(19,_),(21,_),(23,_),(187,_),(188,_),(189,_),(190,_),(191,_),(192,_),(193,_),(194,_),(195,_),(196,_),(197,_),(198,_),(199,_),(200,_),(201,_),(202,_),(203,_),(204,_),(205,_),(206,_),(207,_),(208,_),(209,_),(210,_)]) (Z:=[(101,_),(119,_),(121,_),(138,_),(141,_)]) ⟨rfl,rfl,rfl,rfl,rfl,rfl,rfl,rfl,rfl,rfl,rfl,rfl,rfl,rfl,rfl,rfl,rfl,rfl,rfl,rfl,rfl,rfl,rfl,rfl,rfl,rfl,rfl,rfl,rfl,rfl,rfl,rfl,rfl,trivial⟩ ⟨rfl,rfl,rfl,rfl,rfl,trivial⟩ ?_
               refine W.seq (W.block (W.rg ?_))
               refine SL.val (O.idx_fz (i := j) rfl rfl (rfl) (row_get (by omega)) Try.underlying39 hi3 hs3 rfl Taken.no) ?_
               refine SL.val (O.ld1 (PtI.ofU (PtU.fz rfl)) rfl Try.underlying3 rfl rfl Taken.no) ?_
               refine SL.an rfl rfl (E.fo ?_)
               refine W.pick (K:=[(0,_),(6,_),(7,_),(8,_),(11,_),(16,_),(19,_),(21,_),(23,_),(25,_),(187,_),(188,_),(189,_),(190,_),(191,_),(192,_),(193,_),(194,_),(195,_),(196,_),(197,_),(198,_),(199,_),(200,_),(201,_),(202,_),(203,_),(204,_),(205,_),(206,_),(207,_),(208,_),(209,_),(210,_),(211,_),(212,_)]) (Z:=[(101,_),(119,_),(121,_),(138,_),(141,_)]) ⟨rfl,rfl,rfl,rfl,rfl,rfl,rfl,rfl,rfl,rfl,rfl,rfl,rfl,rfl,rfl,rfl,rfl,rfl,rfl,rfl,rfl,rfl,rfl,rfl,rfl,rfl,rfl,rfl,rfl,rfl,rfl,rfl,rfl,rfl,rfl,rfl,trivial⟩ ⟨rfl,rfl,rfl,rfl,rfl,trivial⟩ ?_
               refine W.draw [⟨[138], [], [], [141]⟩, ⟨[], [], [], []⟩, ⟨[], [], [], []⟩, ⟨[], [], [], []⟩, ⟨[141], [], [], []⟩, ⟨[141], [141], [], []⟩] rfl (by kernel_rfl) (by kernel_rfl) rfl rfl ?_
               refine WH.val (O.ld1 (PtI.ref rfl rfl) rfl Try.underlying39 rfl rfl Taken.no) rfl rfl ?_
               refine WH.mv rfl rfl rfl (WH.mv rfl rfl rfl ?_)
               refine WH.val (O.callp rfl rfl rfl (min_h (l := ((partsL lk (g0L m atm s))[p]!)) (by omega)) (.cons (ArgOk.same rfl) .nil) hcallOk62 rfl Taken.no) rfl rfl ?_
               refine WH.val (O.idx_own (i := (((partsL lk (g0L m atm s))[p]!)[j]!)) rfl rfl rfl (rfl) (by rw [List.length_map]; omega) Try.underlying39 hi3 hs3 rfl Taken.no) rfl rfl ?_
               refine WH.effS (O.st_els (m := 1) rfl rfl rfl (us := [_]) rfl rfl (by kernel_rfl) (by simp) (row_get (by omega)) (by exact Nat.le_of_ble_eq_true rfl) rfl rfl (rows' := ((setAll (nameF (fun x : Nat => (x : Int)) (nm0 m atm s) ((partsL lk (g0L m atm s)).take p)) (((partsL lk (g0L m atm s))[p]!).take j) ((minL ((partsL lk (g0L m atm s))[p]!) : Nat) : Int)).set (((partsL lk (g0L m atm s))[p]!)[j]!) ((minL ((partsL lk (g0L m atm s))[p]!) : Nat) : Int)).map eI) (by exact set_map rfl) Taken.no) rfl rfl rfl (S' := (141, _) :: _) rfl ?_
               refine WH.nil (E.inn (E.to ?_))
               refine W.pick (K:=[(0,_),(6,_),(7,_),(8,_),(11,_),(16,_),(19,_),(21,_),(23,_),(25,_),(187,_),(188,_),(189,_),(190,_),(191,_),(192,_),(193,_),(194,_),(195,_),(196,_),(197,_),(198,_),(199,_),(200,_),(201,_),(202,_),(203,_),(204,_),(205,_),(206,_),(207,_),(208,_),(209,_),(210,_),(211,_),(212,_),(213,_),(214,_),(215,_),(216,_),(217,_)]) (Z:=[(101,_),(119,_),(121,_),(138,_),(141,_)]) ⟨rfl,rfl,rfl,rfl,rfl,rfl,rfl,rfl,rfl,rfl,rfl,rfl,rfl,rfl,rfl,rfl,rfl,rfl,rfl,rfl,rfl,rfl,rfl,rfl,rfl,rfl,rfl,rfl,rfl,rfl,rfl,rfl,rfl,rfl,rfl,rfl,rfl,rfl,rfl,rfl,rfl,trivial⟩ ⟨rfl,rfl,rfl,rfl,rfl,trivial⟩ ?_
               refine W.region ?_
               refine SL.val (O.det (fun _ => by first | exact G.R.add64 rfl rfl (by omega) | exact G.R.add rfl rfl) rfl Taken.no) ?_
               refine SL.mv rfl rfl (SL.nil ?_)
               refine E.again ((j + 1)) (rn []) ?_ ?_ rfl (fixL_spec rfl) ?_ ?_
               · exact (SubF.cons rfl (SubF.cons rfl (SubF.cons rfl (SubF.cons rfl (SubF.cons rfl (SubF.cons rfl (SubF.cons rfl (SubF.cons rfl (SubF.cons rfl (SubF.cons rfl (SubF.cons rfl (SubF.cons rfl (SubF.cons rfl (SubF.cons rfl (SubF.cons rfl (SubF.cons rfl (SubF.cons rfl (SubF.cons rfl (SubF.cons rfl (SubF.cons rfl (SubF.cons rfl (SubF.cons rfl (SubF.cons rfl (SubF.cons rfl (SubF.cons rfl (SubF.cons rfl (SubF.cons rfl (SubF.cons rfl (SubF.cons rfl (SubF.cons rfl (SubF.cons rfl (SubF.cons rfl SubF.nil))))))))))))))))))))))))))))))))
               · exact (SubS.val rfl (by (try dsimp only); exact sb_data (by rw [setAll_sG (by omega)])) (SubS.cons rfl (SubS.cons rfl (SubS.cons rfl (SubS.cons rfl SubS.nil)))))
               ·try dsimp only
                omega
               · (try dsimp only); omega
              ·skip
               refine W.exit (E.th (E.th (E.hit (E.inn (E.to ?_)))))
               refine W.pick (K:=[(0,_),(6,_),(7,_),(8,_),(11,_),(16,_),(19,_),(21,_),(23,_),(187,_),(188,_),(189,_),(190,_),(191,_),(192,_),(193,_),(194,_),(195,_),(196,_),(197,_),(198,_),(199,_),(200,_),(201,_),(202,_),(203,_),(204,_),(205,_),(206,_),(207,_),(208,_),(209,_),(210,_)]) (Z:=[(101,_),(119,_),(121,_),(138,_),(141,_)]) ⟨rfl,rfl,rfl,rfl,rfl,rfl,rfl,rfl,rfl,rfl,rfl,rfl,rfl,rfl,rfl,rfl,rfl,rfl,rfl,rfl,rfl,rfl,rfl,rfl,rfl,rfl,rfl,rfl,rfl,rfl,rfl,rfl,rfl,trivial⟩ ⟨rfl,rfl,rfl,rfl,rfl,trivial⟩ ?_
               refine W.region ?_
               refine SL.val (O.det (fun _ => by first | exact G.R.add64 rfl rfl (by omega) | exact G.R.add rfl rfl) rfl Taken.no) ?_
               refine SL.mv rfl rfl (SL.nil ?_)
               refine E.again ((p + 1)) (rn [(140, 141)]) ?_ ?_ rfl (fixL_spec rfl) ?_ ?_
               · exact (SubF.cons rfl (SubF.val rfl (by (try dsimp only); exact iv_int (by rw [snocP (l := (partsL lk (g0L m atm s))) (by omega), sumV_snoc])) (SubF.cons rfl (SubF.cons rfl (SubF.cons rfl (SubF.cons rfl (SubF.cons rfl (SubF.cons rfl (SubF.cons rfl (SubF.cons rfl (SubF.cons rfl (SubF.cons rfl (SubF.cons rfl (SubF.cons rfl (SubF.cons rfl (SubF.cons rfl (SubF.cons rfl (SubF.cons rfl (SubF.cons rfl (SubF.cons rfl SubF.nil))))))))))))))))))))
               · exact (SubS.val rfl (by (try dsimp only); exact sb_data (by rw [snocP (l := (partsL lk (g0L m atm s))) (by omega), nameF_snoc, show j = ((partsL lk (g0L m atm s))[p]!).length by omega, List.take_length])) (SubS.cons rfl (SubS.cons rfl (SubS.cons rfl (SubS.cons rfl SubS.nil)))))
               ·try dsimp only
                omega
               · (try dsimp only); omega
             ·skip
              refine W.exit (E.th (E.th (E.hit (E.inn (E.to (W.region ?_))))))
              refine SL.val (O.det (fun _ => by first | exact G.R.add64 rfl rfl (by omega) | exact G.R.add rfl rfl) rfl Taken.no) ?_
              refine SL.mv rfl rfl (SL.nil ?_)
              refine E.reround ?_
              refine W.pick (K:=[(0,_),(6,_),(7,_),(8,_),(11,_),(16,_),(19,_),(21,_),(187,_),(188,_),(189,_),(190,_),(191,_),(192,_),(193,_),(194,_),(195,_),(196,_),(197,_),(198,_),(199,_),(220,_)]) (Z:=[(101,_),(119,_),(121,_),(138,_),(140,_)]) ⟨rfl,rfl,rfl,rfl,rfl,rfl,rfl,rfl,rfl,rfl,rfl,rfl,rfl,rfl,rfl,rfl,rfl,rfl,rfl,rfl,rfl,rfl,trivial⟩ ⟨rfl,rfl,rfl,rfl,rfl,trivial⟩ ?_
              refine W.rg ?_
              refine SL.val (O.det (fun _ => G.R.mv (G.R.lss rfl rfl) (congrArg Value.bool (decide_eq_true (by decide)))) rfl Taken.no) ?_
              refine E.fo (W.seq ?_)
              refine W.cond_t rfl ?_
              refine W.skip (E.to (W.seq (W.block (W.rg ?_))))
              refine SL.val (O.idxval (i := 1) rfl rfl (by rfl) (by decide) (by rfl) Try.underlying106 (by kernel_rfl) Try.underlying39 rfl rfl Taken.no) ?_
              refine SL.an rfl rfl ?_
              refine SL.as (i' := vL 1 ((g1L m atm s).map eN)) 21 rfl (by (rw [← hg1]; try rfl)) ?_
              refine E.fo ?_
              refine W.pick (K:=[(0,_),(6,_),(7,_),(8,_),(11,_),(16,_),(19,_),(21,_),(187,_),(188,_),(189,_),(190,_),(191,_),(192,_),(193,_),(194,_),(195,_),(196,_),(197,_),(198,_),(199,_),(220,_)]) (Z:=[(101,_),(119,_),(121,_),(138,_),(140,_)]) ⟨rfl,rfl,rfl,rfl,rfl,rfl,rfl,rfl,rfl,rfl,rfl,rfl,rfl,rfl,rfl,rfl,rfl,rfl,rfl,rfl,rfl,rfl,trivial⟩ ⟨rfl,rfl,rfl,rfl,rfl,trivial⟩ ?_
              refine W.rg (SL.mv rfl rfl (SL.mv rfl rfl ?_))
              refine SL.val (O.nilCheck rfl rfl rfl Taken.no) ?_
              refine SL.val (O.fld_fz rfl Try.underlying78 rfl (m := 0) (by kernel_rfl) rfl rfl Taken.no) ?_
              refine SL.val (O.ld1 (PtI.ofU (PtU.fz rfl)) rfl Try.underlying76 rfl rfl Taken.no) ?_
              refine SL.val (O.callp rfl rfl rfl (parts_h (n := n) (us := (g1L m atm s)) (by omega) hgb.2.2) (.cons (ArgOk.same rfl) (.cons (ArgOk.same rfl) .nil)) hcallOk42 rfl Taken.no) ?_
              refine SL.val (O.lenE (SlOf.fz rfl (by decide)) (by first | exact List.length_map _ | rfl) Try.underlying75 rfl Taken.no) ?_
              refine SL.mv rfl rfl (E.fo ?_)
              refine W.pick (K:=[(0,_),(6,_),(7,_),(8,_),(11,_),(16,_),(19,_),(21,_),(187,_),(188,_),(189,_),(190,_),(191,_),(192,_),(193,_),(194,_),(195,_),(196,_),(197,_),(198,_),(199,_),(220,_)]) (Z:=[(101,_),(119,_),(121,_),(138,_),(140,_)]) ⟨rfl,rfl,rfl,rfl,rfl,rfl,rfl,rfl,rfl,rfl,rfl,rfl,rfl,rfl,rfl,rfl,rfl,rfl,rfl,rfl,rfl,rfl,trivial⟩ ⟨rfl,rfl,rfl,rfl,rfl,trivial⟩ ?_
              refine W.block ?_
              refine W.loopx1 (fun (q : Nat) => [(198, vI (q : Int)), (19, vI (sumV wt ((partsL lk (g0L m atm s)) ++ (partsL lk (g1L m atm s)).take q)))]) (fun (q : Nat) => [(142, .data 3 1 ((nameF (fun x : Nat => (x : Int)) (nm0 m atm s) ((partsL lk (g0L m atm s)) ++ (partsL lk (g1L m atm s)).take q)).map eI)), (138, .cells 39 [.own 142])]) (fun (q : Nat) => q ≤ (partsL lk (g1L m atm s)).length) (fun (q : Nat) => (partsL lk (g1L m atm s)).length - q) (0) (rn [(142, 140)]) (.cons (t := 0) rfl (.cons (t := 6) rfl (.cons (t := 7) rfl (.cons (t := 8) rfl (.cons (t := 11) rfl (.cons (t := 16) rfl (.cons (t := 21) rfl (.cons (t := 187) rfl (.cons (t := 188) rfl (.cons (t := 189) rfl (.cons (t := 190) rfl (.cons (t := 191) rfl (.cons (t := 192) rfl (.cons (t := 193) rfl (.cons (t := 194) rfl (.cons (t := 195) rfl (.cons (t := 196) rfl (.cons (t := 197) rfl (.cons (t := 220) rfl .nil))))))))))))))))))) (.cons (t := 101) rfl (.cons (t := 119) rfl (.cons (t := 121) rfl .nil))) rfl ?_ ?_ rfl rfl ?_ ?_
              · exact (SubF.cons rfl (SubF.val rfl (by exact iv_int (by rw [List.take_zero, List.append_nil, show p = (partsL lk (g0L m atm s)).length by omega, List.take_length])) SubF.nil))
              · exact (SubS.val rfl (by exact sb_data (by rw [List.take_zero, List.append_nil, show p = (partsL lk (g0L m atm s)).length by omega, List.take_length])) (SubS.cons rfl SubS.nil))
              ·skip
               omega
              intro q hinv
              have hq := hinv
              have hpl : ((partsL lk (g0L m atm s)) ++ (partsL lk (g1L m atm s)).take q).length ≤ 400 := by (try rw [List.length_append]); rw [List.length_take]; omega
              have hvb := sumV_b2 hw (L := ((partsL lk (g0L m atm s)) ++ (partsL lk (g1L m atm s)).take q)) (fun p hp => hL p ((List.mem_append.1 hp).elim (fun z => List.mem_append_left _ z) fun z => List.mem_append_right _ (List.mem_of_mem_take z)))
              refine W.rg ?_
              refine SL.val (O.det (fun _ => G.R.lss rfl rfl) rfl Taken.no) ?_
              refine E.fo (W.seq ?_)
              first | refine W.cond_d rfl (fun hc39 => ?_) (fun hc39 => ?_) | refine W.cond_nd rfl (fun hc39 => ?_) (fun hc39 => ?_) | refine W.cond rfl (fun hc39 => ?_) (fun hc39 => ?_)
              ·skip
               have hpu := partsN_units (mem_at (l := (partsL lk (g1L m atm s))) (i := q) (by omega))
               have hvp := valF_b hw (l := ((partsL lk (g1L m atm s))[q]!)) (by omega)
               refine W.skip (E.to (W.seq (W.block (W.rg ?_))))
               refine SL.val (O.idx_fz (i := q) rfl rfl (rfl) (row_get (by omega)) Try.underlying75 hi39 hs39 rfl Taken.no) ?_
               refine SL.val (O.ld1 (PtI.ofU (PtU.fz rfl)) rfl Try.underlying39 rfl rfl Taken.no) ?_
               refine SL.an rfl rfl (E.fo ?_)
               refine W.pick (K:=[(0,_),(6,_),(7,_),(8,_),(11,_),(16,_),(19,_),(21,_),(23,_),(187,_),(188,_),(189,_),(190,_),(191,_),(192,_),(193,_),(194,_),(195,_),(196,_),(197,_),(198,_),(199,_),(200,_),(201,_),(220,_)]) (Z:=[(101,_),(119,_),(121,_),(138,_),(142,_)]) ⟨rfl,rfl,rfl,rfl,rfl,rfl,rfl,rfl,rfl,rfl,rfl,rfl,rfl,rfl,rfl,rfl,rfl,rfl,rfl,rfl,rfl,rfl,rfl,rfl,rfl,trivial⟩ ⟨rfl,rfl,rfl,rfl,rfl,trivial⟩ ?_
               refine W.rg (SL.mv rfl rfl (SL.mv rfl rfl (SL.mv rfl rfl ?_)))
               refine SL.val (O.callp rfl rfl rfl (value_h (l := ((partsL lk (g1L m atm s))[q]!)) hw (by omega) (fun u hu => hgb.2.2 u (hpu.2.2 u hu))) (.cons (ArgOk.same rfl) (.cons (ArgOk.same rfl) .nil)) hcallOk45 rfl Taken.no) ?_
               refine SL.val (O.det (fun _ => by first | exact G.R.add64 rfl rfl (by omega) | exact G.R.add rfl rfl) rfl Taken.no) ?_
               refine SL.an rfl rfl (E.fo ?_)
               refine W.pick (K:=[(0,_),(6,_),(7,_),(8,_),(11,_),(16,_),(19,_),(21,_),(23,_),(187,_),(188,_),(189,_),(190,_),(191,_),(192,_),(193,_),(194,_),(195,_),(196,_),(197,_),(198,_),(199,_),(200,_),(201,_),(202,_),(203,_),(204,_),(205,_),(206,_),(220,_)]) (Z:=[(101,_),(119,_),(121,_),(138,_),(142,_)]) ⟨rfl,rfl,rfl,rfl,rfl,rfl,rfl,rfl,rfl,rfl,rfl,rfl,rfl,rfl,rfl,rfl,rfl,rfl,rfl,rfl,rfl,rfl,rfl,rfl,rfl,rfl,rfl,rfl,rfl,rfl,trivial⟩ ⟨rfl,rfl,rfl,rfl,rfl,trivial⟩ ?_
               refine W.rg (SL.mv rfl rfl ?_)
               refine SL.val (O.lenE (SlOf.fz rfl (by decide)) (by first | exact List.length_map _ | rfl) Try.underlying39 rfl Taken.no) ?_
               refine SL.mv rfl rfl (E.fo ?_)
               refine W.pick (K:=[(0,_),(6,_),(7,_),(8,_),(11,_),(16,_),(19,_),(21,_),(23,_),(187,_),(188,_),(189,_),(190,_),(191,_),(192,_),(193,_),(194,_),(195,_),(196,_),(197,_),(198,_),(199,_),(200,_),(201,_),(202,_),(203,_),(204,_),(205,_),(206,_),(207,_),(208,_),(209,_),(220,_)]) (Z:=[(101,_),(119,_),(121,_),(138,_),(142,_)]) ⟨rfl,rfl,rfl,rfl,rfl,rfl,rfl,rfl,rfl,rfl,rfl,rfl,rfl,rfl,rfl,rfl,rfl,rfl,rfl,rfl,rfl,rfl,rfl,rfl,rfl,rfl,rfl,rfl,rfl,rfl,rfl,rfl,rfl,trivial⟩ ⟨rfl,rfl,rfl,rfl,rfl,trivial⟩ ?_
               refine W.block ?_
               refine W.loopx1 (fun (j : Nat) => [(209, vI (j : Int))]) (fun (j : Nat) => [(143, .data 3 1 ((setAll (nameF (fun x : Nat => (x : Int)) (nm0 m atm s) ((partsL lk (g0L m atm s)) ++ (partsL lk (g1L m atm s)).take q)) (((partsL lk (g1L m atm s))[q]!).take j) ((minL ((partsL lk (g1L m atm s))[q]!) : Nat) : Int)).map eI)), (138, .cells 39 [.own 143])]) (fun (j : Nat) => j ≤ ((partsL lk (g1L m atm s))[q]!).length) (fun (j : Nat) => ((partsL lk (g1L m atm s))[q]!).length - j) (0) (rn [(143, 142)]) (.cons (t := 0) rfl (.cons (t := 6) rfl (.cons (t := 7) rfl (.cons (t := 8) rfl (.cons (t := 11) rfl (.cons (t := 16) rfl (.cons (t := 19) rfl (.cons (t := 21) rfl (.cons (t := 23) rfl (.cons (t := 187) rfl (.cons (t := 188) rfl (.cons (t := 189) rfl (.cons (t := 190) rfl (.cons (t := 191) rfl (.cons (t := 192) rfl (.cons (t := 193) rfl (.cons (t := 194) rfl (.cons (t := 195) rfl (.cons (t := 196) rfl (.cons (t := 197) rfl (.cons (t := 198) rfl (.cons (t := 199) rfl (.cons (t := 200) rfl (.cons (t := 201) rfl (.cons (t := 202) rfl (.cons (t := 203) rfl (.cons (t := 204) rfl (.cons (t := 205) rfl (.cons (t := 206) rfl (.cons (t := 207) rfl (.cons (t := 208) rfl (.cons (t := 220) rfl .nil)))))))))))))))))))))))))))))))) (.cons (t := 101) rfl (.cons (t := 119) rfl (.cons (t := 121) rfl .nil))) rfl ?_ ?_ rfl rfl ?_ ?_
               · exact (SubF.cons rfl SubF.nil)
               · exact (SubS.val rfl (by exact sb_data (by rw [List.take_zero]; rfl)) (SubS.cons rfl SubS.nil))
               ·skip
                omega
               intro j hinv
               have hj := hinv
               have hnl : (setAll (nameF (fun x : Nat => (x : Int)) (nm0 m atm s) ((partsL lk (g0L m atm s)) ++ (partsL lk (g1L m atm s)).take q)) (((partsL lk (g1L m atm s))[q]!).take j) ((minL ((partsL lk (g1L m atm s))[q]!) : Nat) : Int)).length = n := by rw [setAll_len, nameF_len, nm0_len]; exact hml
               refine W.rg ?_
               refine SL.val (O.det (fun _ => G.R.lss rfl rfl) rfl Taken.no) ?_
               refine E.fo ?_
               refine W.pick (K:=[(0,_),(6,_),(7,_),(8,_),(11,_),(16,_),(19,_),(21,_),(23,_),(187,_),(188,_),(189,_),(190,_),(191,_),(192,_),(193,_),(194,_),(195,_),(196,_),(197,_),(198,_),(199,_),(200,_),(201,_),(202,_),(203,_),(204,_),(205,_),(206,_),(207,_),(208,_),(209,_),(210,_),(220,_)]) (Z:=[(101,_),(119,_),(121,_),(138,_),(143,_)]) ⟨rfl,rfl,rfl,rfl,rfl,rfl,rfl,rfl,rfl,rfl,rfl,rfl,rfl,rfl,rfl,rfl,rfl,rfl,rfl,rfl,rfl,rfl,rfl,rfl,rfl,rfl,rfl,rfl,rfl,rfl,rfl,rfl,rfl,rfl,trivial⟩ ⟨rfl,rfl,rfl,rfl,rfl,trivial⟩ ?_
               refine W.seq ?_
               first | refine W.cond_d rfl (fun hc40 => ?_) (fun hc40 => ?_) | refine W.cond_nd rfl (fun hc40 => ?_) (fun hc40 => ?_) | refine W.cond rfl (fun hc40 => ?_) (fun hc40 => ?_)
               ·skip
                have hun := hgb.2.2 _ (hpu.2.2 ((partsL lk (g1L m atm s))[q]!)[j]! (mem_at (by omega)))
                refine W.skip (E.to ?_)
                refine W.pick (K:=[(0,_),(6,_),(7,_),(8,_),(11,_),(16,_),(19,_),(21,_),(23,_),(187,_),(188,_),(189,_),(190,_),(191,_),(192,_),(193,_),(194,_),(195,_),(196,_),(197,_),(198,_),(199,_),(200,_),(201,_),(202,_),(203,_),(204,_),(205,_),(206,_),(207,_),(208,_),(209,_),(210,_),(220,_)]) (Z:=[(101,_),(119,_),(121,_),(138,_),(143,_)]) ⟨rfl,rfl,rfl,rfl,rfl,rfl,rfl,rfl,rfl,rfl,rfl,rfl,rfl,rfl,rfl,rfl,rfl,rfl,rfl,rfl,rfl,rfl,rfl,rfl,rfl,rfl,rfl,rfl,rfl,rfl,rfl,rfl,rfl,rfl,trivial⟩ ⟨rfl,rfl,rfl,rfl,rfl,trivial⟩ ?_
                refine W.seq (W.block (W.rg ?_))
                refine SL.val (O.idx_fz (i := j) rfl rfl (rfl) (row_get (by omega)) Try.underlying39 hi3 hs3 rfl Taken.no) ?_
                refine SL.val (O.ld1 (PtI.ofU (PtU.fz rfl)) rfl Try.underlying3 rfl rfl Taken.no) ?_
                refine SL.an rfl rfl (E.fo ?_)
                refine W.pick (K:=[(0,_),(6,_),(7,_),(8,_),(11,_),(16,_),(19,_),(21,_),(23,_),(25,_),(187,_),(188,_),(189,_),(190,_),(191,_),(192,_),(193,_),(194,_),(195,_),(196,_),(197,_),(198,_),(199,_),(200,_),(201,_),(202,_),(203,_),(204,_),(205,_),(206,_),(207,_),(208,_),(209,_),(210,_),(211,_),(212,_),(220,_)]) (Z:=[(101,_),(119,_),(121,_),(138,_),(143,_)]) ⟨rfl,rfl,rfl,rfl,rfl,rfl,rfl,rfl,rfl,rfl,rfl,rfl,rfl,rfl,rfl,rfl,rfl,rfl,rfl,rfl,rfl,rfl,rfl,rfl,rfl,rfl,rfl,rfl,rfl,rfl,rfl,rfl,rfl,rfl,rfl,rfl,rfl,trivial⟩ ⟨rfl,rfl,rfl,rfl,rfl,trivial⟩ ?_
                refine W.draw [⟨[138], [], [], [143]⟩, ⟨[], [], [], []⟩, ⟨[], [], [], []⟩, ⟨[], [], [], []⟩, ⟨[143], [], [], []⟩, ⟨[143], [143], [], []⟩] rfl (by kernel_rfl) (by kernel_rfl) rfl rfl ?_
                refine WH.val (O.ld1 (PtI.ref rfl rfl) rfl Try.underlying39 rfl rfl Taken.no) rfl rfl ?_
                refine WH.mv rfl rfl rfl (WH.mv rfl rfl rfl ?_)
                refine WH.val (O.callp rfl rfl rfl (min_h (l := ((partsL lk (g1L m atm s))[q]!)) (by omega)) (.cons (ArgOk.same rfl) .nil) hcallOk62 rfl Taken.no) rfl rfl ?_
                refine WH.val (O.idx_own (i := (((partsL lk (g1L m atm s))[q]!)[j]!)) rfl rfl rfl (rfl) (by rw [List.length_map]; omega) Try.underlying39 hi3 hs3 rfl Taken.no) rfl rfl ?_
                refine WH.effS (O.st_els (m := 1) rfl rfl rfl (us := [_]) rfl rfl (by kernel_rfl) (by simp) (row_get (by omega)) (by exact Nat.le_of_ble_eq_true rfl) rfl rfl (rows' := ((setAll (nameF (fun x : Nat => (x : Int)) (nm0 m atm s) ((partsL lk (g0L m atm s)) ++ (partsL lk (g1L m atm s)).take q)) (((partsL lk (g1L m atm s))[q]!).take j) ((minL ((partsL lk (g1L m atm s))[q]!) : Nat) : Int)).set (((partsL lk (g1L m atm s))[q]!)[j]!) ((minL ((partsL lk (g1L m atm s))[q]!) : Nat) : Int)).map eI) (by exact set_map rfl) Taken.no) rfl rfl rfl (S' := (143, _) :: _) rfl ?_
                refine WH.nil (E.inn (E.to ?_))
                refine W.pick (K:=[(0,_),(6,_),(7,_),(8,_),(11,_),(16,_),(19,_),(21,_),(23,_),(25,_),(187,_),(188,_),(189,_),(190,_),(191,_),(192,_),(193,_),(194,_),(195,_),(196,_),(197,_),(198,_),(199,_),(200,_),(201,_),(202,_),(203,_),(204,_),(205,_),(206,_),(207,_),(208,_),(209,_),(210,_),(211,_),(212,_),(213,_),(214,_),(215,_),(216,_),(217,_),(220,_)]) (Z:=[(101,_),(119,_),(121,_),(138,_),(143,_)]) ⟨rfl,rfl,rfl,rfl,rfl,rfl,rfl,rfl,rfl,rfl,rfl,rfl,rfl,rfl,rfl,rfl,rfl,rfl,rfl,rfl,rfl,rfl,rfl,rfl,rfl,rfl,rfl,rfl,rfl,rfl,rfl,rfl,rfl,rfl,rfl,rfl,rfl,rfl,rfl,rfl,rfl,rfl,trivial⟩ ⟨rfl,rfl,rfl,rfl,rfl,trivial⟩ ?_
                refine W.region ?_
                refine SL.val (O.det (fun _ => by first | exact G.R.add64 rfl rfl (by omega) | exact G.R.add rfl rfl) rfl Taken.no) ?_
                refine SL.mv rfl rfl (SL.nil ?_)
                refine E.again ((j + 1)) (rn []) ?_ ?_ rfl (fixL_spec rfl) ?_ ?_
                · exact (SubF.cons rfl (SubF.cons rfl (SubF.cons rfl (SubF.cons rfl (SubF.cons rfl (SubF.cons rfl (SubF.cons rfl (SubF.cons rfl (SubF.cons rfl (SubF.cons rfl (SubF.cons rfl (SubF.cons rfl (SubF.cons rfl (SubF.cons rfl (SubF.cons rfl (SubF.cons rfl (SubF.cons rfl (SubF.cons rfl (SubF.cons rfl (SubF.cons rfl (SubF.cons rfl (SubF.cons rfl (SubF.cons rfl (SubF.cons rfl (SubF.cons rfl (SubF.cons rfl (SubF.cons rfl (SubF.cons rfl (SubF.cons rfl (SubF.cons rfl (SubF.cons rfl (SubF.cons rfl (SubF.cons rfl SubF.nil)))))))))))))))))))))))))))))))))
                · exact (SubS.val rfl (by (try dsimp only); exact sb_data (by rw [setAll_sG (by omega)])) (SubS.cons rfl (SubS.cons rfl (SubS.cons rfl (SubS.cons rfl SubS.nil)))))
                ·try dsimp only
                 omega
                · (try dsimp only); omega
               ·skip
                refine W.exit (E.th (E.th (E.hit (E.inn (E.to ?_)))))
                refine W.pick (K:=[(0,_),(6,_),(7,_),(8,_),(11,_),(16,_),(19,_),(21,_),(23,_),(187,_),(188,_),(189,_),(190,_),(191,_),(192,_),(193,_),(194,_),(195,_),(196,_),(197,_),(198,_),(199,_),(200,_),(201,_),(202,_),(203,_),(204,_),(205,_),(206,_),(207,_),(208,_),(209,_),(210,_),(220,_)]) (Z:=[(101,_),(119,_),(121,_),(138,_),(143,_)]) ⟨rfl,rfl,rfl,rfl,rfl,rfl,rfl,rfl,rfl,rfl,rfl,rfl,rfl,rfl,rfl,rfl,rfl,rfl,rfl,rfl,rfl,rfl,rfl,rfl,rfl,rfl,rfl,rfl,rfl,rfl,rfl,rfl,rfl,rfl,trivial⟩ ⟨rfl,rfl,rfl,rfl,rfl,trivial⟩ ?_
                refine W.region ?_
                refine SL.val (O.det (fun _ => by first | exact G.R.add64 rfl rfl (by omega) | exact G.R.add rfl rfl) rfl Taken.no) ?_
                refine SL.mv rfl rfl (SL.nil ?_)
                refine E.again ((q + 1)) (rn [(142, 143)]) ?_ ?_ rfl (fixL_spec rfl) ?_ ?_
                · exact (SubF.cons rfl (SubF.val rfl (by (try dsimp only); exact iv_int (by rw [snocP (l := (partsL lk (g1L m atm s))) (by omega), ← List.append_assoc, sumV_snoc])) (SubF.cons rfl (SubF.cons rfl (SubF.cons rfl (SubF.cons rfl (SubF.cons rfl (SubF.cons rfl (SubF.cons rfl (SubF.cons rfl (SubF.cons rfl (SubF.cons rfl (SubF.cons rfl (SubF.cons rfl (SubF.cons rfl (SubF.cons rfl (SubF.cons rfl (SubF.cons rfl (SubF.cons rfl (SubF.cons rfl (SubF.cons rfl SubF.nil)))))))))))))))))))))
                · exact (SubS.val rfl (by (try dsimp only); exact sb_data (by rw [snocP (l := (partsL lk (g1L m atm s))) (by omega), ← List.append_assoc, nameF_snoc, show j = ((partsL lk (g1L m atm s))[q]!).length by omega, List.take_length])) (SubS.cons rfl (SubS.cons rfl (SubS.cons rfl (SubS.cons rfl SubS.nil)))))
                ·try dsimp only
                 omega
                · (try dsimp only); omega
              ·skip
               refine W.exit (E.th (E.th (E.hit (E.inn (E.to (W.region ?_))))))
               refine SL.val (O.det (fun _ => by first | exact G.R.add64 rfl rfl (by omega) | exact G.R.add rfl rfl) rfl Taken.no) ?_
               refine SL.mv rfl rfl (SL.nil ?_)
               refine E.reround ?_
               refine W.pick (K:=[(0,_),(6,_),(7,_),(8,_),(11,_),(16,_),(19,_),(21,_),(187,_),(188,_),(189,_),(190,_),(191,_),(192,_),(193,_),(194,_),(195,_),(196,_),(197,_),(198,_),(199,_),(220,_)]) (Z:=[(101,_),(119,_),(121,_),(138,_),(142,_)]) ⟨rfl,rfl,rfl,rfl,rfl,rfl,rfl,rfl,rfl,rfl,rfl,rfl,rfl,rfl,rfl,rfl,rfl,rfl,rfl,rfl,rfl,rfl,trivial⟩ ⟨rfl,rfl,rfl,rfl,rfl,trivial⟩ ?_
               refine W.rg ?_
               refine SL.val (O.det (fun _ => G.R.mv (G.R.lss rfl rfl) (congrArg Value.bool (decide_eq_false (by decide)))) rfl Taken.no) ?_
               refine E.fo (W.seq ?_)
               refine W.cond_f rfl ?_
               refine W.exit (E.th (E.th (E.hit (E.to (W.rg ?_)))))
               refine SL.val (O.ld1 (PtI.ref rfl rfl) rfl Try.underlying39 rfl rfl Taken.no) ?_
               refine SL.mv rfl rfl (SL.mv rfl rfl ?_)
               refine SL.val (O.det (fun _ => by first | exact G.R.sub64 rfl rfl (by omega) | exact G.R.sub rfl rfl) rfl Taken.no) ?_
               refine SL.an rfl rfl (SL.an rfl rfl (SL.an rfl rfl (E.fo ?_)))
               refine W.pick (K:=[(6,_),(7,_),(8,_)]) (Z:=[(101,_),(119,_),(121,_),(138,_),(142,_)]) ⟨rfl,rfl,rfl,trivial⟩ ⟨rfl,rfl,rfl,rfl,rfl,trivial⟩ ?_
               refine W.ret ?_
               refine E.freeze 142 rfl (F' := [(6, _)]) (⟨⟨_, rfl, rfl⟩, trivial⟩) ?_
               refine E.fin (rs := [_, _, _]) (rn []) (.inl rfl) rfl (.cons (ResOne.tmp rfl) (.cons (ResOne.tmp rfl) (.cons (ResOne.tmp rfl) .nil))) ?_ ?_ rfl (fixL_spec rfl)
               ·skip
                have hyes : posF n bar atm m s := ⟨hpre, by rw [← hit_eq hml hb]; exact hcl⟩
                rw [← hs, apN_y hyes, apG_y hyes, dec_t hyes, gnF, hfe, hth, show q = (partsL lk (g1L m atm s)).length by omega, List.take_length]; rfl
               · exact SubS.nil
      ·skip
       first | have hg20p := G.gA7 hg20 | have hg20p := G.gA8 hg20 | have hg20p := hg20
       refine WH.sk rfl rfl rfl hg20 (WH.sk rfl rfl rfl hg20 (WH.sk rfl rfl rfl hg20 (WH.sk rfl rfl rfl hg20 (WH.sk rfl rfl rfl hg20 (WH.sk rfl rfl rfl hg20 (WH.sk rfl rfl rfl hg20 (WH.sk rfl rfl rfl hg20 ?_)))))))
       refine WH.val (O.pick_t rfl (G.ne_f hg20) rfl rfl Taken.no) rfl rfl ?_
       refine WH.nil (E.to ?_)
       refine W.pick (K:=[(0,_),(1,_),(5,_),(6,_),(7,_),(8,_),(9,_),(10,_),(88,_)]) (Z:=[(101,_),(119,_)]) ⟨rfl,rfl,rfl,rfl,rfl,rfl,rfl,rfl,rfl,trivial⟩ ⟨rfl,rfl,trivial⟩ ?_
       refine W.cond_t rfl ?_
       refine W.rg (SL.an rfl rfl (SL.an rfl rfl (SL.an rfl rfl (E.fo (W.ret (E.thr (E.thr ?_)))))))
       refine E.nilsl 6 1 rfl ?_
       refine E.fin (rs := [_, _, _]) (rn []) (.inl rfl) rfl (.cons (ResOne.tmp rfl) (.cons (ResOne.tmp rfl) (.cons (ResOne.tmp rfl) .nil))) ?_ ?_ rfl (fixL_spec rfl)
       ·skip
        first | ((have hno : ¬ posF n bar atm m ⟨u, (f : Int), (t : Int)⟩ := fun q => by ((obtain ⟨⟨⟨q1, q2, q3, q4, q5⟩, q6, q7, q8⟩, q9⟩ := posF_iff.1 q); (try simp only [Int.toNat_natCast] at q6 q7 q8); (have q6 := q6 (by omega); omega))); rw [apN_n hno, apG_n hno, dec_f hno]; rfl)
       · exact SubS.nil
     ·skip
      omega
   ·skip
    first | have hg3p := G.gA7 hg3 | have hg3p := G.gA8 hg3 | have hg3p := hg3
    refine WH.sk rfl rfl rfl hg3 (WH.sk rfl rfl rfl hg3 (WH.sk rfl rfl rfl hg3 (WH.sk rfl rfl rfl hg3 ?_)))
    refine WH.skip (OpOk.not2 rfl rfl rfl) ?_
    refine WH.skip (OpOk.not2 rfl rfl rfl) ?_
    refine WH.skip (OpOk.not2 rfl rfl rfl) ?_
    refine WH.skip (OpOk.not2 rfl rfl rfl) ?_
    refine WH.skip (OpOk.not2 rfl rfl rfl) ?_
    refine WH.skip (OpOk.not2 rfl rfl rfl) ?_
    refine WH.skip (OpOk.not2 rfl rfl rfl) ?_
    refine WH.sk rfl rfl rfl hg3 ?_
    refine WH.val (O.pick_t rfl (G.ne_f hg3) rfl rfl Taken.no) rfl rfl ?_
    refine WH.nil (E.to ?_)
    refine W.pick (K:=[(0,_),(1,_),(5,_),(6,_),(7,_),(8,_),(60,_)]) (Z:=[(101,_)]) ⟨rfl,rfl,rfl,rfl,rfl,rfl,rfl,trivial⟩ ⟨rfl,trivial⟩ ?_
    refine W.cond_t rfl ?_
    refine W.rg (SL.an rfl rfl (SL.an rfl rfl (SL.an rfl rfl (E.fo (W.ret (E.thr ?_))))))
    refine E.nilsl 6 1 rfl ?_
    refine E.fin (rs := [_, _, _]) (rn []) (.inl rfl) rfl (.cons (ResOne.tmp rfl) (.cons (ResOne.tmp rfl) (.cons (ResOne.tmp rfl) .nil))) ?_ ?_ rfl (fixL_spec rfl)
    ·skip
     first | ((have hno : ¬ posF n bar atm m ⟨u, f, t⟩ := fun q => by ((obtain ⟨⟨⟨q1, q2, q3, q4, q5⟩, q6, q7, q8⟩, q9⟩ := posF_iff.1 q); (try simp only [Int.toNat_natCast] at q6 q7 q8); (first | omega | (have q5 := q5 (by omega); simp_all)))); rw [apN_n hno, apG_n hno, dec_f hno]; rfl)
    · exact SubS.nil
  ·skip
   first | have hg2p := G.gA7 hg2 | have hg2p := G.gA8 hg2 | have hg2p := hg2
   refine WH.sk rfl rfl rfl hg2 (WH.sk rfl rfl rfl hg2 (WH.sk rfl rfl rfl hg2 (WH.sk rfl rfl rfl hg2 (WH.sk rfl rfl rfl hg2 (WH.sk rfl rfl rfl hg2 (WH.sk rfl rfl rfl hg2 ?_))))))
   refine WH.val (O.pick_t rfl (G.ne_f hg2) rfl rfl Taken.no) rfl rfl ?_
   refine WH.mv rfl rfl rfl ?_
   have hg41 : true ≠ false := by decide
   refine WH.sk rfl rfl rfl hg41 (WH.sk rfl rfl rfl hg41 (WH.sk rfl rfl rfl hg41 (WH.sk rfl rfl rfl hg41 ?_)))
   refine WH.skip (OpOk.not2 rfl rfl rfl) ?_
   refine WH.skip (OpOk.not2 rfl rfl rfl) ?_
   refine WH.skip (OpOk.not2 rfl rfl rfl) ?_
   refine WH.skip (OpOk.not2 rfl rfl rfl) ?_
   refine WH.skip (OpOk.not2 rfl rfl rfl) ?_
   refine WH.skip (OpOk.not2 rfl rfl rfl) ?_
   refine WH.skip (OpOk.not2 rfl rfl rfl) ?_
   refine WH.sk rfl rfl rfl hg41 ?_
   refine WH.val (O.pick_t rfl rfl rfl rfl Taken.no) rfl rfl ?_
   refine WH.nil (E.to ?_)
   refine W.pick (K:=[(0,_),(1,_),(5,_),(6,_),(7,_),(8,_),(60,_)]) (Z:=[(101,_)]) ⟨rfl,rfl,rfl,rfl,rfl,rfl,rfl,trivial⟩ ⟨rfl,trivial⟩ ?_
   refine W.cond_t rfl ?_
   refine W.rg (SL.an rfl rfl (SL.an rfl rfl (SL.an rfl rfl (E.fo (W.ret (E.thr ?_))))))
   refine E.nilsl 6 1 rfl ?_
   refine E.fin (rs := [_, _, _]) (rn []) (.inl rfl) rfl (.cons (ResOne.tmp rfl) (.cons (ResOne.tmp rfl) (.cons (ResOne.tmp rfl) .nil))) ?_ ?_ rfl (fixL_spec rfl)
   ·skip
    first | ((have hno : ¬ posF n bar atm m ⟨u, f, t⟩ := fun q => by ((obtain ⟨⟨⟨q1, q2, q3, q4, q5⟩, q6, q7, q8⟩, q9⟩ := posF_iff.1 q); (try simp only [Int.toNat_natCast] at q6 q7 q8); (first | omega | (have q5 := q5 (by omega); simp_all)))); rw [apN_n hno, apG_n hno, dec_f hno]; rfl)
   · exact SubS.nil
 ·skip
  first | have hg1p := G.gA7 hg1 | have hg1p := G.gA8 hg1 | have hg1p := hg1
  refine WH.sk rfl rfl rfl hg1 (WH.sk rfl rfl rfl hg1 (WH.sk rfl rfl rfl hg1 (WH.sk rfl rfl rfl hg1 (WH.sk rfl rfl rfl hg1 (WH.sk rfl rfl rfl hg1 (WH.sk rfl rfl rfl hg1 ?_))))))
  refine WH.val (O.pick_t rfl (G.ne_f hg1) rfl rfl Taken.no) rfl rfl ?_
  refine WH.mv rfl rfl rfl ?_
  have hg42 : true ≠ false := by decide
  refine WH.sk rfl rfl rfl hg42 (WH.sk rfl rfl rfl hg42 (WH.sk rfl rfl rfl hg42 (WH.sk rfl rfl rfl hg42 (WH.sk rfl rfl rfl hg42 (WH.sk rfl rfl rfl hg42 (WH.sk rfl rfl rfl hg42 ?_))))))
  refine WH.val (O.pick_t rfl rfl rfl rfl Taken.no) rfl rfl ?_
  refine WH.mv rfl rfl rfl ?_
  have hg43 : true ≠ false := by decide
  refine WH.sk rfl rfl rfl hg43 (WH.sk rfl rfl rfl hg43 (WH.sk rfl rfl rfl hg43 (WH.sk rfl rfl rfl hg43 ?_)))
  refine WH.skip (OpOk.not2 rfl rfl rfl) ?_
  refine WH.skip (OpOk.not2 rfl rfl rfl) ?_
  refine WH.skip (OpOk.not2 rfl rfl rfl) ?_
  refine WH.skip (OpOk.not2 rfl rfl rfl) ?_
  refine WH.skip (OpOk.not2 rfl rfl rfl) ?_
  refine WH.skip (OpOk.not2 rfl rfl rfl) ?_
  refine WH.skip (OpOk.not2 rfl rfl rfl) ?_
  refine WH.sk rfl rfl rfl hg43 ?_
  refine WH.val (O.pick_t rfl rfl rfl rfl Taken.no) rfl rfl ?_
  refine WH.nil (E.to ?_)
  refine W.pick (K:=[(0,_),(1,_),(5,_),(6,_),(7,_),(8,_),(60,_)]) (Z:=[(101,_)]) ⟨rfl,rfl,rfl,rfl,rfl,rfl,rfl,trivial⟩ ⟨rfl,trivial⟩ ?_
  refine W.cond_t rfl ?_
  refine W.rg (SL.an rfl rfl (SL.an rfl rfl (SL.an rfl rfl (E.fo (W.ret (E.thr ?_))))))
  refine E.nilsl 6 1 rfl ?_
  refine E.fin (rs := [_, _, _]) (rn []) (.inl rfl) rfl (.cons (ResOne.tmp rfl) (.cons (ResOne.tmp rfl) (.cons (ResOne.tmp rfl) .nil))) ?_ ?_ rfl (fixL_spec rfl)
  ·skip
   first | ((have hno : ¬ posF n bar atm m ⟨u, f, t⟩ := fun q => by ((obtain ⟨⟨⟨q1, q2, q3, q4, q5⟩, q6, q7, q8⟩, q9⟩ := posF_iff.1 q); (try simp only [Int.toNat_natCast] at q6 q7 q8); (first | omega | (have q5 := q5 (by omega); simp_all)))); rw [apN_n hno, apG_n hno, dec_f hno]; rfl)
  · exact SubS.nil

end Go.Proofs.Ytppamigboeaefaa
end
section
namespace Go.Proofs.Ytppamigboeaefaa
open Go Go.RowKit Go.H Go.D33

theorem hcallOk50 : G.callOk Try.prog 50 = true := by kernel_rfl
theorem hcallOk61 : G.callOk Try.prog 61 = true := by kernel_rfl

set_option maxRecDepth 8000 in
set_option maxHeartbeats 3200000 in
/-- (*bookplate/cluster.field).next. -/
theorem next_h {n : Nat} {wt : Nat → Nat → Int} {lk : Nat → Nat → Bool} {bar : List Ru} {atm : List Nat} {m : List Nat} (hn : n ≤ 200) (hw : ∀ i j, -1000 ≤ wt i j ∧ wt i j ≤ 1000) (ha : atm.length = n ∧ ∀ i, i < n → atm[i]! < n) (hb : ∀ x ∈ bar, 0 ≤ x.a ∧ x.a < (n : Int) ∧ 0 ≤ x.b ∧ x.b < (n : Int)) (hml : m.length = n) :
    Con Try.prog 40 [.u (.ptr [uI (n : Int), .sl 1 (gridU (gridF n fun i j => uI (wt i j))), .sl 1 (gridU (gridF n fun i j => uB (lk i j))), .sl 3 (bar.map eRu), .sl 1 (atm.map eN), .sl 1 ((List.range n).map eN)]), vL 1 (m.map eN)] [] (.tup [.agg [vB (bestF (posF n bar atm m) (gnF wt lk m atm) (stepsL (selfs n m) (selfs n atm))).1.u, vI (bestF (posF n bar atm m) (gnF wt lk m atm) (stepsL (selfs n m) (selfs n atm))).1.f, vI (bestF (posF n bar atm m) (gnF wt lk m atm) (stepsL (selfs n m) (selfs n atm))).1.t], vI (bestF (posF n bar atm m) (gnF wt lk m atm) (stepsL (selfs n m) (selfs n atm))).2, vL 1 ((outF lk m atm (bestF (posF n bar atm m) (gnF wt lk m atm) (stepsL (selfs n m) (selfs n atm)))).map eI)]) [] := by
 have hal := ha.1
 have hsb := steps_b n hn m atm
 obtain ⟨i55, hi55, hz55, hs55, hb55⟩ := hinf55
 refine Con.enterL (n := 41) Try.func40 rfl rfl rfl (fun τ w ok vs hin => ?_)
 have hl1 := hin.len (i := 1) rfl
 try rw [List.length_map] at hl1
 clear hin
 refine W.rg ?_
 refine SL.memS (O.alloc (z := .agg #[.bool false, .int .i64 0, .int .i64 0]) (is := [.u (.sc (.bool false)), .u (.sc (.int .i64 0)), .u (.sc (.int .i64 0))]) 101 (by kernel_rfl) rfl rfl rfl Taken.no) rfl rfl (S' := (101, _) :: _) rfl ?_
 refine SL.an rfl rfl (SL.an rfl rfl (E.fo (W.seq (W.rg (SL.mv rfl rfl (SL.mv rfl rfl ?_))))))
 refine SL.val (O.callp rfl rfl rfl (steps_h (m := m) (by omega) (by omega) (by omega)) (.cons (ArgOk.same rfl) (.cons (ArgOk.same rfl) .nil)) hcallOk61 rfl Taken.no) ?_
 refine SL.val (O.lenE (SlOf.fz rfl (by decide)) (by first | exact List.length_map _ | rfl) Try.underlying103 rfl Taken.no) ?_
 refine SL.mv rfl rfl (E.fo (W.block ?_))
 refine W.nilsl 6 1 rfl ?_
 refine W.loopx1 (fun (k : Nat) => [(16, vI (k : Int)), (5, vI (bestF (posF n bar atm m) (gnF wt lk m atm) ((stepsL (selfs n m) (selfs n atm)).take k)).2), (6, vL 1 ((outF lk m atm (bestF (posF n bar atm m) (gnF wt lk m atm) ((stepsL (selfs n m) (selfs n atm)).take k))).map eI))]) (fun (k : Nat) => [(101, .cells 55 [vB (bestF (posF n bar atm m) (gnF wt lk m atm) ((stepsL (selfs n m) (selfs n atm)).take k)).1.u, vI (bestF (posF n bar atm m) (gnF wt lk m atm) ((stepsL (selfs n m) (selfs n atm)).take k)).1.f, vI (bestF (posF n bar atm m) (gnF wt lk m atm) ((stepsL (selfs n m) (selfs n atm)).take k)).1.t])]) (fun (k : Nat) => k ≤ (stepsL (selfs n m) (selfs n atm)).length) (fun (k : Nat) => (stepsL (selfs n m) (selfs n atm)).length - k) (0) (rn []) (.cons (t := 0) rfl (.cons (t := 1) rfl (.cons (t := 4) rfl (.cons (t := 14) rfl (.cons (t := 15) rfl .nil))))) .nil rfl ?_ ?_ rfl rfl ?_ ?_
 · exact (SubF.cons rfl (SubF.cons rfl (SubF.cons rfl SubF.nil)))
 · exact (SubS.cons rfl SubS.nil)
 ·skip
  omega
 intro k hinv
 have hk := hinv
 have hb0 := best_ge (ok := posF n bar atm m) (g := gnF wt lk m atm) (stepsL (selfs n m) (selfs n atm)) hk
 refine W.rg ?_
 refine SL.val (O.det (fun _ => G.R.lss rfl rfl) rfl Taken.no) ?_
 refine E.fo (W.seq ?_)
 first | refine W.cond_d rfl (fun hc1 => ?_) (fun hc1 => ?_) | refine W.cond_nd rfl (fun hc1 => ?_) (fun hc1 => ?_) | refine W.cond rfl (fun hc1 => ?_) (fun hc1 => ?_)
 ·skip
  refine W.skip (E.to (W.seq (W.block (W.rg ?_))))
  refine SL.val (O.idx_fz (i := k) rfl rfl (rfl) (row_get (by omega)) Try.underlying103 hi55 hs55 rfl Taken.no) ?_
  refine SL.val (O.ldU (m := 3) (PtU.fz rfl) rfl Try.underlying55 rfl (by kernel_rfl) rfl Taken.no) ?_
  refine SL.memS (O.alloc (z := .agg #[.bool false, .int .i64 0, .int .i64 0]) (is := [.u (.sc (.bool false)), .u (.sc (.int .i64 0)), .u (.sc (.int .i64 0))]) 102 (by kernel_rfl) rfl rfl rfl Taken.no) rfl rfl (S' := (102, _) :: _) rfl ?_
  refine SL.effS (O.st_ref (m := 3) rfl rfl rfl (js := [_, _, _]) rfl rfl (by kernel_rfl) (by simp) (Nat.le_of_ble_eq_true rfl) rfl (is' := [_, _, _]) rfl Taken.no) (S' := (102, _) :: _) rfl ?_
  refine E.fo (W.rg (SL.mv rfl rfl (SL.mv rfl rfl ?_)))
  refine SL.val (O.ldN (m := 3) (PtI.ref rfl rfl) (js := [_, _, _]) rfl (Nat.le_of_ble_eq_true rfl) Try.underlying55 rfl (by kernel_rfl) rfl Taken.no) ?_
  refine SL.memS (O.call (rn []) [] rfl rfl rfl (apply_h (u := (stepsL (selfs n m) (selfs n atm))[k]!.u) (f := (stepsL (selfs n m) (selfs n atm))[k]!.f) (t := (stepsL (selfs n m) (selfs n atm))[k]!.t) (by omega) hw ha hb hml) (.cons (ArgOk.same rfl) (.cons (ArgOk.same rfl) (.cons (ArgOk.aggU (.cons (ArgOk.same rfl) (.cons (ArgOk.same rfl) (.cons (ArgOk.same rfl) .nil)))) .nil))) SubS.nil rfl rfl rfl rfl rfl (.inl rfl) hcallOk50 (r' := .tup [.u _, .u _, .u _]) rfl rfl Taken.no) rfl rfl (S' := _) rfl ?_
  refine SL.mv rfl rfl ?_
  refine SL.val (O.extract rfl rfl rfl Taken.no) ?_
  refine SL.val (O.extract rfl rfl rfl Taken.no) ?_
  refine SL.val (O.extract rfl rfl rfl Taken.no) ?_
  refine SL.an rfl rfl (SL.an rfl rfl (SL.an rfl rfl (E.fo (W.rg (SL.mv rfl rfl (SL.mv rfl rfl ?_))))))
  refine SL.case (j := 1) (g := 29) (want := true) rfl rfl (fun hg2 => ?_) (fun hg2 => ?_)
  ·skip
   first | have hg2p := G.gA1 hg2 | have hg2p := G.gA2 hg2 | have hg2p := hg2
   refine SL.val (O.move rfl rfl (Taken.yes rfl rfl hg2)) ?_
   refine SL.val (O.move rfl rfl (Taken.yes rfl rfl hg2)) ?_
   refine SL.val (O.det (fun _ => G.R.gtr rfl rfl) rfl (Taken.yes rfl rfl hg2)) ?_
   refine SL.val (O.pick_t rfl hg2 rfl rfl Taken.no) ?_
   refine E.fo ?_
   refine W.pick (K:=[(0,_),(1,_),(4,_),(5,_),(6,_),(8,_),(9,_),(10,_),(14,_),(15,_),(16,_),(33,_)]) (Z:=[(101,_),(102,_)]) ⟨rfl,rfl,rfl,rfl,rfl,rfl,rfl,rfl,rfl,rfl,rfl,rfl,trivial⟩ ⟨rfl,rfl,trivial⟩ ?_
   first | refine W.cond_d rfl (fun hc3 => ?_) (fun hc3 => ?_) | refine W.cond_nd rfl (fun hc3 => ?_) (fun hc3 => ?_) | refine W.cond rfl (fun hc3 => ?_) (fun hc3 => ?_)
   ·skip
    have hp1 : posF n bar atm m (stepsL (selfs n m) (selfs n atm))[k]! := by simp_all
    have hp2 : (bestF (posF n bar atm m) (gnF wt lk m atm) ((stepsL (selfs n m) (selfs n atm)).take k)).2 < gnF wt lk m atm (stepsL (selfs n m) (selfs n atm))[k]! := by rw [← apG_y (w := wt) (lk := lk) hp1]; assumption
    refine W.region ?_
    refine SL.val (O.ldN (m := 3) (PtI.ref rfl rfl) (js := [_, _, _]) rfl (Nat.le_of_ble_eq_true rfl) Try.underlying55 rfl (by kernel_rfl) rfl Taken.no) ?_
    refine SL.mv rfl rfl (SL.mv rfl rfl ?_)
    refine SL.effS (O.st_ref (m := 3) rfl rfl rfl (js := [_, _, _]) rfl rfl (by kernel_rfl) (by simp) (Nat.le_of_ble_eq_true rfl) rfl (is' := [_, _, _]) rfl Taken.no) (S' := (101, _) :: _) rfl ?_
    refine SL.an rfl rfl (SL.an rfl rfl (SL.nil (E.inn (E.to (W.region ?_)))))
    refine SL.val (O.det (fun _ => by first | exact G.R.add64 rfl rfl (by omega) | exact G.R.add rfl rfl) rfl Taken.no) ?_
    refine SL.mv rfl rfl (SL.nil ?_)
    refine E.again ((k + 1)) (rn []) ?_ ?_ rfl (fixL_spec rfl) ?_ ?_
    · exact (SubF.cons rfl (SubF.val rfl (by (try dsimp only); first | exact iv_int (by rw [best_s (by omega), pick_y hp1 hp2]; exact apG_y hp1) | exact iv_int (by rw [best_s (by omega), pick_n hp])) (SubF.val rfl (by (try dsimp only); first | exact iv_sl (by rw [best_s (by omega), pick_y hp1 hp2, outF_y hb0 hp2]; exact congrArg (List.map eI) (apN_y hp1)) | exact iv_sl (by rw [best_s (by omega), pick_n hp])) (SubF.cons rfl (SubF.cons rfl (SubF.cons rfl (SubF.cons rfl (SubF.cons rfl SubF.nil))))))))
    · exact (SubS.val rfl (by (try dsimp only); first | (rw [best_s (by omega), pick_y hp1 hp2]; rfl) | (rw [best_s (by omega), pick_n hp]; rfl)) SubS.nil)
    ·try dsimp only
     omega
    · (try dsimp only); omega
   ·skip
    have hp : ¬ (posF n bar atm m (stepsL (selfs n m) (selfs n atm))[k]! ∧ (bestF (posF n bar atm m) (gnF wt lk m atm) ((stepsL (selfs n m) (selfs n atm)).take k)).2 < gnF wt lk m atm (stepsL (selfs n m) (selfs n atm))[k]!) := fun q => by have q2 := q.2; rw [← apG_y (w := wt) (lk := lk) q.1] at q2; first | exact (show ¬ posF n bar atm m (stepsL (selfs n m) (selfs n atm))[k]! by assumption) q.1 | exact (show ¬ (bestF (posF n bar atm m) (gnF wt lk m atm) ((stepsL (selfs n m) (selfs n atm)).take k)).2 < apG n wt lk bar atm m (stepsL (selfs n m) (selfs n atm))[k]! by assumption) q2
    refine W.skip (E.inn (E.to (W.region ?_)))
    refine SL.val (O.det (fun _ => by first | exact G.R.add64 rfl rfl (by omega) | exact G.R.add rfl rfl) rfl Taken.no) ?_
    refine SL.mv rfl rfl (SL.nil ?_)
    refine E.again ((k + 1)) (rn []) ?_ ?_ rfl (fixL_spec rfl) ?_ ?_
    · exact (SubF.cons rfl (SubF.val rfl (by (try dsimp only); first | exact iv_int (by rw [best_s (by omega), pick_y hp1 hp2]; exact apG_y hp1) | exact iv_int (by rw [best_s (by omega), pick_n hp])) (SubF.val rfl (by (try dsimp only); first | exact iv_sl (by rw [best_s (by omega), pick_y hp1 hp2, outF_y hb0 hp2]; exact congrArg (List.map eI) (apN_y hp1)) | exact iv_sl (by rw [best_s (by omega), pick_n hp])) (SubF.cons rfl (SubF.cons rfl (SubF.cons rfl (SubF.cons rfl (SubF.cons rfl SubF.nil))))))))
    · exact (SubS.val rfl (by (try dsimp only); first | (rw [best_s (by omega), pick_y hp1 hp2]; rfl) | (rw [best_s (by omega), pick_n hp]; rfl)) SubS.nil)
    ·try dsimp only
     omega
    · (try dsimp only); omega
  ·skip
   first | have hg2p := G.gA5 hg2 | have hg2p := G.gA6 hg2 | have hg2p := hg2
   have hp : ¬ (posF n bar atm m (stepsL (selfs n m) (selfs n atm))[k]! ∧ (bestF (posF n bar atm m) (gnF wt lk m atm) ((stepsL (selfs n m) (selfs n atm)).take k)).2 < gnF wt lk m atm (stepsL (selfs n m) (selfs n atm))[k]!) := fun q => (show ¬ posF n bar atm m (stepsL (selfs n m) (selfs n atm))[k]! by assumption) q.1
   refine SL.sk rfl rfl rfl hg2 (SL.sk rfl rfl rfl hg2 (SL.sk rfl rfl rfl hg2 ?_))
   refine SL.val (O.pick_f rfl (G.ne_t hg2) rfl rfl Taken.no) ?_
   refine E.fo ?_
   refine W.pick (K:=[(0,_),(1,_),(4,_),(5,_),(6,_),(8,_),(9,_),(10,_),(14,_),(15,_),(16,_),(33,_)]) (Z:=[(101,_),(102,_)]) ⟨rfl,rfl,rfl,rfl,rfl,rfl,rfl,rfl,rfl,rfl,rfl,rfl,trivial⟩ ⟨rfl,rfl,trivial⟩ ?_
   refine W.cond_f rfl ?_
   refine W.skip (E.inn (E.to (W.region ?_)))
   refine SL.val (O.det (fun _ => by first | exact G.R.add64 rfl rfl (by omega) | exact G.R.add rfl rfl) rfl Taken.no) ?_
   refine SL.mv rfl rfl (SL.nil ?_)
   refine E.again ((k + 1)) (rn []) ?_ ?_ rfl (fixL_spec rfl) ?_ ?_
   · exact (SubF.cons rfl (SubF.val rfl (by (try dsimp only); first | exact iv_int (by rw [best_s (by omega), pick_y hp1 hp2]; exact apG_y hp1) | exact iv_int (by rw [best_s (by omega), pick_n hp])) (SubF.val rfl (by (try dsimp only); first | exact iv_sl (by rw [best_s (by omega), pick_y hp1 hp2, outF_y hb0 hp2]; exact congrArg (List.map eI) (apN_y hp1)) | exact iv_sl (by rw [best_s (by omega), pick_n hp])) (SubF.cons rfl (SubF.cons rfl (SubF.cons rfl (SubF.cons rfl (SubF.cons rfl SubF.nil))))))))
   · exact (SubS.val rfl (by (try dsimp only); first | (rw [best_s (by omega), pick_y hp1 hp2]; rfl) | (rw [best_s (by omega), pick_n hp]; rfl)) SubS.nil)
   ·try dsimp only
    omega
   · (try dsimp only); omega
 ·skip
  refine W.exit (E.th (E.th (E.hit (E.to (W.rg ?_)))))
  refine SL.val (O.ldN (m := 3) (PtI.ref rfl rfl) (js := [_, _, _]) rfl (Nat.le_of_ble_eq_true rfl) Try.underlying55 rfl (by kernel_rfl) rfl Taken.no) ?_
  refine SL.mv rfl rfl (SL.mv rfl rfl ?_)
  refine SL.effS (O.st_ref (m := 3) rfl rfl rfl (js := [_, _, _]) rfl rfl (by kernel_rfl) (by simp) (Nat.le_of_ble_eq_true rfl) rfl (is' := [_, _, _]) rfl Taken.no) (S' := (101, _) :: _) rfl ?_
  refine SL.an rfl rfl (SL.an rfl rfl (E.fo (W.ret ?_)))
  refine E.fin (rs := [_, _, _]) (rn []) (.inl rfl) rfl (.cons (ResOne.cellN (m := 3) (PtI.ref rfl rfl) (js := [_, _, _]) rfl (Nat.le_of_ble_eq_true rfl) Try.underlying55 rfl (by kernel_rfl)) (.cons (ResOne.tmp rfl) (.cons (ResOne.tmp rfl) .nil))) ?_ ?_ rfl (fixL_spec rfl)
  ·skip
   (rw [show k = (stepsL (selfs n m) (selfs n atm)).length by omega, List.take_length]; rfl)
  · exact SubS.nil

end Go.Proofs.Ytppamigboeaefaa
end
section
namespace Go.D33
open Go Go.RowKit Go.H
section
variable {n : Nat} {ps : List Pr} {rs : List Ru} {m : List Nat} {s : Stp} {l : List Int}
theorem ap_eq (hf : (Prob.mk (n : Int) ps rs).formed) (hm : isP n m) (hp : permR n ps rs m) (s : Stp) :
    (posF n (barL rs) (namedL n (partsL (mu rs) (List.range n))) m s ↔ posR n (barL rs) (atomsL n rs) m s) ∧
    (posR n (barL rs) (atomsL n rs) m s → nmF (mF (lF ps) rs) m (namedL n (partsL (mu rs) (List.range n))) s = (resR n ps rs m s).map (fun x : Nat => (x : Int)) ∧ gnF (wF ps) (mF (lF ps) rs) m (namedL n (partsL (mu rs) (List.range n))) s = gnR n ps rs m s) := by
  rw [← atoms_eq hf]
  refine ⟨pos_iff hf hm hp, fun h => ?_⟩
  have := (pos_iff hf hm hp).2 h
  exact apply_eq hf hm hp this.1
def apL (n : Nat) (ps : List Pr) (rs : List Ru) (l : List Int) (s : Stp) : List Nat := if permS n ps rs l ∧ posR n (barL rs) (atomsL n rs) (l.map Int.toNat) s then resR n ps rs (l.map Int.toNat) s else []
def apV (n : Nat) (ps : List Pr) (rs : List Ru) (l : List Int) (s : Stp) : Int := if permS n ps rs l ∧ posR n (barL rs) (atomsL n rs) (l.map Int.toNat) s then gnR n ps rs (l.map Int.toNat) s else 0
def apE (n : Nat) (ps : List Pr) (rs : List Ru) (l : List Int) (s : Stp) : Int := if permS n ps rs l then (if posR n (barL rs) (atomsL n rs) (l.map Int.toNat) s then 0 else 1) else 11
def nxI (n : Nat) (ps : List Pr) (rs : List Ru) (l : List Int) : Stp × Int := if permS n ps rs l then nextR n ps rs (l.map Int.toNat) else (⟨false, 0, 0⟩, 0)
def nxE (n : Nat) (ps : List Pr) (rs : List Ru) (l : List Int) : Int := if permS n ps rs l then 0 else 11
/-- The best step's partition, or none. -/
def outR (n : Nat) (ps : List Pr) (rs : List Ru) (m : List Nat) : List Nat := if (nextR n ps rs m).2 = 0 then [] else resR n ps rs m (nextR n ps rs m).1
theorem next_all (hf : (Prob.mk (n : Int) ps rs).formed) (hm : isP n m) (hp : permR n ps rs m) :
    bestF (posF n (barL rs) (namedL n (partsL (mu rs) (List.range n))) m) (gnF (wF ps) (mF (lF ps) rs) m (namedL n (partsL (mu rs) (List.range n)))) (stepsL (selfs n m) (selfs n (namedL n (partsL (mu rs) (List.range n))))) = nextR n ps rs m := by
  have := next_eq hf hm hp
  unfold nextF at this
  rw [atoms_eq hf] at this
  exact this
theorem out_eq (hf : (Prob.mk (n : Int) ps rs).formed) (hm : isP n m) (hp : permR n ps rs m) : outF (mF (lF ps) rs) m (namedL n (partsL (mu rs) (List.range n))) (nextR n ps rs m) = (outR n ps rs m).map fun x : Nat => (x : Int) := by
  unfold outF outR
  by_cases e : (nextR n ps rs m).2 = 0
  · rw [if_pos e, if_pos e]; rfl
  · rw [if_neg e, if_neg e]
    obtain ⟨h1, h2, _, _⟩ := next_spec n ps rs m
    exact ((ap_eq hf hm hp _).2 (h2 (by omega)).2.1).1
end
end Go.D33
end
section
namespace Go.Proofs.Ytppamigboeaefaa
open Go Go.RowKit Go.H Go.D33

theorem hcallOk40 : G.callOk Try.prog 40 = true := by kernel_rfl





set_option maxRecDepth 8000 in
/-- bookplate/cluster.Solve. -/
theorem solveC_ok {n : Nat} {ps : List Pr} {rs : List Ru} (hok : (Prob.mk (n : Int) ps rs).ok) :
    Con Try.prog 15 [vA [uI (n : Int), .sl 3 (ps.map ePr), .sl 3 (rs.map eRu)]] [] (.tup [vL 1 ((solveR n ps rs).map eN), vI 0]) [] := by
 have hf := hok.1
 have hn2 : (n : Int) ≤ 200 := hf.2.1
 refine Con.enterL (n := 34) Try.func15 rfl rfl rfl (fun τ w ok vs hin => ?_)
 have hl0_1 := hin.lenA (i := 0) (j := 1) rfl rfl
 try rw [List.length_map] at hl0_1
 have hl0_2 := hin.lenA (i := 0) (j := 2) rfl rfl
 try rw [List.length_map] at hl0_2
 clear hin
 refine W.rg ?_
 refine SL.memS (O.box (is := [_, _, _]) 101 rfl rfl (by simp) rfl rfl Taken.no) rfl rfl (S' := (101, _) :: _) rfl ?_
 refine SL.an rfl rfl (SL.an rfl rfl (E.fo (W.rg ?_)))
 refine SL.val (O.ldN (m := 3) (PtI.ref rfl rfl) (js := [_, _, _]) rfl (Nat.le_of_ble_eq_true rfl) Try.underlying32 rfl (by kernel_rfl) rfl Taken.no) ?_
 refine SL.memS (O.call (rn []) [] rfl rfl rfl (check_ok hok) (.cons (ArgOk.aggU (.cons (ArgOk.same rfl) (.cons (ArgOk.same rfl) (.cons (ArgOk.same rfl) .nil)))) .nil) SubS.nil rfl rfl rfl rfl rfl (.inl rfl) hcallOk38 (r' := .tup [.u _, .u _]) rfl rfl Taken.no) rfl rfl (S' := _) rfl ?_
 refine SL.mv rfl rfl ?_
 refine SL.val (O.extract rfl rfl rfl Taken.no) ?_
 refine SL.val (O.extract rfl rfl rfl Taken.no) ?_
 refine SL.an rfl rfl (SL.an rfl rfl (E.fo (W.seq (W.rg (SL.mv rfl rfl ?_)))))
 refine SL.val (O.det (fun _ => G.R.mv (G.R.neq rfl rfl) (congrArg Value.bool (decide_eq_false (by decide)))) rfl Taken.no) ?_
 refine E.fo ?_
 refine W.cond_f rfl ?_
 refine W.skip (E.to (W.rg (SL.mv rfl rfl ?_)))
 refine SL.val (O.nilCheck rfl rfl rfl Taken.no) ?_
 refine SL.val (O.fld_fz rfl Try.underlying78 rfl (m := 0) (by kernel_rfl) rfl rfl Taken.no) ?_
 refine SL.val (O.ld1 (PtI.ofU (PtU.fz rfl)) rfl Try.underlying39 rfl rfl Taken.no) ?_
 refine SL.val (O.callp rfl rfl rfl (Con.fz (clone_h (rows := (namedL n (partsL (mu rs) (List.range n))).map eN) (by rw [List.length_map, (atm_ok n rs).1]; omega)) rfl rfl) (.cons (ArgOk.same rfl) .nil) hcallOk39 rfl Taken.no) ?_
 refine SL.an rfl rfl (E.fo (W.block ?_))
 refine W.loopx1 (fun (m : List Nat) => [(6, vL 1 (m.map eN))]) (fun (m : List Nat) => []) (fun (m : List Nat) => isP n m ∧ permR n ps rs m ∧ solveN n ps rs (muS ps m + 1) m = solveR n ps rs) (fun (m : List Nat) => muS ps m) (atomsL n rs) (rn []) (.cons (t := 4) rfl .nil) (.cons (t := 101) rfl .nil) rfl ?_ ?_ rfl rfl ?_ ?_
 · exact (SubF.val rfl (by exact iv_sl (by rw [atoms_eq hf])) SubF.nil)
 · exact SubS.nil
 ·skip
  exact ⟨(atoms_perm hok).1, (atoms_perm hok).2, rfl⟩
 intro m hinv
 obtain ⟨hQ, hpr, hsv⟩ := hinv
 have hml := hQ.1
 have hna := next_all hf hQ hpr
 have hne := out_eq hf hQ hpr
 refine W.block (W.rg (SL.mv rfl rfl (SL.mv rfl rfl ?_)))
 refine SL.memS (O.call (rn []) [] rfl rfl rfl (next_h (m := m) (by omega) (w_b hf) (atm_ok n rs) (bar_rng hf) hml) (.cons (ArgOk.same rfl) (.cons (ArgOk.same rfl) .nil)) SubS.nil rfl rfl rfl rfl rfl (.inl rfl) hcallOk40 (r' := .tup [.agg [.u _, .u _, .u _], .u _, .u _]) rfl rfl Taken.no) rfl rfl (S' := _) rfl ?_
 refine SL.mv rfl rfl ?_
 refine SL.val (O.extract rfl rfl rfl Taken.no) ?_
 refine SL.val (O.extract rfl rfl rfl Taken.no) ?_
 refine SL.val (O.extract rfl rfl rfl Taken.no) ?_
 refine SL.memS (O.alloc (z := .agg #[.bool false, .int .i64 0, .int .i64 0]) (is := [.u (.sc (.bool false)), .u (.sc (.int .i64 0)), .u (.sc (.int .i64 0))]) 102 (by kernel_rfl) rfl rfl rfl Taken.no) rfl rfl (S' := (102, _) :: _) rfl ?_
 refine SL.effS (O.st_ref (m := 3) rfl rfl rfl (js := [_, _, _]) rfl rfl (by kernel_rfl) (by simp) (Nat.le_of_ble_eq_true rfl) rfl (is' := [_, _, _]) rfl Taken.no) (S' := (102, _) :: _) rfl ?_
 refine SL.an rfl rfl (SL.an rfl rfl (E.fo (W.seq (W.rg (SL.mv rfl rfl ?_)))))
 refine SL.val (O.det (fun _ => G.R.eql rfl rfl) rfl Taken.no) ?_
 refine E.fo ?_
 first | refine W.cond_d rfl (fun hc1 => ?_) (fun hc1 => ?_) | refine W.cond_nd rfl (fun hc1 => ?_) (fun hc1 => ?_) | refine W.cond rfl (fun hc1 => ?_) (fun hc1 => ?_)
 ·skip
  refine W.rg (SL.mv rfl rfl (SL.an rfl rfl (SL.an rfl rfl (E.fo (W.ret (E.thr ?_))))))
  refine E.inr ?_
  refine E.thr ?_
  refine E.inr ?_
  refine E.fin (rs := [_, _]) (rn []) (.inl rfl) rfl (.cons (ResOne.tmp rfl) (.cons (ResOne.tmp rfl) .nil)) ?_ ?_ rfl (fixL_spec rfl)
  ·skip
   have hz : (nextR n ps rs m).2 = 0 := by rw [← hna]; assumption
   rw [← hsv, solve_end hz]; rfl
  · exact SubS.nil
 ·skip
  have hnz : ¬ (nextR n ps rs m).2 = 0 := by rw [← hna]; assumption
  refine W.skip (E.to (W.region (SL.mv rfl rfl (SL.an rfl rfl (SL.nil (E.inn ?_))))))
  refine E.again ((outR n ps rs m)) (rn []) ?_ ?_ rfl (fixL_spec rfl) ?_ ?_
  · exact (SubF.val rfl (by (try dsimp only); exact iv_sl (by rw [hna, hne, eI_eN])) (SubF.cons rfl SubF.nil))
  · exact (SubS.cons rfl SubS.nil)
  ·try dsimp only
   have hns := next_step hf hQ hpr hnz
   have hor : outR n ps rs m = resR n ps rs m (nextR n ps rs m).1 := if_neg hnz
   exact ⟨by rw [hor]; exact hns.1, by rw [hor]; exact hns.2.1, by rw [hor, solve_step hf hQ hpr hnz]; exact hsv⟩
  · (try dsimp only); (have hns := next_step hf hQ hpr hnz; have hor : outR n ps rs m = resR n ps rs m (nextR n ps rs m).1 := if_neg hnz; rw [hor]; exact hns.2.2.2)


end Go.Proofs.Ytppamigboeaefaa
end
section
namespace Go.D33
open Go Go.RowKit Go.H
/-! ### Problems of some units -/
def atF (us : List Int) (x : Int) : Int := idxF (fun y => decide (y = x)) us
def pl (us : List Int) : Nat → List (Int × Int)
  | 0 => []
  | k + 1 => mset (pl us k) us[k]! k
def ascU (us : List Int) : Prop := ∀ i, i < us.length → 0 < i → us[i - 1]! < us[i]!
instance (us : List Int) : Decidable (ascU us) := by unfold ascU; infer_instance
def rngU (N : Int) (us : List Int) : Prop := ∀ i, i < us.length → 0 ≤ us[i]! ∧ us[i]! < N
instance (N : Int) (us : List Int) : Decidable (rngU N us) := by unfold rngU; infer_instance
def okU (N : Int) (us : List Int) : Prop := ascU us ∧ rngU N us
instance (N : Int) (us : List Int) : Decidable (okU N us) := by unfold okU; infer_instance
def subE (N : Int) (us : List Int) : Int := if ¬ ascU us then 19 else if ¬ rngU N us then 2 else 0
theorem subE_19 {N : Int} {us : List Int} (h : ¬ ascU us) : subE N us = 19 := if_pos h
theorem subE_2 {N : Int} {us : List Int} (h : ascU us) (h2 : ¬ rngU N us) : subE N us = 2 := by rw [subE, if_neg (fun q => q h), if_pos h2]
theorem subE_0 {N : Int} {us : List Int} (h : okU N us) : subE N us = 0 := by rw [subE, if_neg (fun q => q h.1), if_neg (fun q => q h.2)]
def subPr (us : List Int) (x : Pr) : Option Pr := if 0 ≤ atF us x.a ∧ 0 ≤ atF us x.b then some ⟨atF us x.a, atF us x.b, x.w⟩ else none
def subRu (us : List Int) (x : Ru) : Option Ru := if 0 ≤ atF us x.a ∧ 0 ≤ atF us x.b then some ⟨x.k, atF us x.a, atF us x.b⟩ else none
def subP (us : List Int) (ps : List Pr) : List Pr := ps.filterMap (subPr us)
def subR (us : List Int) (rs : List Ru) : List Ru := rs.filterMap (subRu us)
theorem fm_s {α β : Type} [Inhabited α] (f : α → Option β) {l : List α} {k : Nat} (h : k < l.length) : (l.take (k + 1)).filterMap f = (l.take k).filterMap f ++ (f l[k]!).toList := by
  rw [snocP h, List.filterMap_append]
  cases e : f l[k]! with
  | none => rw [List.filterMap_cons_none e]; rfl
  | some b => rw [List.filterMap_cons_some e]; rfl
theorem fm_y {α β : Type} [Inhabited α] (f : α → Option β) {l : List α} {k : Nat} {b : β} (h : k < l.length) (e : f l[k]! = some b) : (l.take (k + 1)).filterMap f = (l.take k).filterMap f ++ [b] := by rw [fm_s f h, e]; rfl
theorem fm_n {α β : Type} [Inhabited α] (f : α → Option β) {l : List α} {k : Nat} (h : k < l.length) (e : f l[k]! = none) : (l.take (k + 1)).filterMap f = (l.take k).filterMap f := by rw [fm_s f h, e]; exact List.append_nil _
theorem fm_len {α β : Type} (f : α → Option β) (l : List α) (k : Nat) : ((l.take k).filterMap f).length ≤ l.length := by
  have h1 := List.length_filterMap_le f (l.take k)
  rw [List.length_take] at h1; omega
theorem asc_ltU {us : List Int} (h : ascU us) : ∀ {i j : Nat}, i < j → j < us.length → us[i]! < us[j]! := by
  intro i j hij hj
  induction j with
  | zero => omega
  | succ j ih =>
    have h1 := h (j + 1) hj (by omega)
    rw [Nat.add_sub_cancel] at h1
    rcases Nat.lt_succ_iff_lt_or_eq.1 hij with q | q
    · have := ih q (by omega); omega
    · rw [q]; exact h1
theorem pl_spec {us : List Int} (h : ascU us) (x : Int) : ∀ k, k ≤ us.length → (∀ j, j < k → us[j]! = x → mhas (pl us k) x = true ∧ mget (pl us k) x 0 = (j : Int)) ∧ ((∀ j, j < k → us[j]! ≠ x) → mhas (pl us k) x = false ∧ mget (pl us k) x 0 = 0)
  | 0, _ => ⟨fun j hj => absurd hj (Nat.not_lt_zero _), fun _ => ⟨rfl, rfl⟩⟩
  | k + 1, hk => by
    obtain ⟨h1, h2⟩ := pl_spec h x k (by omega)
    rw [pl, mhas_mset, mget_mset]
    refine ⟨fun j hj e => ?_, fun hn => ?_⟩
    · by_cases q : j = k
      · subst q
        rw [if_pos e.symm, decide_eq_true e.symm]; exact ⟨rfl, rfl⟩
      · have h3 := h1 j (by omega) e
        have h4 := asc_ltU h (show j < k by omega) (by omega)
        rw [if_neg (by omega), decide_eq_false (by omega), h3.1, h3.2]; exact ⟨rfl, rfl⟩
    · have h3 := h2 fun j hj => hn j (by omega)
      have h4 := hn k (by omega)
      rw [if_neg (Ne.symm h4), decide_eq_false (Ne.symm h4), h3.1, h3.2]; exact ⟨rfl, rfl⟩
theorem atF_spec (us : List Int) (x : Int) : (∃ j, j < us.length ∧ us[j]! = x ∧ (∀ i, i < j → us[i]! ≠ x) ∧ atF us x = (j : Int)) ∨ ((∀ j, j < us.length → us[j]! ≠ x) ∧ atF us x = -1) := by
  by_cases h : ∃ j, j < us.length ∧ us[j]! = x
  · obtain ⟨j, hj, hm⟩ : ∃ j, (j < us.length ∧ us[j]! = x) ∧ ∀ i, i < j → ¬ (i < us.length ∧ us[i]! = x) := by
      obtain ⟨j, hj⟩ := h
      induction j using Nat.strongRecOn with
      | _ j ih =>
        by_cases q : ∃ i, i < j ∧ i < us.length ∧ us[i]! = x
        · obtain ⟨i, hi, h2⟩ := q
          exact ih i hi h2
        · exact ⟨j, hj, fun i hi h2 => q ⟨i, hi, h2⟩⟩
    have hm' : ∀ i, i < j → us[i]! ≠ x := fun i hi e => hm i hi ⟨by omega, e⟩
    exact .inl ⟨j, hj.1, hj.2, hm', idxF_here hj.1 (fun i hi => decide_eq_false (hm' i hi)) (decide_eq_true hj.2)⟩
  · have hn : ∀ j, j < us.length → us[j]! ≠ x := fun j hj e => h ⟨j, hj, e⟩
    exact .inr ⟨hn, idxF_none (Nat.le_refl _) fun j hj => decide_eq_false (hn j hj)⟩
theorem pl_at {us : List Int} (h : ascU us) (x : Int) : mhas (pl us us.length) x = decide (0 ≤ atF us x) ∧ (0 ≤ atF us x → mget (pl us us.length) x 0 = atF us x) := by
  obtain ⟨h1, h2⟩ := pl_spec h x us.length (Nat.le_refl _)
  rcases atF_spec us x with ⟨j, hj, hx, _, e⟩ | ⟨hn, e⟩
  · have := h1 j hj hx
    exact ⟨by rw [this.1, e, decide_eq_true (by omega)], fun _ => by rw [this.2, e]⟩
  · have := h2 hn
    exact ⟨by rw [this.1, e, decide_eq_false (by omega)], fun q => by omega⟩
theorem sp_y {us : List Int} {x : Pr} (h1 : 0 ≤ atF us x.a) (h2 : 0 ≤ atF us x.b) : subPr us x = some ⟨atF us x.a, atF us x.b, x.w⟩ := if_pos ⟨h1, h2⟩
theorem sp_n {us : List Int} {x : Pr} (h : ¬ (0 ≤ atF us x.a ∧ 0 ≤ atF us x.b)) : subPr us x = none := if_neg h
theorem sr_y {us : List Int} {x : Ru} (h1 : 0 ≤ atF us x.a) (h2 : 0 ≤ atF us x.b) : subRu us x = some ⟨x.k, atF us x.a, atF us x.b⟩ := if_pos ⟨h1, h2⟩
theorem sr_n {us : List Int} {x : Ru} (h : ¬ (0 ≤ atF us x.a ∧ 0 ≤ atF us x.b)) : subRu us x = none := if_neg h
theorem subP_y {us : List Int} {ps : List Pr} {k : Nat} (h : k < ps.length) (h1 : 0 ≤ atF us ps[k]!.a) (h2 : 0 ≤ atF us ps[k]!.b) : subP us (ps.take (k + 1)) = subP us (ps.take k) ++ [⟨atF us ps[k]!.a, atF us ps[k]!.b, ps[k]!.w⟩] := fm_y _ h (sp_y h1 h2)
theorem subP_n {us : List Int} {ps : List Pr} {k : Nat} (h : k < ps.length) (hn : ¬ (0 ≤ atF us ps[k]!.a ∧ 0 ≤ atF us ps[k]!.b)) : subP us (ps.take (k + 1)) = subP us (ps.take k) := fm_n _ h (sp_n hn)
theorem subR_y {us : List Int} {rs : List Ru} {k : Nat} (h : k < rs.length) (h1 : 0 ≤ atF us rs[k]!.a) (h2 : 0 ≤ atF us rs[k]!.b) : subR us (rs.take (k + 1)) = subR us (rs.take k) ++ [⟨rs[k]!.k, atF us rs[k]!.a, atF us rs[k]!.b⟩] := fm_y _ h (sr_y h1 h2)
theorem subR_n {us : List Int} {rs : List Ru} {k : Nat} (h : k < rs.length) (hn : ¬ (0 ≤ atF us rs[k]!.a ∧ 0 ≤ atF us rs[k]!.b)) : subR us (rs.take (k + 1)) = subR us (rs.take k) := fm_n _ h (sr_n hn)
theorem subP_len (us : List Int) (ps : List Pr) (k : Nat) : (subP us (ps.take k)).length ≤ ps.length := fm_len _ _ k
theorem subR_len (us : List Int) (rs : List Ru) (k : Nat) : (subR us (rs.take k)).length ≤ rs.length := fm_len _ _ k
def sbN (N : Int) (us : List Int) : Int := if okU N us then us.length else 0
def sbP (N : Int) (us : List Int) (ps : List Pr) : List Pr := if okU N us then subP us ps else []
def sbR (N : Int) (us : List Int) (rs : List Ru) : List Ru := if okU N us then subR us rs else []
theorem sb_y {N : Int} {us : List Int} (h : okU N us) (ps : List Pr) (rs : List Ru) : sbN N us = us.length ∧ sbP N us ps = subP us ps ∧ sbR N us rs = subR us rs ∧ subE N us = 0 := ⟨if_pos h, if_pos h, if_pos h, subE_0 h⟩
theorem sb_n {N : Int} {us : List Int} (h : ¬ okU N us) (ps : List Pr) (rs : List Ru) : sbN N us = 0 ∧ sbP N us ps = [] ∧ sbR N us rs = [] := ⟨if_neg h, if_neg h, if_neg h⟩
/-! ### Names of labels -/
def nmK (l : List Nat) (i j : Nat) : Nat := if (List.range i).any (fun k => decide (j ≤ k ∧ l[k]! = l[i]!)) = true then l.idxOf l[i]! else i
def nmX (l : List Nat) (i : Nat) : List Nat := (nmL l).take i ++ List.replicate (l.length - i) 0
/-! ### Labels behind a move, place by place -/
def mvK (n k : Nat) (atm m : List Nat) (s : Stp) : List Nat := (List.range n).map fun i => if i < k ∧ atm[i]! = s.f.toNat then (if s.t < 0 then n else s.t.toNat) else m[i]!
def apRL (n : Nat) (ps : List Pr) (rs : List Ru) (m : List Nat) (s : Stp) : List Nat := if posR n (barL rs) (atomsL n rs) m s then resR n ps rs m s else []
def apRV (n : Nat) (ps : List Pr) (rs : List Ru) (m : List Nat) (s : Stp) : Int := if posR n (barL rs) (atomsL n rs) m s then gnR n ps rs m s else 0
end Go.D33
end
section
namespace Go.Proofs.Ytppamigboeaefaa
open Go Go.RowKit Go.H Go.D33

theorem hcallOk23 : G.callOk Try.prog 23 = true := by kernel_rfl
theorem hcallOk53 : G.callOk Try.prog 53 = true := by kernel_rfl
theorem hcallOk54 : G.callOk Try.prog 54 = true := by kernel_rfl

set_option maxRecDepth 8000 in
/-- bookplate/cluster.Sub$1. -/
theorem sub1_h {N : Int} {ps : List Pr} {rs : List Ru} {x : Int} :
    Con Try.prog 54 [vI x, .u (.ptr [uI N, .sl 3 (ps.map ePr), .sl 3 (rs.map eRu)])] [] (vB (decide (x < 0 ∨ N ≤ x))) [] := by
 refine Con.enterL (n := 12) Try.func54 rfl rfl rfl (fun τ w ok vs hin => ?_)
 clear hin
 refine W.rg (SL.an rfl rfl (E.fo (W.rg (SL.mv rfl rfl ?_))))
 refine SL.val (O.det (fun _ => G.R.lss rfl rfl) rfl Taken.no) ?_
 refine SL.mv rfl rfl ?_
 refine SL.case (j := 2) (g := 6) (want := false) rfl rfl (fun hg1 => ?_) (fun hg1 => ?_)
 ·skip
  first | have hg1p := G.gA3 hg1 | have hg1p := G.gA4 hg1 | have hg1p := hg1
  refine SL.val (O.move rfl rfl (Taken.yes rfl rfl hg1)) ?_
  refine SL.val (O.fld_fz rfl Try.underlying32 rfl (m := 0) (by kernel_rfl) rfl rfl (Taken.yes rfl rfl hg1)) ?_
  refine SL.val (O.ld1 (PtI.ofU (PtU.fz rfl)) rfl Try.underlying3 rfl rfl (Taken.yes rfl rfl hg1)) ?_
  refine SL.val (O.det (fun _ => G.R.geq rfl rfl) rfl (Taken.yes rfl rfl hg1)) ?_
  refine SL.val (O.pick_f rfl hg1 rfl rfl Taken.no) ?_
  refine SL.an rfl rfl (E.fo (W.ret ?_))
  refine E.fin (rs := [_]) (rn []) (.inl rfl) rfl (.cons (ResOne.tmp rfl) .nil) ?_ ?_ rfl (fixL_spec rfl)
  ·skip
   first | exact iv_bool (dec_iff (by omega)) | exact iv_bool (dec_t (by omega)) | exact iv_bool (dec_f (by omega))
  · exact SubS.nil
 ·skip
  first | have hg1p := G.gA7 hg1 | have hg1p := G.gA8 hg1 | have hg1p := hg1
  refine SL.sk rfl rfl rfl hg1 (SL.sk rfl rfl rfl hg1 (SL.sk rfl rfl rfl hg1 (SL.sk rfl rfl rfl hg1 ?_)))
  refine SL.val (O.pick_t rfl (G.ne_f hg1) rfl rfl Taken.no) ?_
  refine SL.an rfl rfl (E.fo (W.ret ?_))
  refine E.fin (rs := [_]) (rn []) (.inl rfl) rfl (.cons (ResOne.tmp rfl) .nil) ?_ ?_ rfl (fixL_spec rfl)
  ·skip
   first | exact iv_bool (dec_iff (by omega)) | exact iv_bool (dec_t (by omega)) | exact iv_bool (dec_f (by omega))
  · exact SubS.nil

set_option maxRecDepth 8000 in
set_option maxHeartbeats 1600000 in
/-- bookplate/cluster.Sub. -/
theorem sub_ok {N : Int} {ps : List Pr} {rs : List Ru} {us : List Int} (hok : (Prob.mk N ps rs).ok) (hp_ : ps.length ≤ 1000000) (hr_ : rs.length ≤ 1000000) (hu_ : us.length ≤ 1000000) :
    Con Try.prog 31 [vA [uI N, .sl 3 (ps.map ePr), .sl 3 (rs.map eRu)], vL 1 (us.map eI)] [] (.tup [.agg [vI (sbN N us), vL 3 ((sbP N us ps).map ePr), vL 3 ((sbR N us rs).map eRu)], vI (subE N us)]) [] := by
 obtain ⟨i3, hi3, hz3, hs3, hb3⟩ := hinf3
 obtain ⟨i36, hi36, hz36, hs36, hb36⟩ := hinf36
 obtain ⟨i38, hi38, hz38, hs38, hb38⟩ := hinf38
 refine Con.enterL (n := 133) Try.func31 rfl rfl rfl (fun τ w ok vs hin => ?_)
 have hl0_1 := hin.lenA (i := 0) (j := 1) rfl rfl
 try rw [List.length_map] at hl0_1
 have hl0_2 := hin.lenA (i := 0) (j := 2) rfl rfl
 try rw [List.length_map] at hl0_2
 have hl1 := hin.len (i := 1) rfl
 try rw [List.length_map] at hl1
 clear hin
 refine W.rg ?_
 refine SL.memS (O.box (is := [_, _, _]) 101 rfl rfl (by simp) rfl rfl Taken.no) rfl rfl (S' := (101, _) :: _) rfl ?_
 refine SL.memS (O.alloc (z := .agg #[.int .i64 0, .slice none 0 0, .slice none 0 0]) (is := [.u (.sc (.int .i64 0)), .u (.sc (.slice none 0 0)), .u (.sc (.slice none 0 0))]) 102 (by kernel_rfl) rfl rfl rfl Taken.no) rfl rfl (S' := (102, _) :: _) rfl ?_
 refine SL.an rfl rfl (E.fo (W.seq (W.rg ?_)))
 refine SL.val (O.ldN (m := 3) (PtI.ref rfl rfl) (js := [_, _, _]) rfl (Nat.le_of_ble_eq_true rfl) Try.underlying32 rfl (by kernel_rfl) rfl Taken.no) ?_
 refine SL.val (O.callp rfl rfl rfl (valid_h (N := N) (ps := ps) (rs := rs)) (.cons (ArgOk.aggU (.cons (ArgOk.same rfl) (.cons (ArgOk.same rfl) (.cons (ArgOk.same rfl) .nil)))) .nil) hcallOk23 rfl Taken.no) ?_
 refine SL.as (i' := vI 0) 24 rfl (by rw [Prob.err_0 hok]) ?_
 refine SL.an rfl rfl (E.fo (W.rg (SL.mv rfl rfl ?_)))
 refine SL.val (O.det (fun _ => G.R.mv (G.R.neq rfl rfl) (congrArg Value.bool (decide_eq_false (by decide)))) rfl Taken.no) ?_
 refine E.fo ?_
 refine W.cond_f rfl ?_
 refine W.skip (E.to (W.rg ?_))
 refine SL.memS (O.makeMap 103 rfl Taken.no) rfl rfl (S' := (103, .mp []) :: _) rfl ?_
 refine SL.an rfl rfl (E.fo (W.seq (W.rg (SL.mv rfl rfl ?_))))
 refine SL.val (O.lenE (SlOf.fz rfl (by decide)) (by first | exact List.length_map _ | rfl) Try.underlying39 rfl Taken.no) ?_
 refine SL.mv rfl rfl (E.fo (W.block ?_))
 refine W.loopx1 (fun (k : Nat) => [(32, vI (k : Int)), (7, .own 104)]) (fun (k : Nat) => [(104, .mp (mpE (fun a : Int => Value.int .i64 a) (fun a : Int => Value.int .i64 a) (pl us k)))]) (fun (k : Nat) => k ≤ us.length ∧ ∀ i, i < k → 0 < i → us[i - 1]! < us[i]!) (fun (k : Nat) => us.length - k) (0) (rn [(104, 103)]) (.cons (t := 1) rfl (.cons (t := 2) rfl (.cons (t := 4) rfl (.cons (t := 30) rfl (.cons (t := 31) rfl .nil))))) (.cons (t := 101) rfl (.cons (t := 102) rfl .nil)) rfl ?_ ?_ rfl rfl ?_ ?_
 · exact (SubF.cons rfl (SubF.cons rfl SubF.nil))
 · exact (SubS.cons rfl SubS.nil)
 ·skip
  exact ⟨by omega, fun i h => by omega⟩
 intro k hinv
 obtain ⟨hk, hp⟩ := hinv
 refine W.rg ?_
 refine SL.val (O.det (fun _ => G.R.lss rfl rfl) rfl Taken.no) ?_
 refine E.fo (W.seq ?_)
 first | refine W.cond_d rfl (fun hc1 => ?_) (fun hc1 => ?_) | refine W.cond_nd rfl (fun hc1 => ?_) (fun hc1 => ?_) | refine W.cond rfl (fun hc1 => ?_) (fun hc1 => ?_)
 ·skip
  refine W.skip (E.to (W.seq (W.block (W.rg (SL.mv rfl rfl ?_)))))
  refine SL.val (O.idx_fz rfl rfl (rfl) (row_get (by omega)) Try.underlying39 hi3 hs3 rfl Taken.no) ?_
  refine SL.val (O.ld1 (PtI.ofU (PtU.fz rfl)) rfl Try.underlying3 rfl rfl Taken.no) ?_
  refine SL.an rfl rfl (SL.an rfl rfl (E.fo (W.seq (W.rg (SL.mv rfl rfl ?_)))))
  refine SL.val (O.det (fun _ => G.R.gtr rfl rfl) rfl Taken.no) ?_
  refine SL.mv rfl rfl ?_
  refine SL.case (j := 2) (g := 39) (want := true) rfl rfl (fun hg2 => ?_) (fun hg2 => ?_)
  ·skip
   first | have hg2p := G.gA1 hg2 | have hg2p := G.gA2 hg2 | have hg2p := hg2
   refine SL.val (O.move rfl rfl (Taken.yes rfl rfl hg2)) ?_
   refine SL.val (O.move rfl rfl (Taken.yes rfl rfl hg2)) ?_
   refine SL.val (O.move rfl rfl (Taken.yes rfl rfl hg2)) ?_
   refine SL.val (O.det (fun _ => by first | exact G.R.sub64 rfl rfl (by omega) | exact G.R.sub rfl rfl) rfl (Taken.yes rfl rfl hg2)) ?_
   refine SL.val (O.idx_fz (i := (k - 1)) rfl rfl (by omega) (row_get (by omega)) Try.underlying39 hi3 hs3 rfl (Taken.yes rfl rfl hg2)) ?_
   refine SL.val (O.ld1 (PtI.ofU (PtU.fz rfl)) rfl Try.underlying3 rfl rfl (Taken.yes rfl rfl hg2)) ?_
   refine SL.val (O.det (fun _ => G.R.leq rfl rfl) rfl (Taken.yes rfl rfl hg2)) ?_
   refine SL.val (O.pick_t rfl hg2 rfl rfl Taken.no) ?_
   refine E.fo ?_
   first | refine W.cond_d rfl (fun hc3 => ?_) (fun hc3 => ?_) | refine W.cond_nd rfl (fun hc3 => ?_) (fun hc3 => ?_) | refine W.cond rfl (fun hc3 => ?_) (fun hc3 => ?_)
   ·skip
    refine W.rg ?_
    refine SL.val (O.build (res := [_, _, _]) (z := .agg #[.int .i64 0, .slice none 0 0, .slice none 0 0]) (places := [(0, 1), (1, 1), (2, 1)]) rfl rfl Try.underlying32 (by kernel_rfl) (fun _ => by kernel_rfl) rfl rfl Taken.no) ?_
    refine SL.effS (O.st_ref (m := 3) rfl rfl rfl (js := [_, _, _]) rfl rfl (by kernel_rfl) (by simp) (Nat.le_of_ble_eq_true rfl) rfl (is' := [_, _, _]) rfl Taken.no) (S' := (102, _) :: _) rfl ?_
    refine SL.an rfl rfl (E.fo ?_)
    refine W.pick (K:=[(1,_),(2,_),(4,_),(5,_),(7,_),(8,_),(9,_),(30,_),(31,_),(32,_)]) (Z:=[(101,_),(102,_),(104,_)]) ⟨rfl,rfl,rfl,rfl,rfl,rfl,rfl,rfl,rfl,rfl,trivial⟩ ⟨rfl,rfl,rfl,trivial⟩ ?_
    refine W.ret (E.thr ?_)
    refine E.inr ?_
    refine E.thr (E.thr ?_)
    refine E.inr ?_
    refine E.thr ?_
    refine E.nilslC 102 1 3 (is' := [_, _, _]) rfl rfl rfl ?_
    refine E.nilslC 102 2 3 (is' := [_, _, _]) rfl rfl rfl ?_
    refine E.fin (rs := [_, _]) (rn []) (.inl rfl) rfl (.cons (ResOne.cellN (m := 3) (PtI.ref rfl rfl) (js := [_, _, _]) rfl (Nat.le_of_ble_eq_true rfl) Try.underlying32 rfl (by kernel_rfl)) (.cons (ResOne.tmp rfl) .nil)) ?_ ?_ rfl (fixL_spec rfl)
    ·skip
     have hna : ¬ ascU us := fun q => by have := q k (by omega) (by omega); omega
     rw [(sb_n (fun q => hna q.1) ps rs).1, (sb_n (N := N) (fun q => hna q.1) ps rs).2.1, (sb_n (N := N) (fun q => hna q.1) ps rs).2.2, subE_19 hna]; rfl
    · exact SubS.nil
   ·skip
    refine W.skip (E.to (W.region (SL.mv rfl rfl (SL.mv rfl rfl (SL.mv rfl rfl ?_)))))
    refine SL.effS (O.mapUpdate (kf := (fun a : Int => Value.int .i64 a)) (vf := (fun a : Int => Value.int .i64 a)) (l := pl us k) (b := us[k]!) (u := (k : Int)) rfl rfl rfl rfl Try.underlying94 (KeyOk.int Try.underlying3) Taken.no) (S' := (104, _) :: _) rfl ?_
    refine SL.nil (E.inn (E.to ?_))
    refine W.pick (K:=[(1,_),(2,_),(4,_),(7,_),(30,_),(31,_),(32,_)]) (Z:=[(101,_),(102,_),(104,_)]) ⟨rfl,rfl,rfl,rfl,rfl,rfl,rfl,trivial⟩ ⟨rfl,rfl,rfl,trivial⟩ ?_
    refine W.region ?_
    refine SL.val (O.det (fun _ => by first | exact G.R.add64 rfl rfl (by omega) | exact G.R.add rfl rfl) rfl Taken.no) ?_
    refine SL.mv rfl rfl (SL.nil ?_)
    refine E.again ((k + 1)) (rn []) ?_ ?_ rfl (fixL_spec rfl) ?_ ?_
    · exact (SubF.cons rfl (SubF.cons rfl (SubF.cons rfl (SubF.cons rfl (SubF.cons rfl (SubF.cons rfl (SubF.cons rfl SubF.nil)))))))
    · exact (SubS.cons rfl (SubS.cons rfl (SubS.cons rfl SubS.nil)))
    ·try dsimp only
     exact ⟨by omega, fun j hj h0 => by rcases Nat.lt_succ_iff_lt_or_eq.1 hj with h | h; exact hp j h h0; subst h; omega⟩
    · (try dsimp only); omega
  ·skip
   first | have hg2p := G.gA5 hg2 | have hg2p := G.gA6 hg2 | have hg2p := hg2
   refine SL.sk rfl rfl rfl hg2 (SL.sk rfl rfl rfl hg2 (SL.sk rfl rfl rfl hg2 (SL.sk rfl rfl rfl hg2 (SL.sk rfl rfl rfl hg2 (SL.sk rfl rfl rfl hg2 (SL.sk rfl rfl rfl hg2 ?_))))))
   refine SL.val (O.pick_f rfl (G.ne_t hg2) rfl rfl Taken.no) ?_
   refine E.fo ?_
   refine W.cond_f rfl ?_
   refine W.skip (E.to (W.region (SL.mv rfl rfl (SL.mv rfl rfl (SL.mv rfl rfl ?_)))))
   refine SL.effS (O.mapUpdate (kf := (fun a : Int => Value.int .i64 a)) (vf := (fun a : Int => Value.int .i64 a)) (l := pl us k) (b := us[k]!) (u := (k : Int)) rfl rfl rfl rfl Try.underlying94 (KeyOk.int Try.underlying3) Taken.no) (S' := (104, _) :: _) rfl ?_
   refine SL.nil (E.inn (E.to ?_))
   refine W.pick (K:=[(1,_),(2,_),(4,_),(7,_),(30,_),(31,_),(32,_)]) (Z:=[(101,_),(102,_),(104,_)]) ⟨rfl,rfl,rfl,rfl,rfl,rfl,rfl,trivial⟩ ⟨rfl,rfl,rfl,trivial⟩ ?_
   refine W.region ?_
   refine SL.val (O.det (fun _ => by first | exact G.R.add64 rfl rfl (by omega) | exact G.R.add rfl rfl) rfl Taken.no) ?_
   refine SL.mv rfl rfl (SL.nil ?_)
   refine E.again ((k + 1)) (rn []) ?_ ?_ rfl (fixL_spec rfl) ?_ ?_
   · exact (SubF.cons rfl (SubF.cons rfl (SubF.cons rfl (SubF.cons rfl (SubF.cons rfl (SubF.cons rfl (SubF.cons rfl SubF.nil)))))))
   · exact (SubS.cons rfl (SubS.cons rfl (SubS.cons rfl SubS.nil)))
   ·try dsimp only
    exact ⟨by omega, fun j hj h0 => by rcases Nat.lt_succ_iff_lt_or_eq.1 hj with h | h; exact hp j h h0; subst h; omega⟩
   · (try dsimp only); omega
 ·skip
  refine W.exit (E.th (E.th (E.hit (E.to (W.seq (W.seq ?_))))))
  have hku : k = us.length := by omega
  have hasc : ascU us := fun i hi => hp i (by omega)
  rw [hku]
  refine W.region (SL.mv rfl rfl ?_)
  refine SL.val (O.makeFunc rfl rfl rfl Taken.no) ?_
  refine SL.memS (O.call (rn []) [101] rfl rfl rfl (containsFuncI (q := us) (f := 54) (caps := [.ptr [uI N, .sl 3 (ps.map ePr), .sl 3 (rs.map eRu)]]) (pr := fun x => decide (x < 0 ∨ N ≤ x)) hcallOk54 (fun x hx => sub1_h)) (.cons (ArgOk.same rfl) (.cons (ArgOk.cloU .nil (.cons (ArgOk.ref rfl rfl rfl) .nil)) .nil)) SubS.nil rfl rfl rfl rfl rfl (.inr ⟨rfl, fun x hx => by simp at hx⟩) hcallOk53 (r' := .u _) rfl rfl Taken.no) rfl rfl (S' := _) rfl ?_
  refine E.fo ?_
  first | refine W.cond_d rfl (fun hc4 => ?_) (fun hc4 => ?_) | refine W.cond_nd rfl (fun hc4 => ?_) (fun hc4 => ?_) | refine W.cond rfl (fun hc4 => ?_) (fun hc4 => ?_)
  ·skip
   refine W.rg ?_
   refine SL.val (O.build (res := [_, _, _]) (z := .agg #[.int .i64 0, .slice none 0 0, .slice none 0 0]) (places := [(0, 1), (1, 1), (2, 1)]) rfl rfl Try.underlying32 (by kernel_rfl) (fun _ => by kernel_rfl) rfl rfl Taken.no) ?_
   refine SL.effS (O.st_ref (m := 3) rfl rfl rfl (js := [_, _, _]) rfl rfl (by kernel_rfl) (by simp) (Nat.le_of_ble_eq_true rfl) rfl (is' := [_, _, _]) rfl Taken.no) (S' := (102, _) :: _) rfl ?_
   refine SL.an rfl rfl (E.fo (W.ret (E.thr ?_)))
   refine E.nilslC 102 1 3 (is' := [_, _, _]) rfl rfl rfl ?_
   refine E.nilslC 102 2 3 (is' := [_, _, _]) rfl rfl rfl ?_
   refine E.fin (rs := [_, _]) (rn []) (.inl rfl) rfl (.cons (ResOne.cellN (m := 3) (PtI.ref rfl rfl) (js := [_, _, _]) rfl (Nat.le_of_ble_eq_true rfl) Try.underlying32 rfl (by kernel_rfl)) (.cons (ResOne.tmp rfl) .nil)) ?_ ?_ rfl (fixL_spec rfl)
   ·skip
    have hnr : ¬ rngU N us := fun q => by obtain ⟨x, hx, e⟩ := any_iff.2 (show 0 ≤ idxF (fun x => decide (x < 0 ∨ N ≤ x)) us by assumption); obtain ⟨i, hi, rfl⟩ := List.getElem_of_mem hx; have := q i hi; rw [getElem!_pos us i hi] at this; have e2 := of_decide_eq_true e; omega
    rw [(sb_n (fun q => hnr q.2) ps rs).1, (sb_n (fun q => hnr q.2) ps rs).2.1, (sb_n (fun q => hnr q.2) ps rs).2.2, subE_2 hasc hnr]; rfl
   · exact SubS.nil
  ·skip
   have h0n : ¬ 0 ≤ idxF (fun x => decide (x < 0 ∨ N ≤ x)) us := by assumption
   have hrng : rngU N us := fun i hi => by (have h1 : ¬ (us[i]! < 0 ∨ N ≤ us[i]!) := fun q => h0n (any_iff.1 ⟨us[i]!, mem_at hi, decide_eq_true q⟩)); omega
   have hoku : okU N us := ⟨hasc, hrng⟩
   refine W.skip (E.to (W.rg (SL.mv rfl rfl ?_)))
   refine SL.val (O.lenE (SlOf.fz rfl (by decide)) (by first | exact List.length_map _ | rfl) Try.underlying39 rfl Taken.no) ?_
   refine SL.val (O.build (res := [_, _, _]) (z := .agg #[.int .i64 0, .slice none 0 0, .slice none 0 0]) (places := [(0, 1), (1, 1), (2, 1)]) rfl rfl Try.underlying32 (by kernel_rfl) (fun _ => by kernel_rfl) rfl rfl Taken.no) ?_
   refine SL.memS (O.alloc (z := .agg #[.int .i64 0, .slice none 0 0, .slice none 0 0]) (is := [.u (.sc (.int .i64 0)), .u (.sc (.slice none 0 0)), .u (.sc (.slice none 0 0))]) 105 (by kernel_rfl) rfl rfl rfl Taken.no) rfl rfl (S' := (105, _) :: _) rfl ?_
   refine SL.effS (O.st_ref (m := 3) rfl rfl rfl (js := [_, _, _]) rfl rfl (by kernel_rfl) (by simp) (Nat.le_of_ble_eq_true rfl) rfl (is' := [_, _, _]) rfl Taken.no) (S' := (105, _) :: _) rfl ?_
   refine E.fo (W.seq (W.rg ?_))
   refine SL.val (O.fld_ref (o' := 1) rfl Try.underlying32 rfl (m := 0) (by kernel_rfl) rfl rfl Taken.no) ?_
   refine SL.val (O.ld1 (PtI.ref rfl rfl) rfl Try.underlying30 rfl rfl Taken.no) ?_
   refine SL.val (O.lenE (SlOf.fz rfl (by decide)) (by first | exact List.length_map _ | rfl) Try.underlying30 rfl Taken.no) ?_
   refine SL.mv rfl rfl (E.fo (W.block ?_))
   refine W.adoptC 105 1 107 36 3 (is' := [_, _, _]) (by decide) rfl rfl rfl rfl rfl ?_
   refine W.loopx1 (fun (k : Nat) => [(63, vI (k : Int))]) (fun (k : Nat) => [(106, .data 36 3 ((subP us (ps.take k)).map ePr)), (105, .cells 32 [vI (us.length : Int), .own 106, .u (.sc (.slice none 0 0))])]) (fun (k : Nat) => k ≤ ps.length) (fun (k : Nat) => ps.length - k) (0) (rn [(106, 107)]) (.cons (t := 2) rfl (.cons (t := 4) rfl (.cons (t := 7) rfl (.cons (t := 10) rfl (.cons (t := 61) rfl (.cons (t := 62) rfl .nil)))))) (.cons (t := 101) rfl (.cons (t := 102) rfl (.cons (t := 104) rfl .nil))) rfl ?_ ?_ rfl rfl ?_ ?_
   · exact (SubF.cons rfl SubF.nil)
   · exact (SubS.cons rfl (SubS.cons rfl SubS.nil))
   ·skip
    omega
   intro k hinv
   have hk := hinv
   have hfl := subP_len us ps k
   refine W.rg ?_
   refine SL.val (O.det (fun _ => G.R.lss rfl rfl) rfl Taken.no) ?_
   refine E.fo (W.seq ?_)
   first | refine W.cond_d rfl (fun hc5 => ?_) (fun hc5 => ?_) | refine W.cond_nd rfl (fun hc5 => ?_) (fun hc5 => ?_) | refine W.cond rfl (fun hc5 => ?_) (fun hc5 => ?_)
   ·skip
    have hpa := pl_at hasc ps[k]!.a
    have hpb := pl_at hasc ps[k]!.b
    refine W.skip (E.to (W.seq (W.block (W.rg ?_))))
    refine SL.val (O.idx_fz (i := k) rfl rfl (rfl) (row_get (by omega)) Try.underlying30 hi36 hs36 rfl Taken.no) ?_
    refine SL.val (O.ldU (m := 3) (PtU.fz rfl) rfl Try.underlying36 rfl (by kernel_rfl) rfl Taken.no) ?_
    refine SL.memS (O.alloc (z := .agg #[.int .i64 0, .int .i64 0, .int .i64 0]) (is := [.u (.sc (.int .i64 0)), .u (.sc (.int .i64 0)), .u (.sc (.int .i64 0))]) 108 (by kernel_rfl) rfl rfl rfl Taken.no) rfl rfl (S' := (108, _) :: _) rfl ?_
    refine SL.effS (O.st_ref (m := 3) rfl rfl rfl (js := [_, _, _]) rfl rfl (by kernel_rfl) (by simp) (Nat.le_of_ble_eq_true rfl) rfl (is' := [_, _, _]) rfl Taken.no) (S' := (108, _) :: _) rfl ?_
    refine E.fo (W.rg (SL.mv rfl rfl ?_))
    refine SL.val (O.fld_ref (o' := 0) rfl Try.underlying36 rfl (m := 0) (by kernel_rfl) rfl rfl Taken.no) ?_
    refine SL.val (O.ld1 (PtI.ref rfl rfl) rfl Try.underlying3 rfl rfl Taken.no) ?_
    refine SL.val (O.lookup2 (kf := (fun a : Int => Value.int .i64 a)) (vf := (fun a : Int => Value.int .i64 a)) (l := (pl us us.length)) (b := ps[k]!.a) (z := 0) rfl rfl rfl Try.underlying94 (KeyOk.int Try.underlying3) (by kernel_rfl) rfl Taken.no) ?_
    refine SL.mv rfl rfl ?_
    refine SL.val (O.extract rfl rfl rfl Taken.no) ?_
    refine SL.val (O.extract rfl rfl rfl Taken.no) ?_
    refine SL.an rfl rfl (SL.an rfl rfl (E.fo (W.rg (SL.mv rfl rfl ?_))))
    refine SL.val (O.fld_ref (o' := 1) rfl Try.underlying36 rfl (m := 0) (by kernel_rfl) rfl rfl Taken.no) ?_
    refine SL.val (O.ld1 (PtI.ref rfl rfl) rfl Try.underlying3 rfl rfl Taken.no) ?_
    refine SL.val (O.lookup2 (kf := (fun a : Int => Value.int .i64 a)) (vf := (fun a : Int => Value.int .i64 a)) (l := (pl us us.length)) (b := ps[k]!.b) (z := 0) rfl rfl rfl Try.underlying94 (KeyOk.int Try.underlying3) (by kernel_rfl) rfl Taken.no) ?_
    refine SL.mv rfl rfl ?_
    refine SL.val (O.extract rfl rfl rfl Taken.no) ?_
    refine SL.val (O.extract rfl rfl rfl Taken.no) ?_
    refine SL.an rfl rfl (SL.an rfl rfl (E.fo ?_))
    refine W.pick (K:=[(2,_),(4,_),(7,_),(10,_),(12,_),(13,_),(14,_),(15,_),(16,_),(61,_),(62,_),(63,_)]) (Z:=[(101,_),(102,_),(104,_),(105,_),(106,_),(108,_)]) ⟨rfl,rfl,rfl,rfl,rfl,rfl,rfl,rfl,rfl,rfl,rfl,rfl,trivial⟩ ⟨rfl,rfl,rfl,rfl,rfl,rfl,trivial⟩ ?_
    refine W.rg (SL.mv rfl rfl (SL.mv rfl rfl ?_))
    refine SL.case (j := 1) (g := 82) (want := true) rfl rfl (fun hg6 => ?_) (fun hg6 => ?_)
    ·skip
     first | have hg6p := G.gA1 hg6 | have hg6p := G.gA2 hg6 | have hg6p := hg6
     refine SL.val (O.move rfl rfl (Taken.yes rfl rfl hg6)) ?_
     refine SL.val (O.pick_t rfl hg6 rfl rfl Taken.no) ?_
     refine E.fo ?_
     first | refine W.cond_d rfl (fun hc7 => ?_) (fun hc7 => ?_) | refine W.cond_nd rfl (fun hc7 => ?_) (fun hc7 => ?_) | refine W.cond rfl (fun hc7 => ?_) (fun hc7 => ?_)
     ·skip
      have h1 : 0 ≤ atF us ps[k]!.a := of_decide_eq_true (hpa.1.symm.trans (by assumption))
      have h2 : 0 ≤ atF us ps[k]!.b := of_decide_eq_true (hpb.1.symm.trans (by assumption))
      refine W.region ?_
      refine SL.val (O.fld_ref (o' := 1) rfl Try.underlying32 rfl (m := 0) (by kernel_rfl) rfl rfl Taken.no) ?_
      refine SL.val (O.ld1 (PtI.ref rfl rfl) rfl Try.underlying30 rfl rfl Taken.no) ?_
      refine SL.mv rfl rfl (SL.mv rfl rfl ?_)
      refine SL.val (O.fld_ref (o' := 2) rfl Try.underlying36 rfl (m := 0) (by kernel_rfl) rfl rfl Taken.no) ?_
      refine SL.val (O.ld1 (PtI.ref rfl rfl) rfl Try.underlying3 rfl rfl Taken.no) ?_
      refine SL.val (O.build (res := [_, _, _]) (z := .agg #[.int .i64 0, .int .i64 0, .int .i64 0]) (places := [(0, 1), (1, 1), (2, 1)]) rfl rfl Try.underlying36 (by kernel_rfl) (fun _ => by kernel_rfl) rfl rfl Taken.no) ?_
      refine SL.memS (O.buildSlice 109 (rows := [Pr.mk (atF us ps[k]!.a) (atF us ps[k]!.b) ps[k]!.w].map ePr) rfl rfl Try.underlying30 hi36 hz36 hs36 (by decide) rfl (by decide) rfl (by show _ = [[uI (atF us ps[k]!.a), uI (atF us ps[k]!.b), uI ps[k]!.w]]; rw [← hpa.2 h1, ← hpb.2 h2]; rfl) rfl Taken.no) rfl rfl (S' := (109, .data 36 3 ([Pr.mk (atF us ps[k]!.a) (atF us ps[k]!.b) ps[k]!.w].map ePr)) :: _) rfl ?_
      refine SL.memS (O.app (k' := 110) rfl rfl (SlOf.own rfl rfl) Try.underlying30 hi36 hz36 hs36 rfl rfl (by exact app_map) (by rw [hb36]; (simp only [List.length_map, List.length_singleton]; omega)) (by (simp only [List.length_map, List.length_singleton]; omega)) rfl Taken.no) rfl rfl (S' := (110, _) :: (106, .dead) :: _) rfl ?_
      refine SL.val (O.fld_ref (o' := 1) rfl Try.underlying32 rfl (m := 0) (by kernel_rfl) rfl rfl Taken.no) ?_
      refine SL.effS (O.st_ref (m := 1) rfl rfl rfl (js := [_]) rfl rfl (by kernel_rfl) (by simp) (Nat.le_of_ble_eq_true rfl) rfl (is' := [_, _, _]) rfl Taken.no) (S' := (105, _) :: _) rfl ?_
      refine SL.nil (E.inn (E.to ?_))
      refine W.pick (K:=[(2,_),(4,_),(7,_),(10,_),(61,_),(62,_),(63,_)]) (Z:=[(101,_),(102,_),(104,_),(105,_),(108,_),(109,_),(110,_)]) ⟨rfl,rfl,rfl,rfl,rfl,rfl,rfl,trivial⟩ ⟨rfl,rfl,rfl,rfl,rfl,rfl,rfl,trivial⟩ ?_
      refine W.region ?_
      refine SL.val (O.det (fun _ => by first | exact G.R.add64 rfl rfl (by omega) | exact G.R.add rfl rfl) rfl Taken.no) ?_
      refine SL.mv rfl rfl (SL.nil ?_)
      refine E.again ((k + 1)) (rn [(106, 110)]) ?_ ?_ rfl (fixL_spec rfl) ?_ ?_
      · exact (SubF.cons rfl (SubF.cons rfl (SubF.cons rfl (SubF.cons rfl (SubF.cons rfl (SubF.cons rfl (SubF.cons rfl SubF.nil)))))))
      · exact (SubS.val rfl (by (try dsimp only); first | exact sb_data (by rw [subP_y (by omega) h1 h2]) | exact sb_data (by rw [subP_n (by omega) hno])) (SubS.cons rfl (SubS.cons rfl (SubS.cons rfl (SubS.cons rfl SubS.nil)))))
      ·try dsimp only
       omega
      · (try dsimp only); omega
     ·skip
      have hno : ¬ (0 ≤ atF us ps[k]!.a ∧ 0 ≤ atF us ps[k]!.b) := fun q => by have q1 := hpa.1.trans (decide_eq_true q.1); have q2 := hpb.1.trans (decide_eq_true q.2); (simp_all <;> omega)
      refine W.skip (E.inn (E.to (W.region ?_)))
      refine SL.val (O.det (fun _ => by first | exact G.R.add64 rfl rfl (by omega) | exact G.R.add rfl rfl) rfl Taken.no) ?_
      refine SL.mv rfl rfl (SL.nil ?_)
      refine E.again ((k + 1)) (rn []) ?_ ?_ rfl (fixL_spec rfl) ?_ ?_
      · exact (SubF.cons rfl (SubF.cons rfl (SubF.cons rfl (SubF.cons rfl (SubF.cons rfl (SubF.cons rfl (SubF.cons rfl SubF.nil)))))))
      · exact (SubS.val rfl (by (try dsimp only); first | exact sb_data (by rw [subP_y (by omega) h1 h2]) | exact sb_data (by rw [subP_n (by omega) hno])) (SubS.cons rfl (SubS.cons rfl (SubS.cons rfl (SubS.cons rfl SubS.nil)))))
      ·try dsimp only
       omega
      · (try dsimp only); omega
    ·skip
     first | have hg6p := G.gA5 hg6 | have hg6p := G.gA6 hg6 | have hg6p := hg6
     have hno : ¬ (0 ≤ atF us ps[k]!.a ∧ 0 ≤ atF us ps[k]!.b) := fun q => by have q1 := hpa.1.trans (decide_eq_true q.1); (simp_all <;> omega)
     refine SL.sk rfl rfl rfl hg6 ?_
     refine SL.val (O.pick_f rfl (G.ne_t hg6) rfl rfl Taken.no) ?_
     refine E.fo ?_
     refine W.cond_f rfl ?_
     refine W.skip (E.inn (E.to (W.region ?_)))
     refine SL.val (O.det (fun _ => by first | exact G.R.add64 rfl rfl (by omega) | exact G.R.add rfl rfl) rfl Taken.no) ?_
     refine SL.mv rfl rfl (SL.nil ?_)
     refine E.again ((k + 1)) (rn []) ?_ ?_ rfl (fixL_spec rfl) ?_ ?_
     · exact (SubF.cons rfl (SubF.cons rfl (SubF.cons rfl (SubF.cons rfl (SubF.cons rfl (SubF.cons rfl (SubF.cons rfl SubF.nil)))))))
     · exact (SubS.val rfl (by (try dsimp only); first | exact sb_data (by rw [subP_y (by omega) h1 h2]) | exact sb_data (by rw [subP_n (by omega) hno])) (SubS.cons rfl (SubS.cons rfl (SubS.cons rfl (SubS.cons rfl SubS.nil)))))
     ·try dsimp only
      omega
     · (try dsimp only); omega
   ·skip
    refine W.exit (E.th (E.th (E.hit (E.to (W.seq (W.seq ?_))))))
    have hkp : k = ps.length := by omega
    rw [hkp, List.take_length]
    refine W.region ?_
    refine SL.val (O.fld_ref (o' := 2) rfl Try.underlying32 rfl (m := 0) (by kernel_rfl) rfl rfl Taken.no) ?_
    refine SL.val (O.ld1 (PtI.ref rfl rfl) rfl Try.underlying23 rfl rfl Taken.no) ?_
    refine SL.val (O.lenE (SlOf.fz rfl (by decide)) (by first | exact List.length_map _ | rfl) Try.underlying23 rfl Taken.no) ?_
    refine SL.mv rfl rfl (E.fo (W.block ?_))
    refine W.adoptC 105 2 113 38 3 (is' := [_, _, _]) (by decide) rfl rfl rfl rfl rfl ?_
    refine W.loopx1 (fun (k : Nat) => [(99, vI (k : Int))]) (fun (k : Nat) => [(111, .data 36 3 ((subP us ps).map ePr)), (112, .data 38 3 ((subR us (rs.take k)).map eRu)), (105, .cells 32 [vI (us.length : Int), .own 111, .own 112])]) (fun (k : Nat) => k ≤ rs.length) (fun (k : Nat) => rs.length - k) (0) (rn [(111, 106), (112, 113)]) (.cons (t := 4) rfl (.cons (t := 7) rfl (.cons (t := 10) rfl (.cons (t := 97) rfl (.cons (t := 98) rfl .nil))))) (.cons (t := 101) rfl (.cons (t := 102) rfl (.cons (t := 104) rfl .nil))) rfl ?_ ?_ rfl rfl ?_ ?_
    · exact (SubF.cons rfl SubF.nil)
    · exact (SubS.cons rfl (SubS.cons rfl (SubS.cons rfl SubS.nil)))
    ·skip
     omega
    intro k hinv
    have hk := hinv
    have hfl := subR_len us rs k
    refine W.rg ?_
    refine SL.val (O.det (fun _ => G.R.lss rfl rfl) rfl Taken.no) ?_
    refine E.fo (W.seq ?_)
    first | refine W.cond_d rfl (fun hc8 => ?_) (fun hc8 => ?_) | refine W.cond_nd rfl (fun hc8 => ?_) (fun hc8 => ?_) | refine W.cond rfl (fun hc8 => ?_) (fun hc8 => ?_)
    ·skip
     have hpa := pl_at hasc rs[k]!.a
     have hpb := pl_at hasc rs[k]!.b
     refine W.skip (E.to (W.seq (W.block (W.rg ?_))))
     refine SL.val (O.idx_fz (i := k) rfl rfl (rfl) (row_get (by omega)) Try.underlying23 hi38 hs38 rfl Taken.no) ?_
     refine SL.val (O.ldU (m := 3) (PtU.fz rfl) rfl Try.underlying38 rfl (by kernel_rfl) rfl Taken.no) ?_
     refine SL.memS (O.alloc (z := .agg #[.int .i64 0, .int .i64 0, .int .i64 0]) (is := [.u (.sc (.int .i64 0)), .u (.sc (.int .i64 0)), .u (.sc (.int .i64 0))]) 114 (by kernel_rfl) rfl rfl rfl Taken.no) rfl rfl (S' := (114, _) :: _) rfl ?_
     refine SL.effS (O.st_ref (m := 3) rfl rfl rfl (js := [_, _, _]) rfl rfl (by kernel_rfl) (by simp) (Nat.le_of_ble_eq_true rfl) rfl (is' := [_, _, _]) rfl Taken.no) (S' := (114, _) :: _) rfl ?_
     refine E.fo (W.rg (SL.mv rfl rfl ?_))
     refine SL.val (O.fld_ref (o' := 1) rfl Try.underlying38 rfl (m := 0) (by kernel_rfl) rfl rfl Taken.no) ?_
     refine SL.val (O.ld1 (PtI.ref rfl rfl) rfl Try.underlying3 rfl rfl Taken.no) ?_
     refine SL.val (O.lookup2 (kf := (fun a : Int => Value.int .i64 a)) (vf := (fun a : Int => Value.int .i64 a)) (l := (pl us us.length)) (b := rs[k]!.a) (z := 0) rfl rfl rfl Try.underlying94 (KeyOk.int Try.underlying3) (by kernel_rfl) rfl Taken.no) ?_
     refine SL.mv rfl rfl ?_
     refine SL.val (O.extract rfl rfl rfl Taken.no) ?_
     refine SL.val (O.extract rfl rfl rfl Taken.no) ?_
     refine SL.an rfl rfl (SL.an rfl rfl (E.fo (W.rg (SL.mv rfl rfl ?_))))
     refine SL.val (O.fld_ref (o' := 2) rfl Try.underlying38 rfl (m := 0) (by kernel_rfl) rfl rfl Taken.no) ?_
     refine SL.val (O.ld1 (PtI.ref rfl rfl) rfl Try.underlying3 rfl rfl Taken.no) ?_
     refine SL.val (O.lookup2 (kf := (fun a : Int => Value.int .i64 a)) (vf := (fun a : Int => Value.int .i64 a)) (l := (pl us us.length)) (b := rs[k]!.b) (z := 0) rfl rfl rfl Try.underlying94 (KeyOk.int Try.underlying3) (by kernel_rfl) rfl Taken.no) ?_
     refine SL.mv rfl rfl ?_
     refine SL.val (O.extract rfl rfl rfl Taken.no) ?_
     refine SL.val (O.extract rfl rfl rfl Taken.no) ?_
     refine SL.an rfl rfl (SL.an rfl rfl (E.fo ?_))
     refine W.pick (K:=[(4,_),(7,_),(10,_),(18,_),(19,_),(20,_),(21,_),(22,_),(97,_),(98,_),(99,_)]) (Z:=[(101,_),(102,_),(104,_),(105,_),(111,_),(112,_),(114,_)]) ⟨rfl,rfl,rfl,rfl,rfl,rfl,rfl,rfl,rfl,rfl,rfl,trivial⟩ ⟨rfl,rfl,rfl,rfl,rfl,rfl,rfl,trivial⟩ ?_
     refine W.rg (SL.mv rfl rfl (SL.mv rfl rfl ?_))
     refine SL.case (j := 1) (g := 118) (want := true) rfl rfl (fun hg9 => ?_) (fun hg9 => ?_)
     ·skip
      first | have hg9p := G.gA1 hg9 | have hg9p := G.gA2 hg9 | have hg9p := hg9
      refine SL.val (O.move rfl rfl (Taken.yes rfl rfl hg9)) ?_
      refine SL.val (O.pick_t rfl hg9 rfl rfl Taken.no) ?_
      refine E.fo ?_
      first | refine W.cond_d rfl (fun hc10 => ?_) (fun hc10 => ?_) | refine W.cond_nd rfl (fun hc10 => ?_) (fun hc10 => ?_) | refine W.cond rfl (fun hc10 => ?_) (fun hc10 => ?_)
      ·skip
       have h1 : 0 ≤ atF us rs[k]!.a := of_decide_eq_true (hpa.1.symm.trans (by assumption))
       have h2 : 0 ≤ atF us rs[k]!.b := of_decide_eq_true (hpb.1.symm.trans (by assumption))
       refine W.region ?_
       refine SL.val (O.fld_ref (o' := 2) rfl Try.underlying32 rfl (m := 0) (by kernel_rfl) rfl rfl Taken.no) ?_
       refine SL.val (O.ld1 (PtI.ref rfl rfl) rfl Try.underlying23 rfl rfl Taken.no) ?_
       refine SL.val (O.fld_ref (o' := 0) rfl Try.underlying38 rfl (m := 0) (by kernel_rfl) rfl rfl Taken.no) ?_
       refine SL.val (O.ld1 (PtI.ref rfl rfl) rfl Try.underlying3 rfl rfl Taken.no) ?_
       refine SL.mv rfl rfl (SL.mv rfl rfl ?_)
       refine SL.val (O.build (res := [_, _, _]) (z := .agg #[.int .i64 0, .int .i64 0, .int .i64 0]) (places := [(0, 1), (1, 1), (2, 1)]) rfl rfl Try.underlying38 (by kernel_rfl) (fun _ => by kernel_rfl) rfl rfl Taken.no) ?_
       refine SL.memS (O.buildSlice 115 (rows := [Ru.mk rs[k]!.k (atF us rs[k]!.a) (atF us rs[k]!.b)].map eRu) rfl rfl Try.underlying23 hi38 hz38 hs38 (by decide) rfl (by decide) rfl (by show _ = [[uI rs[k]!.k, uI (atF us rs[k]!.a), uI (atF us rs[k]!.b)]]; rw [← hpa.2 h1, ← hpb.2 h2]; rfl) rfl Taken.no) rfl rfl (S' := (115, .data 38 3 ([Ru.mk rs[k]!.k (atF us rs[k]!.a) (atF us rs[k]!.b)].map eRu)) :: _) rfl ?_
       refine SL.memS (O.app (k' := 116) rfl rfl (SlOf.own rfl rfl) Try.underlying23 hi38 hz38 hs38 rfl rfl (by exact app_map) (by rw [hb38]; (simp only [List.length_map, List.length_singleton]; omega)) (by (simp only [List.length_map, List.length_singleton]; omega)) rfl Taken.no) rfl rfl (S' := (116, _) :: (112, .dead) :: _) rfl ?_
       refine SL.val (O.fld_ref (o' := 2) rfl Try.underlying32 rfl (m := 0) (by kernel_rfl) rfl rfl Taken.no) ?_
       refine SL.effS (O.st_ref (m := 1) rfl rfl rfl (js := [_]) rfl rfl (by kernel_rfl) (by simp) (Nat.le_of_ble_eq_true rfl) rfl (is' := [_, _, _]) rfl Taken.no) (S' := (105, _) :: _) rfl ?_
       refine SL.nil (E.inn (E.to ?_))
       refine W.pick (K:=[(4,_),(7,_),(10,_),(97,_),(98,_),(99,_)]) (Z:=[(101,_),(102,_),(104,_),(105,_),(111,_),(114,_),(115,_),(116,_)]) ⟨rfl,rfl,rfl,rfl,rfl,rfl,trivial⟩ ⟨rfl,rfl,rfl,rfl,rfl,rfl,rfl,rfl,trivial⟩ ?_
       refine W.region ?_
       refine SL.val (O.det (fun _ => by first | exact G.R.add64 rfl rfl (by omega) | exact G.R.add rfl rfl) rfl Taken.no) ?_
       refine SL.mv rfl rfl (SL.nil ?_)
       refine E.again ((k + 1)) (rn [(112, 116)]) ?_ ?_ rfl (fixL_spec rfl) ?_ ?_
       · exact (SubF.cons rfl (SubF.cons rfl (SubF.cons rfl (SubF.cons rfl (SubF.cons rfl (SubF.cons rfl SubF.nil))))))
       · exact (SubS.cons rfl (SubS.val rfl (by (try dsimp only); first | exact sb_data (by rw [subR_y (by omega) h1 h2]) | exact sb_data (by rw [subR_n (by omega) hno])) (SubS.cons rfl (SubS.cons rfl (SubS.cons rfl (SubS.cons rfl SubS.nil))))))
       ·try dsimp only
        omega
       · (try dsimp only); omega
      ·skip
       have hno : ¬ (0 ≤ atF us rs[k]!.a ∧ 0 ≤ atF us rs[k]!.b) := fun q => by have q1 := hpa.1.trans (decide_eq_true q.1); have q2 := hpb.1.trans (decide_eq_true q.2); (simp_all <;> omega)
       refine W.skip (E.inn (E.to (W.region ?_)))
       refine SL.val (O.det (fun _ => by first | exact G.R.add64 rfl rfl (by omega) | exact G.R.add rfl rfl) rfl Taken.no) ?_
       refine SL.mv rfl rfl (SL.nil ?_)
       refine E.again ((k + 1)) (rn []) ?_ ?_ rfl (fixL_spec rfl) ?_ ?_
       · exact (SubF.cons rfl (SubF.cons rfl (SubF.cons rfl (SubF.cons rfl (SubF.cons rfl (SubF.cons rfl SubF.nil))))))
       · exact (SubS.cons rfl (SubS.val rfl (by (try dsimp only); first | exact sb_data (by rw [subR_y (by omega) h1 h2]) | exact sb_data (by rw [subR_n (by omega) hno])) (SubS.cons rfl (SubS.cons rfl (SubS.cons rfl (SubS.cons rfl SubS.nil))))))
       ·try dsimp only
        omega
       · (try dsimp only); omega
     ·skip
      first | have hg9p := G.gA5 hg9 | have hg9p := G.gA6 hg9 | have hg9p := hg9
      have hno : ¬ (0 ≤ atF us rs[k]!.a ∧ 0 ≤ atF us rs[k]!.b) := fun q => by have q1 := hpa.1.trans (decide_eq_true q.1); (simp_all <;> omega)
      refine SL.sk rfl rfl rfl hg9 ?_
      refine SL.val (O.pick_f rfl (G.ne_t hg9) rfl rfl Taken.no) ?_
      refine E.fo ?_
      refine W.cond_f rfl ?_
      refine W.skip (E.inn (E.to (W.region ?_)))
      refine SL.val (O.det (fun _ => by first | exact G.R.add64 rfl rfl (by omega) | exact G.R.add rfl rfl) rfl Taken.no) ?_
      refine SL.mv rfl rfl (SL.nil ?_)
      refine E.again ((k + 1)) (rn []) ?_ ?_ rfl (fixL_spec rfl) ?_ ?_
      · exact (SubF.cons rfl (SubF.cons rfl (SubF.cons rfl (SubF.cons rfl (SubF.cons rfl (SubF.cons rfl SubF.nil))))))
      · exact (SubS.cons rfl (SubS.val rfl (by (try dsimp only); first | exact sb_data (by rw [subR_y (by omega) h1 h2]) | exact sb_data (by rw [subR_n (by omega) hno])) (SubS.cons rfl (SubS.cons rfl (SubS.cons rfl (SubS.cons rfl SubS.nil))))))
      ·try dsimp only
       omega
      · (try dsimp only); omega
    ·skip
     refine W.exit (E.th (E.th (E.hit (E.to (W.rg ?_)))))
     refine SL.val (O.ldN (m := 3) (PtI.ref rfl rfl) (js := [_, _, _]) rfl (Nat.le_of_ble_eq_true rfl) Try.underlying32 rfl (by kernel_rfl) rfl Taken.no) ?_
     refine SL.effS (O.st_ref (m := 3) rfl rfl rfl (js := [_, _, _]) rfl rfl (by kernel_rfl) (by simp) (Nat.le_of_ble_eq_true rfl) rfl (is' := [_, _, _]) rfl Taken.no) (S' := (102, _) :: _) rfl ?_
     refine SL.an rfl rfl (E.fo (W.ret ?_))
     refine E.freezeC 102 1 111 (is' := [_, _, _]) rfl rfl rfl rfl ?_
     refine E.freezeC 102 2 112 (is' := [_, _, _]) rfl rfl rfl rfl ?_
     refine E.fin (rs := [_, _]) (rn []) (.inl rfl) rfl (.cons (ResOne.cellN (m := 3) (PtI.ref rfl rfl) (js := [_, _, _]) rfl (Nat.le_of_ble_eq_true rfl) Try.underlying32 rfl (by kernel_rfl)) (.cons (ResOne.tmp rfl) .nil)) ?_ ?_ rfl (fixL_spec rfl)
     ·skip
      (rw [show k = rs.length by omega, List.take_length, (sb_y hoku ps rs).1, (sb_y hoku ps rs).2.1, (sb_y hoku ps rs).2.2.1, (sb_y hoku ps rs).2.2.2]; rfl)
     · exact SubS.nil


end Go.Proofs.Ytppamigboeaefaa
end
section
namespace Go.Proofs.Ytppamigboeaefaa
open Go Go.RowKit Go.H Go.D33






end Go.Proofs.Ytppamigboeaefaa
end
section
namespace Go.Proofs.Ytppamigboeaefaa
open Go Go.RowKit Go.H Go.D33











end Go.Proofs.Ytppamigboeaefaa
end
section
namespace Go.D33
open Go Go.RowKit Go.H
def exP : List Pr := [⟨0, 1, 5⟩, ⟨0, 2, -6⟩, ⟨1, 2, 4⟩]
def exR : List Ru := [⟨1, 2, 1⟩]
theorem ex_ok : (Prob.mk ((3 : Nat) : Int) exP []).ok := ⟨by decide +kernel, by decide +kernel⟩
theorem ex_ok2 : (Prob.mk ((3 : Nat) : Int) exP exR).ok := ⟨by decide +kernel, by decide +kernel⟩
theorem ex_s1 : solveR 3 exP [] = [0, 0, 2] := by decide +kernel
theorem ex_s2 : solveR 3 exP exR = [0, 1, 1] := by decide +kernel
theorem ex_v : valI 3 (wF exP) ([0, 0, 2] : List Int) = 5 ∧ valE 3 ([0, 0, 2] : List Int) = 0 := by decide +kernel
theorem ex_p : permI 3 (mF (lF exP) exR) (barL exR) (namedL 3 (partsL (mu exR) (List.range 3))) ([0, 1, 1] : List Int) := by decide +kernel
/-! ### '==' of pairs, rules and steps -/
def prV (x : Pr) : List Value := [.int .i64 x.a, .int .i64 x.b, .int .i64 x.w]
def ruV (x : Ru) : List Value := [.int .i64 x.k, .int .i64 x.a, .int .i64 x.b]
def stV (x : Stp) : List Value := [.bool x.u, .int .i64 x.f, .int .i64 x.t]
theorem Pr.ext {a b : Pr} (h1 : a.a = b.a) (h2 : a.b = b.b) (h3 : a.w = b.w) : a = b := by cases a; cases b; simp_all
instance : DecidableEq Pr := fun a b => if h : a.a = b.a ∧ a.b = b.b ∧ a.w = b.w then .isTrue (Pr.ext h.1 h.2.1 h.2.2) else .isFalse fun e => h (by subst e; exact ⟨rfl, rfl, rfl⟩)
theorem Ru.ext {a b : Ru} (h1 : a.k = b.k) (h2 : a.a = b.a) (h3 : a.b = b.b) : a = b := by cases a; cases b; simp_all
instance : DecidableEq Ru := fun a b => if h : a.k = b.k ∧ a.a = b.a ∧ a.b = b.b then .isTrue (Ru.ext h.1 h.2.1 h.2.2) else .isFalse fun e => h (by subst e; exact ⟨rfl, rfl, rfl⟩)
end Go.D33
end
section
namespace Go.Proofs.Ytppamigboeaefaa
open Go Go.RowKit Go.H Go.D33

theorem hcallOk15 : G.callOk Try.prog 15 = true := by kernel_rfl
theorem hcallOk21 : G.callOk Try.prog 21 = true := by kernel_rfl
theorem hcallOk24 : G.callOk Try.prog 24 = true := by kernel_rfl


set_option maxRecDepth 8000 in
set_option maxHeartbeats 1600000 in
/-- bookplate/bookplatelaw33.awake. -/
theorem awake_h  :
    Con Try.prog 11 [] [] (vB true) [] := by
 obtain ⟨i3, hi3, hz3, hs3, hb3⟩ := hinf3
 obtain ⟨i36, hi36, hz36, hs36, hb36⟩ := hinf36
 obtain ⟨i38, hi38, hz38, hs38, hb38⟩ := hinf38
 refine Con.enterL (n := 61) Try.func11 rfl rfl rfl (fun τ w ok vs hin => ?_)
 clear hin
 refine W.rg (SL.an rfl rfl (E.fo (W.rg ?_)))
 refine SL.val (O.build (res := [_, _, _]) (z := .agg #[.int .i64 0, .int .i64 0, .int .i64 0]) (places := [(0, 1), (1, 1), (2, 1)]) rfl rfl Try.underlying36 (by kernel_rfl) (fun _ => by kernel_rfl) rfl rfl Taken.no) ?_
 refine SL.val (O.build (res := [_, _, _]) (z := .agg #[.int .i64 0, .int .i64 0, .int .i64 0]) (places := [(0, 1), (1, 1), (2, 1)]) rfl rfl Try.underlying36 (by kernel_rfl) (fun _ => by kernel_rfl) rfl rfl Taken.no) ?_
 refine SL.val (O.build (res := [_, _, _]) (z := .agg #[.int .i64 0, .int .i64 0, .int .i64 0]) (places := [(0, 1), (1, 1), (2, 1)]) rfl rfl Try.underlying36 (by kernel_rfl) (fun _ => by kernel_rfl) rfl rfl Taken.no) ?_
 refine SL.memS (O.buildSlice 101 (rows := exP.map ePr) rfl rfl Try.underlying30 hi36 hz36 hs36 (by decide) rfl (by decide) rfl rfl rfl Taken.no) rfl rfl (S' := (101, .data 36 3 (exP.map ePr)) :: _) rfl ?_
 refine SL.freeze 101 rfl (F' := [(11, _)]) (⟨⟨_, rfl, rfl⟩, trivial⟩) ?_
 refine SL.val (O.build (res := [_, _, _]) (z := .agg #[.int .i64 0, .slice none 0 0, .slice none 0 0]) (places := [(0, 1), (1, 1), (2, 1)]) rfl rfl Try.underlying32 (by kernel_rfl) (fun _ => by kernel_rfl) rfl rfl Taken.no) ?_
 refine SL.memS (O.alloc (z := .agg #[.int .i64 0, .slice none 0 0, .slice none 0 0]) (is := [.u (.sc (.int .i64 0)), .u (.sc (.slice none 0 0)), .u (.sc (.slice none 0 0))]) 102 (by kernel_rfl) rfl rfl rfl Taken.no) rfl rfl (S' := (102, _) :: _) rfl ?_
 refine SL.effS (O.st_ref (m := 3) rfl rfl rfl (js := [_, _, _]) rfl rfl (by kernel_rfl) (by simp) (Nat.le_of_ble_eq_true rfl) rfl (is' := [_, _, _]) rfl Taken.no) (S' := (102, _) :: _) rfl ?_
 refine E.fo (W.rg ?_)
 refine SL.val (O.ldN (m := 3) (PtI.ref rfl rfl) (js := [_, _, _]) rfl (Nat.le_of_ble_eq_true rfl) Try.underlying32 rfl (by kernel_rfl) rfl Taken.no) ?_
 refine SL.memS (O.call (rn []) [] rfl rfl rfl (solveC_ok ex_ok) (.cons (ArgOk.aggU (.cons (ArgOk.same rfl) (.cons (ArgOk.same rfl) (.cons ArgOk.nil .nil)))) .nil) SubS.nil rfl rfl rfl rfl rfl (.inl rfl) hcallOk15 (r' := .tup [.u _, .u _]) rfl rfl Taken.no) rfl rfl (S' := _) rfl ?_
 refine SL.as (i' := .tup [vL 1 (([0, 0, 2] : List Nat).map eN), vI 0]) 15 rfl (by rw [ex_s1]) ?_
 refine SL.mv rfl rfl ?_
 refine SL.val (O.extract rfl rfl rfl Taken.no) ?_
 refine SL.val (O.extract rfl rfl rfl Taken.no) ?_
 refine SL.an rfl rfl (SL.an rfl rfl (E.fo (W.rg ?_)))
 refine SL.val (O.ldN (m := 3) (PtI.ref rfl rfl) (js := [_, _, _]) rfl (Nat.le_of_ble_eq_true rfl) Try.underlying32 rfl (by kernel_rfl) rfl Taken.no) ?_
 refine SL.mv rfl rfl ?_
 refine SL.memS (O.call (rn []) [] rfl rfl rfl (valueC_ok (l := [0, 0, 2]) ex_ok) (.cons (ArgOk.aggU (.cons (ArgOk.same rfl) (.cons (ArgOk.same rfl) (.cons ArgOk.nil .nil)))) (.cons (ArgOk.same rfl) .nil)) SubS.nil rfl rfl rfl rfl rfl (.inl rfl) hcallOk21 (r' := .tup [.u _, .u _]) rfl rfl Taken.no) rfl rfl (S' := _) rfl ?_
 refine SL.as (i' := .tup [vI 5, vI 0]) 21 rfl (by rw [ex_v.1, ex_v.2]) ?_
 refine SL.mv rfl rfl ?_
 refine SL.val (O.extract rfl rfl rfl Taken.no) ?_
 refine SL.val (O.extract rfl rfl rfl Taken.no) ?_
 refine SL.an rfl rfl (SL.an rfl rfl (E.fo ?_))
 refine W.pick (K:=[(0,_),(1,_),(2,_),(3,_),(4,_),(5,_)]) (Z:=[(102,_)]) ⟨rfl,rfl,rfl,rfl,rfl,rfl,trivial⟩ ⟨rfl,trivial⟩ ?_
 refine W.rg ?_
 refine SL.val (O.build (res := [_, _, _]) (z := .agg #[.int .i64 0, .int .i64 0, .int .i64 0]) (places := [(0, 1), (1, 1), (2, 1)]) rfl rfl Try.underlying38 (by kernel_rfl) (fun _ => by kernel_rfl) rfl rfl Taken.no) ?_
 refine SL.memS (O.buildSlice 103 (rows := exR.map eRu) rfl rfl Try.underlying23 hi38 hz38 hs38 (by decide) rfl (by decide) rfl rfl rfl Taken.no) rfl rfl (S' := (103, .data 38 3 (exR.map eRu)) :: _) rfl ?_
 refine SL.val (O.fld_ref (o' := 2) rfl Try.underlying32 rfl (m := 0) (by kernel_rfl) rfl rfl Taken.no) ?_
 refine SL.effS (O.st_ref (m := 1) rfl rfl rfl (js := [_]) rfl rfl (by kernel_rfl) (by simp) (Nat.le_of_ble_eq_true rfl) rfl (is' := [_, _, _]) rfl Taken.no) (S' := (102, _) :: _) rfl ?_
 refine E.fo (W.seq ?_)
 refine W.freezeC 102 2 103 (is' := [_, _, _]) rfl rfl rfl rfl ?_
 refine W.region ?_
 refine SL.val (O.ldN (m := 3) (PtI.ref rfl rfl) (js := [_, _, _]) rfl (Nat.le_of_ble_eq_true rfl) Try.underlying32 rfl (by kernel_rfl) rfl Taken.no) ?_
 refine SL.memS (O.call (rn []) [] rfl rfl rfl (solveC_ok ex_ok2) (.cons (ArgOk.aggU (.cons (ArgOk.same rfl) (.cons (ArgOk.same rfl) (.cons (ArgOk.same rfl) .nil)))) .nil) SubS.nil rfl rfl rfl rfl rfl (.inl rfl) hcallOk15 (r' := .tup [.u _, .u _]) rfl rfl Taken.no) rfl rfl (S' := _) rfl ?_
 refine SL.as (i' := .tup [vL 1 (([0, 1, 1] : List Nat).map eN), vI 0]) 29 rfl (by rw [ex_s2]) ?_
 refine SL.mv rfl rfl ?_
 refine SL.val (O.extract rfl rfl rfl Taken.no) ?_
 refine SL.val (O.extract rfl rfl rfl Taken.no) ?_
 refine SL.an rfl rfl (SL.an rfl rfl (E.fo (W.rg (SL.mv rfl rfl ?_))))
 refine SL.val (O.det (fun _ => G.R.mv (G.R.eql rfl rfl) (congrArg Value.bool (decide_eq_true (by rfl)))) rfl Taken.no) ?_
 refine SL.mv rfl rfl ?_
 have hg1 : true = true := by decide
 refine SL.val (O.move rfl rfl (Taken.yes rfl rfl hg1)) ?_
 refine SL.val (O.det (fun _ => G.R.mv (G.R.eql rfl rfl) (congrArg Value.bool (decide_eq_true (by rfl)))) rfl (Taken.yes rfl rfl hg1)) ?_
 refine SL.val (O.pick_t rfl rfl rfl rfl Taken.no) ?_
 refine SL.mv rfl rfl ?_
 have hg2 : true = true := by decide
 refine SL.val (O.move rfl rfl (Taken.yes rfl rfl hg2)) ?_
 refine SL.val (O.det (fun _ => G.R.mv (G.R.eql rfl rfl) (congrArg Value.bool (decide_eq_true (by rfl)))) rfl (Taken.yes rfl rfl hg2)) ?_
 refine SL.val (O.pick_t rfl rfl rfl rfl Taken.no) ?_
 refine SL.mv rfl rfl ?_
 have hg3 : true = true := by decide
 refine SL.val (O.move rfl rfl (Taken.yes rfl rfl hg3)) ?_
 refine SL.val (O.det (fun _ => G.R.mv (G.R.eql rfl rfl) (congrArg Value.bool (decide_eq_true (by rfl)))) rfl (Taken.yes rfl rfl hg3)) ?_
 refine SL.val (O.pick_t rfl rfl rfl rfl Taken.no) ?_
 refine SL.mv rfl rfl ?_
 have hg4 : true = true := by decide
 refine SL.val (O.move rfl rfl (Taken.yes rfl rfl hg4)) ?_
 refine SL.memS (O.buildSlice 104 (rows := ([0, 0, 2] : List Nat).map eN) rfl rfl Try.underlying39 hi3 hz3 hs3 (by decide) rfl (by decide) rfl rfl rfl (Taken.yes rfl rfl hg4)) rfl rfl (S' := (104, .data 3 1 (([0, 0, 2] : List Nat).map eN)) :: _) rfl ?_
 refine SL.memS (O.call (rn []) [104] rfl rfl rfl (same_h (a := [0, 0, 2]) (b := [0, 0, 2])) (.cons (ArgOk.same rfl) (.cons (ArgOk.own rfl rfl) .nil)) SubS.nil rfl rfl rfl rfl rfl (.inr ⟨rfl, fun x hx => by simp at hx⟩) hcallOk16 (r' := .u _) rfl rfl (Taken.yes rfl rfl hg4)) rfl rfl (S' := _) rfl ?_
 refine SL.as (i' := vB true) 49 rfl (by exact iv_bool (dec_t rfl)) ?_
 refine SL.val (O.pick_t rfl rfl rfl rfl Taken.no) ?_
 refine SL.mv rfl rfl ?_
 have hg5 : true = true := by decide
 refine SL.val (O.move rfl rfl (Taken.yes rfl rfl hg5)) ?_
 refine SL.memS (O.buildSlice 105 (rows := ([0, 1, 1] : List Nat).map eN) rfl rfl Try.underlying39 hi3 hz3 hs3 (by decide) rfl (by decide) rfl rfl rfl (Taken.yes rfl rfl hg5)) rfl rfl (S' := (105, .data 3 1 (([0, 1, 1] : List Nat).map eN)) :: _) rfl ?_
 refine SL.memS (O.call (rn []) [105] rfl rfl rfl (same_h (a := [0, 1, 1]) (b := [0, 1, 1])) (.cons (ArgOk.same rfl) (.cons (ArgOk.own rfl rfl) .nil)) SubS.nil rfl rfl rfl rfl rfl (.inr ⟨rfl, fun x hx => by simp at hx⟩) hcallOk16 (r' := .u _) rfl rfl (Taken.yes rfl rfl hg5)) rfl rfl (S' := _) rfl ?_
 refine SL.as (i' := vB true) 54 rfl (by exact iv_bool (dec_t rfl)) ?_
 refine SL.val (O.pick_t rfl rfl rfl rfl Taken.no) ?_
 refine SL.mv rfl rfl ?_
 have hg6 : true = true := by decide
 refine SL.val (O.ldN (m := 3) (PtI.ref rfl rfl) (js := [_, _, _]) rfl (Nat.le_of_ble_eq_true rfl) Try.underlying32 rfl (by kernel_rfl) rfl (Taken.yes rfl rfl hg6)) ?_
 refine SL.val (O.move rfl rfl (Taken.yes rfl rfl hg6)) ?_
 refine SL.val (O.callp rfl rfl rfl (permC_ok (l := [0, 1, 1]) ex_ok2) (.cons (ArgOk.aggU (.cons (ArgOk.same rfl) (.cons (ArgOk.same rfl) (.cons (ArgOk.same rfl) .nil)))) (.cons (ArgOk.same rfl) .nil)) hcallOk24 rfl (Taken.yes rfl rfl hg6)) ?_
 refine SL.as (i' := vB true) 59 rfl (by exact iv_bool (dec_t ex_p)) ?_
 refine SL.val (O.pick_t rfl rfl rfl rfl Taken.no) ?_
 refine SL.an rfl rfl (E.fo ?_)
 refine W.pick (K:=[(0,_)]) (Z:=[(102,_),(104,_),(105,_)]) ⟨rfl,trivial⟩ ⟨rfl,rfl,rfl,trivial⟩ ?_
 refine W.ret ?_
 refine E.fin (rs := [_]) (rn []) (.inl rfl) rfl (.cons (ResOne.tmp rfl) .nil) ?_ ?_ rfl (fixL_spec rfl)
 ·skip
  rfl
 · exact SubS.nil

end Go.Proofs.Ytppamigboeaefaa
end
section
namespace Go.Proofs.Ytppamigboeaefaa
open Go Go.RowKit Go.H Go.D33

theorem hcallOk11 : G.callOk Try.prog 11 = true := by kernel_rfl
theorem hcallOk12 : G.callOk Try.prog 12 = true := by kernel_rfl
theorem hcallOk14 : G.callOk Try.prog 14 = true := by kernel_rfl
theorem hcallOk19 : G.callOk Try.prog 19 = true := by kernel_rfl
theorem hcallOk31 : G.callOk Try.prog 31 = true := by kernel_rfl










end Go.Proofs.Ytppamigboeaefaa
end
section
namespace Go.Proofs.Ytppamigboeaefaa
open Go Go.RowKit Go.H Go.D33









end Go.Proofs.Ytppamigboeaefaa
end
section
namespace Go.D33
open Go Go.RowKit Go.H
section
variable {n : Nat} {ps : List Pr} {rs ts : List Ru} {m : List Nat} {s : Stp}
/-- Labels that keep atoms together. -/
def resp (n : Nat) (rs : List Ru) (lab : List Nat) : Prop := ∀ i j, i < n → j < n → (atomsL n rs)[i]! = (atomsL n rs)[j]! → lab[i]! = lab[j]!
/-- Rules that say the same. -/
structure Alike (n : Nat) (ps : List Pr) (rs ts : List Ru) : Prop where
  atm : atomsL n ts = atomsL n rs
  con : ∀ lab, resp n rs lab → connL n ps ts lab = connL n ps rs lab
  cl : ∀ lab, resp n rs lab → clash (barL ts) lab = clash (barL rs) lab
theorem alike_next (hf : (Prob.mk (n : Int) ps rs).formed) (h : Alike n ps rs ts) (hm : isP n m) (hp : permR n ps rs m) : nextR n ps ts m = nextR n ps rs m ∧ ∀ s, preR n (atomsL n rs) m s → resR n ps ts m s = resR n ps rs m s := by
  have hl : ∀ s, preR n (atomsL n rs) m s → resp n rs (labL n (atomsL n rs) m s) := fun s h1 i j hi hj e => lab_at hf hm hp ((pre_iff hm hp.2.1).2 h1) hi hj e
  have hres : ∀ s, preR n (atomsL n rs) m s → resR n ps ts m s = resR n ps rs m s := fun s h1 => by
    unfold resR
    rw [h.atm, h.con _ (hl s h1)]
  refine ⟨?_, hres⟩
  unfold nextR
  refine best_congr fun s _ => ⟨?_, fun q => ?_⟩
  · unfold posR
    rw [h.atm]
    exact ⟨fun q => ⟨q.1, by rw [← h.cl _ (hl s q.1)]; exact q.2⟩, fun q => ⟨q.1, by rw [h.cl _ (hl s q.1)]; exact q.2⟩⟩
  · have q1 := q.1
    rw [h.atm] at q1
    unfold gnR
    rw [hres s q1]
/-- The same units, in some order. -/
def swp (t r : Ru) : Prop := t.k = r.k ∧ ((t.a = r.a ∧ t.b = r.b) ∨ (t.a = r.b ∧ t.b = r.a))
def fol (n : Nat) (rs : List Ru) (t : Ru) : Prop := (t.k = 1 ∧ ∃ i, i < n ∧ (atomsL n rs)[i]! ≠ i ∧ t.a = (i : Int) ∧ t.b = ((atomsL n rs)[i]! : Nat)) ∨ (t.k = 2 ∧ ∃ r ∈ rs, r.k = 2 ∧ t.a = ((atomsL n rs)[r.a.toNat]! : Nat) ∧ t.b = ((atomsL n rs)[r.b.toNat]! : Nat))
end
end Go.D33
end
