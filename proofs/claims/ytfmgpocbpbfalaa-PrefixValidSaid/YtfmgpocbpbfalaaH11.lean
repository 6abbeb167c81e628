/-
  The walks.
-/
import Derived.Test.YtfmgpocbpbfalaaH9
import Derived.Test.YtfmgpocbpbfalaaHTree
namespace Go.Proofs.Ytfmgpocbpbfalaa
open Go Go.RowKit Go.H Go.D41

theorem hcallOk10 : G.callOk Try.prog 10 = true := by kernel_rfl
theorem hcallOk31 : G.callOk Try.prog 31 = true := by kernel_rfl
theorem hcallOk32 : G.callOk Try.prog 32 = true := by kernel_rfl
theorem hcallOk54 : G.callOk Try.prog 54 = true := by kernel_rfl

section
open Go.ChangeShapes Go.WideShapes Go.Deep
variable {H : Type} {henc : TypeId × Value → H} {P : Program} {w : World} {sp : Nat → Bool} {held : Bool}
theorem opTr {t : TypeId} {f0 f1 f2 : Field} (ht : P.underlying t = some (.struct #[f0, f1, f2])) (u0 : P.underlying f0.type = some .string) (u1 : P.underlying f1.type = some .bool) (u2 : P.underlying f2.type = some (.slice t)) (o0 : f0.offset = 0) (o1 : f1.offset = 1) (o2 : f2.offset = 2)
    (c0 : P.cellsOf f0.type = 1) (c1 : P.cellsOf f1.type = 1) (c2 : P.cellsOf f2.type = 1) (c : P.cellsOf t = 3) (hb : P.bytesOf t = 48) :
    ∀ (fuel : Nat) cs x, DataW.trod henc P w 0 sp held fuel t cs = some x → Wts P t x.1 → ∃ a : Tr, a.sm ∧ AllU w okAll (eTr a) cs ∧ ∀ u ∈ eTr a, u.one = true := by
  intro fuel
  induction fuel using Nat.strongRecOn with
  | _ fuel ih =>
  intro cs x h hw
  obtain ⟨xs, n, rfl, hx, hl, hlen, hf⟩ := DataW.trod_struct ht h
  rw [c] at hl
  have e0 := hf 0 f0 rfl
  have e1 := hf 1 f1 rfl
  have e2 := hf 2 f2 rfl
  obtain ⟨y0, y1, y2, rfl⟩ : ∃ y0 y1 y2, xs = [y0, y1, y2] := by
    have hlen' : xs.length = 3 := hlen
    match xs, hlen' with
    | [a, b, d], _ => exact ⟨a, b, d, rfl⟩
  rw [o0, c0] at e0; rw [o1, c1] at e1; rw [o2, c2] at e2
  obtain ⟨s, _, s1, s2⟩ := Op.str u0 _ _ _ e0
  obtain ⟨b, _, b1, b2⟩ := Op.bool u1 _ _ _ e1
  have hwk : Wts P f2.type y2.1 := fun m hm => hw m (by
    rw [hx]
    show m ∈ DataW.weights P t (.agg [y0.1, y1.1, y2.1])
    rw [DataW.weights]
    simp only [ht]
    exact DataW.weights_mem_each (j := 2) rfl rfl m hm)
  have hk : ∃ kids : List Tr, kids.length ≤ 2932031007317 ∧ (∀ k ∈ kids, k.sm) ∧ AllU w okAll [.sl 3 (kids.map eTr)] ((cs.drop 2).take 1) := by
    rcases DataW.trod_slice u2 e2 with ⟨h1, _⟩ | ⟨a, len, cap, elems, rest, m, rfl, hcs, hx2, _, hlc, hcm, hel, hee, _, _⟩
    · rw [h1]
      exact ⟨[], by simp, fun k hk => (by cases hk), allU_one (.sl0 (by simp [maxLen]) (fun _ => rfl))⟩
    · have hws : ∀ q ∈ (elems.length + rest.length) * P.bytesOf t :: (DataW.weightsAll P t (elems.map (·.1)) ++ DataW.weightsAll P t (rest.map (·.1))), q ≤ reachBytes := fun q hq => hwk q (by
        rw [hx2]
        show q ∈ DataW.weights P f2.type (.slice (elems.map (·.1)) (rest.map (·.1)))
        rw [DataW.weights]
        simp only [u2, List.length_map]
        exact hq)
      have hcap := hws _ List.mem_cons_self
      rw [hb] at hcap
      have hrb : reachBytes = 140737488351232 := by decide
      obtain ⟨l, l1, l2, l3⟩ := rows_sl (w := w) (sz := 3) (enc := eTr) (good := Tr.sm) (ad := a) (by decide) (fun a => by rw [eTr_eq]; rfl) hlc hcm (fun i hi => by
        have q := hee i hi
        rw [List.getElem?_eq_getElem (by omega), c] at q
        obtain ⟨cs', q1, q2⟩ := Option.bind_eq_some_iff.1 q
        obtain ⟨k, k1, k2, k3⟩ := ih m (by omega) cs' _ q2 (fun z hz => hws z (List.mem_cons_of_mem _ (List.mem_append_left _ (all_mem (d := (elems[i]'(by omega)).1) (List.mem_map.2 ⟨_, List.getElem_mem _, rfl⟩) z hz))))
        exact ⟨k, cs', k1, k2, k3, (World.cells?_some q1).2.2⟩)
      rw [hcs]
      exact ⟨l, by omega, l2, allU_one l3⟩
  obtain ⟨kids, k1, k2, k3⟩ := hk
  refine ⟨.nd s.data.toList b kids, (Tr.sm_iff _).2 ⟨k1, k2⟩, ?_, fun u hu => ?_⟩
  · rw [eTr_eq]
    refine AllU.app2 (us1 := [uT s.data.toList]) (k := 1) s1 ?_
    refine AllU.app2 (us1 := [uB b]) (k := 1) b1 ?_
    rw [List.drop_drop]
    rw [List.take_of_length_le (by rw [List.length_drop]; omega)] at k3
    exact k3
  · rw [eTr_eq] at hu
    rcases List.mem_cons.1 hu with e | hu
    · rw [e]; rfl
    · rcases List.mem_cons.1 hu with e | hu
      · rw [e]; rfl
      · rw [List.mem_singleton.1 hu]; rfl
theorem openTr {t : TypeId} {f0 f1 f2 : Field} {r : Reach} {b0 : Nat} {v : Value} {d : DataW H} {ps : List MemPlace} (ht : P.underlying t = some (.struct #[f0, f1, f2])) (u0 : P.underlying f0.type = some .string) (u1 : P.underlying f1.type = some .bool) (u2 : P.underlying f2.type = some (.slice t)) (o0 : f0.offset = 0) (o1 : f1.offset = 1) (o2 : f2.offset = 2)
    (c0 : P.cellsOf f0.type = 1) (c1 : P.cellsOf f1.type = 1) (c2 : P.cellsOf f2.type = 1) (c : P.cellsOf t = 3) (hb : P.bytesOf t = 48) (hval : Value.okWide P w r b0 t v) (hd : DataW.Trod henc P w 0 sp held t v d ps) (hz : Wts P t d) :
    ∃ a : Tr, a.sm ∧ ∀ τ, RepI τ w okAll (vA [uT a.lab, uB a.wd, .sl 3 (a.kids.map eTr)]) v := by
  obtain ⟨cs, rfl, _⟩ := okWide_struct ht hval
  obtain ⟨fuel, hf⟩ := hd
  obtain ⟨a, h1, h2, _⟩ := opTr ht u0 u1 u2 o0 o1 o2 c0 c1 c2 c hb fuel _ _ hf hz
  refine ⟨a, h1, fun τ => .u ?_⟩
  rw [eTr_eq] at h2
  have := RepU.agg (w := w) (ok := okAll) (us := [uT a.lab, uB a.wd, .sl 3 (a.kids.map eTr)]) (vs := cs.toList) h2.1 h2.2
  simpa using this
end

set_option maxRecDepth 8000 in
/-- bookplate/bookplateref41.Size. -/
theorem refSize_step {t : Tr} (ih : ∀ x ∈ t.kids, Con Try.prog 31 [vA [uT x.lab, uB x.wd, .sl 3 (x.kids.map eTr)]] [] (vI x.szW) []) :
    Con Try.prog 31 [vA [uT t.lab, uB t.wd, .sl 3 (t.kids.map eTr)]] [] (vI t.szW) [] := by
 obtain ⟨i33, hi33, hz33, hs33, hb33⟩ := hinf33
 refine Con.enterL (n := 21) Try.func31 rfl rfl rfl (fun τ w ok vs hin => ?_)
 have hl0_2 := hin.lenA (i := 0) (j := 2) rfl rfl
 try rw [List.length_map] at hl0_2
 clear hin
 refine W.seq ?_
 refine W.region ?_
 refine SL.memS (O.box (is := [_, _, _]) 101 rfl rfl (by simp) rfl rfl Taken.no) rfl rfl (S' := (101, _) :: _) rfl ?_
 refine SL.val (O.assign rfl rfl Taken.no) ?_
 refine SL.nil ?_
 refine E.to ?_
 refine W.seq ?_
 refine W.region ?_
 refine SL.val (O.assign rfl rfl Taken.no) ?_
 refine SL.nil ?_
 refine E.to ?_
 refine W.seq ?_
 refine W.seq ?_
 refine W.region ?_
 refine SL.val (O.assign rfl rfl Taken.no) ?_
 refine SL.nil ?_
 refine E.to ?_
 refine W.block ?_
 refine W.loopx1 (fun (k : Nat) => [(4, vI (k : Int)), (3, vI (szWL (t.kids.take k) 1))]) (fun (k : Nat) => []) (fun (k : Nat) => k ≤ t.kids.length) (fun (k : Nat) => t.kids.length - k) (0) (rn []) (.cons (t := 1) rfl (.cons (t := 2) rfl .nil)) (.cons (t := 101) rfl .nil) rfl ?_ ?_ rfl rfl ?_ ?_
 · exact (SubF.cons rfl (SubF.cons rfl SubF.nil))
 · exact SubS.nil
 ·skip
  omega
 intro k hinv
 have hk := hinv
 refine W.seq ?_
 refine W.seq ?_
 refine W.region ?_
 refine SL.val (O.move rfl rfl Taken.no) ?_
 refine SL.val (O.fld_ref (o' := 2) rfl Try.underlying33 rfl (m := 0) (by kernel_rfl) rfl rfl Taken.no) ?_
 refine SL.val (O.ld1 (PtI.ref rfl rfl) rfl Try.underlying31 rfl rfl Taken.no) ?_
 refine SL.val (O.lenE (SlOf.fz rfl (by decide)) (by first | exact List.length_map _ | rfl) Try.underlying31 rfl Taken.no) ?_
 refine SL.val (O.det (fun _ => G.R.lss rfl rfl) rfl Taken.no) ?_
 refine SL.nil ?_
 refine E.to ?_
 first | refine W.cond_d rfl (fun hc1 => ?_) (fun hc1 => ?_) | refine W.cond_nd rfl (fun hc1 => ?_) (fun hc1 => ?_) | refine W.cond rfl (fun hc1 => ?_) (fun hc1 => ?_)
 ·skip
  refine W.skip ?_
  refine E.to ?_
  refine W.seq ?_
  refine W.block ?_
  refine W.region ?_
  refine SL.val (O.move rfl rfl Taken.no) ?_
  refine SL.val (O.fld_ref (o' := 2) rfl Try.underlying33 rfl (m := 0) (by kernel_rfl) rfl rfl Taken.no) ?_
  refine SL.val (O.ld1 (PtI.ref rfl rfl) rfl Try.underlying31 rfl rfl Taken.no) ?_
  refine SL.val (O.move rfl rfl Taken.no) ?_
  refine SL.val (O.idx_fz rfl rfl (rfl) (row_tr (by omega)) Try.underlying31 hi33 hs33 rfl Taken.no) ?_
  refine SL.val (O.ldU (m := 3) (PtU.fz rfl) rfl Try.underlying33 rfl (by kernel_rfl) rfl Taken.no) ?_
  refine SL.val (O.callp rfl rfl rfl (ih t.kids[k]! (at_mem (by omega))) (.cons (ArgOk.same rfl) .nil) hcallOk31 rfl Taken.no) ?_
  refine SL.val (O.det (fun _ => G.R.add rfl rfl) rfl Taken.no) ?_
  refine SL.val (O.assign rfl rfl Taken.no) ?_
  refine SL.nil ?_
  refine E.inn ?_
  refine E.to ?_
  refine W.region ?_
  refine SL.val (O.move rfl rfl Taken.no) ?_
  refine SL.val (O.det (fun _ => by first | exact G.R.add64 rfl rfl (by omega) | exact G.R.add rfl rfl) rfl Taken.no) ?_
  refine SL.val (O.assign rfl rfl Taken.no) ?_
  refine SL.nil ?_
  refine E.again ((k + 1)) (rn []) ?_ ?_ rfl (fixL_spec rfl) ?_ ?_
  · exact (SubF.cons rfl (SubF.val rfl (by (try dsimp only); exact iv_int (by rw [szWL_s (by omega)])) (SubF.cons rfl (SubF.cons rfl SubF.nil))))
  · exact (SubS.cons rfl SubS.nil)
  ·try dsimp only
   omega
  · (try dsimp only); omega
 ·skip
  refine W.exit ?_
  refine E.th ?_
  refine E.th ?_
  refine E.hit ?_
  refine E.to ?_
  refine W.seq ?_
  refine W.region ?_
  refine SL.val (O.move rfl rfl Taken.no) ?_
  refine SL.val (O.assign rfl rfl Taken.no) ?_
  refine SL.nil ?_
  refine E.to ?_
  refine W.ret ?_
  refine E.fin (rs := [_]) (rn []) (.inl rfl) rfl (.cons (ResOne.tmp rfl) .nil) ?_ ?_ rfl (fixL_spec rfl)
  ·skip
   obtain rfl : k = t.kids.length := by omega
   rw [List.take_length, ← Tr.szW_eq]; rfl
  · exact SubS.nil

theorem refSize_h (t : Tr) : Con Try.prog 31 [vA [uT t.lab, uB t.wd, .sl 3 (t.kids.map eTr)]] [] (vI t.szW) [] := Tr.ind (p := fun t => Con Try.prog 31 [vA [uT t.lab, uB t.wd, .sl 3 (t.kids.map eTr)]] [] (vI t.szW) []) (fun _ ih => refSize_step ih) t

set_option maxRecDepth 8000 in
/-- bookplate/bookplateref41.inner. -/
theorem inner_step {t : Tr} {n : Int} (ih : ∀ x ∈ t.kids, ∀ m : Int, Con Try.prog 54 [vA [uT x.lab, uB x.wd, .sl 3 (x.kids.map eTr)], vI m] [] (vB (decide (x.okT m))) []) :
    Con Try.prog 54 [vA [uT t.lab, uB t.wd, .sl 3 (t.kids.map eTr)], vI n] [] (vB (decide (t.okT n))) [] := by
 have hF : ∀ j : Nat, ¬ t.kids[j]!.lab = [] → fstI t.kids[j]! = ((t.kids[j]!.lab[0]!).toNat : Int) := fun j h => fst_1 h
 obtain ⟨i33, hi33, hz33, hs33, hb33⟩ := hinf33
 refine Con.enterL (n := 69) Try.func54 rfl rfl rfl (fun τ w ok vs hin => ?_)
 have hl0_2 := hin.lenA (i := 0) (j := 2) rfl rfl
 try rw [List.length_map] at hl0_2
 clear hin
 refine W.seq ?_
 refine W.region ?_
 refine SL.memS (O.box (is := [_, _, _]) 101 rfl rfl (by simp) rfl rfl Taken.no) rfl rfl (S' := (101, _) :: _) rfl ?_
 refine SL.val (O.assign rfl rfl Taken.no) ?_
 refine SL.nil ?_
 refine E.to ?_
 refine W.seq ?_
 refine W.seq ?_
 refine W.region ?_
 refine SL.val (O.assign rfl rfl Taken.no) ?_
 refine SL.nil ?_
 refine E.to ?_
 refine W.block ?_
 refine W.loopx1 (fun (k : Nat) => [(5, vI (k : Int))]) (fun (k : Nat) => []) (fun (k : Nat) => k ≤ t.kids.length ∧ ∀ j, j < k → okAt t.kids n j) (fun (k : Nat) => t.kids.length - k) (0) (rn []) (.cons (t := 1) rfl (.cons (t := 2) rfl .nil)) (.cons (t := 101) rfl .nil) rfl ?_ ?_ rfl rfl ?_ ?_
 · exact (SubF.cons rfl SubF.nil)
 · exact SubS.nil
 ·skip
  exact ⟨by omega, fun j h => by omega⟩
 intro k hinv
 obtain ⟨hk, hp⟩ := hinv
 refine W.seq ?_
 refine W.seq ?_
 refine W.region ?_
 refine SL.val (O.move rfl rfl Taken.no) ?_
 refine SL.val (O.fld_ref (o' := 2) rfl Try.underlying33 rfl (m := 0) (by kernel_rfl) rfl rfl Taken.no) ?_
 refine SL.val (O.ld1 (PtI.ref rfl rfl) rfl Try.underlying31 rfl rfl Taken.no) ?_
 refine SL.val (O.lenE (SlOf.fz rfl (by decide)) (by first | exact List.length_map _ | rfl) Try.underlying31 rfl Taken.no) ?_
 refine SL.val (O.det (fun _ => G.R.lss rfl rfl) rfl Taken.no) ?_
 refine SL.nil ?_
 refine E.to ?_
 first | refine W.cond_d rfl (fun hc1 => ?_) (fun hc1 => ?_) | refine W.cond_nd rfl (fun hc1 => ?_) (fun hc1 => ?_) | refine W.cond rfl (fun hc1 => ?_) (fun hc1 => ?_)
 ·skip
  refine W.skip ?_
  refine E.to ?_
  refine W.seq ?_
  refine W.block ?_
  refine W.seq ?_
  refine W.region ?_
  refine SL.val (O.fld_ref (o' := 2) rfl Try.underlying33 rfl (m := 0) (by kernel_rfl) rfl rfl Taken.no) ?_
  refine SL.val (O.ld1 (PtI.ref rfl rfl) rfl Try.underlying31 rfl rfl Taken.no) ?_
  refine SL.val (O.move rfl rfl Taken.no) ?_
  refine SL.val (O.idx_fz rfl rfl (rfl) (row_tr (by omega)) Try.underlying31 hi33 hs33 rfl Taken.no) ?_
  refine SL.val (O.ldU (m := 3) (PtU.fz rfl) rfl Try.underlying33 rfl (by kernel_rfl) rfl Taken.no) ?_
  refine SL.memS (O.alloc (z := .agg #[.string (Go.G.bs []), .bool false, .slice none 0 0]) (is := [.u (.sc (.string (Go.G.bs []))), .u (.sc (.bool false)), .u (.sc (.slice none 0 0))]) 102 (by kernel_rfl) rfl rfl rfl Taken.no) rfl rfl (S' := (102, _) :: _) rfl ?_
  refine SL.effS (O.st_ref (m := 3) rfl rfl rfl (js := [_, _, _]) rfl rfl (by kernel_rfl) (by simp) (Nat.le_of_ble_eq_true rfl) rfl (is' := [_, _, _]) rfl Taken.no) (S' := (102, _) :: _) rfl ?_
  refine SL.nil ?_
  refine E.to ?_
  refine W.seq ?_
  refine W.draw [⟨[102], [], []⟩, ⟨[102], [], []⟩, ⟨[], [], []⟩, ⟨[], [], []⟩, ⟨[], [], []⟩, ⟨[102], [], []⟩, ⟨[102], [], []⟩, ⟨[], [], []⟩, ⟨[], [], []⟩, ⟨[], [], []⟩, ⟨[], [], []⟩, ⟨[], [], []⟩, ⟨[], [], []⟩, ⟨[], [], []⟩, ⟨[], [], []⟩, ⟨[101], [], []⟩, ⟨[101], [], []⟩, ⟨[], [], []⟩, ⟨[], [], []⟩, ⟨[], [], []⟩, ⟨[], [], []⟩, ⟨[], [], []⟩, ⟨[], [], []⟩, ⟨[102], [], []⟩, ⟨[102], [], []⟩, ⟨[], [], []⟩, ⟨[], [], []⟩, ⟨[], [], []⟩, ⟨[], [], []⟩, ⟨[], [], []⟩, ⟨[102], [], []⟩, ⟨[102], [], []⟩, ⟨[], [], []⟩, ⟨[], [], []⟩, ⟨[102], [], []⟩, ⟨[102], [], []⟩, ⟨[], [], []⟩, ⟨[], [], []⟩, ⟨[], [], []⟩, ⟨[], [], []⟩, ⟨[], [], []⟩, ⟨[102], [], []⟩, ⟨[], [], []⟩, ⟨[102], [], []⟩, ⟨[102], [], []⟩, ⟨[], [], []⟩, ⟨[], [], []⟩, ⟨[], [], []⟩, ⟨[], [], []⟩, ⟨[], [], []⟩] rfl (by kernel_rfl) (by kernel_rfl) rfl rfl ?_
  refine WH.val (O.fld_ref (o' := 0) rfl Try.underlying33 rfl (m := 0) (by kernel_rfl) rfl rfl Taken.no) rfl rfl ?_
  refine WH.val (O.ld1 (PtI.ref rfl rfl) rfl Try.underlying9 rfl rfl Taken.no) rfl rfl ?_
  refine WH.val (O.det (fun _ => G.R.streqL (b := []) rfl rfl) rfl Taken.no) rfl rfl ?_
  refine WH.val (O.move rfl rfl Taken.no) rfl rfl ?_
  refine WH.case (j := 3) (g := 22) (want := false) rfl rfl (fun hg2 => ?_) (fun hg2 => ?_)
  ·skip
   first | have hg2p := G.gA3 hg2 | have hg2p := G.gA4 hg2 | have hg2p := hg2
   refine WH.val (O.move rfl rfl (Taken.yes rfl rfl hg2)) rfl rfl ?_
   refine WH.val (O.fld_ref (o' := 0) rfl Try.underlying33 rfl (m := 0) (by kernel_rfl) rfl rfl (Taken.yes rfl rfl hg2)) rfl rfl ?_
   refine WH.val (O.ld1 (PtI.ref rfl rfl) rfl Try.underlying9 rfl rfl (Taken.yes rfl rfl hg2)) rfl rfl ?_
   refine WH.val (O.det (fun _ => G.R.lenL rfl Try.underlying9) rfl (Taken.yes rfl rfl hg2)) rfl rfl ?_
   refine WH.val (O.det (fun _ => by first | exact G.R.add64 rfl rfl (by omega) | exact G.R.add rfl rfl) rfl (Taken.yes rfl rfl hg2)) rfl rfl ?_
   refine WH.val (O.det (fun _ => G.R.gtr rfl rfl) rfl (Taken.yes rfl rfl hg2)) rfl rfl ?_
   refine WH.val (O.pick_f rfl hg2 rfl rfl Taken.no) rfl rfl ?_
   refine WH.val (O.move rfl rfl Taken.no) rfl rfl ?_
   refine WH.case (j := 11) (g := 30) (want := false) rfl rfl (fun hg3 => ?_) (fun hg3 => ?_)
   ·skip
    first | have hg3p := G.gA3 hg3 | have hg3p := G.gA4 hg3 | have hg3p := hg3
    refine WH.val (O.move rfl rfl (Taken.yes rfl rfl hg3)) rfl rfl ?_
    refine WH.val (O.det (fun _ => G.R.gtr rfl rfl) rfl (Taken.yes rfl rfl hg3)) rfl rfl ?_
    refine WH.val (O.move rfl rfl (Taken.yes rfl rfl hg3)) rfl rfl ?_
    refine WH.case (j := 14) (g := 33) (want := true) rfl rfl (fun hg4 => ?_) (fun hg4 => ?_)
    ·skip
     first | have hg4p := G.gA1 hg4 | have hg4p := G.gA2 hg4 | have hg4p := hg4
     refine WH.val (O.fld_ref (o' := 2) rfl Try.underlying33 rfl (m := 0) (by kernel_rfl) rfl rfl (Taken.yes rfl rfl hg4)) rfl rfl ?_
     refine WH.val (O.ld1 (PtI.ref rfl rfl) rfl Try.underlying31 rfl rfl (Taken.yes rfl rfl hg4)) rfl rfl ?_
     refine WH.val (O.move rfl rfl (Taken.yes rfl rfl hg4)) rfl rfl ?_
     refine WH.val (O.det (fun _ => by first | exact G.R.sub64 rfl rfl (by omega) | exact G.R.sub rfl rfl) rfl (Taken.yes rfl rfl hg4)) rfl rfl ?_
     refine WH.val (O.idx_fz (i := (k - 1)) rfl rfl (by omega) (row_tr (by omega)) Try.underlying31 hi33 hs33 rfl (Taken.yes rfl rfl hg4)) rfl rfl ?_
     refine WH.val (O.fld_fz rfl Try.underlying33 rfl (m := 0) (by kernel_rfl) rfl rfl (Taken.yes rfl rfl hg4)) rfl rfl ?_
     refine WH.val (O.ld1 (PtI.ofU (PtU.fz rfl)) rfl Try.underlying9 rfl rfl (Taken.yes rfl rfl hg4)) rfl rfl ?_
     refine WH.val (O.det (fun _ => G.R.stridxL (i := 0) rfl rfl Try.underlying9 (by exact ne_pos (hp (k - 1) (by omega)).1)) rfl (Taken.yes rfl rfl hg4)) rfl rfl ?_
     refine WH.val (O.fld_ref (o' := 0) rfl Try.underlying33 rfl (m := 0) (by kernel_rfl) rfl rfl (Taken.yes rfl rfl hg4)) rfl rfl ?_
     refine WH.val (O.ld1 (PtI.ref rfl rfl) rfl Try.underlying9 rfl rfl (Taken.yes rfl rfl hg4)) rfl rfl ?_
     refine WH.val (O.det (fun _ => G.R.stridxL (i := 0) rfl rfl Try.underlying9 (by exact ne_pos (by assumption))) rfl (Taken.yes rfl rfl hg4)) rfl rfl ?_
     refine WH.val (O.det (fun _ => G.R.geq rfl rfl) rfl (Taken.yes rfl rfl hg4)) rfl rfl ?_
     refine WH.val (O.pick_t rfl hg4 rfl rfl (Taken.yes rfl rfl hg3)) rfl rfl ?_
     refine WH.val (O.pick_f rfl hg3 rfl rfl Taken.no) rfl rfl ?_
     refine WH.val (O.move rfl rfl Taken.no) rfl rfl ?_
     refine WH.case (j := 29) (g := 48) (want := false) rfl rfl (fun hg5 => ?_) (fun hg5 => ?_)
     ·skip
      first | have hg5p := G.gA3 hg5 | have hg5p := G.gA4 hg5 | have hg5p := hg5
      refine WH.val (O.fld_ref (o' := 1) rfl Try.underlying33 rfl (m := 0) (by kernel_rfl) rfl rfl (Taken.yes rfl rfl hg5)) rfl rfl ?_
      refine WH.val (O.ld1 (PtI.ref rfl rfl) rfl Try.underlying4 rfl rfl (Taken.yes rfl rfl hg5)) rfl rfl ?_
      refine WH.val (O.det (fun _ => G.R.not rfl) rfl (Taken.yes rfl rfl hg5)) rfl rfl ?_
      refine WH.val (O.move rfl rfl (Taken.yes rfl rfl hg5)) rfl rfl ?_
      refine WH.case (j := 33) (g := 52) (want := true) rfl rfl (fun hg6 => ?_) (fun hg6 => ?_)
      ·skip
       first | have hg6p := G.gA1 hg6 | have hg6p := G.gA2 hg6 | have hg6p := hg6
       refine WH.val (O.fld_ref (o' := 2) rfl Try.underlying33 rfl (m := 0) (by kernel_rfl) rfl rfl (Taken.yes rfl rfl hg6)) rfl rfl ?_
       refine WH.val (O.ld1 (PtI.ref rfl rfl) rfl Try.underlying31 rfl rfl (Taken.yes rfl rfl hg6)) rfl rfl ?_
       refine WH.val (O.lenE (SlOf.fz rfl (by decide)) (by first | exact List.length_map _ | rfl) Try.underlying31 rfl (Taken.yes rfl rfl hg6)) rfl rfl ?_
       refine WH.val (O.det (fun _ => G.R.lss rfl rfl) rfl (Taken.yes rfl rfl hg6)) rfl rfl ?_
       refine WH.val (O.pick_t rfl hg6 rfl rfl (Taken.yes rfl rfl hg5)) rfl rfl ?_
       refine WH.val (O.pick_f rfl hg5 rfl rfl Taken.no) rfl rfl ?_
       refine WH.val (O.move rfl rfl Taken.no) rfl rfl ?_
       refine WH.case (j := 40) (g := 59) (want := false) rfl rfl (fun hg7 => ?_) (fun hg7 => ?_)
       ·skip
        first | have hg7p := G.gA3 hg7 | have hg7p := G.gA4 hg7 | have hg7p := hg7
        refine WH.val (O.ldN (m := 3) (PtI.ref rfl rfl) (js := [_, _, _]) rfl (Nat.le_of_ble_eq_true rfl) Try.underlying33 rfl (by kernel_rfl) rfl (Taken.yes rfl rfl hg7)) rfl rfl ?_
        refine WH.val (O.move rfl rfl (Taken.yes rfl rfl hg7)) rfl rfl ?_
        refine WH.val (O.fld_ref (o' := 0) rfl Try.underlying33 rfl (m := 0) (by kernel_rfl) rfl rfl (Taken.yes rfl rfl hg7)) rfl rfl ?_
        refine WH.val (O.ld1 (PtI.ref rfl rfl) rfl Try.underlying9 rfl rfl (Taken.yes rfl rfl hg7)) rfl rfl ?_
        refine WH.val (O.det (fun _ => G.R.lenL rfl Try.underlying9) rfl (Taken.yes rfl rfl hg7)) rfl rfl ?_
        refine WH.val (O.det (fun _ => by first | exact G.R.add64 rfl rfl (by omega) | exact G.R.add rfl rfl) rfl (Taken.yes rfl rfl hg7)) rfl rfl ?_
        refine WH.val (O.callp rfl rfl rfl (ih t.kids[k]! (at_mem (by omega)) (plus n t.kids[k]!.lab)) (.cons (ArgOk.aggU (.cons (ArgOk.same rfl) (.cons (ArgOk.same rfl) (.cons (ArgOk.same rfl) .nil)))) (.cons (ArgOk.same rfl) .nil)) hcallOk54 rfl (Taken.yes rfl rfl hg7)) rfl rfl ?_
        refine WH.val (O.det (fun _ => G.R.not rfl) rfl (Taken.yes rfl rfl hg7)) rfl rfl ?_
        refine WH.val (O.pick_f rfl hg7 rfl rfl Taken.no) rfl rfl ?_
        refine WH.nil ?_
        refine E.to ?_
        refine W.pick (.cons (t := 1) rfl (.cons (t := 2) rfl (.cons (t := 5) rfl (.cons (t := 68) rfl .nil)))) (.cons (t := 101) rfl (.cons (t := 102) rfl .nil)) ?_
        first | refine W.cond_d rfl (fun hc8 => ?_) (fun hc8 => ?_) | refine W.cond_nd rfl (fun hc8 => ?_) (fun hc8 => ?_) | refine W.cond rfl (fun hc8 => ?_) (fun hc8 => ?_)
        ·skip
         refine W.seq ?_
         refine W.region ?_
         refine SL.val (O.assign rfl rfl Taken.no) ?_
         refine SL.nil ?_
         refine E.to ?_
         refine W.ret ?_
         refine E.inr ?_
         refine E.thr ?_
         refine E.thr ?_
         refine E.inr ?_
         refine E.thr ?_
         refine E.fin (rs := [_]) (rn []) (.inl rfl) rfl (.cons (ResOne.tmp rfl) .nil) ?_ ?_ rfl (fixL_spec rfl)
         ·skip
          exact iv_bool (dec_f fun q => by have h := (Tr.okT_iff t n).1 q k (by omega); unfold okAt at h; obtain ⟨h1, h2, h3, h4, h5⟩ := h; unfold plus at h2; first | exact h1 (by assumption) | omega | (have := h4 (nb_t (by assumption)); omega) | (have := h3 (by omega); have e1 := hF k h1; have e2 := hF (k - 1) (hp (k - 1) (by omega)).1; omega) | exact absurd h5 (by simp_all))
         · exact SubS.nil
        ·skip
         refine W.skip ?_
         refine E.inn ?_
         refine E.to ?_
         refine W.region ?_
         refine SL.val (O.move rfl rfl Taken.no) ?_
         refine SL.val (O.det (fun _ => by first | exact G.R.add64 rfl rfl (by omega) | exact G.R.add rfl rfl) rfl Taken.no) ?_
         refine SL.val (O.assign rfl rfl Taken.no) ?_
         refine SL.nil ?_
         refine E.again ((k + 1)) (rn []) ?_ ?_ rfl (fixL_spec rfl) ?_ ?_
         · exact (SubF.cons rfl (SubF.cons rfl (SubF.cons rfl SubF.nil)))
         · exact (SubS.cons rfl SubS.nil)
         ·try dsimp only
          have hok : okAt t.kids n k := ⟨by first | assumption | simp_all, by unfold plus; omega, fun h0 => by first | omega | (have e1 := hF k (by assumption); have e2 := hF (k - 1) (hp (k - 1) (by omega)).1; omega), fun hw => by first | omega | exact absurd ((nb_f (by assumption)).symm.trans hw) (by decide) | exact absurd ((nb_m (by assumption)).symm.trans hw) (by decide), by first | assumption | simp_all⟩
          exact ⟨by omega, okAt_step hp hok⟩
         · (try dsimp only); omega
       ·skip
        first | have hg7p := G.gA7 hg7 | have hg7p := G.gA8 hg7 | have hg7p := hg7
        refine WH.skip (OpOk.not rfl rfl rfl hg7) ?_
        refine WH.skip (OpOk.not rfl rfl rfl hg7) ?_
        refine WH.skip (OpOk.not rfl rfl rfl hg7) ?_
        refine WH.skip (OpOk.not rfl rfl rfl hg7) ?_
        refine WH.skip (OpOk.not rfl rfl rfl hg7) ?_
        refine WH.skip (OpOk.not rfl rfl rfl hg7) ?_
        refine WH.skip (OpOk.not rfl rfl rfl hg7) ?_
        refine WH.skip (OpOk.not rfl rfl rfl hg7) ?_
        refine WH.val (O.pick_t rfl (G.ne_f hg7) rfl rfl Taken.no) rfl rfl ?_
        refine WH.nil ?_
        refine E.to ?_
        refine W.pick (.cons (t := 1) rfl (.cons (t := 2) rfl (.cons (t := 5) rfl (.cons (t := 68) rfl .nil)))) (.cons (t := 101) rfl (.cons (t := 102) rfl .nil)) ?_
        refine W.cond_t rfl ?_
        refine W.seq ?_
        refine W.region ?_
        refine SL.val (O.assign rfl rfl Taken.no) ?_
        refine SL.nil ?_
        refine E.to ?_
        refine W.ret ?_
        refine E.inr ?_
        refine E.thr ?_
        refine E.thr ?_
        refine E.inr ?_
        refine E.thr ?_
        refine E.fin (rs := [_]) (rn []) (.inl rfl) rfl (.cons (ResOne.tmp rfl) .nil) ?_ ?_ rfl (fixL_spec rfl)
        ·skip
         exact iv_bool (dec_f fun q => by have h := (Tr.okT_iff t n).1 q k (by omega); unfold okAt at h; obtain ⟨h1, h2, h3, h4, h5⟩ := h; unfold plus at h2; first | exact h1 (by assumption) | omega | (have := h4 (nb_t (by assumption)); omega) | (have := h3 (by omega); have e1 := hF k h1; have e2 := hF (k - 1) (hp (k - 1) (by omega)).1; omega) | exact absurd h5 (by simp_all))
        · exact SubS.nil
      ·skip
       first | have hg6p := G.gA5 hg6 | have hg6p := G.gA6 hg6 | have hg6p := hg6
       refine WH.skip (OpOk.not rfl rfl rfl hg6) ?_
       refine WH.skip (OpOk.not rfl rfl rfl hg6) ?_
       refine WH.skip (OpOk.not rfl rfl rfl hg6) ?_
       refine WH.skip (OpOk.not rfl rfl rfl hg6) ?_
       refine WH.val (O.pick_f rfl (G.ne_t hg6) rfl rfl (Taken.yes rfl rfl hg5)) rfl rfl ?_
       refine WH.val (O.pick_f rfl hg5 rfl rfl Taken.no) rfl rfl ?_
       refine WH.val (O.move rfl rfl Taken.no) rfl rfl ?_
       have hg9 : false = false := by decide
       refine WH.val (O.ldN (m := 3) (PtI.ref rfl rfl) (js := [_, _, _]) rfl (Nat.le_of_ble_eq_true rfl) Try.underlying33 rfl (by kernel_rfl) rfl (Taken.yes rfl rfl hg9)) rfl rfl ?_
       refine WH.val (O.move rfl rfl (Taken.yes rfl rfl hg9)) rfl rfl ?_
       refine WH.val (O.fld_ref (o' := 0) rfl Try.underlying33 rfl (m := 0) (by kernel_rfl) rfl rfl (Taken.yes rfl rfl hg9)) rfl rfl ?_
       refine WH.val (O.ld1 (PtI.ref rfl rfl) rfl Try.underlying9 rfl rfl (Taken.yes rfl rfl hg9)) rfl rfl ?_
       refine WH.val (O.det (fun _ => G.R.lenL rfl Try.underlying9) rfl (Taken.yes rfl rfl hg9)) rfl rfl ?_
       refine WH.val (O.det (fun _ => by first | exact G.R.add64 rfl rfl (by omega) | exact G.R.add rfl rfl) rfl (Taken.yes rfl rfl hg9)) rfl rfl ?_
       refine WH.val (O.callp rfl rfl rfl (ih t.kids[k]! (at_mem (by omega)) (plus n t.kids[k]!.lab)) (.cons (ArgOk.aggU (.cons (ArgOk.same rfl) (.cons (ArgOk.same rfl) (.cons (ArgOk.same rfl) .nil)))) (.cons (ArgOk.same rfl) .nil)) hcallOk54 rfl (Taken.yes rfl rfl hg9)) rfl rfl ?_
       refine WH.val (O.det (fun _ => G.R.not rfl) rfl (Taken.yes rfl rfl hg9)) rfl rfl ?_
       refine WH.val (O.pick_f rfl rfl rfl rfl Taken.no) rfl rfl ?_
       refine WH.nil ?_
       refine E.to ?_
       refine W.pick (.cons (t := 1) rfl (.cons (t := 2) rfl (.cons (t := 5) rfl (.cons (t := 68) rfl .nil)))) (.cons (t := 101) rfl (.cons (t := 102) rfl .nil)) ?_
       first | refine W.cond_d rfl (fun hc10 => ?_) (fun hc10 => ?_) | refine W.cond_nd rfl (fun hc10 => ?_) (fun hc10 => ?_) | refine W.cond rfl (fun hc10 => ?_) (fun hc10 => ?_)
       ·skip
        refine W.seq ?_
        refine W.region ?_
        refine SL.val (O.assign rfl rfl Taken.no) ?_
        refine SL.nil ?_
        refine E.to ?_
        refine W.ret ?_
        refine E.inr ?_
        refine E.thr ?_
        refine E.thr ?_
        refine E.inr ?_
        refine E.thr ?_
        refine E.fin (rs := [_]) (rn []) (.inl rfl) rfl (.cons (ResOne.tmp rfl) .nil) ?_ ?_ rfl (fixL_spec rfl)
        ·skip
         exact iv_bool (dec_f fun q => by have h := (Tr.okT_iff t n).1 q k (by omega); unfold okAt at h; obtain ⟨h1, h2, h3, h4, h5⟩ := h; unfold plus at h2; first | exact h1 (by assumption) | omega | (have := h4 (nb_t (by assumption)); omega) | (have := h3 (by omega); have e1 := hF k h1; have e2 := hF (k - 1) (hp (k - 1) (by omega)).1; omega) | exact absurd h5 (by simp_all))
        · exact SubS.nil
       ·skip
        refine W.skip ?_
        refine E.inn ?_
        refine E.to ?_
        refine W.region ?_
        refine SL.val (O.move rfl rfl Taken.no) ?_
        refine SL.val (O.det (fun _ => by first | exact G.R.add64 rfl rfl (by omega) | exact G.R.add rfl rfl) rfl Taken.no) ?_
        refine SL.val (O.assign rfl rfl Taken.no) ?_
        refine SL.nil ?_
        refine E.again ((k + 1)) (rn []) ?_ ?_ rfl (fixL_spec rfl) ?_ ?_
        · exact (SubF.cons rfl (SubF.cons rfl (SubF.cons rfl SubF.nil)))
        · exact (SubS.cons rfl SubS.nil)
        ·try dsimp only
         have hok : okAt t.kids n k := ⟨by first | assumption | simp_all, by unfold plus; omega, fun h0 => by first | omega | (have e1 := hF k (by assumption); have e2 := hF (k - 1) (hp (k - 1) (by omega)).1; omega), fun hw => by first | omega | exact absurd ((nb_f (by assumption)).symm.trans hw) (by decide) | exact absurd ((nb_m (by assumption)).symm.trans hw) (by decide), by first | assumption | simp_all⟩
         exact ⟨by omega, okAt_step hp hok⟩
        · (try dsimp only); omega
     ·skip
      first | have hg5p := G.gA7 hg5 | have hg5p := G.gA8 hg5 | have hg5p := hg5
      refine WH.skip (OpOk.not rfl rfl rfl hg5) ?_
      refine WH.skip (OpOk.not rfl rfl rfl hg5) ?_
      refine WH.skip (OpOk.not rfl rfl rfl hg5) ?_
      refine WH.skip (OpOk.not rfl rfl rfl hg5) ?_
      refine WH.skip (OpOk.not2 rfl rfl rfl) ?_
      refine WH.skip (OpOk.not2 rfl rfl rfl) ?_
      refine WH.skip (OpOk.not2 rfl rfl rfl) ?_
      refine WH.skip (OpOk.not2 rfl rfl rfl) ?_
      refine WH.skip (OpOk.not rfl rfl rfl hg5) ?_
      refine WH.val (O.pick_t rfl (G.ne_f hg5) rfl rfl Taken.no) rfl rfl ?_
      refine WH.val (O.move rfl rfl Taken.no) rfl rfl ?_
      have hg11 : true ≠ false := by decide
      refine WH.skip (OpOk.not rfl rfl rfl hg11) ?_
      refine WH.skip (OpOk.not rfl rfl rfl hg11) ?_
      refine WH.skip (OpOk.not rfl rfl rfl hg11) ?_
      refine WH.skip (OpOk.not rfl rfl rfl hg11) ?_
      refine WH.skip (OpOk.not rfl rfl rfl hg11) ?_
      refine WH.skip (OpOk.not rfl rfl rfl hg11) ?_
      refine WH.skip (OpOk.not rfl rfl rfl hg11) ?_
      refine WH.skip (OpOk.not rfl rfl rfl hg11) ?_
      refine WH.val (O.pick_t rfl rfl rfl rfl Taken.no) rfl rfl ?_
      refine WH.nil ?_
      refine E.to ?_
      refine W.pick (.cons (t := 1) rfl (.cons (t := 2) rfl (.cons (t := 5) rfl (.cons (t := 68) rfl .nil)))) (.cons (t := 101) rfl (.cons (t := 102) rfl .nil)) ?_
      refine W.cond_t rfl ?_
      refine W.seq ?_
      refine W.region ?_
      refine SL.val (O.assign rfl rfl Taken.no) ?_
      refine SL.nil ?_
      refine E.to ?_
      refine W.ret ?_
      refine E.inr ?_
      refine E.thr ?_
      refine E.thr ?_
      refine E.inr ?_
      refine E.thr ?_
      refine E.fin (rs := [_]) (rn []) (.inl rfl) rfl (.cons (ResOne.tmp rfl) .nil) ?_ ?_ rfl (fixL_spec rfl)
      ·skip
       exact iv_bool (dec_f fun q => by have h := (Tr.okT_iff t n).1 q k (by omega); unfold okAt at h; obtain ⟨h1, h2, h3, h4, h5⟩ := h; unfold plus at h2; first | exact h1 (by assumption) | omega | (have := h4 (nb_t (by assumption)); omega) | (have := h3 (by omega); have e1 := hF k h1; have e2 := hF (k - 1) (hp (k - 1) (by omega)).1; omega) | exact absurd h5 (by simp_all))
      · exact SubS.nil
    ·skip
     first | have hg4p := G.gA5 hg4 | have hg4p := G.gA6 hg4 | have hg4p := hg4
     refine WH.skip (OpOk.not rfl rfl rfl hg4) ?_
     refine WH.skip (OpOk.not rfl rfl rfl hg4) ?_
     refine WH.skip (OpOk.not rfl rfl rfl hg4) ?_
     refine WH.skip (OpOk.not rfl rfl rfl hg4) ?_
     refine WH.skip (OpOk.not rfl rfl rfl hg4) ?_
     refine WH.skip (OpOk.not rfl rfl rfl hg4) ?_
     refine WH.skip (OpOk.not rfl rfl rfl hg4) ?_
     refine WH.skip (OpOk.not rfl rfl rfl hg4) ?_
     refine WH.skip (OpOk.not rfl rfl rfl hg4) ?_
     refine WH.skip (OpOk.not rfl rfl rfl hg4) ?_
     refine WH.skip (OpOk.not rfl rfl rfl hg4) ?_
     refine WH.skip (OpOk.not rfl rfl rfl hg4) ?_
     refine WH.val (O.pick_f rfl (G.ne_t hg4) rfl rfl (Taken.yes rfl rfl hg3)) rfl rfl ?_
     refine WH.val (O.pick_f rfl hg3 rfl rfl Taken.no) rfl rfl ?_
     refine WH.val (O.move rfl rfl Taken.no) rfl rfl ?_
     have hg12 : false = false := by decide
     refine WH.val (O.fld_ref (o' := 1) rfl Try.underlying33 rfl (m := 0) (by kernel_rfl) rfl rfl (Taken.yes rfl rfl hg12)) rfl rfl ?_
     refine WH.val (O.ld1 (PtI.ref rfl rfl) rfl Try.underlying4 rfl rfl (Taken.yes rfl rfl hg12)) rfl rfl ?_
     refine WH.val (O.det (fun _ => G.R.not rfl) rfl (Taken.yes rfl rfl hg12)) rfl rfl ?_
     refine WH.val (O.move rfl rfl (Taken.yes rfl rfl hg12)) rfl rfl ?_
     refine WH.case (j := 33) (g := 52) (want := true) rfl rfl (fun hg13 => ?_) (fun hg13 => ?_)
     ·skip
      first | have hg13p := G.gA1 hg13 | have hg13p := G.gA2 hg13 | have hg13p := hg13
      refine WH.val (O.fld_ref (o' := 2) rfl Try.underlying33 rfl (m := 0) (by kernel_rfl) rfl rfl (Taken.yes rfl rfl hg13)) rfl rfl ?_
      refine WH.val (O.ld1 (PtI.ref rfl rfl) rfl Try.underlying31 rfl rfl (Taken.yes rfl rfl hg13)) rfl rfl ?_
      refine WH.val (O.lenE (SlOf.fz rfl (by decide)) (by first | exact List.length_map _ | rfl) Try.underlying31 rfl (Taken.yes rfl rfl hg13)) rfl rfl ?_
      refine WH.val (O.det (fun _ => G.R.lss rfl rfl) rfl (Taken.yes rfl rfl hg13)) rfl rfl ?_
      refine WH.val (O.pick_t rfl hg13 rfl rfl (Taken.yes rfl rfl hg12)) rfl rfl ?_
      refine WH.val (O.pick_f rfl rfl rfl rfl Taken.no) rfl rfl ?_
      refine WH.val (O.move rfl rfl Taken.no) rfl rfl ?_
      refine WH.case (j := 40) (g := 59) (want := false) rfl rfl (fun hg14 => ?_) (fun hg14 => ?_)
      ·skip
       first | have hg14p := G.gA3 hg14 | have hg14p := G.gA4 hg14 | have hg14p := hg14
       refine WH.val (O.ldN (m := 3) (PtI.ref rfl rfl) (js := [_, _, _]) rfl (Nat.le_of_ble_eq_true rfl) Try.underlying33 rfl (by kernel_rfl) rfl (Taken.yes rfl rfl hg14)) rfl rfl ?_
       refine WH.val (O.move rfl rfl (Taken.yes rfl rfl hg14)) rfl rfl ?_
       refine WH.val (O.fld_ref (o' := 0) rfl Try.underlying33 rfl (m := 0) (by kernel_rfl) rfl rfl (Taken.yes rfl rfl hg14)) rfl rfl ?_
       refine WH.val (O.ld1 (PtI.ref rfl rfl) rfl Try.underlying9 rfl rfl (Taken.yes rfl rfl hg14)) rfl rfl ?_
       refine WH.val (O.det (fun _ => G.R.lenL rfl Try.underlying9) rfl (Taken.yes rfl rfl hg14)) rfl rfl ?_
       refine WH.val (O.det (fun _ => by first | exact G.R.add64 rfl rfl (by omega) | exact G.R.add rfl rfl) rfl (Taken.yes rfl rfl hg14)) rfl rfl ?_
       refine WH.val (O.callp rfl rfl rfl (ih t.kids[k]! (at_mem (by omega)) (plus n t.kids[k]!.lab)) (.cons (ArgOk.aggU (.cons (ArgOk.same rfl) (.cons (ArgOk.same rfl) (.cons (ArgOk.same rfl) .nil)))) (.cons (ArgOk.same rfl) .nil)) hcallOk54 rfl (Taken.yes rfl rfl hg14)) rfl rfl ?_
       refine WH.val (O.det (fun _ => G.R.not rfl) rfl (Taken.yes rfl rfl hg14)) rfl rfl ?_
       refine WH.val (O.pick_f rfl hg14 rfl rfl Taken.no) rfl rfl ?_
       refine WH.nil ?_
       refine E.to ?_
       refine W.pick (.cons (t := 1) rfl (.cons (t := 2) rfl (.cons (t := 5) rfl (.cons (t := 68) rfl .nil)))) (.cons (t := 101) rfl (.cons (t := 102) rfl .nil)) ?_
       first | refine W.cond_d rfl (fun hc15 => ?_) (fun hc15 => ?_) | refine W.cond_nd rfl (fun hc15 => ?_) (fun hc15 => ?_) | refine W.cond rfl (fun hc15 => ?_) (fun hc15 => ?_)
       ·skip
        refine W.seq ?_
        refine W.region ?_
        refine SL.val (O.assign rfl rfl Taken.no) ?_
        refine SL.nil ?_
        refine E.to ?_
        refine W.ret ?_
        refine E.inr ?_
        refine E.thr ?_
        refine E.thr ?_
        refine E.inr ?_
        refine E.thr ?_
        refine E.fin (rs := [_]) (rn []) (.inl rfl) rfl (.cons (ResOne.tmp rfl) .nil) ?_ ?_ rfl (fixL_spec rfl)
        ·skip
         exact iv_bool (dec_f fun q => by have h := (Tr.okT_iff t n).1 q k (by omega); unfold okAt at h; obtain ⟨h1, h2, h3, h4, h5⟩ := h; unfold plus at h2; first | exact h1 (by assumption) | omega | (have := h4 (nb_t (by assumption)); omega) | (have := h3 (by omega); have e1 := hF k h1; have e2 := hF (k - 1) (hp (k - 1) (by omega)).1; omega) | exact absurd h5 (by simp_all))
        · exact SubS.nil
       ·skip
        refine W.skip ?_
        refine E.inn ?_
        refine E.to ?_
        refine W.region ?_
        refine SL.val (O.move rfl rfl Taken.no) ?_
        refine SL.val (O.det (fun _ => by first | exact G.R.add64 rfl rfl (by omega) | exact G.R.add rfl rfl) rfl Taken.no) ?_
        refine SL.val (O.assign rfl rfl Taken.no) ?_
        refine SL.nil ?_
        refine E.again ((k + 1)) (rn []) ?_ ?_ rfl (fixL_spec rfl) ?_ ?_
        · exact (SubF.cons rfl (SubF.cons rfl (SubF.cons rfl SubF.nil)))
        · exact (SubS.cons rfl SubS.nil)
        ·try dsimp only
         have hok : okAt t.kids n k := ⟨by first | assumption | simp_all, by unfold plus; omega, fun h0 => by first | omega | (have e1 := hF k (by assumption); have e2 := hF (k - 1) (hp (k - 1) (by omega)).1; omega), fun hw => by first | omega | exact absurd ((nb_f (by assumption)).symm.trans hw) (by decide) | exact absurd ((nb_m (by assumption)).symm.trans hw) (by decide), by first | assumption | simp_all⟩
         exact ⟨by omega, okAt_step hp hok⟩
        · (try dsimp only); omega
      ·skip
       first | have hg14p := G.gA7 hg14 | have hg14p := G.gA8 hg14 | have hg14p := hg14
       refine WH.skip (OpOk.not rfl rfl rfl hg14) ?_
       refine WH.skip (OpOk.not rfl rfl rfl hg14) ?_
       refine WH.skip (OpOk.not rfl rfl rfl hg14) ?_
       refine WH.skip (OpOk.not rfl rfl rfl hg14) ?_
       refine WH.skip (OpOk.not rfl rfl rfl hg14) ?_
       refine WH.skip (OpOk.not rfl rfl rfl hg14) ?_
       refine WH.skip (OpOk.not rfl rfl rfl hg14) ?_
       refine WH.skip (OpOk.not rfl rfl rfl hg14) ?_
       refine WH.val (O.pick_t rfl (G.ne_f hg14) rfl rfl Taken.no) rfl rfl ?_
       refine WH.nil ?_
       refine E.to ?_
       refine W.pick (.cons (t := 1) rfl (.cons (t := 2) rfl (.cons (t := 5) rfl (.cons (t := 68) rfl .nil)))) (.cons (t := 101) rfl (.cons (t := 102) rfl .nil)) ?_
       refine W.cond_t rfl ?_
       refine W.seq ?_
       refine W.region ?_
       refine SL.val (O.assign rfl rfl Taken.no) ?_
       refine SL.nil ?_
       refine E.to ?_
       refine W.ret ?_
       refine E.inr ?_
       refine E.thr ?_
       refine E.thr ?_
       refine E.inr ?_
       refine E.thr ?_
       refine E.fin (rs := [_]) (rn []) (.inl rfl) rfl (.cons (ResOne.tmp rfl) .nil) ?_ ?_ rfl (fixL_spec rfl)
       ·skip
        exact iv_bool (dec_f fun q => by have h := (Tr.okT_iff t n).1 q k (by omega); unfold okAt at h; obtain ⟨h1, h2, h3, h4, h5⟩ := h; unfold plus at h2; first | exact h1 (by assumption) | omega | (have := h4 (nb_t (by assumption)); omega) | (have := h3 (by omega); have e1 := hF k h1; have e2 := hF (k - 1) (hp (k - 1) (by omega)).1; omega) | exact absurd h5 (by simp_all))
       · exact SubS.nil
     ·skip
      first | have hg13p := G.gA5 hg13 | have hg13p := G.gA6 hg13 | have hg13p := hg13
      refine WH.skip (OpOk.not rfl rfl rfl hg13) ?_
      refine WH.skip (OpOk.not rfl rfl rfl hg13) ?_
      refine WH.skip (OpOk.not rfl rfl rfl hg13) ?_
      refine WH.skip (OpOk.not rfl rfl rfl hg13) ?_
      refine WH.val (O.pick_f rfl (G.ne_t hg13) rfl rfl (Taken.yes rfl rfl hg12)) rfl rfl ?_
      refine WH.val (O.pick_f rfl rfl rfl rfl Taken.no) rfl rfl ?_
      refine WH.val (O.move rfl rfl Taken.no) rfl rfl ?_
      have hg16 : false = false := by decide
      refine WH.val (O.ldN (m := 3) (PtI.ref rfl rfl) (js := [_, _, _]) rfl (Nat.le_of_ble_eq_true rfl) Try.underlying33 rfl (by kernel_rfl) rfl (Taken.yes rfl rfl hg16)) rfl rfl ?_
      refine WH.val (O.move rfl rfl (Taken.yes rfl rfl hg16)) rfl rfl ?_
      refine WH.val (O.fld_ref (o' := 0) rfl Try.underlying33 rfl (m := 0) (by kernel_rfl) rfl rfl (Taken.yes rfl rfl hg16)) rfl rfl ?_
      refine WH.val (O.ld1 (PtI.ref rfl rfl) rfl Try.underlying9 rfl rfl (Taken.yes rfl rfl hg16)) rfl rfl ?_
      refine WH.val (O.det (fun _ => G.R.lenL rfl Try.underlying9) rfl (Taken.yes rfl rfl hg16)) rfl rfl ?_
      refine WH.val (O.det (fun _ => by first | exact G.R.add64 rfl rfl (by omega) | exact G.R.add rfl rfl) rfl (Taken.yes rfl rfl hg16)) rfl rfl ?_
      refine WH.val (O.callp rfl rfl rfl (ih t.kids[k]! (at_mem (by omega)) (plus n t.kids[k]!.lab)) (.cons (ArgOk.aggU (.cons (ArgOk.same rfl) (.cons (ArgOk.same rfl) (.cons (ArgOk.same rfl) .nil)))) (.cons (ArgOk.same rfl) .nil)) hcallOk54 rfl (Taken.yes rfl rfl hg16)) rfl rfl ?_
      refine WH.val (O.det (fun _ => G.R.not rfl) rfl (Taken.yes rfl rfl hg16)) rfl rfl ?_
      refine WH.val (O.pick_f rfl rfl rfl rfl Taken.no) rfl rfl ?_
      refine WH.nil ?_
      refine E.to ?_
      refine W.pick (.cons (t := 1) rfl (.cons (t := 2) rfl (.cons (t := 5) rfl (.cons (t := 68) rfl .nil)))) (.cons (t := 101) rfl (.cons (t := 102) rfl .nil)) ?_
      first | refine W.cond_d rfl (fun hc17 => ?_) (fun hc17 => ?_) | refine W.cond_nd rfl (fun hc17 => ?_) (fun hc17 => ?_) | refine W.cond rfl (fun hc17 => ?_) (fun hc17 => ?_)
      ·skip
       refine W.seq ?_
       refine W.region ?_
       refine SL.val (O.assign rfl rfl Taken.no) ?_
       refine SL.nil ?_
       refine E.to ?_
       refine W.ret ?_
       refine E.inr ?_
       refine E.thr ?_
       refine E.thr ?_
       refine E.inr ?_
       refine E.thr ?_
       refine E.fin (rs := [_]) (rn []) (.inl rfl) rfl (.cons (ResOne.tmp rfl) .nil) ?_ ?_ rfl (fixL_spec rfl)
       ·skip
        exact iv_bool (dec_f fun q => by have h := (Tr.okT_iff t n).1 q k (by omega); unfold okAt at h; obtain ⟨h1, h2, h3, h4, h5⟩ := h; unfold plus at h2; first | exact h1 (by assumption) | omega | (have := h4 (nb_t (by assumption)); omega) | (have := h3 (by omega); have e1 := hF k h1; have e2 := hF (k - 1) (hp (k - 1) (by omega)).1; omega) | exact absurd h5 (by simp_all))
       · exact SubS.nil
      ·skip
       refine W.skip ?_
       refine E.inn ?_
       refine E.to ?_
       refine W.region ?_
       refine SL.val (O.move rfl rfl Taken.no) ?_
       refine SL.val (O.det (fun _ => by first | exact G.R.add64 rfl rfl (by omega) | exact G.R.add rfl rfl) rfl Taken.no) ?_
       refine SL.val (O.assign rfl rfl Taken.no) ?_
       refine SL.nil ?_
       refine E.again ((k + 1)) (rn []) ?_ ?_ rfl (fixL_spec rfl) ?_ ?_
       · exact (SubF.cons rfl (SubF.cons rfl (SubF.cons rfl SubF.nil)))
       · exact (SubS.cons rfl SubS.nil)
       ·try dsimp only
        have hok : okAt t.kids n k := ⟨by first | assumption | simp_all, by unfold plus; omega, fun h0 => by first | omega | (have e1 := hF k (by assumption); have e2 := hF (k - 1) (hp (k - 1) (by omega)).1; omega), fun hw => by first | omega | exact absurd ((nb_f (by assumption)).symm.trans hw) (by decide) | exact absurd ((nb_m (by assumption)).symm.trans hw) (by decide), by first | assumption | simp_all⟩
        exact ⟨by omega, okAt_step hp hok⟩
       · (try dsimp only); omega
   ·skip
    first | have hg3p := G.gA7 hg3 | have hg3p := G.gA8 hg3 | have hg3p := hg3
    refine WH.skip (OpOk.not rfl rfl rfl hg3) ?_
    refine WH.skip (OpOk.not rfl rfl rfl hg3) ?_
    refine WH.skip (OpOk.not rfl rfl rfl hg3) ?_
    refine WH.skip (OpOk.not2 rfl rfl rfl) ?_
    refine WH.skip (OpOk.not2 rfl rfl rfl) ?_
    refine WH.skip (OpOk.not2 rfl rfl rfl) ?_
    refine WH.skip (OpOk.not2 rfl rfl rfl) ?_
    refine WH.skip (OpOk.not2 rfl rfl rfl) ?_
    refine WH.skip (OpOk.not2 rfl rfl rfl) ?_
    refine WH.skip (OpOk.not2 rfl rfl rfl) ?_
    refine WH.skip (OpOk.not2 rfl rfl rfl) ?_
    refine WH.skip (OpOk.not2 rfl rfl rfl) ?_
    refine WH.skip (OpOk.not2 rfl rfl rfl) ?_
    refine WH.skip (OpOk.not2 rfl rfl rfl) ?_
    refine WH.skip (OpOk.not2 rfl rfl rfl) ?_
    refine WH.skip (OpOk.not rfl rfl rfl hg3) ?_
    refine WH.val (O.pick_t rfl (G.ne_f hg3) rfl rfl Taken.no) rfl rfl ?_
    refine WH.val (O.move rfl rfl Taken.no) rfl rfl ?_
    have hg18 : true ≠ false := by decide
    refine WH.skip (OpOk.not rfl rfl rfl hg18) ?_
    refine WH.skip (OpOk.not rfl rfl rfl hg18) ?_
    refine WH.skip (OpOk.not rfl rfl rfl hg18) ?_
    refine WH.skip (OpOk.not rfl rfl rfl hg18) ?_
    refine WH.skip (OpOk.not2 rfl rfl rfl) ?_
    refine WH.skip (OpOk.not2 rfl rfl rfl) ?_
    refine WH.skip (OpOk.not2 rfl rfl rfl) ?_
    refine WH.skip (OpOk.not2 rfl rfl rfl) ?_
    refine WH.skip (OpOk.not rfl rfl rfl hg18) ?_
    refine WH.val (O.pick_t rfl rfl rfl rfl Taken.no) rfl rfl ?_
    refine WH.val (O.move rfl rfl Taken.no) rfl rfl ?_
    have hg19 : true ≠ false := by decide
    refine WH.skip (OpOk.not rfl rfl rfl hg19) ?_
    refine WH.skip (OpOk.not rfl rfl rfl hg19) ?_
    refine WH.skip (OpOk.not rfl rfl rfl hg19) ?_
    refine WH.skip (OpOk.not rfl rfl rfl hg19) ?_
    refine WH.skip (OpOk.not rfl rfl rfl hg19) ?_
    refine WH.skip (OpOk.not rfl rfl rfl hg19) ?_
    refine WH.skip (OpOk.not rfl rfl rfl hg19) ?_
    refine WH.skip (OpOk.not rfl rfl rfl hg19) ?_
    refine WH.val (O.pick_t rfl rfl rfl rfl Taken.no) rfl rfl ?_
    refine WH.nil ?_
    refine E.to ?_
    refine W.pick (.cons (t := 1) rfl (.cons (t := 2) rfl (.cons (t := 5) rfl (.cons (t := 68) rfl .nil)))) (.cons (t := 101) rfl (.cons (t := 102) rfl .nil)) ?_
    refine W.cond_t rfl ?_
    refine W.seq ?_
    refine W.region ?_
    refine SL.val (O.assign rfl rfl Taken.no) ?_
    refine SL.nil ?_
    refine E.to ?_
    refine W.ret ?_
    refine E.inr ?_
    refine E.thr ?_
    refine E.thr ?_
    refine E.inr ?_
    refine E.thr ?_
    refine E.fin (rs := [_]) (rn []) (.inl rfl) rfl (.cons (ResOne.tmp rfl) .nil) ?_ ?_ rfl (fixL_spec rfl)
    ·skip
     exact iv_bool (dec_f fun q => by have h := (Tr.okT_iff t n).1 q k (by omega); unfold okAt at h; obtain ⟨h1, h2, h3, h4, h5⟩ := h; unfold plus at h2; first | exact h1 (by assumption) | omega | (have := h4 (nb_t (by assumption)); omega) | (have := h3 (by omega); have e1 := hF k h1; have e2 := hF (k - 1) (hp (k - 1) (by omega)).1; omega) | exact absurd h5 (by simp_all))
    · exact SubS.nil
  ·skip
   first | have hg2p := G.gA7 hg2 | have hg2p := G.gA8 hg2 | have hg2p := hg2
   refine WH.skip (OpOk.not rfl rfl rfl hg2) ?_
   refine WH.skip (OpOk.not rfl rfl rfl hg2) ?_
   refine WH.skip (OpOk.not rfl rfl rfl hg2) ?_
   refine WH.skip (OpOk.not rfl rfl rfl hg2) ?_
   refine WH.skip (OpOk.not rfl rfl rfl hg2) ?_
   refine WH.skip (OpOk.not rfl rfl rfl hg2) ?_
   refine WH.val (O.pick_t rfl (G.ne_f hg2) rfl rfl Taken.no) rfl rfl ?_
   refine WH.val (O.move rfl rfl Taken.no) rfl rfl ?_
   have hg20 : true ≠ false := by decide
   refine WH.skip (OpOk.not rfl rfl rfl hg20) ?_
   refine WH.skip (OpOk.not rfl rfl rfl hg20) ?_
   refine WH.skip (OpOk.not rfl rfl rfl hg20) ?_
   refine WH.skip (OpOk.not2 rfl rfl rfl) ?_
   refine WH.skip (OpOk.not2 rfl rfl rfl) ?_
   refine WH.skip (OpOk.not2 rfl rfl rfl) ?_
   refine WH.skip (OpOk.not2 rfl rfl rfl) ?_
   refine WH.skip (OpOk.not2 rfl rfl rfl) ?_
   refine WH.skip (OpOk.not2 rfl rfl rfl) ?_
   refine WH.skip (OpOk.not2 rfl rfl rfl) ?_
   refine WH.skip (OpOk.not2 rfl rfl rfl) ?_
   refine WH.skip (OpOk.not2 rfl rfl rfl) ?_
   refine WH.skip (OpOk.not2 rfl rfl rfl) ?_
   refine WH.skip (OpOk.not2 rfl rfl rfl) ?_
   refine WH.skip (OpOk.not2 rfl rfl rfl) ?_
   refine WH.skip (OpOk.not rfl rfl rfl hg20) ?_
   refine WH.val (O.pick_t rfl rfl rfl rfl Taken.no) rfl rfl ?_
   refine WH.val (O.move rfl rfl Taken.no) rfl rfl ?_
   have hg21 : true ≠ false := by decide
   refine WH.skip (OpOk.not rfl rfl rfl hg21) ?_
   refine WH.skip (OpOk.not rfl rfl rfl hg21) ?_
   refine WH.skip (OpOk.not rfl rfl rfl hg21) ?_
   refine WH.skip (OpOk.not rfl rfl rfl hg21) ?_
   refine WH.skip (OpOk.not2 rfl rfl rfl) ?_
   refine WH.skip (OpOk.not2 rfl rfl rfl) ?_
   refine WH.skip (OpOk.not2 rfl rfl rfl) ?_
   refine WH.skip (OpOk.not2 rfl rfl rfl) ?_
   refine WH.skip (OpOk.not rfl rfl rfl hg21) ?_
   refine WH.val (O.pick_t rfl rfl rfl rfl Taken.no) rfl rfl ?_
   refine WH.val (O.move rfl rfl Taken.no) rfl rfl ?_
   have hg22 : true ≠ false := by decide
   refine WH.skip (OpOk.not rfl rfl rfl hg22) ?_
   refine WH.skip (OpOk.not rfl rfl rfl hg22) ?_
   refine WH.skip (OpOk.not rfl rfl rfl hg22) ?_
   refine WH.skip (OpOk.not rfl rfl rfl hg22) ?_
   refine WH.skip (OpOk.not rfl rfl rfl hg22) ?_
   refine WH.skip (OpOk.not rfl rfl rfl hg22) ?_
   refine WH.skip (OpOk.not rfl rfl rfl hg22) ?_
   refine WH.skip (OpOk.not rfl rfl rfl hg22) ?_
   refine WH.val (O.pick_t rfl rfl rfl rfl Taken.no) rfl rfl ?_
   refine WH.nil ?_
   refine E.to ?_
   refine W.pick (.cons (t := 1) rfl (.cons (t := 2) rfl (.cons (t := 5) rfl (.cons (t := 68) rfl .nil)))) (.cons (t := 101) rfl (.cons (t := 102) rfl .nil)) ?_
   refine W.cond_t rfl ?_
   refine W.seq ?_
   refine W.region ?_
   refine SL.val (O.assign rfl rfl Taken.no) ?_
   refine SL.nil ?_
   refine E.to ?_
   refine W.ret ?_
   refine E.inr ?_
   refine E.thr ?_
   refine E.thr ?_
   refine E.inr ?_
   refine E.thr ?_
   refine E.fin (rs := [_]) (rn []) (.inl rfl) rfl (.cons (ResOne.tmp rfl) .nil) ?_ ?_ rfl (fixL_spec rfl)
   ·skip
    exact iv_bool (dec_f fun q => by have h := (Tr.okT_iff t n).1 q k (by omega); unfold okAt at h; obtain ⟨h1, h2, h3, h4, h5⟩ := h; unfold plus at h2; first | exact h1 (by assumption) | omega | (have := h4 (nb_t (by assumption)); omega) | (have := h3 (by omega); have e1 := hF k h1; have e2 := hF (k - 1) (hp (k - 1) (by omega)).1; omega) | exact absurd h5 (by simp_all))
   · exact SubS.nil
 ·skip
  refine W.exit ?_
  refine E.th ?_
  refine E.th ?_
  refine E.hit ?_
  refine E.to ?_
  refine W.seq ?_
  refine W.region ?_
  refine SL.val (O.assign rfl rfl Taken.no) ?_
  refine SL.nil ?_
  refine E.to ?_
  refine W.ret ?_
  refine E.fin (rs := [_]) (rn []) (.inl rfl) rfl (.cons (ResOne.tmp rfl) .nil) ?_ ?_ rfl (fixL_spec rfl)
  ·skip
   exact iv_bool (dec_t ((Tr.okT_iff t n).2 fun j hj => hp j (by omega)))
  · exact SubS.nil

theorem inner_h (t : Tr) : ∀ n : Int, Con Try.prog 54 [vA [uT t.lab, uB t.wd, .sl 3 (t.kids.map eTr)], vI n] [] (vB (decide (t.okT n))) [] := Tr.ind (p := fun t => ∀ n : Int, Con Try.prog 54 [vA [uT t.lab, uB t.wd, .sl 3 (t.kids.map eTr)], vI n] [] (vB (decide (t.okT n))) []) (fun _ ih _ => inner_step ih) t

set_option maxRecDepth 8000 in
/-- bookplate/bookplateref41.Valid. -/
theorem refValid_h {t : Tr} :
    Con Try.prog 32 [vA [uT t.lab, uB t.wd, .sl 3 (t.kids.map eTr)]] [] (vB (decide (validT t))) [] := by
 refine Con.enterL (n := 15) Try.func32 rfl rfl rfl (fun τ w ok vs hin => ?_)
 have hl0_2 := hin.lenA (i := 0) (j := 2) rfl rfl
 try rw [List.length_map] at hl0_2
 clear hin
 refine W.seq ?_
 refine W.region ?_
 refine SL.memS (O.box (is := [_, _, _]) 101 rfl rfl (by simp) rfl rfl Taken.no) rfl rfl (S' := (101, _) :: _) rfl ?_
 refine SL.val (O.assign rfl rfl Taken.no) ?_
 refine SL.nil ?_
 refine E.to ?_
 refine W.seq ?_
 refine W.region ?_
 refine SL.val (O.fld_ref (o' := 0) rfl Try.underlying33 rfl (m := 0) (by kernel_rfl) rfl rfl Taken.no) ?_
 refine SL.val (O.ld1 (PtI.ref rfl rfl) rfl Try.underlying9 rfl rfl Taken.no) ?_
 refine SL.val (O.det (fun _ => G.R.streqL (b := []) rfl rfl) rfl Taken.no) ?_
 refine SL.val (O.move rfl rfl Taken.no) ?_
 refine SL.case (j := 3) (g := 6) (want := true) rfl rfl (fun hg1 => ?_) (fun hg1 => ?_)
 ·skip
  first | have hg1p := G.gA1 hg1 | have hg1p := G.gA2 hg1 | have hg1p := hg1
  refine SL.val (O.fld_ref (o' := 1) rfl Try.underlying33 rfl (m := 0) (by kernel_rfl) rfl rfl (Taken.yes rfl rfl hg1)) ?_
  refine SL.val (O.ld1 (PtI.ref rfl rfl) rfl Try.underlying4 rfl rfl (Taken.yes rfl rfl hg1)) ?_
  refine SL.val (O.det (fun _ => G.R.not rfl) rfl (Taken.yes rfl rfl hg1)) ?_
  refine SL.val (O.pick_t rfl hg1 rfl rfl Taken.no) ?_
  refine SL.val (O.move rfl rfl Taken.no) ?_
  refine SL.case (j := 8) (g := 11) (want := true) rfl rfl (fun hg2 => ?_) (fun hg2 => ?_)
  ·skip
   first | have hg2p := G.gA1 hg2 | have hg2p := G.gA2 hg2 | have hg2p := hg2
   refine SL.val (O.ldN (m := 3) (PtI.ref rfl rfl) (js := [_, _, _]) rfl (Nat.le_of_ble_eq_true rfl) Try.underlying33 rfl (by kernel_rfl) rfl (Taken.yes rfl rfl hg2)) ?_
   refine SL.val (O.callp rfl rfl rfl (inner_h t 0) (.cons (ArgOk.aggU (.cons (ArgOk.same rfl) (.cons (ArgOk.same rfl) (.cons (ArgOk.same rfl) .nil)))) (.cons (ArgOk.same rfl) .nil)) hcallOk54 rfl (Taken.yes rfl rfl hg2)) ?_
   refine SL.val (O.pick_t rfl hg2 rfl rfl Taken.no) ?_
   refine SL.val (O.assign rfl rfl Taken.no) ?_
   refine SL.nil ?_
   refine E.to ?_
   refine W.ret ?_
   refine E.fin (rs := [_]) (rn []) (.inl rfl) rfl (.cons (ResOne.tmp rfl) .nil) ?_ ?_ rfl (fixL_spec rfl)
   ·skip
    exact iv_bool (by unfold validT; simp_all)
   · exact SubS.nil
  ·skip
   first | have hg2p := G.gA5 hg2 | have hg2p := G.gA6 hg2 | have hg2p := hg2
   refine SL.skip (OpOk.not rfl rfl rfl hg2) ?_
   refine SL.skip (OpOk.not rfl rfl rfl hg2) ?_
   refine SL.val (O.pick_f rfl (G.ne_t hg2) rfl rfl Taken.no) ?_
   refine SL.val (O.assign rfl rfl Taken.no) ?_
   refine SL.nil ?_
   refine E.to ?_
   refine W.ret ?_
   refine E.fin (rs := [_]) (rn []) (.inl rfl) rfl (.cons (ResOne.tmp rfl) .nil) ?_ ?_ rfl (fixL_spec rfl)
   ·skip
    exact iv_bool (by unfold validT; simp_all)
   · exact SubS.nil
 ·skip
  first | have hg1p := G.gA5 hg1 | have hg1p := G.gA6 hg1 | have hg1p := hg1
  refine SL.skip (OpOk.not rfl rfl rfl hg1) ?_
  refine SL.skip (OpOk.not rfl rfl rfl hg1) ?_
  refine SL.skip (OpOk.not rfl rfl rfl hg1) ?_
  refine SL.val (O.pick_f rfl (G.ne_t hg1) rfl rfl Taken.no) ?_
  refine SL.val (O.move rfl rfl Taken.no) ?_
  have hg3 : false ≠ true := by decide
  refine SL.skip (OpOk.not rfl rfl rfl hg3) ?_
  refine SL.skip (OpOk.not rfl rfl rfl hg3) ?_
  refine SL.val (O.pick_f rfl rfl rfl rfl Taken.no) ?_
  refine SL.val (O.assign rfl rfl Taken.no) ?_
  refine SL.nil ?_
  refine E.to ?_
  refine W.ret ?_
  refine E.fin (rs := [_]) (rn []) (.inl rfl) rfl (.cons (ResOne.tmp rfl) .nil) ?_ ?_ rfl (fixL_spec rfl)
  ·skip
   exact iv_bool (by unfold validT; simp_all)
  · exact SubS.nil

set_option maxRecDepth 8000 in
set_option maxHeartbeats 1600000 in
/-- bookplate/bookplatelaw41.PrefixValid. -/
theorem prefixValid_h {a b : Tr} (ha : a.sm) (hb : b.sm) :
    Con Try.prog 7 [vA [uT a.lab, uB a.wd, .sl 3 (a.kids.map eTr)], vA [uT b.lab, uB b.wd, .sl 3 (b.kids.map eTr)]] [] (vB true) [] := by
 refine Con.enterL (n := 32) Try.func7 rfl rfl rfl (fun τ w ok vs hin => ?_)
 have hl0_2 := hin.lenA (i := 0) (j := 2) rfl rfl
 try rw [List.length_map] at hl0_2
 have hl1_2 := hin.lenA (i := 1) (j := 2) rfl rfl
 try rw [List.length_map] at hl1_2
 clear hin
 refine W.seq ?_
 refine W.region ?_
 refine SL.memS (O.box (is := [_, _, _]) 101 rfl rfl (by simp) rfl rfl Taken.no) rfl rfl (S' := (101, _) :: _) rfl ?_
 refine SL.memS (O.box (is := [_, _, _]) 102 rfl rfl (by simp) rfl rfl Taken.no) rfl rfl (S' := (102, _) :: _) rfl ?_
 refine SL.val (O.assign rfl rfl Taken.no) ?_
 refine SL.nil ?_
 refine E.to ?_
 refine W.seq ?_
 refine W.seq ?_
 refine W.region ?_
 refine SL.val (O.callp rfl rfl rfl (awake_h) .nil hcallOk10 rfl Taken.no) ?_
 refine SL.as (i' := vB true) 5 rfl (by rfl) ?_
 refine SL.val (O.det (fun _ => G.R.mv (G.R.not rfl) rfl) rfl Taken.no) ?_
 refine SL.nil ?_
 refine E.to ?_
 refine W.cond_f rfl ?_
 refine W.skip ?_
 refine E.to ?_
 refine W.seq ?_
 refine W.seq ?_
 refine W.region ?_
 refine SL.val (O.ldN (m := 3) (PtI.ref rfl rfl) (js := [_, _, _]) rfl (Nat.le_of_ble_eq_true rfl) Try.underlying33 rfl (by kernel_rfl) rfl Taken.no) ?_
 refine SL.val (O.callp rfl rfl rfl (refSize_h a) (.cons (ArgOk.aggU (.cons (ArgOk.same rfl) (.cons (ArgOk.same rfl) (.cons (ArgOk.same rfl) .nil)))) .nil) hcallOk31 rfl Taken.no) ?_
 refine SL.val (O.det (fun _ => G.R.gtr rfl rfl) rfl Taken.no) ?_
 refine SL.val (O.move rfl rfl Taken.no) ?_
 refine SL.case (j := 3) (g := 10) (want := false) rfl rfl (fun hg1 => ?_) (fun hg1 => ?_)
 ·skip
  first | have hg1p := G.gA3 hg1 | have hg1p := G.gA4 hg1 | have hg1p := hg1
  refine SL.val (O.ldN (m := 3) (PtI.ref rfl rfl) (js := [_, _, _]) rfl (Nat.le_of_ble_eq_true rfl) Try.underlying33 rfl (by kernel_rfl) rfl (Taken.yes rfl rfl hg1)) ?_
  refine SL.val (O.callp rfl rfl rfl (refSize_h b) (.cons (ArgOk.aggU (.cons (ArgOk.same rfl) (.cons (ArgOk.same rfl) (.cons (ArgOk.same rfl) .nil)))) .nil) hcallOk31 rfl (Taken.yes rfl rfl hg1)) ?_
  refine SL.val (O.det (fun _ => G.R.gtr rfl rfl) rfl (Taken.yes rfl rfl hg1)) ?_
  refine SL.val (O.pick_f rfl hg1 rfl rfl Taken.no) ?_
  refine SL.nil ?_
  refine E.to ?_
  first | refine W.cond_d rfl (fun hc2 => ?_) (fun hc2 => ?_) | refine W.cond_nd rfl (fun hc2 => ?_) (fun hc2 => ?_) | refine W.cond rfl (fun hc2 => ?_) (fun hc2 => ?_)
  ·skip
   refine W.seq ?_
   refine W.region ?_
   refine SL.val (O.assign rfl rfl Taken.no) ?_
   refine SL.nil ?_
   refine E.to ?_
   refine W.ret ?_
   refine E.thr ?_
   refine E.fin (rs := [_]) (rn []) (.inl rfl) rfl (.cons (ResOne.tmp rfl) .nil) ?_ ?_ rfl (fixL_spec rfl)
   ·skip
    rfl
   · exact SubS.nil
  ·skip
   refine W.skip ?_
   refine E.to ?_
   refine W.seq ?_
   refine W.draw [⟨[101], [], []⟩, ⟨[], [], []⟩, ⟨[], [], []⟩, ⟨[101], [], []⟩, ⟨[], [], []⟩, ⟨[], [], []⟩, ⟨[], [], []⟩, ⟨[101], [], []⟩, ⟨[], [], []⟩, ⟨[102], [], []⟩, ⟨[], [], []⟩, ⟨[], [], []⟩, ⟨[101], [], []⟩, ⟨[102], [], []⟩, ⟨[], [], []⟩, ⟨[], [], []⟩, ⟨[], [], []⟩, ⟨[], [], []⟩] rfl (by kernel_rfl) (by kernel_rfl) rfl rfl ?_
   refine WH.val (O.ldN (m := 3) (PtI.ref rfl rfl) (js := [_, _, _]) rfl (Nat.le_of_ble_eq_true rfl) Try.underlying33 rfl (by kernel_rfl) rfl Taken.no) rfl rfl ?_
   refine WH.memS (O.call (rn []) [] rfl rfl rfl (own_h a ha) (.cons (ArgOk.aggU (.cons (ArgOk.same rfl) (.cons (ArgOk.same rfl) (.cons (ArgOk.same rfl) .nil)))) .nil) SubS.nil rfl rfl rfl rfl rfl (.inl rfl) hcallOk20 (r' := .agg [.u _, .u _, .u _]) rfl rfl Taken.no) rfl rfl rfl rfl rfl (S' := _) rfl ?_
   refine WH.val (O.callp rfl rfl rfl (valid_h (t := a)) (.cons (ArgOk.aggU (.cons (ArgOk.same rfl) (.cons (ArgOk.same rfl) (.cons (ArgOk.same rfl) .nil)))) .nil) hcallOk16 rfl Taken.no) rfl rfl ?_
   refine WH.val (O.ldN (m := 3) (PtI.ref rfl rfl) (js := [_, _, _]) rfl (Nat.le_of_ble_eq_true rfl) Try.underlying33 rfl (by kernel_rfl) rfl Taken.no) rfl rfl ?_
   refine WH.val (O.callp rfl rfl rfl (refValid_h (t := a)) (.cons (ArgOk.aggU (.cons (ArgOk.same rfl) (.cons (ArgOk.same rfl) (.cons (ArgOk.same rfl) .nil)))) .nil) hcallOk32 rfl Taken.no) rfl rfl ?_
   refine WH.val (O.det (fun _ => G.R.mv (G.R.booleql rfl rfl Try.underlying4) (congrArg Value.bool (show _ = true by simp))) rfl Taken.no) rfl rfl ?_
   refine WH.val (O.move rfl rfl Taken.no) rfl rfl ?_
   have hg3 : true = true := by decide
   refine WH.val (O.ldN (m := 3) (PtI.ref rfl rfl) (js := [_, _, _]) rfl (Nat.le_of_ble_eq_true rfl) Try.underlying33 rfl (by kernel_rfl) rfl (Taken.yes rfl rfl hg3)) rfl rfl ?_
   refine WH.memS (O.call (rn []) [] rfl rfl rfl (own_h a ha) (.cons (ArgOk.aggU (.cons (ArgOk.same rfl) (.cons (ArgOk.same rfl) (.cons (ArgOk.same rfl) .nil)))) .nil) SubS.nil rfl rfl rfl rfl rfl (.inl rfl) hcallOk20 (r' := .agg [.u _, .u _, .u _]) rfl rfl (Taken.yes rfl rfl hg3)) rfl rfl rfl rfl rfl (S' := _) rfl ?_
   refine WH.val (O.ldN (m := 3) (PtI.ref rfl rfl) (js := [_, _, _]) rfl (Nat.le_of_ble_eq_true rfl) Try.underlying33 rfl (by kernel_rfl) rfl (Taken.yes rfl rfl hg3)) rfl rfl ?_
   refine WH.memS (O.call (rn []) [] rfl rfl rfl (own_h b hb) (.cons (ArgOk.aggU (.cons (ArgOk.same rfl) (.cons (ArgOk.same rfl) (.cons (ArgOk.same rfl) .nil)))) .nil) SubS.nil rfl rfl rfl rfl rfl (.inl rfl) hcallOk20 (r' := .agg [.u _, .u _, .u _]) rfl rfl (Taken.yes rfl rfl hg3)) rfl rfl rfl rfl rfl (S' := _) rfl ?_
   refine WH.val (O.callp rfl rfl rfl (equal_h a b) (.cons (ArgOk.aggU (.cons (ArgOk.same rfl) (.cons (ArgOk.same rfl) (.cons (ArgOk.same rfl) .nil)))) (.cons (ArgOk.aggU (.cons (ArgOk.same rfl) (.cons (ArgOk.same rfl) (.cons (ArgOk.same rfl) .nil)))) .nil)) hcallOk33 rfl (Taken.yes rfl rfl hg3)) rfl rfl ?_
   refine WH.val (O.ldN (m := 3) (PtI.ref rfl rfl) (js := [_, _, _]) rfl (Nat.le_of_ble_eq_true rfl) Try.underlying33 rfl (by kernel_rfl) rfl (Taken.yes rfl rfl hg3)) rfl rfl ?_
   refine WH.val (O.ldN (m := 3) (PtI.ref rfl rfl) (js := [_, _, _]) rfl (Nat.le_of_ble_eq_true rfl) Try.underlying33 rfl (by kernel_rfl) rfl (Taken.yes rfl rfl hg3)) rfl rfl ?_
   refine WH.val (O.callp rfl rfl rfl (refEqual_h a b) (.cons (ArgOk.aggU (.cons (ArgOk.same rfl) (.cons (ArgOk.same rfl) (.cons (ArgOk.same rfl) .nil)))) (.cons (ArgOk.aggU (.cons (ArgOk.same rfl) (.cons (ArgOk.same rfl) (.cons (ArgOk.same rfl) .nil)))) .nil)) hcallOk14 rfl (Taken.yes rfl rfl hg3)) rfl rfl ?_
   refine WH.val (O.det (fun _ => G.R.mv (G.R.booleql rfl rfl Try.underlying4) (congrArg Value.bool (show _ = true by simp))) rfl (Taken.yes rfl rfl hg3)) rfl rfl ?_
   refine WH.val (O.pick_t rfl rfl rfl rfl Taken.no) rfl rfl ?_
   refine WH.val (O.assign rfl rfl Taken.no) rfl rfl ?_
   refine WH.nil ?_
   refine E.to ?_
   refine W.pick (.cons (t := 4) rfl .nil) (.cons (t := 101) rfl (.cons (t := 102) rfl .nil)) ?_
   refine W.ret ?_
   refine E.fin (rs := [_]) (rn []) (.inl rfl) rfl (.cons (ResOne.tmp rfl) .nil) ?_ ?_ rfl (fixL_spec rfl)
   ·skip
    rfl
   · exact SubS.nil
 ·skip
  first | have hg1p := G.gA7 hg1 | have hg1p := G.gA8 hg1 | have hg1p := hg1
  refine SL.skip (OpOk.not rfl rfl rfl hg1) ?_
  refine SL.skip (OpOk.not rfl rfl rfl hg1) ?_
  refine SL.skip (OpOk.not rfl rfl rfl hg1) ?_
  refine SL.val (O.pick_t rfl (G.ne_f hg1) rfl rfl Taken.no) ?_
  refine SL.nil ?_
  refine E.to ?_
  refine W.cond_t rfl ?_
  refine W.seq ?_
  refine W.region ?_
  refine SL.val (O.assign rfl rfl Taken.no) ?_
  refine SL.nil ?_
  refine E.to ?_
  refine W.ret ?_
  refine E.thr ?_
  refine E.fin (rs := [_]) (rn []) (.inl rfl) rfl (.cons (ResOne.tmp rfl) .nil) ?_ ?_ rfl (fixL_spec rfl)
  ·skip
   rfl
  · exact SubS.nil

end Go.Proofs.Ytfmgpocbpbfalaa
