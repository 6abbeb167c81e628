/-
  What the proof rests on: part 10 of 12.
-/
import Derived.Test.YtppamigboeaefaaClusterRulesP9
section
namespace Go.D33
open Go Go.RowKit Go.H
theorem upd2_sym {α : Type} {f : Nat → Nat → α} (h : ∀ i j, f i j = f j i) (a b : Nat) (x : α) : ∀ i j, upd2 f a b x i j = upd2 f a b x j i := fun i j => by
  unfold upd2
  by_cases e : (i = a ∧ j = b) ∨ (i = b ∧ j = a)
  · rw [if_pos e, if_pos (e.elim (fun q => .inr ⟨q.2, q.1⟩) fun q => .inl ⟨q.2, q.1⟩)]
  · rw [if_neg e, if_neg fun q => e (q.elim (fun q => .inr ⟨q.2, q.1⟩) fun q => .inl ⟨q.2, q.1⟩), h]
theorem mF_sym : ∀ (rs : List Ru) {f : Nat → Nat → Bool}, (∀ i j, f i j = f j i) → ∀ i j, mF f rs i j = mF f rs j i
  | [], f, h => h
  | r :: rs, f, h => mF_sym rs (f := addM f r) fun i j => by
    unfold addM
    split
    · exact h i j
    · exact upd2_sym h _ _ _ i j
theorem mu_sym (rs : List Ru) : ∀ i j, mu rs i j = mu rs j i := mF_sym rs fun _ _ => rfl
theorem lF_sym (ps : List Pr) : ∀ i j, lF ps i j = lF ps j i := by
  have key : ∀ (ps : List Pr) (f : Nat → Nat → Bool), (∀ i j, f i j = f j i) → ∀ i j, ps.foldl addL f i j = ps.foldl addL f j i := by
    intro ps
    induction ps with
    | nil => intro f h; exact h
    | cons p ps ih =>
      intro f h
      refine ih (addL f p) fun i j => ?_
      unfold addL
      split
      · exact upd2_sym h _ _ _ i j
      · exact h i j
  exact key ps _ fun _ _ => rfl
theorem lk_sym (ps : List Pr) (rs : List Ru) : ∀ i j, mF (lF ps) rs i j = mF (lF ps) rs j i := mF_sym rs (lF_sym ps)
theorem wF_b : ∀ {ps : List Pr} {f : Nat → Nat → Int}, (∀ i j, -1000 ≤ f i j ∧ f i j ≤ 1000) → (∀ x ∈ ps, -1000 ≤ x.w ∧ x.w ≤ 1000) → ∀ i j, -1000 ≤ ps.foldl addW f i j ∧ ps.foldl addW f i j ≤ 1000
  | [], f, h, _ => h
  | p :: ps, f, h, hp => wF_b (ps := ps) (f := addW f p) (fun i j => by
    unfold addW upd2
    split
    · exact hp p (by simp)
    · exact h i j) fun x hx => hp x (by simp [hx])
theorem formed_pr {p : Prob} (h : p.formed) {x : Pr} (hx : x ∈ p.ps) : prOk p.n x := by
  obtain ⟨i, hi, rfl⟩ := List.getElem_of_mem hx
  have := (h.2.2.2.1 i hi).1
  rwa [getElem!_pos _ i hi] at this
theorem w_b {n : Nat} {ps : List Pr} {rs : List Ru} (h : (Prob.mk (n : Int) ps rs).formed) : ∀ i j, -1000 ≤ wF ps i j ∧ wF ps i j ≤ 1000 := wF_b (fun _ _ => by decide) fun x hx => by
  have := formed_pr h hx
  exact ⟨this.2.2.2.1, this.2.2.2.2⟩
theorem atm_ok (n : Nat) (rs : List Ru) : (namedL n (partsL (mu rs) (List.range n))).length = n ∧ ∀ i, i < n → (namedL n (partsL (mu rs) (List.range n)))[i]! < n := by
  have := comp_parts (n := n) (mu_sym rs)
  exact ⟨this.len, fun i hi => this.lt hi⟩
def valQ (w : Nat → Nat → Int) (m : List Nat) : Nat → Int
  | 0 => 0
  | k + 1 => valQ w m k + if k = m[k]! then valF w (unitsL m m[k]!) else 0
theorem valF_b {w : Nat → Nat → Int} (hw : ∀ i j, -1000 ≤ w i j ∧ w i j ≤ 1000) {l : List Nat} (hl : l.length ≤ 1000) : -1000000000 ≤ valF w l ∧ valF w l ≤ 1000000000 := by
  have := valK_b hw hl l.length
  unfold valF; omega
theorem valQ_b {w : Nat → Nat → Int} (hw : ∀ i j, -1000 ≤ w i j ∧ w i j ≤ 1000) {m : List Nat} (hm : m.length ≤ 1000) : ∀ k : Nat, -1000000000 * (k : Int) ≤ valQ w m k ∧ valQ w m k ≤ 1000000000 * (k : Int)
  | 0 => by simp [valQ]
  | k + 1 => by
    have ih := valQ_b hw hm k
    have := valF_b hw (l := unitsL m m[k]!) (Nat.le_trans (units_len _ _) hm)
    rw [valQ]
    split <;> omega
theorem valQ_y {w : Nat → Nat → Int} {m : List Nat} {k : Nat} (h : k = m[k]!) : valQ w m (k + 1) = valQ w m k + valF w (unitsL m m[k]!) := by rw [valQ, if_pos h]
theorem valQ_n {w : Nat → Nat → Int} {m : List Nat} {k : Nat} (h : ¬ k = m[k]!) : valQ w m (k + 1) = valQ w m k := by rw [valQ, if_neg h]; omega
def valI (n : Nat) (w : Nat → Nat → Int) (l : List Int) : Int := if isPart n l then valQ w (l.map Int.toNat) n else 0
def valE (n : Nat) (l : List Int) : Int := if isPart n l then 0 else 11
theorem valI_y {n : Nat} {w : Nat → Nat → Int} {m : List Nat} (h : isP n m) : valI n w (m.map fun x : Nat => (x : Int)) = valQ w m n ∧ valE n (m.map fun x : Nat => (x : Int)) = 0 := by
  have hp := isPart_cast.2 h
  exact ⟨by rw [valI, if_pos hp, cast_back], if_pos hp⟩
theorem valI_n {n : Nat} {w : Nat → Nat → Int} {l : List Int} (h : ¬ isPart n l) : valI n w l = 0 ∧ valE n l = 11 := ⟨if_neg h, if_neg h⟩
/-! ### Joins, place by place -/
def jf (l : List Nat) (a b x : Nat) : Nat := if x = max l[a]! l[b]! then min l[a]! l[b]! else x
def joinP (l : List Nat) (a b k : Nat) : List Nat := (l.take k).map (jf l a b) ++ l.drop k
theorem joinP_0 (l : List Nat) (a b : Nat) : joinP l a b 0 = l := by simp [joinP]
theorem joinP_n (l : List Nat) (a b : Nat) : joinP l a b l.length = joinL l a b := by
  rw [joinP, List.take_length, List.drop_length, List.append_nil]; rfl
theorem joinP_len {l : List Nat} {a b k : Nat} (h : k ≤ l.length) : (joinP l a b k).length = l.length := by
  rw [joinP, List.length_append, List.length_map, List.length_take, List.length_drop]; omega
theorem joinP_get {l : List Nat} {a b k : Nat} (h : k < l.length) : (joinP l a b k)[k]! = l[k]! := by
  have hl : ((l.take k).map (jf l a b)).length = k := by rw [List.length_map, List.length_take]; omega
  rw [getElem!_pos _ _ (by rw [joinP_len (by omega)]; exact h), getElem!_pos l k h]
  simp only [joinP]
  rw [List.getElem_append_right (by omega)]
  simp only [hl, Nat.sub_self, List.getElem_drop, Nat.add_zero]
theorem joinP_s {l : List Nat} {a b k : Nat} (h : k < l.length) : joinP l a b (k + 1) = (joinP l a b k).set k (jf l a b l[k]!) := by
  have hl : ((l.take k).map (jf l a b)).length = k := by rw [List.length_map, List.length_take]; omega
  have hd : l.drop k = l[k]! :: l.drop (k + 1) := by rw [getElem!_pos l k h]; exact List.drop_eq_getElem_cons h
  rw [joinP, joinP, hd, snocP h, List.map_append, List.set_append_right _ _ (by omega), hl, Nat.sub_self, List.set_cons_zero, List.append_assoc]; rfl
theorem joinP_y {l : List Nat} {a b k : Nat} (h : k < l.length) (e : l[k]! = max l[a]! l[b]!) : joinP l a b (k + 1) = (joinP l a b k).set k (min l[a]! l[b]!) := by
  rw [joinP_s h, jf, if_pos e]
theorem joinP_no {l : List Nat} {a b k : Nat} (h : k < l.length) (e : ¬ l[k]! = max l[a]! l[b]!) : joinP l a b (k + 1) = joinP l a b k := by
  have h1 := joinP_len (l := l) (a := a) (b := b) (k := k) (by omega)
  rw [joinP_s h, jf, if_neg e]
  apply List.ext_getElem
  · simp
  · intro i h2 h3
    rw [List.getElem_set]
    split
    · rename_i q; subst q
      have := joinP_get (a := a) (b := b) h
      rw [getElem!_pos (joinP l a b k) k h3] at this
      exact this.symm
    · rfl
/-! ### The reference's atoms and parts -/
def muE (rs : List Ru) : List (Nat × Nat) := (rs.filter fun x => decide (x.k = 1)).map fun x => (x.a.toNat, x.b.toNat)
def psE (m : List Nat) (ps : List Pr) : List (Nat × Nat) := (ps.filter fun x => decide (0 < x.w ∧ m[x.a.toNat]! = m[x.b.toNat]!)).map fun x => (x.a.toNat, x.b.toNat)
def rsE (m : List Nat) (rs : List Ru) : List (Nat × Nat) := (rs.filter fun x => decide (x.k = 1 ∧ m[x.a.toNat]! = m[x.b.toNat]!)).map fun x => (x.a.toNat, x.b.toNat)
def atomsL (n : Nat) (rs : List Ru) : List Nat := joinsL (List.range n) (muE rs)
def connL (n : Nat) (ps : List Pr) (rs : List Ru) (m : List Nat) : List Nat := joinsL (joinsL (List.range n) (psE m ps)) (rsE m rs)
theorem joins_len : ∀ {es : List (Nat × Nat)} {l : List Nat}, (joinsL l es).length = l.length
  | [], l => rfl
  | e :: es, l => by
    show (joinsL (joinL l e.1 e.2) es).length = _
    rw [joins_len, join_len]
theorem muE_y {rs : List Ru} {k : Nat} (h : k < rs.length) (e : rs[k]!.k = 1) (l : List Nat) : joinsL l (muE (rs.take (k + 1))) = joinL (joinsL l (muE (rs.take k))) rs[k]!.a.toNat rs[k]!.b.toNat := by
  rw [muE, snocP h, List.filter_append, List.filter_cons, if_pos (decide_eq_true e), List.filter_nil, List.map_append, List.map_cons, List.map_nil, joins_snoc]; rfl
theorem muE_n {rs : List Ru} {k : Nat} (h : k < rs.length) (e : ¬ rs[k]!.k = 1) (l : List Nat) : joinsL l (muE (rs.take (k + 1))) = joinsL l (muE (rs.take k)) := by
  rw [muE, snocP h, List.filter_append, List.filter_cons, if_neg (by simpa using e), List.filter_nil, List.append_nil]; rfl
theorem alone_s {n k : Nat} (h : k < n) : List.range (k + 1) ++ List.replicate (n - (k + 1)) 0 = (List.range k ++ List.replicate (n - k) 0).set k k := by
  have e : List.replicate (n - k) 0 = 0 :: List.replicate (n - (k + 1)) 0 := by rw [show n - k = (n - (k + 1)) + 1 by omega]; rfl
  rw [e, List.set_append_right _ _ (by simp), List.length_range, Nat.sub_self, List.set_cons_zero, List.range_succ, List.append_assoc]; rfl
theorem clash_s {rs : List Ru} {m : List Nat} {k : Nat} (hk : k < rs.length) (h : clash (barL (rs.take k)) m = false) (e : rs[k]!.k = 2 → clashR m rs[k]! = false) : clash (barL (rs.take (k + 1))) m = false := by
  by_cases q : rs[k]!.k = 2
  · rw [bar_y hk q, clash, List.any_append, show (barL (rs.take k)).any (clashR m) = false from h, List.any_cons, e q]; rfl
  · rw [bar_n hk q]; exact h
theorem clash_here {rs : List Ru} {m : List Nat} {k : Nat} (hk : k < rs.length) (q : rs[k]!.k = 2) (e : m[rs[k]!.a.toNat]! = m[rs[k]!.b.toNat]!) : clash (barL rs) m = true := by
  rw [clash, List.any_eq_true]
  exact ⟨rs[k]!, List.mem_filter.2 ⟨mem_at hk, decide_eq_true q⟩, decide_eq_true e⟩
end Go.D33
end
section
namespace Go.Proofs.Ytppamigboeaefaa
open Go Go.RowKit Go.H Go.D33

theorem hcallOk45 : G.callOk Try.prog 45 = true := by kernel_rfl
theorem hcallOk49 : G.callOk Try.prog 49 = true := by kernel_rfl

set_option maxRecDepth 8000 in
/-- bookplate/cluster.Value. -/
theorem valueC_ok {n : Nat} {ps : List Pr} {rs : List Ru} {l : List Int} (hok : (Prob.mk (n : Int) ps rs).ok) :
    Con Try.prog 21 [vA [uI (n : Int), .sl 3 (ps.map ePr), .sl 3 (rs.map eRu)], vL 1 (l.map eI)] [] (.tup [vI (valI n (wF ps) l), vI (valE n l)]) [] := by
 have hf := hok.1
 have hn2 : (n : Int) ≤ 200 := hf.2.1
 obtain ⟨i3, hi3, hz3, hs3, hb3⟩ := hinf3
 refine Con.enterL (n := 44) Try.func21 rfl rfl rfl (fun τ w ok vs hin => ?_)
 have hl0_1 := hin.lenA (i := 0) (j := 1) rfl rfl
 try rw [List.length_map] at hl0_1
 have hl0_2 := hin.lenA (i := 0) (j := 2) rfl rfl
 try rw [List.length_map] at hl0_2
 have hl1 := hin.len (i := 1) rfl
 try rw [List.length_map] at hl1
 clear hin
 refine W.rg ?_
 refine SL.memS (O.box (is := [_, _, _]) 101 rfl rfl (by simp) rfl rfl Taken.no) rfl rfl (S' := (101, _) :: _) rfl ?_
 refine SL.an rfl rfl (SL.an rfl rfl (E.fo (W.rg ?_)))
 refine SL.val (O.ldN (m := 3) (PtI.ref rfl rfl) (js := [_, _, _]) rfl (Nat.le_of_ble_eq_true rfl) Try.underlying32 rfl (by kernel_rfl) rfl Taken.no) ?_
 refine SL.memS (O.call (rn []) [] rfl rfl rfl (check_ok hok) (.cons (ArgOk.aggU (.cons (ArgOk.same rfl) (.cons (ArgOk.same rfl) (.cons (ArgOk.same rfl) .nil)))) .nil) SubS.nil rfl rfl rfl rfl rfl (.inl rfl) hcallOk38 (r' := .tup [.u _, .u _]) rfl rfl Taken.no) rfl rfl (S' := _) rfl ?_
 refine SL.mv rfl rfl ?_
 refine SL.val (O.extract rfl rfl rfl Taken.no) ?_
 refine SL.val (O.extract rfl rfl rfl Taken.no) ?_
 refine SL.an rfl rfl (SL.an rfl rfl (E.fo (W.seq (W.block (W.rg (SL.mv rfl rfl ?_))))))
 refine SL.val (O.det (fun _ => G.R.mv (G.R.neq rfl rfl) (congrArg Value.bool (decide_eq_false (by decide)))) rfl Taken.no) ?_
 refine SL.an rfl rfl (E.fo ?_)
 refine W.cond_f rfl ?_
 refine W.rg (SL.mv rfl rfl (SL.mv rfl rfl ?_))
 refine SL.val (O.callp rfl rfl rfl (partition_h (l := l)) (.cons (ArgOk.same rfl) (.cons (ArgOk.same rfl) .nil)) hcallOk44 rfl Taken.no) ?_
 refine SL.val (O.det (fun _ => G.R.not rfl) rfl Taken.no) ?_
 refine SL.an rfl rfl (E.fo ?_)
 first | refine W.cond_d rfl (fun hc1 => ?_) (fun hc1 => ?_) | refine W.cond_nd rfl (fun hc1 => ?_) (fun hc1 => ?_) | refine W.cond rfl (fun hc1 => ?_) (fun hc1 => ?_)
 ·skip
  refine W.rg (SL.an rfl rfl (SL.an rfl rfl (E.fo (W.ret ?_))))
  refine E.inr ?_
  refine E.thr ?_
  refine E.fin (rs := [_, _]) (rn []) (.inl rfl) rfl (.cons (ResOne.tmp rfl) (.cons (ResOne.tmp rfl) .nil)) ?_ ?_ rfl (fixL_spec rfl)
  ·skip
   rw [(valI_n (w := wF ps) (by assumption)).1, (valI_n (w := wF ps) (by assumption)).2]; rfl
  · exact SubS.nil
 ·skip
  have hP : isPart n l := by first | assumption | simp_all
  obtain ⟨m, rfl⟩ := cast_of fun i hi => (hP.2 i hi).1
  have hQ := isPart_cast.1 hP
  rw [eI_eN]
  have hml := hQ.1
  have hwb := w_b hf
  refine W.skip (E.inn (E.to (W.rg (SL.an rfl rfl (E.fo (W.seq (W.rg (SL.mv rfl rfl ?_))))))))
  refine SL.val (O.lenE (SlOf.fz rfl (by decide)) (by first | exact List.length_map _ | rfl) Try.underlying39 rfl Taken.no) ?_
  refine SL.mv rfl rfl (E.fo (W.block ?_))
  refine W.loopx1 (fun (k : Nat) => [(27, vI (k : Int)), (8, vI (valQ (wF ps) m k))]) (fun (k : Nat) => []) (fun (k : Nat) => k ≤ n) (fun (k : Nat) => n - k) (0) (rn []) (.cons (t := 1) rfl (.cons (t := 4) rfl (.cons (t := 5) rfl (.cons (t := 6) rfl (.cons (t := 25) rfl (.cons (t := 26) rfl .nil)))))) (.cons (t := 101) rfl .nil) rfl ?_ ?_ rfl rfl ?_ ?_
  · exact (SubF.cons rfl (SubF.cons rfl SubF.nil))
  · exact SubS.nil
  ·skip
   omega
  intro k hinv
  have hk := hinv
  have hvb := valQ_b hwb (m := m) (by omega) k
  refine W.rg ?_
  refine SL.val (O.det (fun _ => G.R.lss rfl rfl) rfl Taken.no) ?_
  refine E.fo (W.seq ?_)
  first | refine W.cond_d rfl (fun hc2 => ?_) (fun hc2 => ?_) | refine W.cond_nd rfl (fun hc2 => ?_) (fun hc2 => ?_) | refine W.cond rfl (fun hc2 => ?_) (fun hc2 => ?_)
  ·skip
   have hul := units_len m m[k]!
   have hfb := valF_b hwb (l := unitsL m m[k]!) (by omega)
   refine W.skip (E.to (W.seq (W.block (W.rg (SL.mv rfl rfl ?_)))))
   refine SL.val (O.idx_fz rfl rfl (rfl) (row_get (by omega)) Try.underlying39 hi3 hs3 rfl Taken.no) ?_
   refine SL.val (O.ld1 (PtI.ofU (PtU.fz rfl)) rfl Try.underlying3 rfl rfl Taken.no) ?_
   refine SL.an rfl rfl (SL.an rfl rfl (E.fo (W.rg (SL.mv rfl rfl (SL.mv rfl rfl ?_)))))
   refine SL.val (O.det (fun _ => G.R.eql rfl rfl) rfl Taken.no) ?_
   refine E.fo ?_
   first | refine W.cond_d rfl (fun hc3 => ?_) (fun hc3 => ?_) | refine W.cond_nd rfl (fun hc3 => ?_) (fun hc3 => ?_) | refine W.cond rfl (fun hc3 => ?_) (fun hc3 => ?_)
   ·skip
    refine W.region (SL.mv rfl rfl (SL.mv rfl rfl (SL.mv rfl rfl (SL.mv rfl rfl ?_))))
    refine SL.val (O.callp rfl rfl rfl (Con.fz (units_h (l := m) (c := m[k]!) (by omega)) rfl rfl) (.cons (ArgOk.same rfl) (.cons (ArgOk.same rfl) .nil)) hcallOk46 rfl Taken.no) ?_
    refine SL.val (O.callp rfl rfl rfl (value_h (l := unitsL m m[k]!) hwb (by omega) (fun u hu => by have := (units_lt hu).1; omega)) (.cons (ArgOk.same rfl) (.cons (ArgOk.same rfl) .nil)) hcallOk45 rfl Taken.no) ?_
    refine SL.val (O.det (fun _ => by first | exact G.R.add64 rfl rfl (by omega) | exact G.R.add rfl rfl) rfl Taken.no) ?_
    refine SL.an rfl rfl (SL.nil (E.inn (E.to ?_)))
    refine W.pick (K:=[(1,_),(4,_),(5,_),(6,_),(8,_),(25,_),(26,_),(27,_)]) (Z:=[(101,_)]) ⟨rfl,rfl,rfl,rfl,rfl,rfl,rfl,rfl,trivial⟩ ⟨rfl,trivial⟩ ?_
    refine W.region ?_
    refine SL.val (O.det (fun _ => by first | exact G.R.add64 rfl rfl (by omega) | exact G.R.add rfl rfl) rfl Taken.no) ?_
    refine SL.mv rfl rfl (SL.nil ?_)
    refine E.again ((k + 1)) (rn []) ?_ ?_ rfl (fixL_spec rfl) ?_ ?_
    · exact (SubF.cons rfl (SubF.val rfl (by (try dsimp only); first | exact iv_int (by rw [valQ_y (by omega)]) | exact iv_int (by rw [valQ_n (by omega)])) (SubF.cons rfl (SubF.cons rfl (SubF.cons rfl (SubF.cons rfl (SubF.cons rfl (SubF.cons rfl SubF.nil))))))))
    · exact (SubS.cons rfl SubS.nil)
    ·try dsimp only
     omega
    · (try dsimp only); omega
   ·skip
    refine W.skip (E.inn (E.to (W.region ?_)))
    refine SL.val (O.det (fun _ => by first | exact G.R.add64 rfl rfl (by omega) | exact G.R.add rfl rfl) rfl Taken.no) ?_
    refine SL.mv rfl rfl (SL.nil ?_)
    refine E.again ((k + 1)) (rn []) ?_ ?_ rfl (fixL_spec rfl) ?_ ?_
    · exact (SubF.cons rfl (SubF.val rfl (by (try dsimp only); first | exact iv_int (by rw [valQ_y (by omega)]) | exact iv_int (by rw [valQ_n (by omega)])) (SubF.cons rfl (SubF.cons rfl (SubF.cons rfl (SubF.cons rfl (SubF.cons rfl (SubF.cons rfl SubF.nil))))))))
    · exact (SubS.cons rfl SubS.nil)
    ·try dsimp only
     omega
    · (try dsimp only); omega
  ·skip
   refine W.exit (E.th (E.th (E.hit (E.to (W.rg (SL.mv rfl rfl (SL.an rfl rfl (SL.an rfl rfl (E.fo (W.ret ?_))))))))))
   refine E.fin (rs := [_, _]) (rn []) (.inl rfl) rfl (.cons (ResOne.tmp rfl) (.cons (ResOne.tmp rfl) .nil)) ?_ ?_ rfl (fixL_spec rfl)
   ·skip
    first | (obtain rfl : k = n := (by omega); rw [(valI_y (w := wF ps) hQ).1, (valI_y (w := wF ps) hQ).2]; rfl) | rfl
   · exact SubS.nil


set_option maxRecDepth 8000 in
/-- bookplate/cluster.Permitted. -/
theorem permC_ok {n : Nat} {ps : List Pr} {rs : List Ru} {l : List Int} (hok : (Prob.mk (n : Int) ps rs).ok) :
    Con Try.prog 24 [vA [uI (n : Int), .sl 3 (ps.map ePr), .sl 3 (rs.map eRu)], vL 1 (l.map eI)] [] (vB (decide (permI n (mF (lF ps) rs) (barL rs) (namedL n (partsL (mu rs) (List.range n))) l))) [] := by
 have hf := hok.1
 have hn2 : (n : Int) ≤ 200 := hf.2.1
 refine Con.enterL (n := 19) Try.func24 rfl rfl rfl (fun τ w ok vs hin => ?_)
 have hl0_1 := hin.lenA (i := 0) (j := 1) rfl rfl
 try rw [List.length_map] at hl0_1
 have hl0_2 := hin.lenA (i := 0) (j := 2) rfl rfl
 try rw [List.length_map] at hl0_2
 have hl1 := hin.len (i := 1) rfl
 try rw [List.length_map] at hl1
 clear hin
 refine W.rg ?_
 refine SL.memS (O.box (is := [_, _, _]) 101 rfl rfl (by simp) rfl rfl Taken.no) rfl rfl (S' := (101, _) :: _) rfl ?_
 refine SL.an rfl rfl (E.fo (W.rg ?_))
 refine SL.val (O.ldN (m := 3) (PtI.ref rfl rfl) (js := [_, _, _]) rfl (Nat.le_of_ble_eq_true rfl) Try.underlying32 rfl (by kernel_rfl) rfl Taken.no) ?_
 refine SL.memS (O.call (rn []) [] rfl rfl rfl (check_ok hok) (.cons (ArgOk.aggU (.cons (ArgOk.same rfl) (.cons (ArgOk.same rfl) (.cons (ArgOk.same rfl) .nil)))) .nil) SubS.nil rfl rfl rfl rfl rfl (.inl rfl) hcallOk38 (r' := .tup [.u _, .u _]) rfl rfl Taken.no) rfl rfl (S' := _) rfl ?_
 refine SL.mv rfl rfl ?_
 refine SL.val (O.extract rfl rfl rfl Taken.no) ?_
 refine SL.val (O.extract rfl rfl rfl Taken.no) ?_
 refine SL.an rfl rfl (SL.an rfl rfl (E.fo (W.rg (SL.mv rfl rfl ?_))))
 refine SL.val (O.det (fun _ => G.R.mv (G.R.eql rfl rfl) (congrArg Value.bool (decide_eq_true (by decide)))) rfl Taken.no) ?_
 refine SL.mv rfl rfl ?_
 have hg1 : true = true := by decide
 refine SL.val (O.move rfl rfl (Taken.yes rfl rfl hg1)) ?_
 refine SL.val (O.move rfl rfl (Taken.yes rfl rfl hg1)) ?_
 refine SL.val (O.callp rfl rfl rfl (permitted_h (l := l) (by omega) (atm_ok n rs) (bar_rng hf)) (.cons (ArgOk.same rfl) (.cons (ArgOk.same rfl) .nil)) hcallOk49 rfl (Taken.yes rfl rfl hg1)) ?_
 refine SL.val (O.pick_t rfl rfl rfl rfl Taken.no) ?_
 refine SL.an rfl rfl (E.fo (W.ret ?_))
 refine E.fin (rs := [_]) (rn []) (.inl rfl) rfl (.cons (ResOne.tmp rfl) .nil) ?_ ?_ rfl (fixL_spec rfl)
 ·skip
  rfl
 · exact SubS.nil


end Go.Proofs.Ytppamigboeaefaa
end
section
namespace Go.Proofs.Ytppamigboeaefaa
open Go Go.RowKit Go.H Go.D33

theorem hinf35 : ∃ i, Try.prog.info? 35 = some i ∧ i.zero = some (.agg #[.int .i64 0, .int .i64 0, .int .i64 0]) ∧ i.size = 3 ∧ i.bytes = 24 := G.info_of (by kernel_rfl)
theorem hcallOk56 : G.callOk Try.prog 56 = true := by kernel_rfl
theorem hcallOk57 : G.callOk Try.prog 57 = true := by kernel_rfl

set_option maxRecDepth 8000 in
/-- bookplate/bookplateref33.join. -/
theorem join_h {l : List Nat} (x y : Int) (ha : 0 ≤ x ∧ x < (l.length : Int)) (hb : 0 ≤ y ∧ y < (l.length : Int)) (hl : l.length ≤ 1000) :
    Con Try.prog 57 [.own 0, vI x, vI y] [(0, .data 3 1 (l.map eN))] (.tup []) [(0, .data 3 1 ((joinL l x.toNat y.toNat).map eN))] := by
 obtain ⟨i3, hi3, hz3, hs3, hb3⟩ := hinf3
 refine Con.enterL (n := 43) Try.func57 rfl rfl rfl (fun τ w ok vs hin => ?_)
 clear hin
 refine W.seq ?_
 refine W.draw [⟨[], [], [], [0]⟩, ⟨[], [], [], []⟩, ⟨[0], [], [], []⟩, ⟨[0], [], [], []⟩, ⟨[], [], [], [0]⟩, ⟨[], [], [], []⟩, ⟨[0], [], [], []⟩, ⟨[0], [], [], []⟩, ⟨[], [], [], []⟩, ⟨[], [], [], [0]⟩, ⟨[], [], [], []⟩, ⟨[0], [], [], []⟩, ⟨[0], [], [], []⟩, ⟨[], [], [], [0]⟩, ⟨[], [], [], []⟩, ⟨[0], [], [], []⟩, ⟨[0], [], [], []⟩, ⟨[], [], [], []⟩, ⟨[], [], [], []⟩, ⟨[], [], [], []⟩] rfl (by kernel_rfl) (by kernel_rfl) rfl rfl ?_
 refine WH.mv rfl rfl rfl (WH.mv rfl rfl rfl ?_)
 refine WH.val (O.idx_own (i := x.toNat) rfl rfl rfl (by omega) (by rw [List.length_map]; omega) Try.underlying39 hi3 hs3 rfl Taken.no) rfl rfl ?_
 refine WH.val (O.ld1 (PtI.ofU (PtU.el rfl rfl (row_get (by omega)))) rfl Try.underlying3 rfl rfl Taken.no) rfl rfl ?_
 refine WH.mv rfl rfl rfl (WH.mv rfl rfl rfl ?_)
 refine WH.val (O.idx_own (i := y.toNat) rfl rfl rfl (by omega) (by rw [List.length_map]; omega) Try.underlying39 hi3 hs3 rfl Taken.no) rfl rfl ?_
 refine WH.val (O.ld1 (PtI.ofU (PtU.el rfl rfl (row_get (by omega)))) rfl Try.underlying3 rfl rfl Taken.no) rfl rfl ?_
 refine WH.val (O.det (fun _ => G.R.mv (G.R.min2 rfl rfl) (congrArg (Value.int .i64) (show _ = ((min l[x.toNat]! l[y.toNat]! : Nat) : Int) by omega))) rfl Taken.no) rfl rfl ?_
 refine WH.mv rfl rfl rfl (WH.mv rfl rfl rfl ?_)
 refine WH.val (O.idx_own (i := x.toNat) rfl rfl rfl (by omega) (by rw [List.length_map]; omega) Try.underlying39 hi3 hs3 rfl Taken.no) rfl rfl ?_
 refine WH.val (O.ld1 (PtI.ofU (PtU.el rfl rfl (row_get (by omega)))) rfl Try.underlying3 rfl rfl Taken.no) rfl rfl ?_
 refine WH.mv rfl rfl rfl (WH.mv rfl rfl rfl ?_)
 refine WH.val (O.idx_own (i := y.toNat) rfl rfl rfl (by omega) (by rw [List.length_map]; omega) Try.underlying39 hi3 hs3 rfl Taken.no) rfl rfl ?_
 refine WH.val (O.ld1 (PtI.ofU (PtU.el rfl rfl (row_get (by omega)))) rfl Try.underlying3 rfl rfl Taken.no) rfl rfl ?_
 refine WH.val (O.det (fun _ => G.R.mv (G.R.max2 rfl rfl) (congrArg (Value.int .i64) (show _ = ((max l[x.toNat]! l[y.toNat]! : Nat) : Int) by omega))) rfl Taken.no) rfl rfl ?_
 refine WH.val (O.assign rfl rfl Taken.no) rfl rfl ?_
 refine WH.val (O.assign rfl rfl Taken.no) rfl rfl ?_
 refine WH.nil (E.to (W.rg (SL.an rfl rfl (E.fo (W.block ?_)))))
 refine W.loopx1 (fun (k : Nat) => [(8, vI (k : Int)), (0, .own 0)]) (fun (k : Nat) => [(0, .data 3 1 ((joinP l x.toNat y.toNat k).map eN))]) (fun (k : Nat) => k ≤ l.length) (fun (k : Nat) => l.length - k) (0) (rn []) (.cons (t := 6) rfl (.cons (t := 7) rfl .nil)) .nil rfl ?_ ?_ rfl rfl ?_ ?_
 · exact (SubF.cons rfl (SubF.cons rfl SubF.nil))
 · exact (SubS.val rfl (by exact sb_data (by rw [joinP_0])) SubS.nil)
 ·skip
  omega
 intro k hinv
 have hk := hinv
 have hjl := joinP_len (l := l) (a := x.toNat) (b := y.toNat) hk
 refine W.seq (W.rg (SL.mv rfl rfl (SL.mv rfl rfl ?_)))
 refine SL.val (O.lenE (SlOf.own rfl rfl) (by first | exact List.length_map _ | rfl) Try.underlying39 rfl Taken.no) ?_
 refine SL.val (O.det (fun _ => G.R.lss rfl rfl) rfl Taken.no) ?_
 refine E.fo ?_
 first | refine W.cond_d rfl (fun hc1 => ?_) (fun hc1 => ?_) | refine W.cond_nd rfl (fun hc1 => ?_) (fun hc1 => ?_) | refine W.cond rfl (fun hc1 => ?_) (fun hc1 => ?_)
 ·skip
  have hjg := joinP_get (l := l) (a := x.toNat) (b := y.toNat) (k := k) (by omega)
  refine W.skip (E.to (W.seq (W.block (W.rg (SL.mv rfl rfl (SL.mv rfl rfl ?_))))))
  refine SL.val (O.idx_own (i := k) rfl rfl rfl (rfl) (by rw [List.length_map]; omega) Try.underlying39 hi3 hs3 rfl Taken.no) ?_
  refine SL.val (O.ld1 (PtI.ofU (PtU.el rfl rfl (row_get (by omega)))) rfl Try.underlying3 rfl rfl Taken.no) ?_
  refine SL.mv rfl rfl ?_
  refine SL.val (O.det (fun _ => G.R.eql rfl rfl) rfl Taken.no) ?_
  refine E.fo ?_
  first | refine W.cond_d rfl (fun hc2 => ?_) (fun hc2 => ?_) | refine W.cond_nd rfl (fun hc2 => ?_) (fun hc2 => ?_) | refine W.cond rfl (fun hc2 => ?_) (fun hc2 => ?_)
  ·skip
   refine W.region (SL.mv rfl rfl (SL.mv rfl rfl (SL.mv rfl rfl ?_)))
   refine SL.val (O.idx_own (i := k) rfl rfl rfl (rfl) (by rw [List.length_map]; omega) Try.underlying39 hi3 hs3 rfl Taken.no) ?_
   refine SL.effS (O.st_els (m := 1) rfl rfl rfl (us := [_]) rfl rfl (by kernel_rfl) (by simp) (row_get (by omega)) (by exact Nat.le_of_ble_eq_true rfl) rfl rfl (rows' := ((joinP l x.toNat y.toNat k).set k (min l[x.toNat]! l[y.toNat]!)).map eN) (by exact set_map rfl) Taken.no) (S' := (0, _) :: _) rfl ?_
   refine SL.nil (E.inn (E.to (W.region (SL.mv rfl rfl ?_))))
   refine SL.val (O.det (fun _ => by first | exact G.R.add64 rfl rfl (by omega) | exact G.R.add rfl rfl) rfl Taken.no) ?_
   refine SL.an rfl rfl (SL.nil ?_)
   refine E.again ((k + 1)) (rn []) ?_ ?_ rfl (fixL_spec rfl) ?_ ?_
   · exact (SubF.cons rfl (SubF.cons rfl (SubF.cons rfl (SubF.cons rfl SubF.nil))))
   · exact (SubS.val rfl (by (try dsimp only); first | exact sb_data (by rw [joinP_y (by omega) (by omega)]) | exact sb_data (by rw [joinP_no (by omega) (by omega)])) SubS.nil)
   ·try dsimp only
    omega
   · (try dsimp only); omega
  ·skip
   refine W.skip (E.inn (E.to (W.region (SL.mv rfl rfl ?_))))
   refine SL.val (O.det (fun _ => by first | exact G.R.add64 rfl rfl (by omega) | exact G.R.add rfl rfl) rfl Taken.no) ?_
   refine SL.an rfl rfl (SL.nil ?_)
   refine E.again ((k + 1)) (rn []) ?_ ?_ rfl (fixL_spec rfl) ?_ ?_
   · exact (SubF.cons rfl (SubF.cons rfl (SubF.cons rfl (SubF.cons rfl SubF.nil))))
   · exact (SubS.val rfl (by (try dsimp only); first | exact sb_data (by rw [joinP_y (by omega) (by omega)]) | exact sb_data (by rw [joinP_no (by omega) (by omega)])) SubS.nil)
   ·try dsimp only
    omega
   · (try dsimp only); omega
 ·skip
  refine W.exit (E.th (E.th (E.hit ?_)))
  refine E.fin (rs := []) (rn []) (.inr rfl) rfl .nil ?_ ?_ rfl (fixL_spec rfl)
  ·skip
   rfl
  · exact (SubS.val rfl (by exact sb_data (by rw [← joinP_n, show k = l.length by omega])) SubS.nil)

set_option maxRecDepth 8000 in
/-- bookplate/bookplateref33.alone. -/
theorem alone_h {n : Nat} (hn : n ≤ 1000) :
    Con Try.prog 56 [vI (n : Int)] [] (.own 0) [(0, .data 3 1 ((List.range n).map eN))] := by
 obtain ⟨i3, hi3, hz3, hs3, hb3⟩ := hinf3
 refine Con.enterL (n := 17) Try.func56 rfl rfl rfl (fun τ w ok vs hin => ?_)
 clear hin
 refine W.rg (SL.an rfl rfl (E.fo (W.rg (SL.mv rfl rfl ?_))))
 refine SL.memS (O.make (m := n) (kk := 101) rfl rfl (by rfl) (by rfl) Try.underlying39 hi3 hz3 hs3 rfl rfl (by decide) rfl (by rw [hb3]; omega) (by omega) rfl Taken.no) rfl rfl (S' := (101, _) :: _) rfl ?_
 refine SL.an rfl rfl (E.fo (W.seq (W.rg (SL.an rfl rfl (E.fo (W.block ?_))))))
 refine W.loopx1 (fun (k : Nat) => [(4, vI (k : Int)), (3, .own 102)]) (fun (k : Nat) => [(102, .data 3 1 ((List.range k ++ List.replicate (n - k) 0).map eN))]) (fun (k : Nat) => k ≤ n) (fun (k : Nat) => n - k) (0) (rn [(102, 101)]) (.cons (t := 0) rfl (.cons (t := 2) rfl .nil)) .nil rfl ?_ ?_ rfl rfl ?_ ?_
 · exact (SubF.cons rfl (SubF.cons rfl SubF.nil))
 · exact (SubS.val rfl (by exact sb_data (by show _ = List.map eN (List.replicate n 0); rw [List.map_replicate]; rfl)) SubS.nil)
 ·skip
  omega
 intro k hinv
 have hk := hinv
 have hol : (List.range k ++ List.replicate (n - k) 0).length = n := by simp; omega
 refine W.seq (W.rg (SL.mv rfl rfl (SL.mv rfl rfl ?_)))
 refine SL.val (O.det (fun _ => G.R.lss rfl rfl) rfl Taken.no) ?_
 refine E.fo ?_
 first | refine W.cond_d rfl (fun hc1 => ?_) (fun hc1 => ?_) | refine W.cond_nd rfl (fun hc1 => ?_) (fun hc1 => ?_) | refine W.cond rfl (fun hc1 => ?_) (fun hc1 => ?_)
 ·skip
  refine W.skip (E.to (W.seq (W.block (W.region (SL.mv rfl rfl (SL.mv rfl rfl (SL.mv rfl rfl ?_)))))))
  refine SL.val (O.idx_own (i := k) rfl rfl rfl (rfl) (by rw [List.length_map]; omega) Try.underlying39 hi3 hs3 rfl Taken.no) ?_
  refine SL.effS (O.st_els (m := 1) rfl rfl rfl (us := [_]) rfl rfl (by kernel_rfl) (by simp) (row_get (by omega)) (by exact Nat.le_of_ble_eq_true rfl) rfl rfl (rows' := ((List.range k ++ List.replicate (n - k) 0).set k k).map eN) (by exact set_map rfl) Taken.no) (S' := (102, _) :: _) rfl ?_
  refine SL.nil (E.inn (E.to (W.region (SL.mv rfl rfl ?_))))
  refine SL.val (O.det (fun _ => by first | exact G.R.add64 rfl rfl (by omega) | exact G.R.add rfl rfl) rfl Taken.no) ?_
  refine SL.an rfl rfl (SL.nil ?_)
  refine E.again ((k + 1)) (rn []) ?_ ?_ rfl (fixL_spec rfl) ?_ ?_
  · exact (SubF.cons rfl (SubF.cons rfl (SubF.cons rfl (SubF.cons rfl SubF.nil))))
  · exact (SubS.val rfl (by (try dsimp only); exact sb_data (by rw [alone_s (by omega)])) SubS.nil)
  ·try dsimp only
   omega
  · (try dsimp only); omega
 ·skip
  refine W.exit (E.th (E.th (E.hit (E.to (W.rg (SL.mv rfl rfl (SL.an rfl rfl (E.fo (W.ret ?_)))))))))
  refine E.fin (rs := [_]) (rn [(0, 102)]) (.inl rfl) rfl (.cons (ResOne.tmp rfl) .nil) ?_ ?_ rfl (fixL_spec rfl)
  ·skip
   rfl
  · exact (SubS.val rfl (by exact sb_data (by rw [show k = n by omega, Nat.sub_self]; simp)) SubS.nil)

set_option maxRecDepth 8000 in
/-- bookplate/bookplateref33.atoms. -/
theorem refatoms_h {n : Nat} {ps : List Pr} {rs : List Ru} (hf : (Prob.mk (n : Int) ps rs).formed) :
    Con Try.prog 37 [vA [uI (n : Int), .sl 3 (ps.map ePr), .sl 3 (rs.map eRu)]] [] (.own 0) [(0, .data 3 1 ((atomsL n rs).map eN))] := by
 have hn2 : (n : Int) ≤ 200 := hf.2.1
 have hr4 : rs.length ≤ 400 := hf.2.2.1
 obtain ⟨i38, hi38, hz38, hs38, hb38⟩ := hinf38
 refine Con.enterL (n := 37) Try.func37 rfl rfl rfl (fun τ w ok vs hin => ?_)
 have hl0_1 := hin.lenA (i := 0) (j := 1) rfl rfl
 try rw [List.length_map] at hl0_1
 have hl0_2 := hin.lenA (i := 0) (j := 2) rfl rfl
 try rw [List.length_map] at hl0_2
 clear hin
 refine W.rg ?_
 refine SL.memS (O.box (is := [_, _, _]) 101 rfl rfl (by simp) rfl rfl Taken.no) rfl rfl (S' := (101, _) :: _) rfl ?_
 refine SL.an rfl rfl (E.fo (W.rg ?_))
 refine SL.val (O.fld_ref (o' := 0) rfl Try.underlying25 rfl (m := 0) (by kernel_rfl) rfl rfl Taken.no) ?_
 refine SL.val (O.ld1 (PtI.ref rfl rfl) rfl Try.underlying3 rfl rfl Taken.no) ?_
 refine SL.memS (O.call (rn [(0, 102)]) [] rfl rfl rfl (alone_h (n := n) (by omega)) (.cons (ArgOk.same rfl) .nil) SubS.nil rfl rfl rfl rfl rfl (.inl rfl) hcallOk56 (r' := .own 102) rfl rfl Taken.no) rfl rfl (S' := (102, .data _ _ _) :: _) rfl ?_
 refine SL.an rfl rfl (E.fo (W.seq (W.rg (SL.an rfl rfl (E.fo (W.block ?_))))))
 refine W.loopx1 (fun (k : Nat) => [(4, vI (k : Int)), (3, .own 103)]) (fun (k : Nat) => [(103, .data 3 1 ((joinsL (List.range n) (muE (rs.take k))).map eN))]) (fun (k : Nat) => k ≤ rs.length) (fun (k : Nat) => rs.length - k) (0) (rn [(103, 102)]) (.cons (t := 1) rfl (.cons (t := 2) rfl .nil)) (.cons (t := 101) rfl .nil) rfl ?_ ?_ rfl rfl ?_ ?_
 · exact (SubF.cons rfl (SubF.cons rfl SubF.nil))
 · exact (SubS.val rfl (by exact sb_data (by rw [List.take_zero]; rfl)) SubS.nil)
 ·skip
  omega
 intro k hinv
 have hk := hinv
 have hol : (joinsL (List.range n) (muE (rs.take k))).length = n := by rw [joins_len, List.length_range]
 refine W.seq (W.rg (SL.mv rfl rfl ?_))
 refine SL.val (O.fld_ref (o' := 2) rfl Try.underlying25 rfl (m := 0) (by kernel_rfl) rfl rfl Taken.no) ?_
 refine SL.val (O.ld1 (PtI.ref rfl rfl) rfl Try.underlying23 rfl rfl Taken.no) ?_
 refine SL.val (O.lenE (SlOf.fz rfl (by decide)) (by first | exact List.length_map _ | rfl) Try.underlying23 rfl Taken.no) ?_
 refine SL.val (O.det (fun _ => G.R.lss rfl rfl) rfl Taken.no) ?_
 refine E.fo ?_
 first | refine W.cond_d rfl (fun hc1 => ?_) (fun hc1 => ?_) | refine W.cond_nd rfl (fun hc1 => ?_) (fun hc1 => ?_) | refine W.cond rfl (fun hc1 => ?_) (fun hc1 => ?_)
 ·skip
  have hrk : ruOk (n : Int) rs[k]! := hf.2.2.2.2 k (by show k < rs.length; omega)
  unfold ruOk at hrk
  refine W.skip (E.to (W.seq (W.block (W.rg ?_))))
  refine SL.val (O.fld_ref (o' := 2) rfl Try.underlying25 rfl (m := 0) (by kernel_rfl) rfl rfl Taken.no) ?_
  refine SL.val (O.ld1 (PtI.ref rfl rfl) rfl Try.underlying23 rfl rfl Taken.no) ?_
  refine SL.mv rfl rfl ?_
  refine SL.val (O.idx_fz rfl rfl (rfl) (row_get (by omega)) Try.underlying23 hi38 hs38 rfl Taken.no) ?_
  refine SL.val (O.fld_fz rfl Try.underlying38 rfl (m := 0) (by kernel_rfl) rfl rfl Taken.no) ?_
  refine SL.val (O.ld1 (PtI.ofU (PtU.fz rfl)) rfl Try.underlying3 rfl rfl Taken.no) ?_
  refine SL.val (O.det (fun _ => G.R.eql rfl rfl) rfl Taken.no) ?_
  refine E.fo ?_
  first | refine W.cond_d rfl (fun hc2 => ?_) (fun hc2 => ?_) | refine W.cond_nd rfl (fun hc2 => ?_) (fun hc2 => ?_) | refine W.cond rfl (fun hc2 => ?_) (fun hc2 => ?_)
  ·skip
   refine W.draw [⟨[], [], [], [103]⟩, ⟨[], [], [], [101]⟩, ⟨[101], [], [], []⟩, ⟨[], [], [], []⟩, ⟨[], [], [], []⟩, ⟨[], [], [], []⟩, ⟨[], [], [], []⟩, ⟨[], [], [], [101]⟩, ⟨[101], [], [], []⟩, ⟨[], [], [], []⟩, ⟨[], [], [], []⟩, ⟨[], [], [], []⟩, ⟨[], [], [], []⟩, ⟨[103], [103], [], []⟩] rfl (by kernel_rfl) (by kernel_rfl) rfl rfl ?_
   refine WH.mv rfl rfl rfl ?_
   refine WH.val (O.fld_ref (o' := 2) rfl Try.underlying25 rfl (m := 0) (by kernel_rfl) rfl rfl Taken.no) rfl rfl ?_
   refine WH.val (O.ld1 (PtI.ref rfl rfl) rfl Try.underlying23 rfl rfl Taken.no) rfl rfl ?_
   refine WH.mv rfl rfl rfl ?_
   refine WH.val (O.idx_fz rfl rfl (rfl) (row_get (by omega)) Try.underlying23 hi38 hs38 rfl Taken.no) rfl rfl ?_
   refine WH.val (O.fld_fz rfl Try.underlying38 rfl (m := 0) (by kernel_rfl) rfl rfl Taken.no) rfl rfl ?_
   refine WH.val (O.ld1 (PtI.ofU (PtU.fz rfl)) rfl Try.underlying3 rfl rfl Taken.no) rfl rfl ?_
   refine WH.val (O.fld_ref (o' := 2) rfl Try.underlying25 rfl (m := 0) (by kernel_rfl) rfl rfl Taken.no) rfl rfl ?_
   refine WH.val (O.ld1 (PtI.ref rfl rfl) rfl Try.underlying23 rfl rfl Taken.no) rfl rfl ?_
   refine WH.mv rfl rfl rfl ?_
   refine WH.val (O.idx_fz rfl rfl (rfl) (row_get (by omega)) Try.underlying23 hi38 hs38 rfl Taken.no) rfl rfl ?_
   refine WH.val (O.fld_fz rfl Try.underlying38 rfl (m := 0) (by kernel_rfl) rfl rfl Taken.no) rfl rfl ?_
   refine WH.val (O.ld1 (PtI.ofU (PtU.fz rfl)) rfl Try.underlying3 rfl rfl Taken.no) rfl rfl ?_
   refine WH.memS (O.call (rn [(0, 103)]) [] rfl rfl rfl (join_h (l := (joinsL (List.range n) (muE (rs.take k)))) rs[k]!.a rs[k]!.b (by omega) (by omega) (by omega)) (.cons (ArgOk.same rfl) (.cons (ArgOk.same rfl) (.cons (ArgOk.same rfl) .nil))) (SubS.cons rfl SubS.nil) rfl rfl rfl rfl rfl (.inl rfl) hcallOk57 (r' := .tup []) rfl rfl Taken.no) rfl rfl rfl rfl rfl (S' := (103, .data _ _ _) :: _) rfl ?_
   refine WH.nil (E.inn (E.to ?_))
   refine W.pick (K:=[(1,_),(2,_),(3,_),(4,_)]) (Z:=[(101,_),(103,_)]) ⟨rfl,rfl,rfl,rfl,trivial⟩ ⟨rfl,rfl,trivial⟩ ?_
   refine W.region (SL.mv rfl rfl ?_)
   refine SL.val (O.det (fun _ => by first | exact G.R.add64 rfl rfl (by omega) | exact G.R.add rfl rfl) rfl Taken.no) ?_
   refine SL.an rfl rfl (SL.nil ?_)
   refine E.again ((k + 1)) (rn []) ?_ ?_ rfl (fixL_spec rfl) ?_ ?_
   · exact (SubF.cons rfl (SubF.cons rfl (SubF.cons rfl (SubF.cons rfl SubF.nil))))
   · exact (SubS.val rfl (by (try dsimp only); first | exact sb_data (by rw [muE_y (by omega) (by omega)]) | exact sb_data (by rw [muE_n (by omega) (by omega)])) (SubS.cons rfl SubS.nil))
   ·try dsimp only
    omega
   · (try dsimp only); omega
  ·skip
   refine W.skip (E.inn (E.to (W.region (SL.mv rfl rfl ?_))))
   refine SL.val (O.det (fun _ => by first | exact G.R.add64 rfl rfl (by omega) | exact G.R.add rfl rfl) rfl Taken.no) ?_
   refine SL.an rfl rfl (SL.nil ?_)
   refine E.again ((k + 1)) (rn []) ?_ ?_ rfl (fixL_spec rfl) ?_ ?_
   · exact (SubF.cons rfl (SubF.cons rfl (SubF.cons rfl (SubF.cons rfl SubF.nil))))
   · exact (SubS.val rfl (by (try dsimp only); first | exact sb_data (by rw [muE_y (by omega) (by omega)]) | exact sb_data (by rw [muE_n (by omega) (by omega)])) (SubS.cons rfl SubS.nil))
   ·try dsimp only
    omega
   · (try dsimp only); omega
 ·skip
  refine W.exit (E.th (E.th (E.hit (E.to (W.rg (SL.mv rfl rfl (SL.an rfl rfl (E.fo (W.ret ?_)))))))))
  refine E.fin (rs := [_]) (rn [(0, 103)]) (.inl rfl) rfl (.cons (ResOne.tmp rfl) .nil) ?_ ?_ rfl (fixL_spec rfl)
  ·skip
   rfl
  · exact (SubS.val rfl (by exact sb_data (by rw [show k = rs.length by omega, List.take_length]; rfl)) SubS.nil)


set_option maxRecDepth 8000 in
/-- bookplate/bookplateref33.apart. -/
theorem refapart_h {n : Nat} {ps : List Pr} {rs : List Ru} {m : List Nat} (hf : (Prob.mk (n : Int) ps rs).formed) (hm : m.length = n) :
    Con Try.prog 36 [vA [uI (n : Int), .sl 3 (ps.map ePr), .sl 3 (rs.map eRu)], vL 1 (m.map eN)] [] (vB (!clash (barL rs) m)) [] := by
 have hn2 : (n : Int) ≤ 200 := hf.2.1
 have hr4 : rs.length ≤ 400 := hf.2.2.1
 obtain ⟨i3, hi3, hz3, hs3, hb3⟩ := hinf3
 obtain ⟨i38, hi38, hz38, hs38, hb38⟩ := hinf38
 refine Con.enterL (n := 41) Try.func36 rfl rfl rfl (fun τ w ok vs hin => ?_)
 have hl0_1 := hin.lenA (i := 0) (j := 1) rfl rfl
 try rw [List.length_map] at hl0_1
 have hl0_2 := hin.lenA (i := 0) (j := 2) rfl rfl
 try rw [List.length_map] at hl0_2
 have hl1 := hin.len (i := 1) rfl
 try rw [List.length_map] at hl1
 clear hin
 refine W.rg ?_
 refine SL.memS (O.box (is := [_, _, _]) 101 rfl rfl (by simp) rfl rfl Taken.no) rfl rfl (S' := (101, _) :: _) rfl ?_
 refine SL.an rfl rfl (E.fo (W.seq (W.rg (SL.an rfl rfl (E.fo (W.block ?_))))))
 refine W.loopx1 (fun (k : Nat) => [(5, vI (k : Int))]) (fun (k : Nat) => []) (fun (k : Nat) => k ≤ rs.length ∧ clash (barL (rs.take k)) m = false) (fun (k : Nat) => rs.length - k) (0) (rn []) (.cons (t := 1) rfl (.cons (t := 2) rfl .nil)) (.cons (t := 101) rfl .nil) rfl ?_ ?_ rfl rfl ?_ ?_
 · exact (SubF.cons rfl SubF.nil)
 · exact SubS.nil
 ·skip
  exact ⟨by omega, by rw [List.take_zero]; rfl⟩
 intro k hinv
 obtain ⟨hk, hp⟩ := hinv
 refine W.seq (W.rg (SL.mv rfl rfl ?_))
 refine SL.val (O.fld_ref (o' := 2) rfl Try.underlying25 rfl (m := 0) (by kernel_rfl) rfl rfl Taken.no) ?_
 refine SL.val (O.ld1 (PtI.ref rfl rfl) rfl Try.underlying23 rfl rfl Taken.no) ?_
 refine SL.val (O.lenE (SlOf.fz rfl (by decide)) (by first | exact List.length_map _ | rfl) Try.underlying23 rfl Taken.no) ?_
 refine SL.val (O.det (fun _ => G.R.lss rfl rfl) rfl Taken.no) ?_
 refine E.fo ?_
 first | refine W.cond_d rfl (fun hc1 => ?_) (fun hc1 => ?_) | refine W.cond_nd rfl (fun hc1 => ?_) (fun hc1 => ?_) | refine W.cond rfl (fun hc1 => ?_) (fun hc1 => ?_)
 ·skip
  have hrk : ruOk (n : Int) rs[k]! := hf.2.2.2.2 k (by show k < rs.length; omega)
  unfold ruOk at hrk
  refine W.skip (E.to (W.seq (W.block (W.seq ?_))))
  refine W.draw [⟨[], [], [], [101]⟩, ⟨[101], [], [], []⟩, ⟨[], [], [], []⟩, ⟨[], [], [], []⟩, ⟨[], [], [], []⟩, ⟨[], [], [], []⟩, ⟨[], [], [], []⟩, ⟨[], [], [], []⟩, ⟨[], [], [], []⟩, ⟨[], [], [], [101]⟩, ⟨[101], [], [], []⟩, ⟨[], [], [], []⟩, ⟨[], [], [], []⟩, ⟨[], [], [], []⟩, ⟨[], [], [], []⟩, ⟨[], [], [], []⟩, ⟨[], [], [], []⟩, ⟨[], [], [], []⟩, ⟨[], [], [], [101]⟩, ⟨[101], [], [], []⟩, ⟨[], [], [], []⟩, ⟨[], [], [], []⟩, ⟨[], [], [], []⟩, ⟨[], [], [], []⟩, ⟨[], [], [], []⟩, ⟨[], [], [], []⟩, ⟨[], [], [], []⟩, ⟨[], [], [], []⟩] rfl (by kernel_rfl) (by kernel_rfl) rfl rfl ?_
  refine WH.val (O.fld_ref (o' := 2) rfl Try.underlying25 rfl (m := 0) (by kernel_rfl) rfl rfl Taken.no) rfl rfl ?_
  refine WH.val (O.ld1 (PtI.ref rfl rfl) rfl Try.underlying23 rfl rfl Taken.no) rfl rfl ?_
  refine WH.mv rfl rfl rfl ?_
  refine WH.val (O.idx_fz rfl rfl (rfl) (row_get (by omega)) Try.underlying23 hi38 hs38 rfl Taken.no) rfl rfl ?_
  refine WH.val (O.fld_fz rfl Try.underlying38 rfl (m := 0) (by kernel_rfl) rfl rfl Taken.no) rfl rfl ?_
  refine WH.val (O.ld1 (PtI.ofU (PtU.fz rfl)) rfl Try.underlying3 rfl rfl Taken.no) rfl rfl ?_
  refine WH.val (O.det (fun _ => G.R.eql rfl rfl) rfl Taken.no) rfl rfl ?_
  refine WH.mv rfl rfl rfl ?_
  refine WH.case (j := 7) (g := 20) (want := true) rfl rfl (fun hg2 => ?_) (fun hg2 => ?_)
  ·skip
   first | have hg2p := G.gA1 hg2 | have hg2p := G.gA2 hg2 | have hg2p := hg2
   refine WH.val (O.move rfl rfl (Taken.yes rfl rfl hg2)) rfl rfl ?_
   refine WH.val (O.fld_ref (o' := 2) rfl Try.underlying25 rfl (m := 0) (by kernel_rfl) rfl rfl (Taken.yes rfl rfl hg2)) rfl rfl ?_
   refine WH.val (O.ld1 (PtI.ref rfl rfl) rfl Try.underlying23 rfl rfl (Taken.yes rfl rfl hg2)) rfl rfl ?_
   refine WH.val (O.move rfl rfl (Taken.yes rfl rfl hg2)) rfl rfl ?_
   refine WH.val (O.idx_fz rfl rfl (rfl) (row_get (by omega)) Try.underlying23 hi38 hs38 rfl (Taken.yes rfl rfl hg2)) rfl rfl ?_
   refine WH.val (O.fld_fz rfl Try.underlying38 rfl (m := 0) (by kernel_rfl) rfl rfl (Taken.yes rfl rfl hg2)) rfl rfl ?_
   refine WH.val (O.ld1 (PtI.ofU (PtU.fz rfl)) rfl Try.underlying3 rfl rfl (Taken.yes rfl rfl hg2)) rfl rfl ?_
   refine WH.val (O.idx_fz (i := rs[k]!.a.toNat) rfl rfl (by omega) (row_get (by omega)) Try.underlying39 hi3 hs3 rfl (Taken.yes rfl rfl hg2)) rfl rfl ?_
   refine WH.val (O.ld1 (PtI.ofU (PtU.fz rfl)) rfl Try.underlying3 rfl rfl (Taken.yes rfl rfl hg2)) rfl rfl ?_
   refine WH.val (O.move rfl rfl (Taken.yes rfl rfl hg2)) rfl rfl ?_
   refine WH.val (O.fld_ref (o' := 2) rfl Try.underlying25 rfl (m := 0) (by kernel_rfl) rfl rfl (Taken.yes rfl rfl hg2)) rfl rfl ?_
   refine WH.val (O.ld1 (PtI.ref rfl rfl) rfl Try.underlying23 rfl rfl (Taken.yes rfl rfl hg2)) rfl rfl ?_
   refine WH.val (O.move rfl rfl (Taken.yes rfl rfl hg2)) rfl rfl ?_
   refine WH.val (O.idx_fz (i := k) rfl rfl (rfl) (row_get (by omega)) Try.underlying23 hi38 hs38 rfl (Taken.yes rfl rfl hg2)) rfl rfl ?_
   refine WH.val (O.fld_fz rfl Try.underlying38 rfl (m := 0) (by kernel_rfl) rfl rfl (Taken.yes rfl rfl hg2)) rfl rfl ?_
   refine WH.val (O.ld1 (PtI.ofU (PtU.fz rfl)) rfl Try.underlying3 rfl rfl (Taken.yes rfl rfl hg2)) rfl rfl ?_
   refine WH.val (O.idx_fz (i := rs[k]!.b.toNat) rfl rfl (by omega) (row_get (by omega)) Try.underlying39 hi3 hs3 rfl (Taken.yes rfl rfl hg2)) rfl rfl ?_
   refine WH.val (O.ld1 (PtI.ofU (PtU.fz rfl)) rfl Try.underlying3 rfl rfl (Taken.yes rfl rfl hg2)) rfl rfl ?_
   refine WH.val (O.det (fun _ => G.R.eql rfl rfl) rfl (Taken.yes rfl rfl hg2)) rfl rfl ?_
   refine WH.val (O.pick_t rfl hg2 rfl rfl Taken.no) rfl rfl ?_
   refine WH.nil (E.to ?_)
   refine W.pick (K:=[(1,_),(2,_),(5,_),(40,_)]) (Z:=[(101,_)]) ⟨rfl,rfl,rfl,rfl,trivial⟩ ⟨rfl,trivial⟩ ?_
   first | refine W.cond_d rfl (fun hc3 => ?_) (fun hc3 => ?_) | refine W.cond_nd rfl (fun hc3 => ?_) (fun hc3 => ?_) | refine W.cond rfl (fun hc3 => ?_) (fun hc3 => ?_)
   ·skip
    refine W.rg (SL.an rfl rfl (E.fo (W.ret ?_)))
    refine E.inr ?_
    refine E.thr (E.thr ?_)
    refine E.inr ?_
    refine E.thr ?_
    refine E.fin (rs := [_]) (rn []) (.inl rfl) rfl (.cons (ResOne.tmp rfl) .nil) ?_ ?_ rfl (fixL_spec rfl)
    ·skip
     exact iv_bool (by rw [clash_here (k := k) (m := m) (by omega) (by omega) (by omega)]; rfl)
    · exact SubS.nil
   ·skip
    refine W.skip (E.inn (E.to (W.region (SL.mv rfl rfl ?_))))
    refine SL.val (O.det (fun _ => by first | exact G.R.add64 rfl rfl (by omega) | exact G.R.add rfl rfl) rfl Taken.no) ?_
    refine SL.an rfl rfl (SL.nil ?_)
    refine E.again ((k + 1)) (rn []) ?_ ?_ rfl (fixL_spec rfl) ?_ ?_
    · exact (SubF.cons rfl (SubF.cons rfl (SubF.cons rfl SubF.nil)))
    · exact (SubS.cons rfl SubS.nil)
    ·try dsimp only
     exact ⟨by omega, clash_s (by omega) hp (fun e => by unfold clashR; exact decide_eq_false (by omega))⟩
    · (try dsimp only); omega
  ·skip
   first | have hg2p := G.gA5 hg2 | have hg2p := G.gA6 hg2 | have hg2p := hg2
   refine WH.sk rfl rfl rfl hg2 (WH.sk rfl rfl rfl hg2 (WH.sk rfl rfl rfl hg2 (WH.sk rfl rfl rfl hg2 (WH.sk rfl rfl rfl hg2 (WH.sk rfl rfl rfl hg2 (WH.sk rfl rfl rfl hg2 (WH.sk rfl rfl rfl hg2 (WH.sk rfl rfl rfl hg2 (WH.sk rfl rfl rfl hg2 (WH.sk rfl rfl rfl hg2 (WH.sk rfl rfl rfl hg2 (WH.sk rfl rfl rfl hg2 (WH.sk rfl rfl rfl hg2 (WH.sk rfl rfl rfl hg2 (WH.sk rfl rfl rfl hg2 (WH.sk rfl rfl rfl hg2 (WH.sk rfl rfl rfl hg2 (WH.sk rfl rfl rfl hg2 ?_))))))))))))))))))
   refine WH.val (O.pick_f rfl (G.ne_t hg2) rfl rfl Taken.no) rfl rfl ?_
   refine WH.nil (E.to ?_)
   refine W.pick (K:=[(1,_),(2,_),(5,_),(40,_)]) (Z:=[(101,_)]) ⟨rfl,rfl,rfl,rfl,trivial⟩ ⟨rfl,trivial⟩ ?_
   refine W.cond_f rfl ?_
   refine W.skip (E.inn (E.to (W.region (SL.mv rfl rfl ?_))))
   refine SL.val (O.det (fun _ => by first | exact G.R.add64 rfl rfl (by omega) | exact G.R.add rfl rfl) rfl Taken.no) ?_
   refine SL.an rfl rfl (SL.nil ?_)
   refine E.again ((k + 1)) (rn []) ?_ ?_ rfl (fixL_spec rfl) ?_ ?_
   · exact (SubF.cons rfl (SubF.cons rfl (SubF.cons rfl SubF.nil)))
   · exact (SubS.cons rfl SubS.nil)
   ·try dsimp only
    exact ⟨by omega, clash_s (by omega) hp (fun e => by unfold clashR; exact decide_eq_false (by omega))⟩
   · (try dsimp only); omega
 ·skip
  refine W.exit (E.th (E.th (E.hit (E.to (W.rg (SL.an rfl rfl (E.fo (W.ret ?_))))))))
  refine E.fin (rs := [_]) (rn []) (.inl rfl) rfl (.cons (ResOne.tmp rfl) .nil) ?_ ?_ rfl (fixL_spec rfl)
  ·skip
   exact iv_bool (by rw [show k = rs.length by omega, List.take_length] at hp; rw [hp]; rfl)
  · exact SubS.nil

end Go.Proofs.Ytppamigboeaefaa
end
section
namespace Go.D33
open Go Go.RowKit Go.H
theorem upd2_iff {f : Nat → Nat → Bool} {a b i j : Nat} : upd2 f a b true i j = true ↔ ((i = a ∧ j = b) ∨ (i = b ∧ j = a)) ∨ f i j = true := by
  unfold upd2
  split
  · rename_i h; exact ⟨fun _ => .inl h, fun _ => rfl⟩
  · rename_i h; exact ⟨.inr, fun q => q.resolve_left h⟩
theorem mF_iff : ∀ (rs : List Ru) {f : Nat → Nat → Bool} {i j : Nat}, mF f rs i j = true ↔ f i j = true ∨ ∃ r ∈ rs, r.k ≠ 2 ∧ ((i = r.a.toNat ∧ j = r.b.toNat) ∨ (i = r.b.toNat ∧ j = r.a.toNat))
  | [], f, i, j => by simp [mF]
  | r :: rs, f, i, j => by
    show mF (addM f r) rs i j = true ↔ _
    rw [mF_iff rs]
    by_cases h : r.k = 2
    · rw [addM_n h]
      refine or_congr Iff.rfl ⟨fun ⟨x, hx, q⟩ => ⟨x, List.mem_cons_of_mem _ hx, q⟩, fun ⟨x, hx, q⟩ => ?_⟩
      rcases List.mem_cons.1 hx with e | hx
      · subst e; exact absurd h q.1
      · exact ⟨x, hx, q⟩
    · rw [addM_y h, upd2_iff]
      constructor
      · rintro ((q | q) | ⟨x, hx, q⟩)
        · exact .inr ⟨r, List.mem_cons_self, h, q⟩
        · exact .inl q
        · exact .inr ⟨x, List.mem_cons_of_mem _ hx, q⟩
      · rintro (q | ⟨x, hx, q⟩)
        · exact .inl (.inr q)
        · rcases List.mem_cons.1 hx with e | hx
          · subst e; exact .inl (.inl q.2)
          · exact .inr ⟨x, hx, q⟩
theorem lF_iff {ps : List Pr} {i j : Nat} : lF ps i j = true ↔ ∃ x ∈ ps, 0 < x.w ∧ ((i = x.a.toNat ∧ j = x.b.toNat) ∨ (i = x.b.toNat ∧ j = x.a.toNat)) := by
  have key : ∀ (ps : List Pr) (f : Nat → Nat → Bool), ps.foldl addL f i j = true ↔ f i j = true ∨ ∃ x ∈ ps, 0 < x.w ∧ ((i = x.a.toNat ∧ j = x.b.toNat) ∨ (i = x.b.toNat ∧ j = x.a.toNat)) := by
    intro ps
    induction ps with
    | nil => intro f; simp
    | cons r ps ih =>
      intro f
      rw [List.foldl_cons, ih]
      by_cases h : 0 < r.w
      · rw [addL_y h, upd2_iff]
        constructor
        · rintro ((q | q) | ⟨x, hx, q⟩)
          · exact .inr ⟨r, List.mem_cons_self, h, q⟩
          · exact .inl q
          · exact .inr ⟨x, List.mem_cons_of_mem _ hx, q⟩
        · rintro (q | ⟨x, hx, q⟩)
          · exact .inl (.inr q)
          · rcases List.mem_cons.1 hx with e | hx
            · subst e; exact .inl (.inl q.2)
            · exact .inr ⟨x, hx, q⟩
      · rw [addL_n h]
        refine or_congr Iff.rfl ⟨fun ⟨x, hx, q⟩ => ⟨x, List.mem_cons_of_mem _ hx, q⟩, fun ⟨x, hx, q⟩ => ?_⟩
        rcases List.mem_cons.1 hx with e | hx
        · subst e; exact absurd q.1 h
        · exact ⟨x, hx, q⟩
  rw [lF, key]; simp
section
variable {n : Nat} {ps : List Pr} {rs : List Ru}
theorem ru_lt (h : (Prob.mk (n : Int) ps rs).formed) {x : Ru} (hx : x ∈ rs) : x.a.toNat < n ∧ x.b.toNat < n ∧ (x.k ≠ 2 ↔ x.k = 1) := by
  have := formed_ru h hx
  unfold ruOk at this
  have h2 : (Prob.mk (n : Int) ps rs).n = (n : Int) := rfl
  rw [h2] at this
  omega
theorem pr_lt (h : (Prob.mk (n : Int) ps rs).formed) {x : Pr} (hx : x ∈ ps) : x.a.toNat < n ∧ x.b.toNat < n := by
  have := formed_pr h hx
  unfold prOk at this
  have h2 : (Prob.mk (n : Int) ps rs).n = (n : Int) := rfl
  rw [h2] at this
  omega
theorem mem_muE {e : Nat × Nat} : e ∈ muE rs ↔ ∃ r ∈ rs, r.k = 1 ∧ e = (r.a.toNat, r.b.toNat) := by
  unfold muE
  rw [List.mem_map]
  constructor
  · rintro ⟨r, hr, rfl⟩
    have := List.mem_filter.1 hr
    exact ⟨r, this.1, of_decide_eq_true this.2, rfl⟩
  · rintro ⟨r, hr, e1, rfl⟩
    exact ⟨r, List.mem_filter.2 ⟨hr, decide_eq_true e1⟩, rfl⟩
theorem mem_psE {m : List Nat} {e : Nat × Nat} : e ∈ psE m ps ↔ ∃ x ∈ ps, (0 < x.w ∧ m[x.a.toNat]! = m[x.b.toNat]!) ∧ e = (x.a.toNat, x.b.toNat) := by
  unfold psE
  rw [List.mem_map]
  constructor
  · rintro ⟨r, hr, rfl⟩
    have := List.mem_filter.1 hr
    exact ⟨r, this.1, of_decide_eq_true this.2, rfl⟩
  · rintro ⟨r, hr, e1, rfl⟩
    exact ⟨r, List.mem_filter.2 ⟨hr, decide_eq_true e1⟩, rfl⟩
theorem mem_rsE {m : List Nat} {e : Nat × Nat} : e ∈ rsE m rs ↔ ∃ x ∈ rs, (x.k = 1 ∧ m[x.a.toNat]! = m[x.b.toNat]!) ∧ e = (x.a.toNat, x.b.toNat) := by
  unfold rsE
  rw [List.mem_map]
  constructor
  · rintro ⟨r, hr, rfl⟩
    have := List.mem_filter.1 hr
    exact ⟨r, this.1, of_decide_eq_true this.2, rfl⟩
  · rintro ⟨r, hr, e1, rfl⟩
    exact ⟨r, List.mem_filter.2 ⟨hr, decide_eq_true e1⟩, rfl⟩
theorem atoms_eq (h : (Prob.mk (n : Int) ps rs).formed) : atomsL n rs = namedL n (partsL (mu rs) (List.range n)) := by
  have hb : ∀ e ∈ muE rs, e.1 < n ∧ e.2 < n := fun e he => by
    obtain ⟨r, hr, _, rfl⟩ := mem_muE.1 he
    exact ⟨(ru_lt h hr).1, (ru_lt h hr).2.1⟩
  have h1 := Comp.joins0 (n := n) hb
  have h2 := comp_parts (n := n) (mu_sym rs)
  refine h1.uniq (h2.congr (fun i j q => hb _ q) (fun i j q => ?_) fun i j q => ?_)
  · obtain ⟨r, hr, e, e2⟩ := mem_muE.1 q
    cases e2
    obtain ⟨l1, l2, l3⟩ := ru_lt h hr
    exact .base ⟨(mF_iff rs).2 (.inr ⟨r, hr, l3.2 e, .inl ⟨rfl, rfl⟩⟩), l1, l2⟩
  · obtain ⟨q1, q2, q3⟩ := q
    rcases (mF_iff rs).1 q1 with q1 | ⟨r, hr, hk, q | q⟩
    · cases q1
    · obtain ⟨rfl, rfl⟩ := q
      exact .base (mem_muE.2 ⟨r, hr, (ru_lt h hr).2.2.1 hk, rfl⟩)
    · obtain ⟨rfl, rfl⟩ := q
      exact .symm (.base (mem_muE.2 ⟨r, hr, (ru_lt h hr).2.2.1 hk, rfl⟩))
theorem conn_comp (h : (Prob.mk (n : Int) ps rs).formed) (m : List Nat) : Comp n (fun i j => (i, j) ∈ psE m ps ∨ (i, j) ∈ rsE m rs) (connL n ps rs m) := by
  have h1 := Comp.joins0 (n := n) (es := psE m ps) fun e he => by
    obtain ⟨r, hr, _, rfl⟩ := mem_psE.1 he
    exact pr_lt h hr
  exact h1.joins (es := rsE m rs) fun e he => by
    obtain ⟨r, hr, _, rfl⟩ := mem_rsE.1 he
    exact ⟨(ru_lt h hr).1, (ru_lt h hr).2.1⟩
theorem bad_eq (h : (Prob.mk (n : Int) ps rs).formed) : (Prob.mk (n : Int) ps rs).bad = clash (barL rs) (atomsL n rs) := by
  rw [atoms_eq h]; rfl
end
/-! ### The reference's values and permitted partitions -/
def addV (m : List Nat) (n : Int) (x : Pr) : Int := if m[x.a.toNat]! = m[x.b.toNat]! then n + x.w else n
def valR (m : List Nat) (ps : List Pr) : Int := ps.foldl (addV m) 0
theorem valR_s {m : List Nat} {ps : List Pr} {k : Nat} (h : k < ps.length) : valR m (ps.take (k + 1)) = addV m (valR m (ps.take k)) ps[k]! := by rw [valR, snocP h, List.foldl_append]; rfl
theorem valR_b {m : List Nat} {ps : List Pr} (hp : ∀ x ∈ ps, -1000 ≤ x.w ∧ x.w ≤ 1000) : ∀ k : Nat, k ≤ ps.length → -1000 * (k : Int) ≤ valR m (ps.take k) ∧ valR m (ps.take k) ≤ 1000 * (k : Int)
  | 0, _ => by simp [valR]
  | k + 1, h => by
    have ih := valR_b (m := m) hp k (by omega)
    have := hp ps[k]! (mem_at (by omega))
    rw [valR_s (by omega), addV]
    split <;> omega
def permR (n : Nat) (ps : List Pr) (rs : List Ru) (m : List Nat) : Prop := clash (barL rs) m = false ∧ (∀ i, i < n → m[i]! = m[(atomsL n rs)[i]!]!) ∧ connL n ps rs m = m
instance (n : Nat) (ps : List Pr) (rs : List Ru) (m : List Nat) : Decidable (permR n ps rs m) := by unfold permR; infer_instance
def permS (n : Nat) (ps : List Pr) (rs : List Ru) (l : List Int) : Prop := isPart n l ∧ permR n ps rs (l.map Int.toNat)
instance (n : Nat) (ps : List Pr) (rs : List Ru) (l : List Int) : Decidable (permS n ps rs l) := by unfold permS; infer_instance
def valSI (n : Nat) (ps : List Pr) (l : List Int) : Int := if isPart n l then valR (l.map Int.toNat) ps else 0
end Go.D33
end
section
namespace Go.Proofs.Ytppamigboeaefaa
open Go Go.RowKit Go.H Go.D33

theorem hcallOk35 : G.callOk Try.prog 35 = true := by kernel_rfl
theorem hcallOk36 : G.callOk Try.prog 36 = true := by kernel_rfl
theorem hcallOk37 : G.callOk Try.prog 37 = true := by kernel_rfl

set_option maxRecDepth 8000 in
set_option maxHeartbeats 3200000 in
/-- bookplate/bookplateref33.formed. -/
theorem refformed_h {N : Int} {ps : List Pr} {rs : List Ru} :
    Con Try.prog 35 [vA [uI N, .sl 3 (ps.map ePr), .sl 3 (rs.map eRu)]] [] (vB (decide (Prob.mk N ps rs).formed)) [] := by
 obtain ⟨i35, hi35, hz35, hs35, hb35⟩ := hinf35
 obtain ⟨i38, hi38, hz38, hs38, hb38⟩ := hinf38
 refine Con.enterL (n := 149) Try.func35 rfl rfl rfl (fun τ w ok vs hin => ?_)
 have hl0_1 := hin.lenA (i := 0) (j := 1) rfl rfl
 try rw [List.length_map] at hl0_1
 have hl0_2 := hin.lenA (i := 0) (j := 2) rfl rfl
 try rw [List.length_map] at hl0_2
 clear hin
 refine W.rg ?_
 refine SL.memS (O.box (is := [_, _, _]) 101 rfl rfl (by simp) rfl rfl Taken.no) rfl rfl (S' := (101, _) :: _) rfl ?_
 refine SL.an rfl rfl (E.fo (W.seq (W.rg ?_)))
 refine SL.val (O.fld_ref (o' := 0) rfl Try.underlying25 rfl (m := 0) (by kernel_rfl) rfl rfl Taken.no) ?_
 refine SL.val (O.ld1 (PtI.ref rfl rfl) rfl Try.underlying3 rfl rfl Taken.no) ?_
 refine SL.val (O.det (fun _ => G.R.lss rfl rfl) rfl Taken.no) ?_
 refine SL.mv rfl rfl ?_
 refine SL.case (j := 3) (g := 10) (want := false) rfl rfl (fun hg1 => ?_) (fun hg1 => ?_)
 ·skip
  first | have hg1p := G.gA3 hg1 | have hg1p := G.gA4 hg1 | have hg1p := hg1
  refine SL.val (O.fld_ref (o' := 0) rfl Try.underlying25 rfl (m := 0) (by kernel_rfl) rfl rfl (Taken.yes rfl rfl hg1)) ?_
  refine SL.val (O.ld1 (PtI.ref rfl rfl) rfl Try.underlying3 rfl rfl (Taken.yes rfl rfl hg1)) ?_
  refine SL.val (O.det (fun _ => G.R.gtr rfl rfl) rfl (Taken.yes rfl rfl hg1)) ?_
  refine SL.val (O.pick_f rfl hg1 rfl rfl Taken.no) ?_
  refine SL.mv rfl rfl ?_
  refine SL.case (j := 8) (g := 15) (want := false) rfl rfl (fun hg2 => ?_) (fun hg2 => ?_)
  ·skip
   first | have hg2p := G.gA3 hg2 | have hg2p := G.gA4 hg2 | have hg2p := hg2
   refine SL.val (O.fld_ref (o' := 2) rfl Try.underlying25 rfl (m := 0) (by kernel_rfl) rfl rfl (Taken.yes rfl rfl hg2)) ?_
   refine SL.val (O.ld1 (PtI.ref rfl rfl) rfl Try.underlying23 rfl rfl (Taken.yes rfl rfl hg2)) ?_
   refine SL.val (O.lenE (SlOf.fz rfl (by decide)) (by first | exact List.length_map _ | rfl) Try.underlying23 rfl (Taken.yes rfl rfl hg2)) ?_
   refine SL.val (O.det (fun _ => G.R.gtr rfl rfl) rfl (Taken.yes rfl rfl hg2)) ?_
   refine SL.val (O.pick_f rfl hg2 rfl rfl Taken.no) ?_
   refine E.fo ?_
   first | refine W.cond_d rfl (fun hc3 => ?_) (fun hc3 => ?_) | refine W.cond_nd rfl (fun hc3 => ?_) (fun hc3 => ?_) | refine W.cond rfl (fun hc3 => ?_) (fun hc3 => ?_)
   ·skip
    refine W.rg (SL.an rfl rfl (E.fo (W.ret (E.thr ?_))))
    refine E.fin (rs := [_]) (rn []) (.inl rfl) rfl (.cons (ResOne.tmp rfl) .nil) ?_ ?_ rfl (fixL_spec rfl)
    ·skip
     exact iv_bool (dec_f fun q => by have q1 : 0 ≤ N := q.1; have q2 : N ≤ 200 := q.2.1; have q3 : rs.length ≤ 400 := q.2.2.1; omega)
    · exact SubS.nil
   ·skip
    have hN0 : 0 ≤ N := by omega
    have hN2 : N ≤ 200 := by omega
    have hr4 : rs.length ≤ 400 := by omega
    refine W.skip (E.to (W.seq (W.rg (SL.an rfl rfl (E.fo (W.block ?_))))))
    refine W.loopx1 (fun (k : Nat) => [(3, vI (k : Int))]) (fun (k : Nat) => []) (fun (k : Nat) => k ≤ ps.length ∧ pOk (Prob.mk N ps rs) k) (fun (k : Nat) => ps.length - k) (0) (rn []) (.cons (t := 1) rfl .nil) (.cons (t := 101) rfl .nil) rfl ?_ ?_ rfl rfl ?_ ?_
    · exact (SubF.cons rfl SubF.nil)
    · exact SubS.nil
    ·skip
     exact ⟨by omega, fun i h => by omega⟩
    intro k hinv
    obtain ⟨hk, hp⟩ := hinv
    refine W.seq (W.rg (SL.mv rfl rfl ?_))
    refine SL.val (O.fld_ref (o' := 1) rfl Try.underlying25 rfl (m := 0) (by kernel_rfl) rfl rfl Taken.no) ?_
    refine SL.val (O.ld1 (PtI.ref rfl rfl) rfl Try.underlying22 rfl rfl Taken.no) ?_
    refine SL.val (O.lenE (SlOf.fz rfl (by decide)) (by first | exact List.length_map _ | rfl) Try.underlying22 rfl Taken.no) ?_
    refine SL.val (O.det (fun _ => G.R.lss rfl rfl) rfl Taken.no) ?_
    refine E.fo ?_
    first | refine W.cond_d rfl (fun hc4 => ?_) (fun hc4 => ?_) | refine W.cond_nd rfl (fun hc4 => ?_) (fun hc4 => ?_) | refine W.cond rfl (fun hc4 => ?_) (fun hc4 => ?_)
    ·skip
     refine W.skip (E.to (W.seq (W.block (W.rg ?_))))
     refine SL.val (O.fld_ref (o' := 1) rfl Try.underlying25 rfl (m := 0) (by kernel_rfl) rfl rfl Taken.no) ?_
     refine SL.val (O.ld1 (PtI.ref rfl rfl) rfl Try.underlying22 rfl rfl Taken.no) ?_
     refine SL.mv rfl rfl ?_
     refine SL.val (O.idx_fz rfl rfl (rfl) (row_get (by omega)) Try.underlying22 hi35 hs35 rfl Taken.no) ?_
     refine SL.val (O.ldU (m := 3) (PtU.fz rfl) rfl Try.underlying35 rfl (by kernel_rfl) rfl Taken.no) ?_
     refine SL.memS (O.alloc (z := .agg #[.int .i64 0, .int .i64 0, .int .i64 0]) (is := [.u (.sc (.int .i64 0)), .u (.sc (.int .i64 0)), .u (.sc (.int .i64 0))]) 102 (by kernel_rfl) rfl rfl rfl Taken.no) rfl rfl (S' := (102, _) :: _) rfl ?_
     refine SL.effS (O.st_ref (m := 3) rfl rfl rfl (js := [_, _, _]) rfl rfl (by kernel_rfl) (by simp) (Nat.le_of_ble_eq_true rfl) rfl (is' := [_, _, _]) rfl Taken.no) (S' := (102, _) :: _) rfl ?_
     refine E.fo (W.seq (W.rg ?_))
     refine SL.val (O.fld_ref (o' := 0) rfl Try.underlying35 rfl (m := 0) (by kernel_rfl) rfl rfl Taken.no) ?_
     refine SL.val (O.ld1 (PtI.ref rfl rfl) rfl Try.underlying3 rfl rfl Taken.no) ?_
     refine SL.val (O.det (fun _ => G.R.lss rfl rfl) rfl Taken.no) ?_
     refine SL.mv rfl rfl ?_
     refine SL.case (j := 3) (g := 36) (want := false) rfl rfl (fun hg5 => ?_) (fun hg5 => ?_)
     ·skip
      first | have hg5p := G.gA3 hg5 | have hg5p := G.gA4 hg5 | have hg5p := hg5
      refine SL.val (O.fld_ref (o' := 0) rfl Try.underlying35 rfl (m := 0) (by kernel_rfl) rfl rfl (Taken.yes rfl rfl hg5)) ?_
      refine SL.val (O.ld1 (PtI.ref rfl rfl) rfl Try.underlying3 rfl rfl (Taken.yes rfl rfl hg5)) ?_
      refine SL.val (O.fld_ref (o' := 1) rfl Try.underlying35 rfl (m := 0) (by kernel_rfl) rfl rfl (Taken.yes rfl rfl hg5)) ?_
      refine SL.val (O.ld1 (PtI.ref rfl rfl) rfl Try.underlying3 rfl rfl (Taken.yes rfl rfl hg5)) ?_
      refine SL.val (O.det (fun _ => G.R.geq rfl rfl) rfl (Taken.yes rfl rfl hg5)) ?_
      refine SL.val (O.pick_f rfl hg5 rfl rfl Taken.no) ?_
      refine SL.mv rfl rfl ?_
      refine SL.case (j := 10) (g := 43) (want := false) rfl rfl (fun hg6 => ?_) (fun hg6 => ?_)
      ·skip
       first | have hg6p := G.gA3 hg6 | have hg6p := G.gA4 hg6 | have hg6p := hg6
       refine SL.val (O.fld_ref (o' := 1) rfl Try.underlying35 rfl (m := 0) (by kernel_rfl) rfl rfl (Taken.yes rfl rfl hg6)) ?_
       refine SL.val (O.ld1 (PtI.ref rfl rfl) rfl Try.underlying3 rfl rfl (Taken.yes rfl rfl hg6)) ?_
       refine SL.val (O.fld_ref (o' := 0) rfl Try.underlying25 rfl (m := 0) (by kernel_rfl) rfl rfl (Taken.yes rfl rfl hg6)) ?_
       refine SL.val (O.ld1 (PtI.ref rfl rfl) rfl Try.underlying3 rfl rfl (Taken.yes rfl rfl hg6)) ?_
       refine SL.val (O.det (fun _ => G.R.geq rfl rfl) rfl (Taken.yes rfl rfl hg6)) ?_
       refine SL.val (O.pick_f rfl hg6 rfl rfl Taken.no) ?_
       refine SL.mv rfl rfl ?_
       refine SL.case (j := 17) (g := 50) (want := false) rfl rfl (fun hg7 => ?_) (fun hg7 => ?_)
       ·skip
        first | have hg7p := G.gA3 hg7 | have hg7p := G.gA4 hg7 | have hg7p := hg7
        refine SL.val (O.fld_ref (o' := 2) rfl Try.underlying35 rfl (m := 0) (by kernel_rfl) rfl rfl (Taken.yes rfl rfl hg7)) ?_
        refine SL.val (O.ld1 (PtI.ref rfl rfl) rfl Try.underlying3 rfl rfl (Taken.yes rfl rfl hg7)) ?_
        refine SL.val (O.det (fun _ => G.R.lss rfl rfl) rfl (Taken.yes rfl rfl hg7)) ?_
        refine SL.val (O.pick_f rfl hg7 rfl rfl Taken.no) ?_
        refine SL.mv rfl rfl ?_
        refine SL.case (j := 22) (g := 55) (want := false) rfl rfl (fun hg8 => ?_) (fun hg8 => ?_)
        ·skip
         first | have hg8p := G.gA3 hg8 | have hg8p := G.gA4 hg8 | have hg8p := hg8
         refine SL.val (O.fld_ref (o' := 2) rfl Try.underlying35 rfl (m := 0) (by kernel_rfl) rfl rfl (Taken.yes rfl rfl hg8)) ?_
         refine SL.val (O.ld1 (PtI.ref rfl rfl) rfl Try.underlying3 rfl rfl (Taken.yes rfl rfl hg8)) ?_
         refine SL.val (O.det (fun _ => G.R.gtr rfl rfl) rfl (Taken.yes rfl rfl hg8)) ?_
         refine SL.val (O.pick_f rfl hg8 rfl rfl Taken.no) ?_
         refine E.fo ?_
         refine W.pick (K:=[(1,_),(3,_),(4,_),(59,_)]) (Z:=[(101,_),(102,_)]) ⟨rfl,rfl,rfl,rfl,trivial⟩ ⟨rfl,rfl,trivial⟩ ?_
         first | refine W.cond_d rfl (fun hc9 => ?_) (fun hc9 => ?_) | refine W.cond_nd rfl (fun hc9 => ?_) (fun hc9 => ?_) | refine W.cond rfl (fun hc9 => ?_) (fun hc9 => ?_)
         ·skip
          refine W.rg (SL.an rfl rfl (E.fo (W.ret (E.thr ?_))))
          refine E.inr ?_
          refine E.thr (E.thr ?_)
          refine E.inr ?_
          refine E.thr ?_
          refine E.fin (rs := [_]) (rn []) (.inl rfl) rfl (.cons (ResOne.tmp rfl) .nil) ?_ ?_ rfl (fixL_spec rfl)
          ·skip
           exact iv_bool (dec_f (formed_no (p := (Prob.mk N ps rs)) (i := k) (show k < ps.length by omega) (fun q : prOk N ps[k]! => by unfold prOk at q; omega)))
          · exact SubS.nil
         ·skip
          have hpk : prOk N ps[k]! := by unfold prOk; omega
          refine W.skip (E.to (W.seq ?_))
          refine W.draw [⟨[], [], [], []⟩, ⟨[], [], [], []⟩, ⟨[], [], [], []⟩, ⟨[], [], [], [101]⟩, ⟨[101], [], [], []⟩, ⟨[], [], [], []⟩, ⟨[], [], [], []⟩, ⟨[], [], [], []⟩, ⟨[], [], [], []⟩, ⟨[], [], [], []⟩, ⟨[], [], [], [102]⟩, ⟨[102], [], [], []⟩, ⟨[], [], [], []⟩, ⟨[], [], [], []⟩, ⟨[], [], [], [101]⟩, ⟨[101], [], [], []⟩, ⟨[], [], [], []⟩, ⟨[], [], [], []⟩, ⟨[], [], [], []⟩, ⟨[], [], [], []⟩, ⟨[], [], [], []⟩, ⟨[], [], [], [102]⟩, ⟨[102], [], [], []⟩, ⟨[], [], [], []⟩, ⟨[], [], [], []⟩, ⟨[], [], [], [101]⟩, ⟨[101], [], [], []⟩, ⟨[], [], [], []⟩, ⟨[], [], [], []⟩, ⟨[], [], [], []⟩, ⟨[], [], [], []⟩, ⟨[], [], [], []⟩, ⟨[], [], [], [102]⟩, ⟨[102], [], [], []⟩, ⟨[], [], [], []⟩, ⟨[], [], [], []⟩, ⟨[], [], [], []⟩, ⟨[], [], [], []⟩] rfl (by kernel_rfl) (by kernel_rfl) rfl rfl ?_
          refine WH.mv rfl rfl rfl ?_
          refine WH.val (O.det (fun _ => G.R.gtr rfl rfl) rfl Taken.no) rfl rfl ?_
          refine WH.mv rfl rfl rfl ?_
          refine WH.case (j := 2) (g := 62) (want := true) rfl rfl (fun hg10 => ?_) (fun hg10 => ?_)
          ·skip
           first | have hg10p := G.gA1 hg10 | have hg10p := G.gA2 hg10 | have hg10p := hg10
           refine WH.val (O.fld_ref (o' := 1) rfl Try.underlying25 rfl (m := 0) (by kernel_rfl) rfl rfl (Taken.yes rfl rfl hg10)) rfl rfl ?_
           refine WH.val (O.ld1 (PtI.ref rfl rfl) rfl Try.underlying22 rfl rfl (Taken.yes rfl rfl hg10)) rfl rfl ?_
           refine WH.val (O.move rfl rfl (Taken.yes rfl rfl hg10)) rfl rfl ?_
           refine WH.val (O.det (fun _ => by first | exact G.R.sub64 rfl rfl (by omega) | exact G.R.sub rfl rfl) rfl (Taken.yes rfl rfl hg10)) rfl rfl ?_
           refine WH.val (O.idx_fz (i := (k - 1)) rfl rfl (by omega) (row_get (by omega)) Try.underlying22 hi35 hs35 rfl (Taken.yes rfl rfl hg10)) rfl rfl ?_
           refine WH.val (O.fld_fz rfl Try.underlying35 rfl (m := 0) (by kernel_rfl) rfl rfl (Taken.yes rfl rfl hg10)) rfl rfl ?_
           refine WH.val (O.ld1 (PtI.ofU (PtU.fz rfl)) rfl Try.underlying3 rfl rfl (Taken.yes rfl rfl hg10)) rfl rfl ?_
           refine WH.val (O.fld_ref (o' := 0) rfl Try.underlying35 rfl (m := 0) (by kernel_rfl) rfl rfl (Taken.yes rfl rfl hg10)) rfl rfl ?_
           refine WH.val (O.ld1 (PtI.ref rfl rfl) rfl Try.underlying3 rfl rfl (Taken.yes rfl rfl hg10)) rfl rfl ?_
           refine WH.val (O.det (fun _ => G.R.gtr rfl rfl) rfl (Taken.yes rfl rfl hg10)) rfl rfl ?_
           refine WH.val (O.move rfl rfl (Taken.yes rfl rfl hg10)) rfl rfl ?_
           refine WH.case (j := 13) (g := 73) (want := false) rfl rfl (fun hg11 => ?_) (fun hg11 => ?_)
           ·skip
            first | have hg11p := G.gA3 hg11 | have hg11p := G.gA4 hg11 | have hg11p := hg11
            refine WH.val (O.fld_ref (o' := 1) rfl Try.underlying25 rfl (m := 0) (by kernel_rfl) rfl rfl (Taken.yes rfl rfl hg11)) rfl rfl ?_
            refine WH.val (O.ld1 (PtI.ref rfl rfl) rfl Try.underlying22 rfl rfl (Taken.yes rfl rfl hg11)) rfl rfl ?_
            refine WH.val (O.move rfl rfl (Taken.yes rfl rfl hg11)) rfl rfl ?_
            refine WH.val (O.det (fun _ => by first | exact G.R.sub64 rfl rfl (by omega) | exact G.R.sub rfl rfl) rfl (Taken.yes rfl rfl hg11)) rfl rfl ?_
            refine WH.val (O.idx_fz (i := (k - 1)) rfl rfl (by omega) (row_get (by omega)) Try.underlying22 hi35 hs35 rfl (Taken.yes rfl rfl hg11)) rfl rfl ?_
            refine WH.val (O.fld_fz rfl Try.underlying35 rfl (m := 0) (by kernel_rfl) rfl rfl (Taken.yes rfl rfl hg11)) rfl rfl ?_
            refine WH.val (O.ld1 (PtI.ofU (PtU.fz rfl)) rfl Try.underlying3 rfl rfl (Taken.yes rfl rfl hg11)) rfl rfl ?_
            refine WH.val (O.fld_ref (o' := 0) rfl Try.underlying35 rfl (m := 0) (by kernel_rfl) rfl rfl (Taken.yes rfl rfl hg11)) rfl rfl ?_
            refine WH.val (O.ld1 (PtI.ref rfl rfl) rfl Try.underlying3 rfl rfl (Taken.yes rfl rfl hg11)) rfl rfl ?_
            refine WH.val (O.det (fun _ => G.R.eql rfl rfl) rfl (Taken.yes rfl rfl hg11)) rfl rfl ?_
            refine WH.val (O.move rfl rfl (Taken.yes rfl rfl hg11)) rfl rfl ?_
            refine WH.case (j := 24) (g := 84) (want := true) rfl rfl (fun hg12 => ?_) (fun hg12 => ?_)
            ·skip
             first | have hg12p := G.gA1 hg12 | have hg12p := G.gA2 hg12 | have hg12p := hg12
             refine WH.val (O.fld_ref (o' := 1) rfl Try.underlying25 rfl (m := 0) (by kernel_rfl) rfl rfl (Taken.yes rfl rfl hg12)) rfl rfl ?_
             refine WH.val (O.ld1 (PtI.ref rfl rfl) rfl Try.underlying22 rfl rfl (Taken.yes rfl rfl hg12)) rfl rfl ?_
             refine WH.val (O.move rfl rfl (Taken.yes rfl rfl hg12)) rfl rfl ?_
             refine WH.val (O.det (fun _ => by first | exact G.R.sub64 rfl rfl (by omega) | exact G.R.sub rfl rfl) rfl (Taken.yes rfl rfl hg12)) rfl rfl ?_
             refine WH.val (O.idx_fz (i := (k - 1)) rfl rfl (by omega) (row_get (by omega)) Try.underlying22 hi35 hs35 rfl (Taken.yes rfl rfl hg12)) rfl rfl ?_
             refine WH.val (O.fld_fz rfl Try.underlying35 rfl (m := 0) (by kernel_rfl) rfl rfl (Taken.yes rfl rfl hg12)) rfl rfl ?_
             refine WH.val (O.ld1 (PtI.ofU (PtU.fz rfl)) rfl Try.underlying3 rfl rfl (Taken.yes rfl rfl hg12)) rfl rfl ?_
             refine WH.val (O.fld_ref (o' := 1) rfl Try.underlying35 rfl (m := 0) (by kernel_rfl) rfl rfl (Taken.yes rfl rfl hg12)) rfl rfl ?_
             refine WH.val (O.ld1 (PtI.ref rfl rfl) rfl Try.underlying3 rfl rfl (Taken.yes rfl rfl hg12)) rfl rfl ?_
             refine WH.val (O.det (fun _ => G.R.geq rfl rfl) rfl (Taken.yes rfl rfl hg12)) rfl rfl ?_
             refine WH.val (O.pick_t rfl hg12 rfl rfl (Taken.yes rfl rfl hg11)) rfl rfl ?_
             refine WH.val (O.pick_f rfl hg11 rfl rfl (Taken.yes rfl rfl hg10)) rfl rfl ?_
             refine WH.val (O.pick_t rfl hg10 rfl rfl Taken.no) rfl rfl ?_
             refine WH.nil (E.to ?_)
             refine W.pick (K:=[(1,_),(3,_),(97,_)]) (Z:=[(101,_),(102,_)]) ⟨rfl,rfl,rfl,trivial⟩ ⟨rfl,rfl,trivial⟩ ?_
             first | refine W.cond_d rfl (fun hc13 => ?_) (fun hc13 => ?_) | refine W.cond_nd rfl (fun hc13 => ?_) (fun hc13 => ?_) | refine W.cond rfl (fun hc13 => ?_) (fun hc13 => ?_)
             ·skip
              refine W.rg (SL.an rfl rfl (E.fo (W.ret ?_)))
              refine E.inr ?_
              refine E.thr (E.thr ?_)
              refine E.inr ?_
              refine E.thr ?_
              refine E.fin (rs := [_]) (rn []) (.inl rfl) rfl (.cons (ResOne.tmp rfl) .nil) ?_ ?_ rfl (fixL_spec rfl)
              ·skip
               exact iv_bool (dec_f (formed_na (p := (Prob.mk N ps rs)) (i := k) (show k < ps.length by omega) (by omega) (fun q : prAsc ps[k - 1]! ps[k]! => by unfold prAsc at q; omega)))
              · exact SubS.nil
             ·skip
              refine W.skip (E.inn (E.to (W.region (SL.mv rfl rfl ?_))))
              refine SL.val (O.det (fun _ => by first | exact G.R.add64 rfl rfl (by omega) | exact G.R.add rfl rfl) rfl Taken.no) ?_
              refine SL.an rfl rfl (SL.nil ?_)
              refine E.again ((k + 1)) (rn []) ?_ ?_ rfl (fixL_spec rfl) ?_ ?_
              · exact (SubF.cons rfl (SubF.cons rfl SubF.nil))
              · exact (SubS.cons rfl SubS.nil)
              ·try dsimp only
               exact ⟨by omega, pOk_s hp hpk (fun h0 => by show prAsc ps[k - 1]! ps[k]!; unfold prAsc; omega)⟩
              · (try dsimp only); omega
            ·skip
             first | have hg12p := G.gA5 hg12 | have hg12p := G.gA6 hg12 | have hg12p := hg12
             refine WH.sk rfl rfl rfl hg12 (WH.sk rfl rfl rfl hg12 (WH.sk rfl rfl rfl hg12 (WH.sk rfl rfl rfl hg12 (WH.sk rfl rfl rfl hg12 (WH.sk rfl rfl rfl hg12 (WH.sk rfl rfl rfl hg12 (WH.sk rfl rfl rfl hg12 (WH.sk rfl rfl rfl hg12 (WH.sk rfl rfl rfl hg12 ?_)))))))))
             refine WH.val (O.pick_f rfl (G.ne_t hg12) rfl rfl (Taken.yes rfl rfl hg11)) rfl rfl ?_
             refine WH.val (O.pick_f rfl hg11 rfl rfl (Taken.yes rfl rfl hg10)) rfl rfl ?_
             refine WH.val (O.pick_t rfl hg10 rfl rfl Taken.no) rfl rfl ?_
             refine WH.nil (E.to ?_)
             refine W.pick (K:=[(1,_),(3,_),(97,_)]) (Z:=[(101,_),(102,_)]) ⟨rfl,rfl,rfl,trivial⟩ ⟨rfl,rfl,trivial⟩ ?_
             refine W.cond_f rfl ?_
             refine W.skip (E.inn (E.to (W.region (SL.mv rfl rfl ?_))))
             refine SL.val (O.det (fun _ => by first | exact G.R.add64 rfl rfl (by omega) | exact G.R.add rfl rfl) rfl Taken.no) ?_
             refine SL.an rfl rfl (SL.nil ?_)
             refine E.again ((k + 1)) (rn []) ?_ ?_ rfl (fixL_spec rfl) ?_ ?_
             · exact (SubF.cons rfl (SubF.cons rfl SubF.nil))
             · exact (SubS.cons rfl SubS.nil)
             ·try dsimp only
              exact ⟨by omega, pOk_s hp hpk (fun h0 => by show prAsc ps[k - 1]! ps[k]!; unfold prAsc; omega)⟩
             · (try dsimp only); omega
           ·skip
            first | have hg11p := G.gA7 hg11 | have hg11p := G.gA8 hg11 | have hg11p := hg11
            refine WH.sk rfl rfl rfl hg11 (WH.sk rfl rfl rfl hg11 (WH.sk rfl rfl rfl hg11 (WH.sk rfl rfl rfl hg11 (WH.sk rfl rfl rfl hg11 (WH.sk rfl rfl rfl hg11 (WH.sk rfl rfl rfl hg11 (WH.sk rfl rfl rfl hg11 (WH.sk rfl rfl rfl hg11 (WH.sk rfl rfl rfl hg11 (WH.sk rfl rfl rfl hg11 ?_))))))))))
            refine WH.skip (OpOk.not2 rfl rfl rfl) ?_
            refine WH.skip (OpOk.not2 rfl rfl rfl) ?_
            refine WH.skip (OpOk.not2 rfl rfl rfl) ?_
            refine WH.skip (OpOk.not2 rfl rfl rfl) ?_
            refine WH.skip (OpOk.not2 rfl rfl rfl) ?_
            refine WH.skip (OpOk.not2 rfl rfl rfl) ?_
            refine WH.skip (OpOk.not2 rfl rfl rfl) ?_
            refine WH.skip (OpOk.not2 rfl rfl rfl) ?_
            refine WH.skip (OpOk.not2 rfl rfl rfl) ?_
            refine WH.skip (OpOk.not2 rfl rfl rfl) ?_
            refine WH.sk rfl rfl rfl hg11 ?_
            refine WH.val (O.pick_t rfl (G.ne_f hg11) rfl rfl (Taken.yes rfl rfl hg10)) rfl rfl ?_
            refine WH.val (O.pick_t rfl hg10 rfl rfl Taken.no) rfl rfl ?_
            refine WH.nil (E.to ?_)
            refine W.pick (K:=[(1,_),(3,_),(97,_)]) (Z:=[(101,_),(102,_)]) ⟨rfl,rfl,rfl,trivial⟩ ⟨rfl,rfl,trivial⟩ ?_
            refine W.cond_t rfl ?_
            refine W.rg (SL.an rfl rfl (E.fo (W.ret ?_)))
            refine E.inr ?_
            refine E.thr (E.thr ?_)
            refine E.inr ?_
            refine E.thr ?_
            refine E.fin (rs := [_]) (rn []) (.inl rfl) rfl (.cons (ResOne.tmp rfl) .nil) ?_ ?_ rfl (fixL_spec rfl)
            ·skip
             exact iv_bool (dec_f (formed_na (p := (Prob.mk N ps rs)) (i := k) (show k < ps.length by omega) (by omega) (fun q : prAsc ps[k - 1]! ps[k]! => by unfold prAsc at q; omega)))
            · exact SubS.nil
          ·skip
           first | have hg10p := G.gA5 hg10 | have hg10p := G.gA6 hg10 | have hg10p := hg10
           refine WH.sk rfl rfl rfl hg10 (WH.sk rfl rfl rfl hg10 (WH.sk rfl rfl rfl hg10 (WH.sk rfl rfl rfl hg10 (WH.sk rfl rfl rfl hg10 (WH.sk rfl rfl rfl hg10 (WH.sk rfl rfl rfl hg10 (WH.sk rfl rfl rfl hg10 (WH.sk rfl rfl rfl hg10 (WH.sk rfl rfl rfl hg10 (WH.sk rfl rfl rfl hg10 ?_))))))))))
           refine WH.skip (OpOk.not2 rfl rfl rfl) ?_
           refine WH.skip (OpOk.not2 rfl rfl rfl) ?_
           refine WH.skip (OpOk.not2 rfl rfl rfl) ?_
           refine WH.skip (OpOk.not2 rfl rfl rfl) ?_
           refine WH.skip (OpOk.not2 rfl rfl rfl) ?_
           refine WH.skip (OpOk.not2 rfl rfl rfl) ?_
           refine WH.skip (OpOk.not2 rfl rfl rfl) ?_
           refine WH.skip (OpOk.not2 rfl rfl rfl) ?_
           refine WH.skip (OpOk.not2 rfl rfl rfl) ?_
           refine WH.skip (OpOk.not2 rfl rfl rfl) ?_
           refine WH.skip (OpOk.not2 rfl rfl rfl) ?_
           refine WH.skip (OpOk.not2 rfl rfl rfl) ?_
           refine WH.skip (OpOk.not2 rfl rfl rfl) ?_
           refine WH.skip (OpOk.not2 rfl rfl rfl) ?_
           refine WH.skip (OpOk.not2 rfl rfl rfl) ?_
           refine WH.skip (OpOk.not2 rfl rfl rfl) ?_
           refine WH.skip (OpOk.not2 rfl rfl rfl) ?_
           refine WH.skip (OpOk.not2 rfl rfl rfl) ?_
           refine WH.skip (OpOk.not2 rfl rfl rfl) ?_
           refine WH.skip (OpOk.not2 rfl rfl rfl) ?_
           refine WH.skip (OpOk.not2 rfl rfl rfl) ?_
           refine WH.skip (OpOk.not2 rfl rfl rfl) ?_
           refine WH.sk rfl rfl rfl hg10 ?_
           refine WH.val (O.pick_f rfl (G.ne_t hg10) rfl rfl Taken.no) rfl rfl ?_
           refine WH.nil (E.to ?_)
           refine W.pick (K:=[(1,_),(3,_),(97,_)]) (Z:=[(101,_),(102,_)]) ⟨rfl,rfl,rfl,trivial⟩ ⟨rfl,rfl,trivial⟩ ?_
           refine W.cond_f rfl ?_
           refine W.skip (E.inn (E.to (W.region (SL.mv rfl rfl ?_))))
           refine SL.val (O.det (fun _ => by first | exact G.R.add64 rfl rfl (by omega) | exact G.R.add rfl rfl) rfl Taken.no) ?_
           refine SL.an rfl rfl (SL.nil ?_)
           refine E.again ((k + 1)) (rn []) ?_ ?_ rfl (fixL_spec rfl) ?_ ?_
           · exact (SubF.cons rfl (SubF.cons rfl SubF.nil))
           · exact (SubS.cons rfl SubS.nil)
           ·try dsimp only
            exact ⟨by omega, pOk_s hp hpk (fun h0 => by show prAsc ps[k - 1]! ps[k]!; unfold prAsc; omega)⟩
           · (try dsimp only); omega
        ·skip
         first | have hg8p := G.gA7 hg8 | have hg8p := G.gA8 hg8 | have hg8p := hg8
         refine SL.sk rfl rfl rfl hg8 (SL.sk rfl rfl rfl hg8 (SL.sk rfl rfl rfl hg8 ?_))
         refine SL.val (O.pick_t rfl (G.ne_f hg8) rfl rfl Taken.no) ?_
         refine E.fo ?_
         refine W.pick (K:=[(1,_),(3,_),(4,_),(59,_)]) (Z:=[(101,_),(102,_)]) ⟨rfl,rfl,rfl,rfl,trivial⟩ ⟨rfl,rfl,trivial⟩ ?_
         refine W.cond_t rfl ?_
         refine W.rg (SL.an rfl rfl (E.fo (W.ret (E.thr ?_))))
         refine E.inr ?_
         refine E.thr (E.thr ?_)
         refine E.inr ?_
         refine E.thr ?_
         refine E.fin (rs := [_]) (rn []) (.inl rfl) rfl (.cons (ResOne.tmp rfl) .nil) ?_ ?_ rfl (fixL_spec rfl)
         ·skip
          exact iv_bool (dec_f (formed_no (p := (Prob.mk N ps rs)) (i := k) (show k < ps.length by omega) (fun q : prOk N ps[k]! => by unfold prOk at q; omega)))
         · exact SubS.nil
       ·skip
        first | have hg7p := G.gA7 hg7 | have hg7p := G.gA8 hg7 | have hg7p := hg7
        refine SL.sk rfl rfl rfl hg7 (SL.sk rfl rfl rfl hg7 (SL.sk rfl rfl rfl hg7 ?_))
        refine SL.val (O.pick_t rfl (G.ne_f hg7) rfl rfl Taken.no) ?_
        refine SL.mv rfl rfl ?_
        have hg14 : true ≠ false := by decide
        refine SL.sk rfl rfl rfl hg14 (SL.sk rfl rfl rfl hg14 (SL.sk rfl rfl rfl hg14 ?_))
        refine SL.val (O.pick_t rfl rfl rfl rfl Taken.no) ?_
        refine E.fo ?_
        refine W.pick (K:=[(1,_),(3,_),(4,_),(59,_)]) (Z:=[(101,_),(102,_)]) ⟨rfl,rfl,rfl,rfl,trivial⟩ ⟨rfl,rfl,trivial⟩ ?_
        refine W.cond_t rfl ?_
        refine W.rg (SL.an rfl rfl (E.fo (W.ret (E.thr ?_))))
        refine E.inr ?_
        refine E.thr (E.thr ?_)
        refine E.inr ?_
        refine E.thr ?_
        refine E.fin (rs := [_]) (rn []) (.inl rfl) rfl (.cons (ResOne.tmp rfl) .nil) ?_ ?_ rfl (fixL_spec rfl)
        ·skip
         exact iv_bool (dec_f (formed_no (p := (Prob.mk N ps rs)) (i := k) (show k < ps.length by omega) (fun q : prOk N ps[k]! => by unfold prOk at q; omega)))
        · exact SubS.nil
      ·skip
       first | have hg6p := G.gA7 hg6 | have hg6p := G.gA8 hg6 | have hg6p := hg6
       refine SL.sk rfl rfl rfl hg6 (SL.sk rfl rfl rfl hg6 (SL.sk rfl rfl rfl hg6 (SL.sk rfl rfl rfl hg6 (SL.sk rfl rfl rfl hg6 ?_))))
       refine SL.val (O.pick_t rfl (G.ne_f hg6) rfl rfl Taken.no) ?_
       refine SL.mv rfl rfl ?_
       have hg15 : true ≠ false := by decide
       refine SL.sk rfl rfl rfl hg15 (SL.sk rfl rfl rfl hg15 (SL.sk rfl rfl rfl hg15 ?_))
       refine SL.val (O.pick_t rfl rfl rfl rfl Taken.no) ?_
       refine SL.mv rfl rfl ?_
       have hg16 : true ≠ false := by decide
       refine SL.sk rfl rfl rfl hg16 (SL.sk rfl rfl rfl hg16 (SL.sk rfl rfl rfl hg16 ?_))
       refine SL.val (O.pick_t rfl rfl rfl rfl Taken.no) ?_
       refine E.fo ?_
       refine W.pick (K:=[(1,_),(3,_),(4,_),(59,_)]) (Z:=[(101,_),(102,_)]) ⟨rfl,rfl,rfl,rfl,trivial⟩ ⟨rfl,rfl,trivial⟩ ?_
       refine W.cond_t rfl ?_
       refine W.rg (SL.an rfl rfl (E.fo (W.ret (E.thr ?_))))
       refine E.inr ?_
       refine E.thr (E.thr ?_)
       refine E.inr ?_
       refine E.thr ?_
       refine E.fin (rs := [_]) (rn []) (.inl rfl) rfl (.cons (ResOne.tmp rfl) .nil) ?_ ?_ rfl (fixL_spec rfl)
       ·skip
        exact iv_bool (dec_f (formed_no (p := (Prob.mk N ps rs)) (i := k) (show k < ps.length by omega) (fun q : prOk N ps[k]! => by unfold prOk at q; omega)))
       · exact SubS.nil
     ·skip
      first | have hg5p := G.gA7 hg5 | have hg5p := G.gA8 hg5 | have hg5p := hg5
      refine SL.sk rfl rfl rfl hg5 (SL.sk rfl rfl rfl hg5 (SL.sk rfl rfl rfl hg5 (SL.sk rfl rfl rfl hg5 (SL.sk rfl rfl rfl hg5 ?_))))
      refine SL.val (O.pick_t rfl (G.ne_f hg5) rfl rfl Taken.no) ?_
      refine SL.mv rfl rfl ?_
      have hg17 : true ≠ false := by decide
      refine SL.sk rfl rfl rfl hg17 (SL.sk rfl rfl rfl hg17 (SL.sk rfl rfl rfl hg17 (SL.sk rfl rfl rfl hg17 (SL.sk rfl rfl rfl hg17 ?_))))
      refine SL.val (O.pick_t rfl rfl rfl rfl Taken.no) ?_
      refine SL.mv rfl rfl ?_
      have hg18 : true ≠ false := by decide
      refine SL.sk rfl rfl rfl hg18 (SL.sk rfl rfl rfl hg18 (SL.sk rfl rfl rfl hg18 ?_))
      refine SL.val (O.pick_t rfl rfl rfl rfl Taken.no) ?_
      refine SL.mv rfl rfl ?_
      have hg19 : true ≠ false := by decide
      refine SL.sk rfl rfl rfl hg19 (SL.sk rfl rfl rfl hg19 (SL.sk rfl rfl rfl hg19 ?_))
      refine SL.val (O.pick_t rfl rfl rfl rfl Taken.no) ?_
      refine E.fo ?_
      refine W.pick (K:=[(1,_),(3,_),(4,_),(59,_)]) (Z:=[(101,_),(102,_)]) ⟨rfl,rfl,rfl,rfl,trivial⟩ ⟨rfl,rfl,trivial⟩ ?_
      refine W.cond_t rfl ?_
      refine W.rg (SL.an rfl rfl (E.fo (W.ret (E.thr ?_))))
      refine E.inr ?_
      refine E.thr (E.thr ?_)
      refine E.inr ?_
      refine E.thr ?_
      refine E.fin (rs := [_]) (rn []) (.inl rfl) rfl (.cons (ResOne.tmp rfl) .nil) ?_ ?_ rfl (fixL_spec rfl)
      ·skip
       exact iv_bool (dec_f (formed_no (p := (Prob.mk N ps rs)) (i := k) (show k < ps.length by omega) (fun q : prOk N ps[k]! => by unfold prOk at q; omega)))
      · exact SubS.nil
    ·skip
     refine W.exit (E.th (E.th (E.hit (E.to (W.seq (W.rg (SL.an rfl rfl (E.fo (W.block ?_)))))))))
     obtain rfl : k = ps.length := by omega
     refine W.loopx1 (fun (j : Nat) => [(5, vI (j : Int))]) (fun (j : Nat) => []) (fun (j : Nat) => j ≤ rs.length ∧ rOk (Prob.mk N ps rs) j) (fun (j : Nat) => rs.length - j) (0) (rn []) (.cons (t := 1) rfl .nil) (.cons (t := 101) rfl .nil) rfl ?_ ?_ rfl rfl ?_ ?_
     · exact (SubF.cons rfl SubF.nil)
     · exact SubS.nil
     ·skip
      exact ⟨by omega, fun i h => by omega⟩
     intro j hinv
     obtain ⟨hj, hq⟩ := hinv
     refine W.seq (W.rg (SL.mv rfl rfl ?_))
     refine SL.val (O.fld_ref (o' := 2) rfl Try.underlying25 rfl (m := 0) (by kernel_rfl) rfl rfl Taken.no) ?_
     refine SL.val (O.ld1 (PtI.ref rfl rfl) rfl Try.underlying23 rfl rfl Taken.no) ?_
     refine SL.val (O.lenE (SlOf.fz rfl (by decide)) (by first | exact List.length_map _ | rfl) Try.underlying23 rfl Taken.no) ?_
     refine SL.val (O.det (fun _ => G.R.lss rfl rfl) rfl Taken.no) ?_
     refine E.fo ?_
     first | refine W.cond_d rfl (fun hc20 => ?_) (fun hc20 => ?_) | refine W.cond_nd rfl (fun hc20 => ?_) (fun hc20 => ?_) | refine W.cond rfl (fun hc20 => ?_) (fun hc20 => ?_)
     ·skip
      refine W.skip (E.to (W.seq (W.block (W.rg ?_))))
      refine SL.val (O.fld_ref (o' := 2) rfl Try.underlying25 rfl (m := 0) (by kernel_rfl) rfl rfl Taken.no) ?_
      refine SL.val (O.ld1 (PtI.ref rfl rfl) rfl Try.underlying23 rfl rfl Taken.no) ?_
      refine SL.mv rfl rfl ?_
      refine SL.val (O.idx_fz rfl rfl (rfl) (row_get (by omega)) Try.underlying23 hi38 hs38 rfl Taken.no) ?_
      refine SL.val (O.ldU (m := 3) (PtU.fz rfl) rfl Try.underlying38 rfl (by kernel_rfl) rfl Taken.no) ?_
      refine SL.memS (O.alloc (z := .agg #[.int .i64 0, .int .i64 0, .int .i64 0]) (is := [.u (.sc (.int .i64 0)), .u (.sc (.int .i64 0)), .u (.sc (.int .i64 0))]) 103 (by kernel_rfl) rfl rfl rfl Taken.no) rfl rfl (S' := (103, _) :: _) rfl ?_
      refine SL.effS (O.st_ref (m := 3) rfl rfl rfl (js := [_, _, _]) rfl rfl (by kernel_rfl) (by simp) (Nat.le_of_ble_eq_true rfl) rfl (is' := [_, _, _]) rfl Taken.no) (S' := (103, _) :: _) rfl ?_
      refine E.fo (W.rg ?_)
      refine SL.val (O.fld_ref (o' := 0) rfl Try.underlying38 rfl (m := 0) (by kernel_rfl) rfl rfl Taken.no) ?_
      refine SL.val (O.ld1 (PtI.ref rfl rfl) rfl Try.underlying3 rfl rfl Taken.no) ?_
      refine SL.val (O.det (fun _ => G.R.neq rfl rfl) rfl Taken.no) ?_
      refine SL.mv rfl rfl ?_
      refine SL.case (j := 3) (g := 113) (want := true) rfl rfl (fun hg21 => ?_) (fun hg21 => ?_)
      ·skip
       first | have hg21p := G.gA1 hg21 | have hg21p := G.gA2 hg21 | have hg21p := hg21
       refine SL.val (O.fld_ref (o' := 0) rfl Try.underlying38 rfl (m := 0) (by kernel_rfl) rfl rfl (Taken.yes rfl rfl hg21)) ?_
       refine SL.val (O.ld1 (PtI.ref rfl rfl) rfl Try.underlying3 rfl rfl (Taken.yes rfl rfl hg21)) ?_
       refine SL.val (O.det (fun _ => G.R.neq rfl rfl) rfl (Taken.yes rfl rfl hg21)) ?_
       refine SL.val (O.pick_t rfl hg21 rfl rfl Taken.no) ?_
       refine SL.mv rfl rfl ?_
       refine SL.case (j := 8) (g := 118) (want := false) rfl rfl (fun hg22 => ?_) (fun hg22 => ?_)
       ·skip
        first | have hg22p := G.gA3 hg22 | have hg22p := G.gA4 hg22 | have hg22p := hg22
        refine SL.val (O.fld_ref (o' := 1) rfl Try.underlying38 rfl (m := 0) (by kernel_rfl) rfl rfl (Taken.yes rfl rfl hg22)) ?_
        refine SL.val (O.ld1 (PtI.ref rfl rfl) rfl Try.underlying3 rfl rfl (Taken.yes rfl rfl hg22)) ?_
        refine SL.val (O.det (fun _ => G.R.lss rfl rfl) rfl (Taken.yes rfl rfl hg22)) ?_
        refine SL.val (O.pick_f rfl hg22 rfl rfl Taken.no) ?_
        refine SL.mv rfl rfl ?_
        refine SL.case (j := 13) (g := 123) (want := false) rfl rfl (fun hg23 => ?_) (fun hg23 => ?_)
        ·skip
         first | have hg23p := G.gA3 hg23 | have hg23p := G.gA4 hg23 | have hg23p := hg23
         refine SL.val (O.fld_ref (o' := 1) rfl Try.underlying38 rfl (m := 0) (by kernel_rfl) rfl rfl (Taken.yes rfl rfl hg23)) ?_
         refine SL.val (O.ld1 (PtI.ref rfl rfl) rfl Try.underlying3 rfl rfl (Taken.yes rfl rfl hg23)) ?_
         refine SL.val (O.fld_ref (o' := 0) rfl Try.underlying25 rfl (m := 0) (by kernel_rfl) rfl rfl (Taken.yes rfl rfl hg23)) ?_
         refine SL.val (O.ld1 (PtI.ref rfl rfl) rfl Try.underlying3 rfl rfl (Taken.yes rfl rfl hg23)) ?_
         refine SL.val (O.det (fun _ => G.R.geq rfl rfl) rfl (Taken.yes rfl rfl hg23)) ?_
         refine SL.val (O.pick_f rfl hg23 rfl rfl Taken.no) ?_
         refine SL.mv rfl rfl ?_
         refine SL.case (j := 20) (g := 130) (want := false) rfl rfl (fun hg24 => ?_) (fun hg24 => ?_)
         ·skip
          first | have hg24p := G.gA3 hg24 | have hg24p := G.gA4 hg24 | have hg24p := hg24
          refine SL.val (O.fld_ref (o' := 2) rfl Try.underlying38 rfl (m := 0) (by kernel_rfl) rfl rfl (Taken.yes rfl rfl hg24)) ?_
          refine SL.val (O.ld1 (PtI.ref rfl rfl) rfl Try.underlying3 rfl rfl (Taken.yes rfl rfl hg24)) ?_
          refine SL.val (O.det (fun _ => G.R.lss rfl rfl) rfl (Taken.yes rfl rfl hg24)) ?_
          refine SL.val (O.pick_f rfl hg24 rfl rfl Taken.no) ?_
          refine SL.mv rfl rfl ?_
          refine SL.case (j := 25) (g := 135) (want := false) rfl rfl (fun hg25 => ?_) (fun hg25 => ?_)
          ·skip
           first | have hg25p := G.gA3 hg25 | have hg25p := G.gA4 hg25 | have hg25p := hg25
           refine SL.val (O.fld_ref (o' := 2) rfl Try.underlying38 rfl (m := 0) (by kernel_rfl) rfl rfl (Taken.yes rfl rfl hg25)) ?_
           refine SL.val (O.ld1 (PtI.ref rfl rfl) rfl Try.underlying3 rfl rfl (Taken.yes rfl rfl hg25)) ?_
           refine SL.val (O.fld_ref (o' := 0) rfl Try.underlying25 rfl (m := 0) (by kernel_rfl) rfl rfl (Taken.yes rfl rfl hg25)) ?_
           refine SL.val (O.ld1 (PtI.ref rfl rfl) rfl Try.underlying3 rfl rfl (Taken.yes rfl rfl hg25)) ?_
           refine SL.val (O.det (fun _ => G.R.geq rfl rfl) rfl (Taken.yes rfl rfl hg25)) ?_
           refine SL.val (O.pick_f rfl hg25 rfl rfl Taken.no) ?_
           refine SL.mv rfl rfl ?_
           refine SL.case (j := 32) (g := 142) (want := false) rfl rfl (fun hg26 => ?_) (fun hg26 => ?_)
           ·skip
            first | have hg26p := G.gA3 hg26 | have hg26p := G.gA4 hg26 | have hg26p := hg26
            refine SL.val (O.fld_ref (o' := 1) rfl Try.underlying38 rfl (m := 0) (by kernel_rfl) rfl rfl (Taken.yes rfl rfl hg26)) ?_
            refine SL.val (O.ld1 (PtI.ref rfl rfl) rfl Try.underlying3 rfl rfl (Taken.yes rfl rfl hg26)) ?_
            refine SL.val (O.fld_ref (o' := 2) rfl Try.underlying38 rfl (m := 0) (by kernel_rfl) rfl rfl (Taken.yes rfl rfl hg26)) ?_
            refine SL.val (O.ld1 (PtI.ref rfl rfl) rfl Try.underlying3 rfl rfl (Taken.yes rfl rfl hg26)) ?_
            refine SL.val (O.det (fun _ => G.R.eql rfl rfl) rfl (Taken.yes rfl rfl hg26)) ?_
            refine SL.val (O.pick_f rfl hg26 rfl rfl Taken.no) ?_
            refine E.fo ?_
            refine W.pick (K:=[(1,_),(5,_),(148,_)]) (Z:=[(101,_),(103,_)]) ⟨rfl,rfl,rfl,trivial⟩ ⟨rfl,rfl,trivial⟩ ?_
            first | refine W.cond_d rfl (fun hc27 => ?_) (fun hc27 => ?_) | refine W.cond_nd rfl (fun hc27 => ?_) (fun hc27 => ?_) | refine W.cond rfl (fun hc27 => ?_) (fun hc27 => ?_)
            ·skip
             refine W.rg (SL.an rfl rfl (E.fo (W.ret ?_)))
             refine E.inr ?_
             refine E.thr (E.thr ?_)
             refine E.inr ?_
             refine E.thr ?_
             refine E.fin (rs := [_]) (rn []) (.inl rfl) rfl (.cons (ResOne.tmp rfl) .nil) ?_ ?_ rfl (fixL_spec rfl)
             ·skip
              exact iv_bool (dec_f (formed_nr (p := (Prob.mk N ps rs)) (i := j) (show j < rs.length by omega) (fun q : ruOk N rs[j]! => by unfold ruOk at q; omega)))
             · exact SubS.nil
            ·skip
             have hrk : ruOk N rs[j]! := by unfold ruOk; omega
             refine W.skip (E.inn (E.to (W.region (SL.mv rfl rfl ?_))))
             refine SL.val (O.det (fun _ => by first | exact G.R.add64 rfl rfl (by omega) | exact G.R.add rfl rfl) rfl Taken.no) ?_
             refine SL.an rfl rfl (SL.nil ?_)
             refine E.again ((j + 1)) (rn []) ?_ ?_ rfl (fixL_spec rfl) ?_ ?_
             · exact (SubF.cons rfl (SubF.cons rfl SubF.nil))
             · exact (SubS.cons rfl SubS.nil)
             ·try dsimp only
              exact ⟨by omega, rOk_s hq hrk⟩
             · (try dsimp only); omega
           ·skip
            first | have hg26p := G.gA7 hg26 | have hg26p := G.gA8 hg26 | have hg26p := hg26
            refine SL.sk rfl rfl rfl hg26 (SL.sk rfl rfl rfl hg26 (SL.sk rfl rfl rfl hg26 (SL.sk rfl rfl rfl hg26 (SL.sk rfl rfl rfl hg26 ?_))))
            refine SL.val (O.pick_t rfl (G.ne_f hg26) rfl rfl Taken.no) ?_
            refine E.fo ?_
            refine W.pick (K:=[(1,_),(5,_),(148,_)]) (Z:=[(101,_),(103,_)]) ⟨rfl,rfl,rfl,trivial⟩ ⟨rfl,rfl,trivial⟩ ?_
            refine W.cond_t rfl ?_
            refine W.rg (SL.an rfl rfl (E.fo (W.ret ?_)))
            refine E.inr ?_
            refine E.thr (E.thr ?_)
            refine E.inr ?_
            refine E.thr ?_
            refine E.fin (rs := [_]) (rn []) (.inl rfl) rfl (.cons (ResOne.tmp rfl) .nil) ?_ ?_ rfl (fixL_spec rfl)
            ·skip
             exact iv_bool (dec_f (formed_nr (p := (Prob.mk N ps rs)) (i := j) (show j < rs.length by omega) (fun q : ruOk N rs[j]! => by unfold ruOk at q; omega)))
            · exact SubS.nil
          ·skip
           first | have hg25p := G.gA7 hg25 | have hg25p := G.gA8 hg25 | have hg25p := hg25
           refine SL.sk rfl rfl rfl hg25 (SL.sk rfl rfl rfl hg25 (SL.sk rfl rfl rfl hg25 (SL.sk rfl rfl rfl hg25 (SL.sk rfl rfl rfl hg25 ?_))))
           refine SL.val (O.pick_t rfl (G.ne_f hg25) rfl rfl Taken.no) ?_
           refine SL.mv rfl rfl ?_
           have hg28 : true ≠ false := by decide
           refine SL.sk rfl rfl rfl hg28 (SL.sk rfl rfl rfl hg28 (SL.sk rfl rfl rfl hg28 (SL.sk rfl rfl rfl hg28 (SL.sk rfl rfl rfl hg28 ?_))))
           refine SL.val (O.pick_t rfl rfl rfl rfl Taken.no) ?_
           refine E.fo ?_
           refine W.pick (K:=[(1,_),(5,_),(148,_)]) (Z:=[(101,_),(103,_)]) ⟨rfl,rfl,rfl,trivial⟩ ⟨rfl,rfl,trivial⟩ ?_
           refine W.cond_t rfl ?_
           refine W.rg (SL.an rfl rfl (E.fo (W.ret ?_)))
           refine E.inr ?_
           refine E.thr (E.thr ?_)
           refine E.inr ?_
           refine E.thr ?_
           refine E.fin (rs := [_]) (rn []) (.inl rfl) rfl (.cons (ResOne.tmp rfl) .nil) ?_ ?_ rfl (fixL_spec rfl)
           ·skip
            exact iv_bool (dec_f (formed_nr (p := (Prob.mk N ps rs)) (i := j) (show j < rs.length by omega) (fun q : ruOk N rs[j]! => by unfold ruOk at q; omega)))
           · exact SubS.nil
         ·skip
          first | have hg24p := G.gA7 hg24 | have hg24p := G.gA8 hg24 | have hg24p := hg24
          refine SL.sk rfl rfl rfl hg24 (SL.sk rfl rfl rfl hg24 (SL.sk rfl rfl rfl hg24 ?_))
          refine SL.val (O.pick_t rfl (G.ne_f hg24) rfl rfl Taken.no) ?_
          refine SL.mv rfl rfl ?_
          have hg29 : true ≠ false := by decide
          refine SL.sk rfl rfl rfl hg29 (SL.sk rfl rfl rfl hg29 (SL.sk rfl rfl rfl hg29 (SL.sk rfl rfl rfl hg29 (SL.sk rfl rfl rfl hg29 ?_))))
          refine SL.val (O.pick_t rfl rfl rfl rfl Taken.no) ?_
          refine SL.mv rfl rfl ?_
          have hg30 : true ≠ false := by decide
          refine SL.sk rfl rfl rfl hg30 (SL.sk rfl rfl rfl hg30 (SL.sk rfl rfl rfl hg30 (SL.sk rfl rfl rfl hg30 (SL.sk rfl rfl rfl hg30 ?_))))
          refine SL.val (O.pick_t rfl rfl rfl rfl Taken.no) ?_
          refine E.fo ?_
          refine W.pick (K:=[(1,_),(5,_),(148,_)]) (Z:=[(101,_),(103,_)]) ⟨rfl,rfl,rfl,trivial⟩ ⟨rfl,rfl,trivial⟩ ?_
          refine W.cond_t rfl ?_
          refine W.rg (SL.an rfl rfl (E.fo (W.ret ?_)))
          refine E.inr ?_
          refine E.thr (E.thr ?_)
          refine E.inr ?_
          refine E.thr ?_
          refine E.fin (rs := [_]) (rn []) (.inl rfl) rfl (.cons (ResOne.tmp rfl) .nil) ?_ ?_ rfl (fixL_spec rfl)
          ·skip
           exact iv_bool (dec_f (formed_nr (p := (Prob.mk N ps rs)) (i := j) (show j < rs.length by omega) (fun q : ruOk N rs[j]! => by unfold ruOk at q; omega)))
          · exact SubS.nil
        ·skip
         first | have hg23p := G.gA7 hg23 | have hg23p := G.gA8 hg23 | have hg23p := hg23
         refine SL.sk rfl rfl rfl hg23 (SL.sk rfl rfl rfl hg23 (SL.sk rfl rfl rfl hg23 (SL.sk rfl rfl rfl hg23 (SL.sk rfl rfl rfl hg23 ?_))))
         refine SL.val (O.pick_t rfl (G.ne_f hg23) rfl rfl Taken.no) ?_
         refine SL.mv rfl rfl ?_
         have hg31 : true ≠ false := by decide
         refine SL.sk rfl rfl rfl hg31 (SL.sk rfl rfl rfl hg31 (SL.sk rfl rfl rfl hg31 ?_))
         refine SL.val (O.pick_t rfl rfl rfl rfl Taken.no) ?_
         refine SL.mv rfl rfl ?_
         have hg32 : true ≠ false := by decide
         refine SL.sk rfl rfl rfl hg32 (SL.sk rfl rfl rfl hg32 (SL.sk rfl rfl rfl hg32 (SL.sk rfl rfl rfl hg32 (SL.sk rfl rfl rfl hg32 ?_))))
         refine SL.val (O.pick_t rfl rfl rfl rfl Taken.no) ?_
         refine SL.mv rfl rfl ?_
         have hg33 : true ≠ false := by decide
         refine SL.sk rfl rfl rfl hg33 (SL.sk rfl rfl rfl hg33 (SL.sk rfl rfl rfl hg33 (SL.sk rfl rfl rfl hg33 (SL.sk rfl rfl rfl hg33 ?_))))
         refine SL.val (O.pick_t rfl rfl rfl rfl Taken.no) ?_
         refine E.fo ?_
         refine W.pick (K:=[(1,_),(5,_),(148,_)]) (Z:=[(101,_),(103,_)]) ⟨rfl,rfl,rfl,trivial⟩ ⟨rfl,rfl,trivial⟩ ?_
         refine W.cond_t rfl ?_
         refine W.rg (SL.an rfl rfl (E.fo (W.ret ?_)))
         refine E.inr ?_
         refine E.thr (E.thr ?_)
         refine E.inr ?_
         refine E.thr ?_
         refine E.fin (rs := [_]) (rn []) (.inl rfl) rfl (.cons (ResOne.tmp rfl) .nil) ?_ ?_ rfl (fixL_spec rfl)
         ·skip
          exact iv_bool (dec_f (formed_nr (p := (Prob.mk N ps rs)) (i := j) (show j < rs.length by omega) (fun q : ruOk N rs[j]! => by unfold ruOk at q; omega)))
         · exact SubS.nil
       ·skip
        first | have hg22p := G.gA7 hg22 | have hg22p := G.gA8 hg22 | have hg22p := hg22
        refine SL.sk rfl rfl rfl hg22 (SL.sk rfl rfl rfl hg22 (SL.sk rfl rfl rfl hg22 ?_))
        refine SL.val (O.pick_t rfl (G.ne_f hg22) rfl rfl Taken.no) ?_
        refine SL.mv rfl rfl ?_
        have hg34 : true ≠ false := by decide
        refine SL.sk rfl rfl rfl hg34 (SL.sk rfl rfl rfl hg34 (SL.sk rfl rfl rfl hg34 (SL.sk rfl rfl rfl hg34 (SL.sk rfl rfl rfl hg34 ?_))))
        refine SL.val (O.pick_t rfl rfl rfl rfl Taken.no) ?_
        refine SL.mv rfl rfl ?_
        have hg35 : true ≠ false := by decide
        refine SL.sk rfl rfl rfl hg35 (SL.sk rfl rfl rfl hg35 (SL.sk rfl rfl rfl hg35 ?_))
        refine SL.val (O.pick_t rfl rfl rfl rfl Taken.no) ?_
        refine SL.mv rfl rfl ?_
        have hg36 : true ≠ false := by decide
        refine SL.sk rfl rfl rfl hg36 (SL.sk rfl rfl rfl hg36 (SL.sk rfl rfl rfl hg36 (SL.sk rfl rfl rfl hg36 (SL.sk rfl rfl rfl hg36 ?_))))
        refine SL.val (O.pick_t rfl rfl rfl rfl Taken.no) ?_
        refine SL.mv rfl rfl ?_
        have hg37 : true ≠ false := by decide
        refine SL.sk rfl rfl rfl hg37 (SL.sk rfl rfl rfl hg37 (SL.sk rfl rfl rfl hg37 (SL.sk rfl rfl rfl hg37 (SL.sk rfl rfl rfl hg37 ?_))))
        refine SL.val (O.pick_t rfl rfl rfl rfl Taken.no) ?_
        refine E.fo ?_
        refine W.pick (K:=[(1,_),(5,_),(148,_)]) (Z:=[(101,_),(103,_)]) ⟨rfl,rfl,rfl,trivial⟩ ⟨rfl,rfl,trivial⟩ ?_
        refine W.cond_t rfl ?_
        refine W.rg (SL.an rfl rfl (E.fo (W.ret ?_)))
        refine E.inr ?_
        refine E.thr (E.thr ?_)
        refine E.inr ?_
        refine E.thr ?_
        refine E.fin (rs := [_]) (rn []) (.inl rfl) rfl (.cons (ResOne.tmp rfl) .nil) ?_ ?_ rfl (fixL_spec rfl)
        ·skip
         exact iv_bool (dec_f (formed_nr (p := (Prob.mk N ps rs)) (i := j) (show j < rs.length by omega) (fun q : ruOk N rs[j]! => by unfold ruOk at q; omega)))
        · exact SubS.nil
      ·skip
       first | have hg21p := G.gA5 hg21 | have hg21p := G.gA6 hg21 | have hg21p := hg21
       refine SL.sk rfl rfl rfl hg21 (SL.sk rfl rfl rfl hg21 (SL.sk rfl rfl rfl hg21 ?_))
       refine SL.val (O.pick_f rfl (G.ne_t hg21) rfl rfl Taken.no) ?_
       refine SL.mv rfl rfl ?_
       have hg38 : false = false := by decide
       refine SL.val (O.fld_ref (o' := 1) rfl Try.underlying38 rfl (m := 0) (by kernel_rfl) rfl rfl (Taken.yes rfl rfl hg38)) ?_
       refine SL.val (O.ld1 (PtI.ref rfl rfl) rfl Try.underlying3 rfl rfl (Taken.yes rfl rfl hg38)) ?_
       refine SL.val (O.det (fun _ => G.R.lss rfl rfl) rfl (Taken.yes rfl rfl hg38)) ?_
       refine SL.val (O.pick_f rfl rfl rfl rfl Taken.no) ?_
       refine SL.mv rfl rfl ?_
       refine SL.case (j := 13) (g := 123) (want := false) rfl rfl (fun hg39 => ?_) (fun hg39 => ?_)
       ·skip
        first | have hg39p := G.gA3 hg39 | have hg39p := G.gA4 hg39 | have hg39p := hg39
        refine SL.val (O.fld_ref (o' := 1) rfl Try.underlying38 rfl (m := 0) (by kernel_rfl) rfl rfl (Taken.yes rfl rfl hg39)) ?_
        refine SL.val (O.ld1 (PtI.ref rfl rfl) rfl Try.underlying3 rfl rfl (Taken.yes rfl rfl hg39)) ?_
        refine SL.val (O.fld_ref (o' := 0) rfl Try.underlying25 rfl (m := 0) (by kernel_rfl) rfl rfl (Taken.yes rfl rfl hg39)) ?_
        refine SL.val (O.ld1 (PtI.ref rfl rfl) rfl Try.underlying3 rfl rfl (Taken.yes rfl rfl hg39)) ?_
        refine SL.val (O.det (fun _ => G.R.geq rfl rfl) rfl (Taken.yes rfl rfl hg39)) ?_
        refine SL.val (O.pick_f rfl hg39 rfl rfl Taken.no) ?_
        refine SL.mv rfl rfl ?_
        refine SL.case (j := 20) (g := 130) (want := false) rfl rfl (fun hg40 => ?_) (fun hg40 => ?_)
        ·skip
         first | have hg40p := G.gA3 hg40 | have hg40p := G.gA4 hg40 | have hg40p := hg40
         refine SL.val (O.fld_ref (o' := 2) rfl Try.underlying38 rfl (m := 0) (by kernel_rfl) rfl rfl (Taken.yes rfl rfl hg40)) ?_
         refine SL.val (O.ld1 (PtI.ref rfl rfl) rfl Try.underlying3 rfl rfl (Taken.yes rfl rfl hg40)) ?_
         refine SL.val (O.det (fun _ => G.R.lss rfl rfl) rfl (Taken.yes rfl rfl hg40)) ?_
         refine SL.val (O.pick_f rfl hg40 rfl rfl Taken.no) ?_
         refine SL.mv rfl rfl ?_
         refine SL.case (j := 25) (g := 135) (want := false) rfl rfl (fun hg41 => ?_) (fun hg41 => ?_)
         ·skip
          first | have hg41p := G.gA3 hg41 | have hg41p := G.gA4 hg41 | have hg41p := hg41
          refine SL.val (O.fld_ref (o' := 2) rfl Try.underlying38 rfl (m := 0) (by kernel_rfl) rfl rfl (Taken.yes rfl rfl hg41)) ?_
          refine SL.val (O.ld1 (PtI.ref rfl rfl) rfl Try.underlying3 rfl rfl (Taken.yes rfl rfl hg41)) ?_
          refine SL.val (O.fld_ref (o' := 0) rfl Try.underlying25 rfl (m := 0) (by kernel_rfl) rfl rfl (Taken.yes rfl rfl hg41)) ?_
          refine SL.val (O.ld1 (PtI.ref rfl rfl) rfl Try.underlying3 rfl rfl (Taken.yes rfl rfl hg41)) ?_
          refine SL.val (O.det (fun _ => G.R.geq rfl rfl) rfl (Taken.yes rfl rfl hg41)) ?_
          refine SL.val (O.pick_f rfl hg41 rfl rfl Taken.no) ?_
          refine SL.mv rfl rfl ?_
          refine SL.case (j := 32) (g := 142) (want := false) rfl rfl (fun hg42 => ?_) (fun hg42 => ?_)
          ·skip
           first | have hg42p := G.gA3 hg42 | have hg42p := G.gA4 hg42 | have hg42p := hg42
           refine SL.val (O.fld_ref (o' := 1) rfl Try.underlying38 rfl (m := 0) (by kernel_rfl) rfl rfl (Taken.yes rfl rfl hg42)) ?_
           refine SL.val (O.ld1 (PtI.ref rfl rfl) rfl Try.underlying3 rfl rfl (Taken.yes rfl rfl hg42)) ?_
           refine SL.val (O.fld_ref (o' := 2) rfl Try.underlying38 rfl (m := 0) (by kernel_rfl) rfl rfl (Taken.yes rfl rfl hg42)) ?_
           refine SL.val (O.ld1 (PtI.ref rfl rfl) rfl Try.underlying3 rfl rfl (Taken.yes rfl rfl hg42)) ?_
           refine SL.val (O.det (fun _ => G.R.eql rfl rfl) rfl (Taken.yes rfl rfl hg42)) ?_
           refine SL.val (O.pick_f rfl hg42 rfl rfl Taken.no) ?_
           refine E.fo ?_
           refine W.pick (K:=[(1,_),(5,_),(148,_)]) (Z:=[(101,_),(103,_)]) ⟨rfl,rfl,rfl,trivial⟩ ⟨rfl,rfl,trivial⟩ ?_
           first | refine W.cond_d rfl (fun hc43 => ?_) (fun hc43 => ?_) | refine W.cond_nd rfl (fun hc43 => ?_) (fun hc43 => ?_) | refine W.cond rfl (fun hc43 => ?_) (fun hc43 => ?_)
           ·skip
            refine W.rg (SL.an rfl rfl (E.fo (W.ret ?_)))
            refine E.inr ?_
            refine E.thr (E.thr ?_)
            refine E.inr ?_
            refine E.thr ?_
            refine E.fin (rs := [_]) (rn []) (.inl rfl) rfl (.cons (ResOne.tmp rfl) .nil) ?_ ?_ rfl (fixL_spec rfl)
            ·skip
             exact iv_bool (dec_f (formed_nr (p := (Prob.mk N ps rs)) (i := j) (show j < rs.length by omega) (fun q : ruOk N rs[j]! => by unfold ruOk at q; omega)))
            · exact SubS.nil
           ·skip
            have hrk : ruOk N rs[j]! := by unfold ruOk; omega
            refine W.skip (E.inn (E.to (W.region (SL.mv rfl rfl ?_))))
            refine SL.val (O.det (fun _ => by first | exact G.R.add64 rfl rfl (by omega) | exact G.R.add rfl rfl) rfl Taken.no) ?_
            refine SL.an rfl rfl (SL.nil ?_)
            refine E.again ((j + 1)) (rn []) ?_ ?_ rfl (fixL_spec rfl) ?_ ?_
            · exact (SubF.cons rfl (SubF.cons rfl SubF.nil))
            · exact (SubS.cons rfl SubS.nil)
            ·try dsimp only
             exact ⟨by omega, rOk_s hq hrk⟩
            · (try dsimp only); omega
          ·skip
           first | have hg42p := G.gA7 hg42 | have hg42p := G.gA8 hg42 | have hg42p := hg42
           refine SL.sk rfl rfl rfl hg42 (SL.sk rfl rfl rfl hg42 (SL.sk rfl rfl rfl hg42 (SL.sk rfl rfl rfl hg42 (SL.sk rfl rfl rfl hg42 ?_))))
           refine SL.val (O.pick_t rfl (G.ne_f hg42) rfl rfl Taken.no) ?_
           refine E.fo ?_
           refine W.pick (K:=[(1,_),(5,_),(148,_)]) (Z:=[(101,_),(103,_)]) ⟨rfl,rfl,rfl,trivial⟩ ⟨rfl,rfl,trivial⟩ ?_
           refine W.cond_t rfl ?_
           refine W.rg (SL.an rfl rfl (E.fo (W.ret ?_)))
           refine E.inr ?_
           refine E.thr (E.thr ?_)
           refine E.inr ?_
           refine E.thr ?_
           refine E.fin (rs := [_]) (rn []) (.inl rfl) rfl (.cons (ResOne.tmp rfl) .nil) ?_ ?_ rfl (fixL_spec rfl)
           ·skip
            exact iv_bool (dec_f (formed_nr (p := (Prob.mk N ps rs)) (i := j) (show j < rs.length by omega) (fun q : ruOk N rs[j]! => by unfold ruOk at q; omega)))
           · exact SubS.nil
         ·skip
          first | have hg41p := G.gA7 hg41 | have hg41p := G.gA8 hg41 | have hg41p := hg41
          refine SL.sk rfl rfl rfl hg41 (SL.sk rfl rfl rfl hg41 (SL.sk rfl rfl rfl hg41 (SL.sk rfl rfl rfl hg41 (SL.sk rfl rfl rfl hg41 ?_))))
          refine SL.val (O.pick_t rfl (G.ne_f hg41) rfl rfl Taken.no) ?_
          refine SL.mv rfl rfl ?_
          have hg44 : true ≠ false := by decide
          refine SL.sk rfl rfl rfl hg44 (SL.sk rfl rfl rfl hg44 (SL.sk rfl rfl rfl hg44 (SL.sk rfl rfl rfl hg44 (SL.sk rfl rfl rfl hg44 ?_))))
          refine SL.val (O.pick_t rfl rfl rfl rfl Taken.no) ?_
          refine E.fo ?_
          refine W.pick (K:=[(1,_),(5,_),(148,_)]) (Z:=[(101,_),(103,_)]) ⟨rfl,rfl,rfl,trivial⟩ ⟨rfl,rfl,trivial⟩ ?_
          refine W.cond_t rfl ?_
          refine W.rg (SL.an rfl rfl (E.fo (W.ret ?_)))
          refine E.inr ?_
          refine E.thr (E.thr ?_)
          refine E.inr ?_
          refine E.thr ?_
          refine E.fin (rs := [_]) (rn []) (.inl rfl) rfl (.cons (ResOne.tmp rfl) .nil) ?_ ?_ rfl (fixL_spec rfl)
          ·skip
           exact iv_bool (dec_f (formed_nr (p := (Prob.mk N ps rs)) (i := j) (show j < rs.length by omega) (fun q : ruOk N rs[j]! => by unfold ruOk at q; omega)))
          · exact SubS.nil
        ·skip
         first | have hg40p := G.gA7 hg40 | have hg40p := G.gA8 hg40 | have hg40p := hg40
         refine SL.sk rfl rfl rfl hg40 (SL.sk rfl rfl rfl hg40 (SL.sk rfl rfl rfl hg40 ?_))
         refine SL.val (O.pick_t rfl (G.ne_f hg40) rfl rfl Taken.no) ?_
         refine SL.mv rfl rfl ?_
         have hg45 : true ≠ false := by decide
         refine SL.sk rfl rfl rfl hg45 (SL.sk rfl rfl rfl hg45 (SL.sk rfl rfl rfl hg45 (SL.sk rfl rfl rfl hg45 (SL.sk rfl rfl rfl hg45 ?_))))
         refine SL.val (O.pick_t rfl rfl rfl rfl Taken.no) ?_
         refine SL.mv rfl rfl ?_
         have hg46 : true ≠ false := by decide
         refine SL.sk rfl rfl rfl hg46 (SL.sk rfl rfl rfl hg46 (SL.sk rfl rfl rfl hg46 (SL.sk rfl rfl rfl hg46 (SL.sk rfl rfl rfl hg46 ?_))))
         refine SL.val (O.pick_t rfl rfl rfl rfl Taken.no) ?_
         refine E.fo ?_
         refine W.pick (K:=[(1,_),(5,_),(148,_)]) (Z:=[(101,_),(103,_)]) ⟨rfl,rfl,rfl,trivial⟩ ⟨rfl,rfl,trivial⟩ ?_
         refine W.cond_t rfl ?_
         refine W.rg (SL.an rfl rfl (E.fo (W.ret ?_)))
         refine E.inr ?_
         refine E.thr (E.thr ?_)
         refine E.inr ?_
         refine E.thr ?_
         refine E.fin (rs := [_]) (rn []) (.inl rfl) rfl (.cons (ResOne.tmp rfl) .nil) ?_ ?_ rfl (fixL_spec rfl)
         ·skip
          exact iv_bool (dec_f (formed_nr (p := (Prob.mk N ps rs)) (i := j) (show j < rs.length by omega) (fun q : ruOk N rs[j]! => by unfold ruOk at q; omega)))
         · exact SubS.nil
       ·skip
        first | have hg39p := G.gA7 hg39 | have hg39p := G.gA8 hg39 | have hg39p := hg39
        refine SL.sk rfl rfl rfl hg39 (SL.sk rfl rfl rfl hg39 (SL.sk rfl rfl rfl hg39 (SL.sk rfl rfl rfl hg39 (SL.sk rfl rfl rfl hg39 ?_))))
        refine SL.val (O.pick_t rfl (G.ne_f hg39) rfl rfl Taken.no) ?_
        refine SL.mv rfl rfl ?_
        have hg47 : true ≠ false := by decide
        refine SL.sk rfl rfl rfl hg47 (SL.sk rfl rfl rfl hg47 (SL.sk rfl rfl rfl hg47 ?_))
        refine SL.val (O.pick_t rfl rfl rfl rfl Taken.no) ?_
        refine SL.mv rfl rfl ?_
        have hg48 : true ≠ false := by decide
        refine SL.sk rfl rfl rfl hg48 (SL.sk rfl rfl rfl hg48 (SL.sk rfl rfl rfl hg48 (SL.sk rfl rfl rfl hg48 (SL.sk rfl rfl rfl hg48 ?_))))
        refine SL.val (O.pick_t rfl rfl rfl rfl Taken.no) ?_
        refine SL.mv rfl rfl ?_
        have hg49 : true ≠ false := by decide
        refine SL.sk rfl rfl rfl hg49 (SL.sk rfl rfl rfl hg49 (SL.sk rfl rfl rfl hg49 (SL.sk rfl rfl rfl hg49 (SL.sk rfl rfl rfl hg49 ?_))))
        refine SL.val (O.pick_t rfl rfl rfl rfl Taken.no) ?_
        refine E.fo ?_
        refine W.pick (K:=[(1,_),(5,_),(148,_)]) (Z:=[(101,_),(103,_)]) ⟨rfl,rfl,rfl,trivial⟩ ⟨rfl,rfl,trivial⟩ ?_
        refine W.cond_t rfl ?_
        refine W.rg (SL.an rfl rfl (E.fo (W.ret ?_)))
        refine E.inr ?_
        refine E.thr (E.thr ?_)
        refine E.inr ?_
        refine E.thr ?_
        refine E.fin (rs := [_]) (rn []) (.inl rfl) rfl (.cons (ResOne.tmp rfl) .nil) ?_ ?_ rfl (fixL_spec rfl)
        ·skip
         exact iv_bool (dec_f (formed_nr (p := (Prob.mk N ps rs)) (i := j) (show j < rs.length by omega) (fun q : ruOk N rs[j]! => by unfold ruOk at q; omega)))
        · exact SubS.nil
     ·skip
      refine W.exit (E.th (E.th (E.hit (E.to (W.rg (SL.an rfl rfl (E.fo (W.ret ?_))))))))
      refine E.fin (rs := [_]) (rn []) (.inl rfl) rfl (.cons (ResOne.tmp rfl) .nil) ?_ ?_ rfl (fixL_spec rfl)
      ·skip
       exact iv_bool (dec_t ⟨hN0, hN2, hr4, hp, fun i hi => hq i (by have : i < rs.length := hi; omega)⟩)
      · exact SubS.nil
  ·skip
   first | have hg2p := G.gA7 hg2 | have hg2p := G.gA8 hg2 | have hg2p := hg2
   refine SL.sk rfl rfl rfl hg2 (SL.sk rfl rfl rfl hg2 (SL.sk rfl rfl rfl hg2 (SL.sk rfl rfl rfl hg2 ?_)))
   refine SL.val (O.pick_t rfl (G.ne_f hg2) rfl rfl Taken.no) ?_
   refine E.fo ?_
   refine W.cond_t rfl ?_
   refine W.rg (SL.an rfl rfl (E.fo (W.ret (E.thr ?_))))
   refine E.fin (rs := [_]) (rn []) (.inl rfl) rfl (.cons (ResOne.tmp rfl) .nil) ?_ ?_ rfl (fixL_spec rfl)
   ·skip
    exact iv_bool (dec_f fun q => by have q1 : 0 ≤ N := q.1; have q2 : N ≤ 200 := q.2.1; have q3 : rs.length ≤ 400 := q.2.2.1; omega)
   · exact SubS.nil
 ·skip
  first | have hg1p := G.gA7 hg1 | have hg1p := G.gA8 hg1 | have hg1p := hg1
  refine SL.sk rfl rfl rfl hg1 (SL.sk rfl rfl rfl hg1 (SL.sk rfl rfl rfl hg1 ?_))
  refine SL.val (O.pick_t rfl (G.ne_f hg1) rfl rfl Taken.no) ?_
  refine SL.mv rfl rfl ?_
  have hg50 : true ≠ false := by decide
  refine SL.sk rfl rfl rfl hg50 (SL.sk rfl rfl rfl hg50 (SL.sk rfl rfl rfl hg50 (SL.sk rfl rfl rfl hg50 ?_)))
  refine SL.val (O.pick_t rfl rfl rfl rfl Taken.no) ?_
  refine E.fo ?_
  refine W.cond_t rfl ?_
  refine W.rg (SL.an rfl rfl (E.fo (W.ret (E.thr ?_))))
  refine E.fin (rs := [_]) (rn []) (.inl rfl) rfl (.cons (ResOne.tmp rfl) .nil) ?_ ?_ rfl (fixL_spec rfl)
  ·skip
   exact iv_bool (dec_f fun q => by have q1 : 0 ≤ N := q.1; have q2 : N ≤ 200 := q.2.1; have q3 : rs.length ≤ 400 := q.2.2.1; omega)
  · exact SubS.nil

set_option maxRecDepth 8000 in
/-- bookplate/bookplateref33.Valid. -/
theorem refvalid_h {N : Int} {ps : List Pr} {rs : List Ru} :
    Con Try.prog 13 [vA [uI N, .sl 3 (ps.map ePr), .sl 3 (rs.map eRu)]] [] (vI (Prob.mk N ps rs).err) [] := by
 refine Con.enterL (n := 13) Try.func13 rfl rfl rfl (fun τ w ok vs hin => ?_)
 have hl0_1 := hin.lenA (i := 0) (j := 1) rfl rfl
 try rw [List.length_map] at hl0_1
 have hl0_2 := hin.lenA (i := 0) (j := 2) rfl rfl
 try rw [List.length_map] at hl0_2
 clear hin
 refine W.rg ?_
 refine SL.memS (O.box (is := [_, _, _]) 101 rfl rfl (by simp) rfl rfl Taken.no) rfl rfl (S' := (101, _) :: _) rfl ?_
 refine SL.an rfl rfl (E.fo (W.seq (W.block (W.rg ?_))))
 refine SL.val (O.ldN (m := 3) (PtI.ref rfl rfl) (js := [_, _, _]) rfl (Nat.le_of_ble_eq_true rfl) Try.underlying25 rfl (by kernel_rfl) rfl Taken.no) ?_
 refine SL.val (O.callp rfl rfl rfl (refformed_h (N := N) (ps := ps) (rs := rs)) (.cons (ArgOk.aggU (.cons (ArgOk.same rfl) (.cons (ArgOk.same rfl) (.cons (ArgOk.same rfl) .nil)))) .nil) hcallOk35 rfl Taken.no) ?_
 refine SL.val (O.det (fun _ => G.R.not rfl) rfl Taken.no) ?_
 refine SL.an rfl rfl (E.fo ?_)
 first | refine W.cond_d rfl (fun hc1 => ?_) (fun hc1 => ?_) | refine W.cond_nd rfl (fun hc1 => ?_) (fun hc1 => ?_) | refine W.cond rfl (fun hc1 => ?_) (fun hc1 => ?_)
 ·skip
  refine W.rg (SL.an rfl rfl (E.fo (W.ret ?_)))
  refine E.inr ?_
  refine E.thr ?_
  refine E.fin (rs := [_]) (rn []) (.inl rfl) rfl (.cons (ResOne.tmp rfl) .nil) ?_ ?_ rfl (fixL_spec rfl)
  ·skip
   rw [Prob.err_1 (by assumption)]; rfl
  · exact SubS.nil
 ·skip
  have hf : (Prob.mk N ps rs).formed := by assumption
  obtain ⟨n, rfl⟩ : ∃ n : Nat, N = (n : Int) := ⟨N.toNat, Prob.nat hf⟩
  have hbe := bad_eq hf
  refine W.seq ?_
  refine W.draw [⟨[101], [], [], []⟩, ⟨[101], [], [], []⟩, ⟨[], [], [], []⟩, ⟨[], [], [], []⟩, ⟨[], [], [], []⟩, ⟨[], [], [], []⟩] rfl (by kernel_rfl) (by kernel_rfl) rfl rfl ?_
  refine WH.val (O.ldN (m := 3) (PtI.ref rfl rfl) (js := [_, _, _]) rfl (Nat.le_of_ble_eq_true rfl) Try.underlying25 rfl (by kernel_rfl) rfl Taken.no) rfl rfl ?_
  refine WH.val (O.ldN (m := 3) (PtI.ref rfl rfl) (js := [_, _, _]) rfl (Nat.le_of_ble_eq_true rfl) Try.underlying25 rfl (by kernel_rfl) rfl Taken.no) rfl rfl ?_
  refine WH.val (O.callp rfl rfl rfl (Con.fz (refatoms_h hf) rfl rfl) (.cons (ArgOk.aggU (.cons (ArgOk.same rfl) (.cons (ArgOk.same rfl) (.cons (ArgOk.same rfl) .nil)))) .nil) hcallOk37 rfl Taken.no) rfl rfl ?_
  refine WH.val (O.callp rfl rfl rfl (refapart_h hf (m := atomsL n rs) (by rw [atomsL, joins_len, List.length_range])) (.cons (ArgOk.aggU (.cons (ArgOk.same rfl) (.cons (ArgOk.same rfl) (.cons (ArgOk.same rfl) .nil)))) (.cons (ArgOk.same rfl) .nil)) hcallOk36 rfl Taken.no) rfl rfl ?_
  refine WH.val (O.det (fun _ => G.R.not rfl) rfl Taken.no) rfl rfl ?_
  refine WH.val (O.assign rfl rfl Taken.no) rfl rfl ?_
  refine WH.nil (E.to ?_)
  first | refine W.cond_d rfl (fun hc2 => ?_) (fun hc2 => ?_) | refine W.cond_nd rfl (fun hc2 => ?_) (fun hc2 => ?_) | refine W.cond rfl (fun hc2 => ?_) (fun hc2 => ?_)
  ·skip
   refine W.rg (SL.an rfl rfl (E.fo (W.ret ?_)))
   refine E.inr ?_
   refine E.thr ?_
   refine E.fin (rs := [_]) (rn []) (.inl rfl) rfl (.cons (ResOne.tmp rfl) .nil) ?_ ?_ rfl (fixL_spec rfl)
   ·skip
    rw [Prob.err_13 hf (by rw [hbe]; simp_all)]; rfl
   · exact SubS.nil
  ·skip
   refine W.skip (E.inn (E.to (W.rg (SL.an rfl rfl (E.fo (W.ret ?_))))))
   refine E.fin (rs := [_]) (rn []) (.inl rfl) rfl (.cons (ResOne.tmp rfl) .nil) ?_ ?_ rfl (fixL_spec rfl)
   ·skip
    rw [Prob.err_0 ⟨hf, by rw [hbe]; simp_all⟩]; rfl
   · exact SubS.nil

end Go.Proofs.Ytppamigboeaefaa
end
section
namespace Go.Proofs.Ytppamigboeaefaa
open Go Go.RowKit Go.H Go.D33

theorem hcallOk13 : G.callOk Try.prog 13 = true := by kernel_rfl
theorem hcallOk16 : G.callOk Try.prog 16 = true := by kernel_rfl


set_option maxRecDepth 8000 in
/-- bookplate/bookplateref33.Atoms. -/
theorem refAtoms_ok {n : Nat} {ps : List Pr} {rs : List Ru} (hok : (Prob.mk (n : Int) ps rs).ok) :
    Con Try.prog 17 [vA [uI (n : Int), .sl 3 (ps.map ePr), .sl 3 (rs.map eRu)]] [] (.tup [vL 1 ((atomsL n rs).map eN), vI 0]) [] := by
 have hf := hok.1
 have hn2 : (n : Int) ≤ 200 := hf.2.1
 have hr4 : rs.length ≤ 400 := hf.2.2.1
 have hal : (atomsL n rs).length = n := by rw [atomsL, joins_len, List.length_range]
 refine Con.enterL (n := 12) Try.func17 rfl rfl rfl (fun τ w ok vs hin => ?_)
 have hl0_1 := hin.lenA (i := 0) (j := 1) rfl rfl
 try rw [List.length_map] at hl0_1
 have hl0_2 := hin.lenA (i := 0) (j := 2) rfl rfl
 try rw [List.length_map] at hl0_2
 clear hin
 refine W.rg ?_
 refine SL.memS (O.box (is := [_, _, _]) 101 rfl rfl (by simp) rfl rfl Taken.no) rfl rfl (S' := (101, _) :: _) rfl ?_
 refine SL.an rfl rfl (SL.an rfl rfl (E.fo (W.seq (W.rg ?_))))
 refine SL.val (O.ldN (m := 3) (PtI.ref rfl rfl) (js := [_, _, _]) rfl (Nat.le_of_ble_eq_true rfl) Try.underlying25 rfl (by kernel_rfl) rfl Taken.no) ?_
 refine SL.val (O.callp rfl rfl rfl (refvalid_h (N := (n : Int)) (ps := ps) (rs := rs)) (.cons (ArgOk.aggU (.cons (ArgOk.same rfl) (.cons (ArgOk.same rfl) (.cons (ArgOk.same rfl) .nil)))) .nil) hcallOk13 rfl Taken.no) ?_
 refine SL.as (i' := vI 0) 6 rfl (by rw [Prob.err_0 hok]) ?_
 refine SL.an rfl rfl (E.fo (W.rg (SL.mv rfl rfl ?_)))
 refine SL.val (O.det (fun _ => G.R.mv (G.R.neq rfl rfl) (congrArg Value.bool (decide_eq_false (by decide)))) rfl Taken.no) ?_
 refine E.fo ?_
 refine W.cond_f rfl ?_
 refine W.skip (E.to (W.rg ?_))
 refine SL.val (O.ldN (m := 3) (PtI.ref rfl rfl) (js := [_, _, _]) rfl (Nat.le_of_ble_eq_true rfl) Try.underlying25 rfl (by kernel_rfl) rfl Taken.no) ?_
 refine SL.val (O.callp rfl rfl rfl (Con.fz (refatoms_h hf) rfl rfl) (.cons (ArgOk.aggU (.cons (ArgOk.same rfl) (.cons (ArgOk.same rfl) (.cons (ArgOk.same rfl) .nil)))) .nil) hcallOk37 rfl Taken.no) ?_
 refine SL.an rfl rfl (SL.an rfl rfl (E.fo (W.ret ?_)))
 refine E.fin (rs := [_, _]) (rn []) (.inl rfl) rfl (.cons (ResOne.tmp rfl) (.cons (ResOne.tmp rfl) .nil)) ?_ ?_ rfl (fixL_spec rfl)
 ·skip
  rfl
 · exact SubS.nil





set_option maxRecDepth 8000 in
/-- bookplate/bookplateref33.Same. -/
theorem same_h {a b : List Nat} :
    Con Try.prog 16 [vL 1 (a.map eN), vL 1 (b.map eN)] [] (vB (decide (a = b))) [] := by
 obtain ⟨i3, hi3, hz3, hs3, hb3⟩ := hinf3
 refine Con.enterL (n := 26) Try.func16 rfl rfl rfl (fun τ w ok vs hin => ?_)
 have hl0 := hin.len (i := 0) rfl
 try rw [List.length_map] at hl0
 have hl1 := hin.len (i := 1) rfl
 try rw [List.length_map] at hl1
 clear hin
 refine W.rg (SL.an rfl rfl (E.fo (W.seq (W.rg (SL.mv rfl rfl ?_)))))
 refine SL.val (O.lenE (SlOf.fz rfl (by decide)) (by first | exact List.length_map _ | rfl) Try.underlying39 rfl Taken.no) ?_
 refine SL.mv rfl rfl ?_
 refine SL.val (O.lenE (SlOf.fz rfl (by decide)) (by first | exact List.length_map _ | rfl) Try.underlying39 rfl Taken.no) ?_
 refine SL.val (O.det (fun _ => G.R.neq rfl rfl) rfl Taken.no) ?_
 refine E.fo ?_
 first | refine W.cond_d rfl (fun hc1 => ?_) (fun hc1 => ?_) | refine W.cond_nd rfl (fun hc1 => ?_) (fun hc1 => ?_) | refine W.cond rfl (fun hc1 => ?_) (fun hc1 => ?_)
 ·skip
  refine W.rg (SL.an rfl rfl (E.fo (W.ret (E.thr ?_))))
  refine E.fin (rs := [_]) (rn []) (.inl rfl) rfl (.cons (ResOne.tmp rfl) .nil) ?_ ?_ rfl (fixL_spec rfl)
  ·skip
   exact iv_bool (dec_f fun q => by subst q; omega)
  · exact SubS.nil
 ·skip
  refine W.skip (E.to (W.seq (W.rg (SL.an rfl rfl (E.fo (W.block ?_))))))
  refine W.loopx1 (fun (k : Nat) => [(5, vI (k : Int))]) (fun (k : Nat) => []) (fun (k : Nat) => k ≤ a.length ∧ ∀ i, i < k → a[i]! = b[i]!) (fun (k : Nat) => a.length - k) (0) (rn []) (.cons (t := 0) rfl (.cons (t := 1) rfl .nil)) .nil rfl ?_ ?_ rfl rfl ?_ ?_
  · exact (SubF.cons rfl SubF.nil)
  · exact SubS.nil
  ·skip
   exact ⟨by omega, fun i h => by omega⟩
  intro k hinv
  obtain ⟨hk, hp⟩ := hinv
  refine W.seq (W.rg (SL.mv rfl rfl (SL.mv rfl rfl ?_)))
  refine SL.val (O.lenE (SlOf.fz rfl (by decide)) (by first | exact List.length_map _ | rfl) Try.underlying39 rfl Taken.no) ?_
  refine SL.val (O.det (fun _ => G.R.lss rfl rfl) rfl Taken.no) ?_
  refine E.fo ?_
  first | refine W.cond_d rfl (fun hc2 => ?_) (fun hc2 => ?_) | refine W.cond_nd rfl (fun hc2 => ?_) (fun hc2 => ?_) | refine W.cond rfl (fun hc2 => ?_) (fun hc2 => ?_)
  ·skip
   refine W.skip (E.to (W.seq (W.block (W.seq ?_))))
   refine W.draw [⟨[], [], [], []⟩, ⟨[], [], [], []⟩, ⟨[], [], [], []⟩, ⟨[], [], [], []⟩, ⟨[], [], [], []⟩, ⟨[], [], [], []⟩, ⟨[], [], [], []⟩, ⟨[], [], [], []⟩, ⟨[], [], [], []⟩] rfl (by kernel_rfl) (by kernel_rfl) rfl rfl ?_
   refine WH.mv rfl rfl rfl (WH.mv rfl rfl rfl ?_)
   refine WH.val (O.idx_fz rfl rfl (rfl) (row_get (by omega)) Try.underlying39 hi3 hs3 rfl Taken.no) rfl rfl ?_
   refine WH.val (O.ld1 (PtI.ofU (PtU.fz rfl)) rfl Try.underlying3 rfl rfl Taken.no) rfl rfl ?_
   refine WH.mv rfl rfl rfl (WH.mv rfl rfl rfl ?_)
   refine WH.val (O.idx_fz rfl rfl (rfl) (row_get (by omega)) Try.underlying39 hi3 hs3 rfl Taken.no) rfl rfl ?_
   refine WH.val (O.ld1 (PtI.ofU (PtU.fz rfl)) rfl Try.underlying3 rfl rfl Taken.no) rfl rfl ?_
   refine WH.val (O.det (fun _ => G.R.neq rfl rfl) rfl Taken.no) rfl rfl ?_
   refine WH.nil (E.to ?_)
   first | refine W.cond_d rfl (fun hc3 => ?_) (fun hc3 => ?_) | refine W.cond_nd rfl (fun hc3 => ?_) (fun hc3 => ?_) | refine W.cond rfl (fun hc3 => ?_) (fun hc3 => ?_)
   ·skip
    refine W.rg (SL.an rfl rfl (E.fo (W.ret ?_)))
    refine E.inr ?_
    refine E.thr (E.thr ?_)
    refine E.inr ?_
    refine E.thr ?_
    refine E.fin (rs := [_]) (rn []) (.inl rfl) rfl (.cons (ResOne.tmp rfl) .nil) ?_ ?_ rfl (fixL_spec rfl)
    ·skip
     exact iv_bool (dec_f fun q => by subst q; omega)
    · exact SubS.nil
   ·skip
    refine W.skip (E.inn (E.to (W.region (SL.mv rfl rfl ?_))))
    refine SL.val (O.det (fun _ => by first | exact G.R.add64 rfl rfl (by omega) | exact G.R.add rfl rfl) rfl Taken.no) ?_
    refine SL.an rfl rfl (SL.nil ?_)
    refine E.again ((k + 1)) (rn []) ?_ ?_ rfl (fixL_spec rfl) ?_ ?_
    · exact (SubF.cons rfl (SubF.cons rfl (SubF.cons rfl SubF.nil)))
    · exact SubS.nil
    ·try dsimp only
     exact ⟨by omega, fun j hj => by rcases Nat.lt_succ_iff_lt_or_eq.1 hj with h | h; exact hp j h; subst h; omega⟩
    · (try dsimp only); omega
  ·skip
   refine W.exit (E.th (E.th (E.hit (E.to (W.rg (SL.an rfl rfl (E.fo (W.ret ?_))))))))
   refine E.fin (rs := [_]) (rn []) (.inl rfl) rfl (.cons (ResOne.tmp rfl) .nil) ?_ ?_ rfl (fixL_spec rfl)
   ·skip
    exact iv_bool (dec_t (ext_g (by omega) fun i hi => hp i (by omega)))
   · exact SubS.nil






end Go.Proofs.Ytppamigboeaefaa
end
section
namespace Go.D33
open Go Go.RowKit Go.H
theorem sumR_c1 (w : Nat → Nat → Int) (u v : Nat) (r : List Nat) : sumR w u (v :: r) = w u v + sumR w u r := by
  have key : ∀ (r : List Nat) (n : Int), r.foldl (fun n v => n + w u v) n = n + r.foldl (fun n v => n + w u v) 0 := by
    intro r
    induction r with
    | nil => intro n; simp
    | cons v r ih => intro n; rw [List.foldl_cons, List.foldl_cons, ih, ih (0 + w u v)]; omega
  unfold sumR
  rw [List.foldl_cons, key]; omega
theorem valF_c (w : Nat → Nat → Int) (u : Nat) (r : List Nat) : valF w (u :: r) = sumR w u r + valF w r := by
  have key : ∀ k, k ≤ r.length → valK w (u :: r) (k + 1) = sumR w u r + valK w r k := by
    intro k
    induction k with
    | zero =>
      intro _
      show valK w (u :: r) 0 + sumR w u r = sumR w u r + 0
      show 0 + sumR w u r = sumR w u r + 0
      omega
    | succ k ih =>
      intro hk
      have e1 : (u :: r)[k + 1]! = r[k]! := by rw [List.getElem!_cons_succ]
      rw [valK, ih (by omega), valK, e1, List.drop_succ_cons]; omega
  exact key r.length (Nat.le_refl _)
def pairW (a b : Nat) (x : Int) (i j : Nat) : Int := if (i = a ∧ j = b) ∨ (i = b ∧ j = a) then x else 0
theorem sumR_add (w d : Nat → Nat → Int) (u : Nat) : ∀ r : List Nat, sumR (fun i j => w i j + d i j) u r = sumR w u r + sumR d u r
  | [] => rfl
  | v :: r => by rw [sumR_c1, sumR_c1, sumR_c1, sumR_add w d u r]; omega
theorem valF_add (w d : Nat → Nat → Int) : ∀ l : List Nat, valF (fun i j => w i j + d i j) l = valF w l + valF d l
  | [] => rfl
  | u :: r => by rw [valF_c, valF_c, valF_c, valF_add w d r, sumR_add]; omega
theorem sumR_pair {a b : Nat} (hne : a ≠ b) (x : Int) (u : Nat) : ∀ r : List Nat, r.Nodup → sumR (pairW a b x) u r = if (u = a ∧ b ∈ r) ∨ (u = b ∧ a ∈ r) then x else 0
  | [], _ => by simp [sumR]
  | v :: r, h => by
    obtain ⟨h1, h2⟩ := List.nodup_cons.1 h
    rw [sumR_c1, sumR_pair hne x u r h2]
    unfold pairW
    by_cases e1 : u = a
    · subst e1
      by_cases e2 : v = b
      · subst e2
        rw [if_pos (.inl ⟨rfl, rfl⟩), if_neg (by rintro (⟨_, q⟩ | ⟨q, _⟩); exact h1 q; exact hne q), if_pos (.inl ⟨rfl, by simp⟩)]; omega
      · rw [if_neg (by rintro (⟨_, q⟩ | ⟨q, _⟩); exact e2 q; exact hne q)]
        by_cases e3 : b ∈ r
        · rw [if_pos (.inl ⟨rfl, e3⟩), if_pos (.inl ⟨rfl, by simp [e3]⟩)]; omega
        · rw [if_neg (by rintro (⟨_, q⟩ | ⟨q, _⟩); exact e3 q; exact hne q), if_neg (by rintro (⟨_, q⟩ | ⟨q, _⟩); exact (List.mem_cons.1 q).elim (fun z => e2 z.symm) e3; exact hne q)]; omega
    · by_cases e1' : u = b
      · subst e1'
        by_cases e2 : v = a
        · subst e2
          rw [if_pos (.inr ⟨rfl, rfl⟩), if_neg (by rintro (⟨q, _⟩ | ⟨_, q⟩); exact e1 q; exact h1 q), if_pos (.inr ⟨rfl, by simp⟩)]; omega
        · rw [if_neg (by rintro (⟨q, _⟩ | ⟨_, q⟩); exact e1 q; exact e2 q)]
          by_cases e3 : a ∈ r
          · rw [if_pos (.inr ⟨rfl, e3⟩), if_pos (.inr ⟨rfl, by simp [e3]⟩)]; omega
          · rw [if_neg (by rintro (⟨q, _⟩ | ⟨_, q⟩); exact e1 q; exact e3 q), if_neg (by rintro (⟨q, _⟩ | ⟨_, q⟩); exact e1 q; exact (List.mem_cons.1 q).elim (fun z => e2 z.symm) e3)]; omega
      · rw [if_neg (by rintro (⟨q, _⟩ | ⟨q, _⟩); exact e1 q; exact e1' q), if_neg (by rintro (⟨q, _⟩ | ⟨q, _⟩); exact e1 q; exact e1' q), if_neg (by rintro (⟨q, _⟩ | ⟨q, _⟩); exact e1 q; exact e1' q)]; omega
theorem valF_pair {a b : Nat} (hne : a ≠ b) (x : Int) : ∀ l : List Nat, l.Nodup → valF (pairW a b x) l = if a ∈ l ∧ b ∈ l then x else 0
  | [], _ => by simp [valF, valK]
  | u :: r, h => by
    obtain ⟨h1, h2⟩ := List.nodup_cons.1 h
    rw [valF_c, sumR_pair hne x u r h2, valF_pair hne x r h2]
    by_cases e1 : u = a
    · subst e1
      rw [if_neg (show ¬ (u ∈ r ∧ b ∈ r) from fun q => h1 q.1)]
      by_cases e3 : b ∈ r
      · rw [if_pos (.inl ⟨rfl, e3⟩), if_pos ⟨by simp, by simp [e3]⟩]; omega
      · rw [if_neg (by rintro (⟨_, q⟩ | ⟨q, _⟩); exact e3 q; exact hne q), if_neg (fun q => (List.mem_cons.1 q.2).elim (fun z => hne z.symm) e3)]; omega
    · by_cases e2 : u = b
      · subst e2
        rw [if_neg (show ¬ (a ∈ r ∧ u ∈ r) from fun q => h1 q.2)]
        by_cases e3 : a ∈ r
        · rw [if_pos (.inr ⟨rfl, e3⟩), if_pos ⟨by simp [e3], by simp⟩]; omega
        · rw [if_neg (by rintro (⟨q, _⟩ | ⟨_, q⟩); exact e1 q; exact e3 q), if_neg (fun q => (List.mem_cons.1 q.1).elim (fun z => e1 z.symm) e3)]; omega
      · rw [if_neg (by rintro (⟨q, _⟩ | ⟨q, _⟩); exact e1 q; exact e2 q)]
        have : (a ∈ u :: r ∧ b ∈ u :: r) ↔ (a ∈ r ∧ b ∈ r) := ⟨fun q => ⟨(List.mem_cons.1 q.1).elim (fun z => absurd z.symm e1) id, (List.mem_cons.1 q.2).elim (fun z => absurd z.symm e2) id⟩, fun q => ⟨List.mem_cons_of_mem _ q.1, List.mem_cons_of_mem _ q.2⟩⟩
        by_cases e3 : a ∈ r ∧ b ∈ r
        · rw [if_pos e3, if_pos (this.2 e3)]; omega
        · rw [if_neg e3, if_neg (fun q => e3 (this.1 q))]; omega
theorem mem_units {m : List Nat} {c u : Nat} : u ∈ unitsL m c ↔ u < m.length ∧ m[u]! = c := ⟨units_lt, fun h => List.mem_filter.2 ⟨List.mem_range.2 h.1, decide_eq_true h.2⟩⟩
theorem units_nodup (m : List Nat) (c : Nat) : (unitsL m c).Nodup := (List.nodup_range (n := m.length)).filter _
theorem wF_0 : ∀ {ps : List Pr} {i j : Nat} {f : Nat → Nat → Int}, f i j = 0 → (∀ x ∈ ps, ¬ ((i = x.a.toNat ∧ j = x.b.toNat) ∨ (i = x.b.toNat ∧ j = x.a.toNat))) → ps.foldl addW f i j = 0
  | [], i, j, f, h, _ => h
  | p :: ps, i, j, f, h, hp => wF_0 (ps := ps) (f := addW f p) (by unfold addW upd2; rw [if_neg (hp p (by simp))]; exact h) fun x hx => hp x (by simp [hx])
theorem asc_lt {p : Prob} (h : p.formed) : ∀ {i j : Nat}, i < j → j < p.ps.length → prAsc p.ps[i]! p.ps[j]! := by
  intro i j hij hj
  induction j with
  | zero => omega
  | succ j ih =>
    have h1 := (h.2.2.2.1 (j + 1) hj).2 (by omega)
    rw [Nat.add_sub_cancel] at h1
    rcases Nat.lt_succ_iff_lt_or_eq.1 hij with q | q
    · have h2 := ih q (by omega)
      unfold prAsc at h1 h2 ⊢
      omega
    · rw [q]; exact h1
end Go.D33
end
section
namespace Go.D33
open Go Go.RowKit Go.H
section
variable {n : Nat} {ps : List Pr} {rs : List Ru}
/-- What is linked in a cluster. -/
def inC (n : Nat) (ps : List Pr) (rs : List Ru) (m : List Nat) (i j : Nat) : Prop := mF (lF ps) rs i j = true ∧ m[i]! = m[j]! ∧ i < n ∧ j < n
theorem conn_in (h : (Prob.mk (n : Int) ps rs).formed) (m : List Nat) : Comp n (inC n ps rs m) (connL n ps rs m) := by
  have h1 := conn_comp h m
  refine h1.congr (fun i j q => ⟨q.2.2.1, q.2.2.2⟩) (fun i j q => ?_) fun i j q => ?_
  · obtain ⟨q1, q0, q2, q3⟩ := q
    rcases (mF_iff rs).1 q1 with q1 | ⟨r, hr, hk, q | q⟩
    · obtain ⟨x, hx, hw, q | q⟩ := lF_iff.1 q1
      · obtain ⟨rfl, rfl⟩ := q
        exact .base (.inl (mem_psE.2 ⟨x, hx, ⟨hw, q0⟩, rfl⟩))
      · obtain ⟨rfl, rfl⟩ := q
        exact .symm (.base (.inl (mem_psE.2 ⟨x, hx, ⟨hw, q0.symm⟩, rfl⟩)))
    · obtain ⟨rfl, rfl⟩ := q
      exact .base (.inr (mem_rsE.2 ⟨r, hr, ⟨(ru_lt h hr).2.2.1 hk, q0⟩, rfl⟩))
    · obtain ⟨rfl, rfl⟩ := q
      exact .symm (.base (.inr (mem_rsE.2 ⟨r, hr, ⟨(ru_lt h hr).2.2.1 hk, q0.symm⟩, rfl⟩)))
  · rcases q with q | q
    · obtain ⟨x, hx, e, e2⟩ := mem_psE.1 q
      cases e2
      obtain ⟨l1, l2⟩ := pr_lt h hx
      exact .base ⟨(mF_iff rs).2 (.inl (lF_iff.2 ⟨x, hx, e.1, .inl ⟨rfl, rfl⟩⟩)), e.2, l1, l2⟩
    · obtain ⟨x, hx, e, e2⟩ := mem_rsE.1 q
      cases e2
      obtain ⟨l1, l2, l3⟩ := ru_lt h hx
      exact .base ⟨(mF_iff rs).2 (.inr ⟨x, hx, l3.2 e.1, .inl ⟨rfl, rfl⟩⟩), e.2, l1, l2⟩
end
end Go.D33
end
section
namespace Go.Proofs.Ytppamigboeaefaa
open Go Go.RowKit Go.H Go.D33





set_option maxRecDepth 8000 in
/-- bookplate/bookplateref33.Few. -/
theorem few_h {N : Int} {ps : List Pr} {rs : List Ru} :
    Con Try.prog 12 [vA [uI N, .sl 3 (ps.map ePr), .sl 3 (rs.map eRu)]] [] (vB (decide ((N ≤ 9 ∨ 200 < N) ∧ ps.length ≤ 40 ∧ (rs.length ≤ 12 ∨ rs.length = 401)))) [] := by
 refine Con.enterL (n := 29) Try.func12 rfl rfl rfl (fun τ w ok vs hin => ?_)
 have hl0_1 := hin.lenA (i := 0) (j := 1) rfl rfl
 try rw [List.length_map] at hl0_1
 have hl0_2 := hin.lenA (i := 0) (j := 2) rfl rfl
 try rw [List.length_map] at hl0_2
 clear hin
 refine W.rg ?_
 refine SL.memS (O.box (is := [_, _, _]) 101 rfl rfl (by simp) rfl rfl Taken.no) rfl rfl (S' := (101, _) :: _) rfl ?_
 refine SL.an rfl rfl (E.fo (W.rg ?_))
 refine SL.val (O.fld_ref (o' := 0) rfl Try.underlying25 rfl (m := 0) (by kernel_rfl) rfl rfl Taken.no) ?_
 refine SL.val (O.ld1 (PtI.ref rfl rfl) rfl Try.underlying3 rfl rfl Taken.no) ?_
 refine SL.val (O.det (fun _ => G.R.leq rfl rfl) rfl Taken.no) ?_
 refine SL.mv rfl rfl ?_
 refine SL.case (j := 3) (g := 6) (want := false) rfl rfl (fun hg1 => ?_) (fun hg1 => ?_)
 ·skip
  first | have hg1p := G.gA3 hg1 | have hg1p := G.gA4 hg1 | have hg1p := hg1
  refine SL.val (O.fld_ref (o' := 0) rfl Try.underlying25 rfl (m := 0) (by kernel_rfl) rfl rfl (Taken.yes rfl rfl hg1)) ?_
  refine SL.val (O.ld1 (PtI.ref rfl rfl) rfl Try.underlying3 rfl rfl (Taken.yes rfl rfl hg1)) ?_
  refine SL.val (O.det (fun _ => G.R.gtr rfl rfl) rfl (Taken.yes rfl rfl hg1)) ?_
  refine SL.val (O.pick_f rfl hg1 rfl rfl Taken.no) ?_
  refine SL.mv rfl rfl ?_
  refine SL.case (j := 8) (g := 11) (want := true) rfl rfl (fun hg2 => ?_) (fun hg2 => ?_)
  ·skip
   first | have hg2p := G.gA1 hg2 | have hg2p := G.gA2 hg2 | have hg2p := hg2
   refine SL.val (O.fld_ref (o' := 1) rfl Try.underlying25 rfl (m := 0) (by kernel_rfl) rfl rfl (Taken.yes rfl rfl hg2)) ?_
   refine SL.val (O.ld1 (PtI.ref rfl rfl) rfl Try.underlying22 rfl rfl (Taken.yes rfl rfl hg2)) ?_
   refine SL.val (O.lenE (SlOf.fz rfl (by decide)) (by first | exact List.length_map _ | rfl) Try.underlying22 rfl (Taken.yes rfl rfl hg2)) ?_
   refine SL.val (O.det (fun _ => G.R.leq rfl rfl) rfl (Taken.yes rfl rfl hg2)) ?_
   refine SL.val (O.pick_t rfl hg2 rfl rfl Taken.no) ?_
   refine SL.mv rfl rfl ?_
   refine SL.case (j := 14) (g := 17) (want := true) rfl rfl (fun hg3 => ?_) (fun hg3 => ?_)
   ·skip
    first | have hg3p := G.gA1 hg3 | have hg3p := G.gA2 hg3 | have hg3p := hg3
    refine SL.val (O.fld_ref (o' := 2) rfl Try.underlying25 rfl (m := 0) (by kernel_rfl) rfl rfl (Taken.yes rfl rfl hg3)) ?_
    refine SL.val (O.ld1 (PtI.ref rfl rfl) rfl Try.underlying23 rfl rfl (Taken.yes rfl rfl hg3)) ?_
    refine SL.val (O.lenE (SlOf.fz rfl (by decide)) (by first | exact List.length_map _ | rfl) Try.underlying23 rfl (Taken.yes rfl rfl hg3)) ?_
    refine SL.val (O.det (fun _ => G.R.leq rfl rfl) rfl (Taken.yes rfl rfl hg3)) ?_
    refine SL.val (O.move rfl rfl (Taken.yes rfl rfl hg3)) ?_
    refine SL.case (j := 19) (g := 22) (want := false) rfl rfl (fun hg4 => ?_) (fun hg4 => ?_)
    ·skip
     first | have hg4p := G.gA3 hg4 | have hg4p := G.gA4 hg4 | have hg4p := hg4
     refine SL.val (O.fld_ref (o' := 2) rfl Try.underlying25 rfl (m := 0) (by kernel_rfl) rfl rfl (Taken.yes rfl rfl hg4)) ?_
     refine SL.val (O.ld1 (PtI.ref rfl rfl) rfl Try.underlying23 rfl rfl (Taken.yes rfl rfl hg4)) ?_
     refine SL.val (O.lenE (SlOf.fz rfl (by decide)) (by first | exact List.length_map _ | rfl) Try.underlying23 rfl (Taken.yes rfl rfl hg4)) ?_
     refine SL.val (O.det (fun _ => G.R.eql rfl rfl) rfl (Taken.yes rfl rfl hg4)) ?_
     refine SL.val (O.pick_f rfl hg4 rfl rfl (Taken.yes rfl rfl hg3)) ?_
     refine SL.val (O.pick_t rfl hg3 rfl rfl Taken.no) ?_
     refine SL.an rfl rfl (E.fo ?_)
     refine W.pick (K:=[(2,_)]) (Z:=[(101,_)]) ⟨rfl,trivial⟩ ⟨rfl,trivial⟩ ?_
     refine W.ret ?_
     refine E.fin (rs := [_]) (rn []) (.inl rfl) rfl (.cons (ResOne.tmp rfl) .nil) ?_ ?_ rfl (fixL_spec rfl)
     ·skip
      first | exact iv_bool (dec_iff (by omega)) | exact iv_bool (dec_f (by omega)) | exact iv_bool (dec_t (by omega))
     · exact SubS.nil
    ·skip
     first | have hg4p := G.gA7 hg4 | have hg4p := G.gA8 hg4 | have hg4p := hg4
     refine SL.sk rfl rfl rfl hg4 (SL.sk rfl rfl rfl hg4 (SL.sk rfl rfl rfl hg4 (SL.sk rfl rfl rfl hg4 ?_)))
     refine SL.val (O.pick_t rfl (G.ne_f hg4) rfl rfl (Taken.yes rfl rfl hg3)) ?_
     refine SL.val (O.pick_t rfl hg3 rfl rfl Taken.no) ?_
     refine SL.an rfl rfl (E.fo ?_)
     refine W.pick (K:=[(2,_)]) (Z:=[(101,_)]) ⟨rfl,trivial⟩ ⟨rfl,trivial⟩ ?_
     refine W.ret ?_
     refine E.fin (rs := [_]) (rn []) (.inl rfl) rfl (.cons (ResOne.tmp rfl) .nil) ?_ ?_ rfl (fixL_spec rfl)
     ·skip
      first | exact iv_bool (dec_iff (by omega)) | exact iv_bool (dec_f (by omega)) | exact iv_bool (dec_t (by omega))
     · exact SubS.nil
   ·skip
    first | have hg3p := G.gA5 hg3 | have hg3p := G.gA6 hg3 | have hg3p := hg3
    refine SL.sk rfl rfl rfl hg3 (SL.sk rfl rfl rfl hg3 (SL.sk rfl rfl rfl hg3 (SL.sk rfl rfl rfl hg3 (SL.sk rfl rfl rfl hg3 ?_))))
    refine SL.skip (OpOk.not2 rfl rfl rfl) ?_
    refine SL.skip (OpOk.not2 rfl rfl rfl) ?_
    refine SL.skip (OpOk.not2 rfl rfl rfl) ?_
    refine SL.skip (OpOk.not2 rfl rfl rfl) ?_
    refine SL.sk rfl rfl rfl hg3 ?_
    refine SL.val (O.pick_f rfl (G.ne_t hg3) rfl rfl Taken.no) ?_
    refine SL.an rfl rfl (E.fo ?_)
    refine W.pick (K:=[(2,_)]) (Z:=[(101,_)]) ⟨rfl,trivial⟩ ⟨rfl,trivial⟩ ?_
    refine W.ret ?_
    refine E.fin (rs := [_]) (rn []) (.inl rfl) rfl (.cons (ResOne.tmp rfl) .nil) ?_ ?_ rfl (fixL_spec rfl)
    ·skip
     first | exact iv_bool (dec_iff (by omega)) | exact iv_bool (dec_f (by omega)) | exact iv_bool (dec_t (by omega))
    · exact SubS.nil
  ·skip
   first | have hg2p := G.gA5 hg2 | have hg2p := G.gA6 hg2 | have hg2p := hg2
   refine SL.sk rfl rfl rfl hg2 (SL.sk rfl rfl rfl hg2 (SL.sk rfl rfl rfl hg2 (SL.sk rfl rfl rfl hg2 ?_)))
   refine SL.val (O.pick_f rfl (G.ne_t hg2) rfl rfl Taken.no) ?_
   refine SL.mv rfl rfl ?_
   have hg5 : false ≠ true := by decide
   refine SL.sk rfl rfl rfl hg5 (SL.sk rfl rfl rfl hg5 (SL.sk rfl rfl rfl hg5 (SL.sk rfl rfl rfl hg5 (SL.sk rfl rfl rfl hg5 ?_))))
   refine SL.skip (OpOk.not2 rfl rfl rfl) ?_
   refine SL.skip (OpOk.not2 rfl rfl rfl) ?_
   refine SL.skip (OpOk.not2 rfl rfl rfl) ?_
   refine SL.skip (OpOk.not2 rfl rfl rfl) ?_
   refine SL.sk rfl rfl rfl hg5 ?_
   refine SL.val (O.pick_f rfl rfl rfl rfl Taken.no) ?_
   refine SL.an rfl rfl (E.fo ?_)
   refine W.pick (K:=[(2,_)]) (Z:=[(101,_)]) ⟨rfl,trivial⟩ ⟨rfl,trivial⟩ ?_
   refine W.ret ?_
   refine E.fin (rs := [_]) (rn []) (.inl rfl) rfl (.cons (ResOne.tmp rfl) .nil) ?_ ?_ rfl (fixL_spec rfl)
   ·skip
    first | exact iv_bool (dec_iff (by omega)) | exact iv_bool (dec_f (by omega)) | exact iv_bool (dec_t (by omega))
   · exact SubS.nil
 ·skip
  first | have hg1p := G.gA7 hg1 | have hg1p := G.gA8 hg1 | have hg1p := hg1
  refine SL.sk rfl rfl rfl hg1 (SL.sk rfl rfl rfl hg1 (SL.sk rfl rfl rfl hg1 ?_))
  refine SL.val (O.pick_t rfl (G.ne_f hg1) rfl rfl Taken.no) ?_
  refine SL.mv rfl rfl ?_
  have hg6 : true = true := by decide
  refine SL.val (O.fld_ref (o' := 1) rfl Try.underlying25 rfl (m := 0) (by kernel_rfl) rfl rfl (Taken.yes rfl rfl hg6)) ?_
  refine SL.val (O.ld1 (PtI.ref rfl rfl) rfl Try.underlying22 rfl rfl (Taken.yes rfl rfl hg6)) ?_
  refine SL.val (O.lenE (SlOf.fz rfl (by decide)) (by first | exact List.length_map _ | rfl) Try.underlying22 rfl (Taken.yes rfl rfl hg6)) ?_
  refine SL.val (O.det (fun _ => G.R.leq rfl rfl) rfl (Taken.yes rfl rfl hg6)) ?_
  refine SL.val (O.pick_t rfl rfl rfl rfl Taken.no) ?_
  refine SL.mv rfl rfl ?_
  refine SL.case (j := 14) (g := 17) (want := true) rfl rfl (fun hg7 => ?_) (fun hg7 => ?_)
  ·skip
   first | have hg7p := G.gA1 hg7 | have hg7p := G.gA2 hg7 | have hg7p := hg7
   refine SL.val (O.fld_ref (o' := 2) rfl Try.underlying25 rfl (m := 0) (by kernel_rfl) rfl rfl (Taken.yes rfl rfl hg7)) ?_
   refine SL.val (O.ld1 (PtI.ref rfl rfl) rfl Try.underlying23 rfl rfl (Taken.yes rfl rfl hg7)) ?_
   refine SL.val (O.lenE (SlOf.fz rfl (by decide)) (by first | exact List.length_map _ | rfl) Try.underlying23 rfl (Taken.yes rfl rfl hg7)) ?_
   refine SL.val (O.det (fun _ => G.R.leq rfl rfl) rfl (Taken.yes rfl rfl hg7)) ?_
   refine SL.val (O.move rfl rfl (Taken.yes rfl rfl hg7)) ?_
   refine SL.case (j := 19) (g := 22) (want := false) rfl rfl (fun hg8 => ?_) (fun hg8 => ?_)
   ·skip
    first | have hg8p := G.gA3 hg8 | have hg8p := G.gA4 hg8 | have hg8p := hg8
    refine SL.val (O.fld_ref (o' := 2) rfl Try.underlying25 rfl (m := 0) (by kernel_rfl) rfl rfl (Taken.yes rfl rfl hg8)) ?_
    refine SL.val (O.ld1 (PtI.ref rfl rfl) rfl Try.underlying23 rfl rfl (Taken.yes rfl rfl hg8)) ?_
    refine SL.val (O.lenE (SlOf.fz rfl (by decide)) (by first | exact List.length_map _ | rfl) Try.underlying23 rfl (Taken.yes rfl rfl hg8)) ?_
    refine SL.val (O.det (fun _ => G.R.eql rfl rfl) rfl (Taken.yes rfl rfl hg8)) ?_
    refine SL.val (O.pick_f rfl hg8 rfl rfl (Taken.yes rfl rfl hg7)) ?_
    refine SL.val (O.pick_t rfl hg7 rfl rfl Taken.no) ?_
    refine SL.an rfl rfl (E.fo ?_)
    refine W.pick (K:=[(2,_)]) (Z:=[(101,_)]) ⟨rfl,trivial⟩ ⟨rfl,trivial⟩ ?_
    refine W.ret ?_
    refine E.fin (rs := [_]) (rn []) (.inl rfl) rfl (.cons (ResOne.tmp rfl) .nil) ?_ ?_ rfl (fixL_spec rfl)
    ·skip
     first | exact iv_bool (dec_iff (by omega)) | exact iv_bool (dec_f (by omega)) | exact iv_bool (dec_t (by omega))
    · exact SubS.nil
   ·skip
    first | have hg8p := G.gA7 hg8 | have hg8p := G.gA8 hg8 | have hg8p := hg8
    refine SL.sk rfl rfl rfl hg8 (SL.sk rfl rfl rfl hg8 (SL.sk rfl rfl rfl hg8 (SL.sk rfl rfl rfl hg8 ?_)))
    refine SL.val (O.pick_t rfl (G.ne_f hg8) rfl rfl (Taken.yes rfl rfl hg7)) ?_
    refine SL.val (O.pick_t rfl hg7 rfl rfl Taken.no) ?_
    refine SL.an rfl rfl (E.fo ?_)
    refine W.pick (K:=[(2,_)]) (Z:=[(101,_)]) ⟨rfl,trivial⟩ ⟨rfl,trivial⟩ ?_
    refine W.ret ?_
    refine E.fin (rs := [_]) (rn []) (.inl rfl) rfl (.cons (ResOne.tmp rfl) .nil) ?_ ?_ rfl (fixL_spec rfl)
    ·skip
     first | exact iv_bool (dec_iff (by omega)) | exact iv_bool (dec_f (by omega)) | exact iv_bool (dec_t (by omega))
    · exact SubS.nil
  ·skip
   first | have hg7p := G.gA5 hg7 | have hg7p := G.gA6 hg7 | have hg7p := hg7
   refine SL.sk rfl rfl rfl hg7 (SL.sk rfl rfl rfl hg7 (SL.sk rfl rfl rfl hg7 (SL.sk rfl rfl rfl hg7 (SL.sk rfl rfl rfl hg7 ?_))))
   refine SL.skip (OpOk.not2 rfl rfl rfl) ?_
   refine SL.skip (OpOk.not2 rfl rfl rfl) ?_
   refine SL.skip (OpOk.not2 rfl rfl rfl) ?_
   refine SL.skip (OpOk.not2 rfl rfl rfl) ?_
   refine SL.sk rfl rfl rfl hg7 ?_
   refine SL.val (O.pick_f rfl (G.ne_t hg7) rfl rfl Taken.no) ?_
   refine SL.an rfl rfl (E.fo ?_)
   refine W.pick (K:=[(2,_)]) (Z:=[(101,_)]) ⟨rfl,trivial⟩ ⟨rfl,trivial⟩ ?_
   refine W.ret ?_
   refine E.fin (rs := [_]) (rn []) (.inl rfl) rfl (.cons (ResOne.tmp rfl) .nil) ?_ ?_ rfl (fixL_spec rfl)
   ·skip
    first | exact iv_bool (dec_iff (by omega)) | exact iv_bool (dec_f (by omega)) | exact iv_bool (dec_t (by omega))
   · exact SubS.nil

end Go.Proofs.Ytppamigboeaefaa
end
section
namespace Go.D33
open Go Go.RowKit Go.H
theorem take_flat_le {α : Type} {ls : List (List α)} (k : Nat) : (ls.take k).flatten.length ≤ ls.flatten.length := by
  conv => rhs; rw [← List.take_append_drop k ls, List.flatten_append, List.length_append]
  omega
theorem take_flat_snocL {α : Type} {ls : List (List α)} {k : Nat} (h : k < ls.length) : (ls.take (k + 1)).flatten = (ls.take k).flatten ++ ls[k]! := by
  rw [snocP h, List.flatten_append]; simp
theorem take_flat_snoc {α : Type} {ls : List (List α)} {k : Nat} (h : k < ls.length) : (ls.take (k + 1)).flatten.length = (ls.take k).flatten.length + ls[k]!.length := by
  rw [take_flat_snocL h, List.length_append]
theorem take_flat_next {α : Type} {ls : List (List α)} {k : Nat} (h : k < ls.length) : (ls.take k).flatten.length + ls[k]!.length ≤ ls.flatten.length := by
  rw [← take_flat_snoc h]; exact take_flat_le _
abbrev eLI (l : List Int) : List UV := [.sl 1 (l.map eI)]
structure Stp where
  u : Bool
  f : Int
  t : Int
instance : Inhabited Stp := ⟨⟨false, 0, 0⟩⟩
abbrev eStp (s : Stp) : List UV := [uB s.u, uI s.f, uI s.t]
/-- Those that name themselves. -/
def selfs (n : Nat) (m : List Nat) : List Nat := (List.range n).filter fun u => decide (m[u]! = u)
theorem selfs_y {m : List Nat} {k : Nat} (e : m[k]! = k) : selfs (k + 1) m = selfs k m ++ [k] := by
  rw [selfs, List.range_succ, List.filter_append, List.filter_cons, if_pos (decide_eq_true e)]; rfl
theorem selfs_n {m : List Nat} {k : Nat} (e : ¬ m[k]! = k) : selfs (k + 1) m = selfs k m := by
  rw [selfs, List.range_succ, List.filter_append, List.filter_cons, if_neg (by simpa using e), List.filter_nil, List.append_nil]; rfl
theorem selfs_len (n : Nat) (m : List Nat) : (selfs n m).length ≤ n := by
  have := List.length_filter_le (fun u => decide (m[u]! = u)) (List.range n)
  rwa [List.length_range] at this
/-- Where an atom may be moved to. -/
def places (cl : List Nat) : List Int := -1 :: cl.map fun x : Nat => (x : Int)
def moves (cl : List Nat) (a : Nat) : List Stp := (places cl).map fun c => ⟨false, a, c⟩
def unions (cl : List Nat) : Nat → List Stp
  | 0 => []
  | k + 1 => unions cl k ++ (cl.drop (k + 1)).map fun b : Nat => ⟨true, (cl[k]! : Nat), b⟩
def stepsL (cl at_ : List Nat) : List Stp := (at_.map (moves cl)).flatten ++ unions cl cl.length
theorem moves_s {cl : List Nat} {l : List Nat} {k : Nat} (h : k < l.length) : ((l.take (k + 1)).map (moves cl)).flatten = ((l.take k).map (moves cl)).flatten ++ moves cl l[k]! := by
  rw [snocP h, List.map_append, List.flatten_append]; simp
theorem moves_len (cl : List Nat) (a : Nat) : (moves cl a).length = cl.length + 1 := by simp [moves, places]
theorem moves_get {cl : List Nat} {a j : Nat} (h : j < cl.length + 1) : (moves cl a)[j]! = ⟨false, a, (places cl)[j]!⟩ := by
  rw [moves, get_map (by simp [places]; omega)]
theorem moves_b {cl : List Nat} (hc : cl.length ≤ 200) {l : List Nat} : ∀ k, k ≤ l.length → ((l.take k).map (moves cl)).flatten.length ≤ 201 * k
  | 0, _ => by simp
  | k + 1, h => by
    have ih := moves_b hc (l := l) k (by omega)
    rw [moves_s (by omega), List.length_append, moves_len]; omega
theorem unions_b {cl : List Nat} (hc : cl.length ≤ 200) : ∀ k, k ≤ cl.length → (unions cl k).length ≤ 200 * k
  | 0, _ => by simp [unions]
  | k + 1, h => by
    have ih := unions_b hc k (by omega)
    rw [unions, List.length_append, List.length_map, List.length_drop]; omega
end Go.D33
end
section
namespace Go.Proofs.Ytppamigboeaefaa
open Go Go.RowKit Go.H Go.D33

theorem hcallOk74 : G.callOk Try.prog 74 = true := by kernel_rfl

set_option maxRecDepth 8000 in
/-- slices.Grow[[]int,int]. -/
theorem grow_h (n : Nat) (hn : n ≤ 1000000) :
    Con Try.prog 74 [.u (.sc (.slice none 0 0)), vI (n : Int)] [] (.own 0) [(0, .data 3 1 (([] : List Int).map eI))] := by
 obtain ⟨i3, hi3, hz3, hs3, hb3⟩ := hinf3
 refine Con.enterL (n := 27) Try.func74 rfl rfl rfl (fun τ w ok vs hin => ?_)
 clear hin
 refine W.rg (SL.an rfl rfl (E.fo (W.seq (W.rg (SL.mv rfl rfl ?_)))))
 refine SL.val (O.det (fun _ => G.R.lss rfl rfl) rfl Taken.no) ?_
 refine E.fo ?_
 first | refine W.cond_d rfl (fun hc1 => ?_) (fun hc1 => ?_) | refine W.cond_nd rfl (fun hc1 => ?_) (fun hc1 => ?_) | refine W.cond rfl (fun hc1 => ?_) (fun hc1 => ?_)
 ·skip
  omega
 ·skip
  refine W.skip (E.to (W.seq (W.rg (SL.mv rfl rfl (SL.mv rfl rfl ?_)))))
  refine SL.val (O.det (fun _ => R.cap_nil rfl Try.underlying39) rfl Taken.no) ?_
  refine SL.mv rfl rfl ?_
  refine SL.val (O.len_nil rfl Try.underlying39 rfl Taken.no) ?_
  refine SL.val (O.det (fun _ => by first | exact G.R.sub64 rfl rfl (by omega) | exact G.R.sub rfl rfl) rfl Taken.no) ?_
  refine SL.val (O.det (fun _ => by first | exact G.R.sub64 rfl rfl (by omega) | exact G.R.sub rfl rfl) rfl Taken.no) ?_
  refine SL.an rfl rfl (E.fo (W.rg (SL.mv rfl rfl ?_)))
  refine SL.val (O.det (fun _ => G.R.gtr rfl rfl) rfl Taken.no) ?_
  refine E.fo ?_
  first | refine W.cond_d rfl (fun hc2 => ?_) (fun hc2 => ?_) | refine W.cond_nd rfl (fun hc2 => ?_) (fun hc2 => ?_) | refine W.cond rfl (fun hc2 => ?_) (fun hc2 => ?_)
  ·skip
   refine W.region (SL.mv rfl rfl (SL.mv rfl rfl ?_))
   refine SL.val (O.det (fun _ => R.cap_nil rfl Try.underlying39) rfl Taken.no) ?_
   refine SL.val (O.det (fun _ => R.sub_nil rfl rfl (by first | rfl | omega) Try.underlying39 (by kernel_rfl)) rfl Taken.no) ?_
   refine SL.mv rfl rfl ?_
   refine SL.memS (O.zeros (k' := 101) (sz := 1) (n := n) rfl rfl (by omega) (by omega) Try.underlying39 Try.underlying3 hi3 hz3 hs3 rfl rfl (show 0 < _ by decide) rfl (by rw [hb3]; omega) (by omega) rfl Taken.no) rfl rfl (S' := (101, _) :: _) rfl ?_
   refine SL.mv rfl rfl ?_
   refine SL.val (O.len_nil rfl Try.underlying39 rfl Taken.no) ?_
   refine SL.val (O.sub_own rfl rfl Bnd.no (Bnd.at rfl (by first | rfl | omega)) (by simp <;> omega) (by simp <;> omega) Try.underlying39 hi3 hs3 rfl Taken.no) ?_
   refine SL.trunc 25 102 rfl rfl (rows' := []) (by simp) rfl rfl ?_
   refine SL.an rfl rfl (E.fo ?_)
   refine W.pick (K:=[(0,_),(4,_)]) (Z:=[(102,_)]) ⟨rfl,rfl,trivial⟩ ⟨rfl,trivial⟩ ?_
   refine W.rg (SL.mv rfl rfl (SL.an rfl rfl (E.fo (W.ret ?_))))
   refine E.fin (rs := [_]) (rn [(0, 102)]) (.inl rfl) rfl (.cons (ResOne.tmp rfl) .nil) ?_ ?_ rfl (fixL_spec rfl)
   ·skip
    rfl
   · exact (SubS.cons rfl SubS.nil)
  ·skip
   refine W.skip (E.to (W.rg (SL.mv rfl rfl (SL.an rfl rfl (E.fo (W.ret ?_))))))
   refine E.adopt 4 103 3 1 (by decide) rfl rfl rfl ?_
   refine E.fin (rs := [_]) (rn [(0, 103)]) (.inl rfl) rfl (.cons (ResOne.tmp rfl) .nil) ?_ ?_ rfl (fixL_spec rfl)
   ·skip
    rfl
   · exact (SubS.cons rfl SubS.nil)

set_option maxRecDepth 8000 in
/-- slices.Concat[[]int,int]. -/
theorem concat_h {ls : List (List Int)} (hn : ls.flatten.length ≤ 1000000) :
    Con Try.prog 72 [vL 1 (ls.map eLI)] [] (.own 0) [(0, .data 3 1 (ls.flatten.map eI))] := by
 obtain ⟨i3, hi3, hz3, hs3, hb3⟩ := hinf3
 obtain ⟨i39, hi39, hz39, hs39, hb39⟩ := hinf39
 refine Con.enterL (n := 36) Try.func72 rfl rfl rfl (fun τ w ok vs hin => ?_)
 have hl0 := hin.len (i := 0) rfl
 try rw [List.length_map] at hl0
 clear hin
 refine W.rg (SL.an rfl rfl (E.fo (W.rg (SL.an rfl rfl (E.fo (W.seq (W.rg (SL.mv rfl rfl ?_))))))))
 refine SL.val (O.lenE (SlOf.fz rfl (by decide)) (by first | exact List.length_map _ | rfl) Try.underlying75 rfl Taken.no) ?_
 refine SL.mv rfl rfl (E.fo (W.block ?_))
 refine W.loopx1 (fun (k : Nat) => [(3, vI ((ls.take k).flatten.length : Int)), (11, vI (k : Int))]) (fun (k : Nat) => []) (fun (k : Nat) => k ≤ ls.length) (fun (k : Nat) => ls.length - k) (0) (rn []) (.cons (t := 0) rfl (.cons (t := 2) rfl (.cons (t := 9) rfl (.cons (t := 10) rfl .nil)))) .nil rfl ?_ ?_ rfl rfl ?_ ?_
 · exact (SubF.cons rfl (SubF.cons rfl SubF.nil))
 · exact SubS.nil
 ·skip
  exact Nat.zero_le _
 intro k hinv
 have hk := hinv
 have hst := take_flat_le (ls := ls) k
 refine W.rg ?_
 refine SL.val (O.det (fun _ => G.R.lss rfl rfl) rfl Taken.no) ?_
 refine E.fo (W.seq ?_)
 first | refine W.cond_d rfl (fun hc1 => ?_) (fun hc1 => ?_) | refine W.cond_nd rfl (fun hc1 => ?_) (fun hc1 => ?_) | refine W.cond rfl (fun hc1 => ?_) (fun hc1 => ?_)
 ·skip
  have hst2 := take_flat_next (ls := ls) (k := k) (by omega)
  refine W.skip (E.to (W.seq (W.block (W.rg ?_))))
  refine SL.val (O.idx_fz rfl rfl (rfl) (row_get (by omega)) Try.underlying75 hi39 hs39 rfl Taken.no) ?_
  refine SL.val (O.ld1 (PtI.ofU (PtU.fz rfl)) rfl Try.underlying39 rfl rfl Taken.no) ?_
  refine SL.an rfl rfl (E.fo (W.rg (SL.mv rfl rfl (SL.mv rfl rfl ?_))))
  refine SL.val (O.lenE (SlOf.fz rfl (by decide)) (by first | exact List.length_map _ | rfl) Try.underlying39 rfl Taken.no) ?_
  refine SL.val (O.det (fun _ => by first | exact G.R.add64 rfl rfl (by omega) | exact G.R.add rfl rfl) rfl Taken.no) ?_
  refine SL.an rfl rfl (E.fo (W.rg (SL.mv rfl rfl ?_)))
  refine SL.val (O.det (fun _ => G.R.lss rfl rfl) rfl Taken.no) ?_
  refine E.fo ?_
  first | refine W.cond_d rfl (fun hc2 => ?_) (fun hc2 => ?_) | refine W.cond_nd rfl (fun hc2 => ?_) (fun hc2 => ?_) | refine W.cond rfl (fun hc2 => ?_) (fun hc2 => ?_)
  ·skip
   omega
  ·skip
   refine W.skip (E.inn (E.to (W.region ?_)))
   refine SL.val (O.det (fun _ => by first | exact G.R.add64 rfl rfl (by omega) | exact G.R.add rfl rfl) rfl Taken.no) ?_
   refine SL.mv rfl rfl (SL.nil ?_)
   refine E.again ((k + 1)) (rn []) ?_ ?_ rfl (fixL_spec rfl) ?_ ?_
   · exact (SubF.val rfl (by (try dsimp only); exact iv_int (by rw [take_flat_snoc (by omega)]; omega)) (SubF.cons rfl (SubF.cons rfl (SubF.cons rfl (SubF.cons rfl (SubF.cons rfl SubF.nil))))))
   · exact SubS.nil
   ·try dsimp only
    omega
   · (try dsimp only); omega
 ·skip
  refine W.exit (E.th (E.th (E.hit (E.to (W.rg (SL.mv rfl rfl ?_))))))
  have hkl : k = ls.length := by omega
  subst hkl
  rw [List.take_length]
  refine SL.memS (O.call (rn [(0, 101)]) [] rfl rfl rfl (grow_h ls.flatten.length (by omega)) (.cons (ArgOk.same rfl) (.cons (ArgOk.same rfl) .nil)) SubS.nil rfl rfl rfl rfl rfl (.inl rfl) hcallOk74 (r' := .own 101) rfl rfl Taken.no) rfl rfl (S' := (101, .data _ _ _) :: _) rfl ?_
  refine SL.an rfl rfl (E.fo (W.seq (W.rg (SL.mv rfl rfl ?_))))
  refine SL.val (O.lenE (SlOf.fz rfl (by decide)) (by first | exact List.length_map _ | rfl) Try.underlying75 rfl Taken.no) ?_
  refine SL.mv rfl rfl (E.fo (W.block ?_))
  refine W.loopx1 (fun (j : Nat) => [(6, .own 102), (27, vI (j : Int))]) (fun (j : Nat) => [(102, .data 3 1 ((ls.take j).flatten.map eI))]) (fun (j : Nat) => j ≤ ls.length) (fun (j : Nat) => ls.length - j) (0) (rn [(102, 101)]) (.cons (t := 2) rfl (.cons (t := 25) rfl (.cons (t := 26) rfl .nil))) .nil rfl ?_ ?_ rfl rfl ?_ ?_
  · exact (SubF.cons rfl (SubF.cons rfl SubF.nil))
  · exact (SubS.cons rfl SubS.nil)
  ·skip
   exact Nat.zero_le _
  intro j hinv
  have hj := hinv
  refine W.rg ?_
  refine SL.val (O.det (fun _ => G.R.lss rfl rfl) rfl Taken.no) ?_
  refine E.fo (W.seq ?_)
  first | refine W.cond_d rfl (fun hc3 => ?_) (fun hc3 => ?_) | refine W.cond_nd rfl (fun hc3 => ?_) (fun hc3 => ?_) | refine W.cond rfl (fun hc3 => ?_) (fun hc3 => ?_)
  ·skip
   have hst2 := take_flat_next (ls := ls) (k := j) (by omega)
   refine W.skip (E.to (W.seq (W.block (W.rg ?_))))
   refine SL.val (O.idx_fz rfl rfl (rfl) (row_get (by omega)) Try.underlying75 hi39 hs39 rfl Taken.no) ?_
   refine SL.val (O.ld1 (PtI.ofU (PtU.fz rfl)) rfl Try.underlying39 rfl rfl Taken.no) ?_
   refine SL.an rfl rfl (E.fo (W.region (SL.mv rfl rfl (SL.mv rfl rfl ?_))))
   refine SL.memS (O.app (k' := 103) rfl rfl (SlOf.fz rfl (by decide)) Try.underlying39 hi3 hz3 hs3 rfl rfl (by exact app_map) (by rw [hb3]; (simp only [List.length_map]; omega)) (by (simp only [List.length_map]; omega)) rfl Taken.no) rfl rfl (S' := (103, _) :: (102, .dead) :: _) rfl ?_
   refine SL.an rfl rfl (SL.nil (E.inn (E.to (W.region ?_))))
   refine SL.val (O.det (fun _ => by first | exact G.R.add64 rfl rfl (by omega) | exact G.R.add rfl rfl) rfl Taken.no) ?_
   refine SL.mv rfl rfl (SL.nil ?_)
   refine E.again ((j + 1)) (rn [(102, 103)]) ?_ ?_ rfl (fixL_spec rfl) ?_ ?_
   · exact (SubF.cons rfl (SubF.cons rfl (SubF.cons rfl (SubF.cons rfl (SubF.cons rfl SubF.nil)))))
   · exact (SubS.val rfl (by (try dsimp only); exact sb_data (by rw [take_flat_snocL (by omega)])) SubS.nil)
   ·try dsimp only
    omega
   · (try dsimp only); omega
  ·skip
   refine W.exit (E.th (E.th (E.hit (E.to (W.rg (SL.mv rfl rfl (SL.an rfl rfl (E.fo (W.ret ?_)))))))))
   refine E.fin (rs := [_]) (rn [(0, 102)]) (.inl rfl) rfl (.cons (ResOne.tmp rfl) .nil) ?_ ?_ rfl (fixL_spec rfl)
   ·skip
    rfl
   · exact (SubS.val rfl (by exact sb_data (by rw [show j = ls.length by omega, List.take_length])) SubS.nil)

end Go.Proofs.Ytppamigboeaefaa
end
section
namespace Go.Proofs.Ytppamigboeaefaa
open Go Go.RowKit Go.H Go.D33

theorem hinf55 : ∃ i, Try.prog.info? 55 = some i ∧ i.zero = some (.agg #[.bool false, .int .i64 0, .int .i64 0]) ∧ i.size = 3 ∧ i.bytes = 24 := G.info_of (by kernel_rfl)
theorem hcallOk72 : G.callOk Try.prog 72 = true := by kernel_rfl

set_option maxRecDepth 8000 in
set_option maxHeartbeats 1600000 in
/-- (*bookplate/cluster.field).steps. -/
theorem steps_h {n : Nat} {wt : Nat → Nat → Int} {lk : Nat → Nat → Bool} {bar : List Ru} {atm : List Nat} {m : List Nat} (hn : n ≤ 200) (hm : m.length = n) (ha : atm.length = n) :
    Con Try.prog 61 [.u (.ptr [uI (n : Int), .sl 1 (gridU (gridF n fun i j => uI (wt i j))), .sl 1 (gridU (gridF n fun i j => uB (lk i j))), .sl 3 (bar.map eRu), .sl 1 (atm.map eN), .sl 1 ((List.range n).map eN)]), vL 1 (m.map eN)] [] (vL 3 ((stepsL (selfs n m) (selfs n atm)).map eStp)) [] := by
 have hcl := selfs_len n m
 have hal := selfs_len n atm
 obtain ⟨i3, hi3, hz3, hs3, hb3⟩ := hinf3
 obtain ⟨i39, hi39, hz39, hs39, hb39⟩ := hinf39
 obtain ⟨i55, hi55, hz55, hs55, hb55⟩ := hinf55
 refine Con.enterL (n := 94) Try.func61 rfl rfl rfl (fun τ w ok vs hin => ?_)
 have hl1 := hin.len (i := 1) rfl
 try rw [List.length_map] at hl1
 clear hin
 refine W.rg (SL.an rfl rfl (E.fo (W.rg (SL.an rfl rfl (SL.an rfl rfl (E.fo (W.seq (W.rg (SL.mv rfl rfl ?_)))))))))
 refine SL.val (O.lenE (SlOf.fz rfl (by decide)) (by first | exact List.length_map _ | rfl) Try.underlying39 rfl Taken.no) ?_
 refine SL.mv rfl rfl (E.fo (W.block ?_))
 refine W.adopt 5 103 3 1 (by decide) rfl rfl rfl ?_
 refine W.adopt 6 104 3 1 (by decide) rfl rfl rfl ?_
 refine W.loopx1 (fun (k : Nat) => [(19, vI (k : Int)), (5, .own 101), (6, .own 102)]) (fun (k : Nat) => [(101, .data 3 1 ((selfs k m).map eN)), (102, .data 3 1 ((selfs k atm).map eN))]) (fun (k : Nat) => k ≤ n) (fun (k : Nat) => n - k) (0) (rn [(101, 103), (102, 104)]) (.cons (t := 0) rfl (.cons (t := 1) rfl (.cons (t := 4) rfl (.cons (t := 18) rfl .nil)))) .nil rfl ?_ ?_ rfl rfl ?_ ?_
 · exact (SubF.cons rfl (SubF.cons rfl (SubF.cons rfl SubF.nil)))
 · exact (SubS.cons rfl (SubS.cons rfl SubS.nil))
 ·skip
  omega
 intro k hinv
 have hk := hinv
 have hc1 := selfs_len k m
 have ha1 := selfs_len k atm
 refine W.rg ?_
 refine SL.val (O.det (fun _ => G.R.lss rfl rfl) rfl Taken.no) ?_
 refine E.fo (W.seq ?_)
 first | refine W.cond_d rfl (fun hc1 => ?_) (fun hc1 => ?_) | refine W.cond_nd rfl (fun hc1 => ?_) (fun hc1 => ?_) | refine W.cond rfl (fun hc1 => ?_) (fun hc1 => ?_)
 ·skip
  refine W.skip (E.to (W.seq (W.block (W.rg (SL.mv rfl rfl (SL.an rfl rfl (E.fo (W.seq (W.rg (SL.mv rfl rfl (SL.mv rfl rfl ?_)))))))))))
  refine SL.val (O.idx_fz (i := k) rfl rfl (rfl) (row_get (by omega)) Try.underlying39 hi3 hs3 rfl Taken.no) ?_
  refine SL.val (O.ld1 (PtI.ofU (PtU.fz rfl)) rfl Try.underlying3 rfl rfl Taken.no) ?_
  refine SL.mv rfl rfl ?_
  refine SL.val (O.det (fun _ => G.R.eql rfl rfl) rfl Taken.no) ?_
  refine E.fo ?_
  first | refine W.cond_d rfl (fun hc2 => ?_) (fun hc2 => ?_) | refine W.cond_nd rfl (fun hc2 => ?_) (fun hc2 => ?_) | refine W.cond rfl (fun hc2 => ?_) (fun hc2 => ?_)
  ·skip
   refine W.region (SL.mv rfl rfl (SL.mv rfl rfl ?_))
   refine SL.memS (O.buildSlice 105 (rows := [k].map eN) rfl rfl Try.underlying39 hi3 hz3 hs3 (by decide) rfl (by decide) rfl rfl rfl Taken.no) rfl rfl (S' := (105, .data 3 1 ([k].map eN)) :: _) rfl ?_
   refine SL.memS (O.app (k' := 106) rfl rfl (SlOf.own rfl rfl) Try.underlying39 hi3 hz3 hs3 rfl rfl (by exact app_map) (by rw [hb3]; (simp only [List.length_map, List.length_singleton]; omega)) (by (simp only [List.length_map, List.length_singleton]; omega)) rfl Taken.no) rfl rfl (S' := (106, _) :: (101, .dead) :: _) rfl ?_
   refine SL.an rfl rfl (E.fo (W.rg (SL.mv rfl rfl ?_)))
   refine SL.val (O.nilCheck rfl rfl rfl Taken.no) ?_
   refine SL.val (O.fld_fz rfl Try.underlying78 rfl (m := 0) (by kernel_rfl) rfl rfl Taken.no) ?_
   refine SL.val (O.ld1 (PtI.ofU (PtU.fz rfl)) rfl Try.underlying39 rfl rfl Taken.no) ?_
   refine SL.mv rfl rfl ?_
   refine SL.val (O.idx_fz (i := k) rfl rfl (rfl) (row_get (by omega)) Try.underlying39 hi3 hs3 rfl Taken.no) ?_
   refine SL.val (O.ld1 (PtI.ofU (PtU.fz rfl)) rfl Try.underlying3 rfl rfl Taken.no) ?_
   refine SL.mv rfl rfl ?_
   refine SL.val (O.det (fun _ => G.R.eql rfl rfl) rfl Taken.no) ?_
   refine E.fo ?_
   refine W.pick (K:=[(0,_),(1,_),(4,_),(5,_),(6,_),(7,_),(18,_),(19,_),(40,_)]) (Z:=[(102,_),(105,_),(106,_)]) ⟨rfl,rfl,rfl,rfl,rfl,rfl,rfl,rfl,rfl,trivial⟩ ⟨rfl,rfl,rfl,trivial⟩ ?_
   first | refine W.cond_d rfl (fun hc3 => ?_) (fun hc3 => ?_) | refine W.cond_nd rfl (fun hc3 => ?_) (fun hc3 => ?_) | refine W.cond rfl (fun hc3 => ?_) (fun hc3 => ?_)
   ·skip
    refine W.region (SL.mv rfl rfl (SL.mv rfl rfl ?_))
    refine SL.memS (O.buildSlice 107 (rows := [k].map eN) rfl rfl Try.underlying39 hi3 hz3 hs3 (by decide) rfl (by decide) rfl rfl rfl Taken.no) rfl rfl (S' := (107, .data 3 1 ([k].map eN)) :: _) rfl ?_
    refine SL.memS (O.app (k' := 108) rfl rfl (SlOf.own rfl rfl) Try.underlying39 hi3 hz3 hs3 rfl rfl (by exact app_map) (by rw [hb3]; (simp only [List.length_map, List.length_singleton]; omega)) (by (simp only [List.length_map, List.length_singleton]; omega)) rfl Taken.no) rfl rfl (S' := (108, _) :: (102, .dead) :: _) rfl ?_
    refine SL.an rfl rfl (SL.nil (E.inn (E.to (W.region ?_))))
    refine SL.val (O.det (fun _ => by first | exact G.R.add64 rfl rfl (by omega) | exact G.R.add rfl rfl) rfl Taken.no) ?_
    refine SL.mv rfl rfl (SL.nil ?_)
    refine E.again ((k + 1)) (rn [(101, 106), (102, 108)]) ?_ ?_ rfl (fixL_spec rfl) ?_ ?_
    · exact (SubF.cons rfl (SubF.cons rfl (SubF.cons rfl (SubF.cons rfl (SubF.cons rfl (SubF.cons rfl (SubF.cons rfl SubF.nil)))))))
    · exact (SubS.val rfl (by (try dsimp only); first | exact sb_data (by rw [selfs_y (show m[k]! = k by omega)]) | exact sb_data (by rw [selfs_n (show ¬ m[k]! = k by omega)])) (SubS.val rfl (by (try dsimp only); first | exact sb_data (by rw [selfs_y (show atm[k]! = k by omega)]) | exact sb_data (by rw [selfs_n (show ¬ atm[k]! = k by omega)])) SubS.nil))
    ·try dsimp only
     omega
    · (try dsimp only); omega
   ·skip
    refine W.skip (E.inn (E.to (W.region ?_)))
    refine SL.val (O.det (fun _ => by first | exact G.R.add64 rfl rfl (by omega) | exact G.R.add rfl rfl) rfl Taken.no) ?_
    refine SL.mv rfl rfl (SL.nil ?_)
    refine E.again ((k + 1)) (rn [(101, 106)]) ?_ ?_ rfl (fixL_spec rfl) ?_ ?_
    · exact (SubF.cons rfl (SubF.cons rfl (SubF.cons rfl (SubF.cons rfl (SubF.cons rfl (SubF.cons rfl (SubF.cons rfl SubF.nil)))))))
    · exact (SubS.val rfl (by (try dsimp only); first | exact sb_data (by rw [selfs_y (show m[k]! = k by omega)]) | exact sb_data (by rw [selfs_n (show ¬ m[k]! = k by omega)])) (SubS.val rfl (by (try dsimp only); first | exact sb_data (by rw [selfs_y (show atm[k]! = k by omega)]) | exact sb_data (by rw [selfs_n (show ¬ atm[k]! = k by omega)])) SubS.nil))
    ·try dsimp only
     omega
    · (try dsimp only); omega
  ·skip
   refine W.skip (E.to (W.rg (SL.mv rfl rfl ?_)))
   refine SL.val (O.nilCheck rfl rfl rfl Taken.no) ?_
   refine SL.val (O.fld_fz rfl Try.underlying78 rfl (m := 0) (by kernel_rfl) rfl rfl Taken.no) ?_
   refine SL.val (O.ld1 (PtI.ofU (PtU.fz rfl)) rfl Try.underlying39 rfl rfl Taken.no) ?_
   refine SL.mv rfl rfl ?_
   refine SL.val (O.idx_fz (i := k) rfl rfl (rfl) (row_get (by omega)) Try.underlying39 hi3 hs3 rfl Taken.no) ?_
   refine SL.val (O.ld1 (PtI.ofU (PtU.fz rfl)) rfl Try.underlying3 rfl rfl Taken.no) ?_
   refine SL.mv rfl rfl ?_
   refine SL.val (O.det (fun _ => G.R.eql rfl rfl) rfl Taken.no) ?_
   refine E.fo ?_
   refine W.pick (K:=[(0,_),(1,_),(4,_),(5,_),(6,_),(7,_),(18,_),(19,_),(40,_)]) (Z:=[(101,_),(102,_)]) ⟨rfl,rfl,rfl,rfl,rfl,rfl,rfl,rfl,rfl,trivial⟩ ⟨rfl,rfl,trivial⟩ ?_
   first | refine W.cond_d rfl (fun hc4 => ?_) (fun hc4 => ?_) | refine W.cond_nd rfl (fun hc4 => ?_) (fun hc4 => ?_) | refine W.cond rfl (fun hc4 => ?_) (fun hc4 => ?_)
   ·skip
    refine W.region (SL.mv rfl rfl (SL.mv rfl rfl ?_))
    refine SL.memS (O.buildSlice 109 (rows := [k].map eN) rfl rfl Try.underlying39 hi3 hz3 hs3 (by decide) rfl (by decide) rfl rfl rfl Taken.no) rfl rfl (S' := (109, .data 3 1 ([k].map eN)) :: _) rfl ?_
    refine SL.memS (O.app (k' := 110) rfl rfl (SlOf.own rfl rfl) Try.underlying39 hi3 hz3 hs3 rfl rfl (by exact app_map) (by rw [hb3]; (simp only [List.length_map, List.length_singleton]; omega)) (by (simp only [List.length_map, List.length_singleton]; omega)) rfl Taken.no) rfl rfl (S' := (110, _) :: (102, .dead) :: _) rfl ?_
    refine SL.an rfl rfl (SL.nil (E.inn (E.to (W.region ?_))))
    refine SL.val (O.det (fun _ => by first | exact G.R.add64 rfl rfl (by omega) | exact G.R.add rfl rfl) rfl Taken.no) ?_
    refine SL.mv rfl rfl (SL.nil ?_)
    refine E.again ((k + 1)) (rn [(102, 110)]) ?_ ?_ rfl (fixL_spec rfl) ?_ ?_
    · exact (SubF.cons rfl (SubF.cons rfl (SubF.cons rfl (SubF.cons rfl (SubF.cons rfl (SubF.cons rfl (SubF.cons rfl SubF.nil)))))))
    · exact (SubS.val rfl (by (try dsimp only); first | exact sb_data (by rw [selfs_y (show m[k]! = k by omega)]) | exact sb_data (by rw [selfs_n (show ¬ m[k]! = k by omega)])) (SubS.val rfl (by (try dsimp only); first | exact sb_data (by rw [selfs_y (show atm[k]! = k by omega)]) | exact sb_data (by rw [selfs_n (show ¬ atm[k]! = k by omega)])) SubS.nil))
    ·try dsimp only
     omega
    · (try dsimp only); omega
   ·skip
    refine W.skip (E.inn (E.to (W.region ?_)))
    refine SL.val (O.det (fun _ => by first | exact G.R.add64 rfl rfl (by omega) | exact G.R.add rfl rfl) rfl Taken.no) ?_
    refine SL.mv rfl rfl (SL.nil ?_)
    refine E.again ((k + 1)) (rn []) ?_ ?_ rfl (fixL_spec rfl) ?_ ?_
    · exact (SubF.cons rfl (SubF.cons rfl (SubF.cons rfl (SubF.cons rfl (SubF.cons rfl (SubF.cons rfl (SubF.cons rfl SubF.nil)))))))
    · exact (SubS.val rfl (by (try dsimp only); first | exact sb_data (by rw [selfs_y (show m[k]! = k by omega)]) | exact sb_data (by rw [selfs_n (show ¬ m[k]! = k by omega)])) (SubS.val rfl (by (try dsimp only); first | exact sb_data (by rw [selfs_y (show atm[k]! = k by omega)]) | exact sb_data (by rw [selfs_n (show ¬ atm[k]! = k by omega)])) SubS.nil))
    ·try dsimp only
     omega
    · (try dsimp only); omega
 ·skip
  refine W.exit (E.th (E.th (E.hit (E.to (W.rg (SL.an rfl rfl (E.fo (W.seq (W.seq ?_)))))))))
  have hkn : k = n := by omega
  rw [hkn]
  refine W.freeze 101 rfl (F' := [(5, _)]) (⟨⟨_, rfl, rfl⟩, trivial⟩) ?_
  refine W.freeze 102 rfl (F' := [(6, _)]) (⟨⟨_, rfl, rfl⟩, trivial⟩) ?_
  refine W.region (SL.mv rfl rfl ?_)
  refine SL.val (O.lenE (SlOf.fz rfl (by decide)) (by first | exact List.length_map _ | rfl) Try.underlying39 rfl Taken.no) ?_
  refine SL.mv rfl rfl (E.fo (W.block ?_))
  refine W.adopt 8 112 55 3 (by decide) rfl rfl rfl ?_
  refine W.loopx1 (fun (k : Nat) => [(48, vI (k : Int)), (8, .own 111)]) (fun (k : Nat) => [(111, .data 55 3 ((((selfs n atm).take k).map (moves (selfs n m))).flatten.map eStp))]) (fun (k : Nat) => k ≤ (selfs n atm).length) (fun (k : Nat) => (selfs n atm).length - k) (0) (rn [(111, 112)]) (.cons (t := 4) rfl (.cons (t := 5) rfl (.cons (t := 46) rfl (.cons (t := 47) rfl .nil)))) .nil rfl ?_ ?_ rfl rfl ?_ ?_
  · exact (SubF.cons rfl (SubF.cons rfl SubF.nil))
  · exact (SubS.cons rfl SubS.nil)
  ·skip
   omega
  intro k hinv
  have hk := hinv
  have hmb := moves_b (cl := (selfs n m)) (by omega) (l := (selfs n atm)) k hk
  refine W.rg ?_
  refine SL.val (O.det (fun _ => G.R.lss rfl rfl) rfl Taken.no) ?_
  refine E.fo (W.seq ?_)
  first | refine W.cond_d rfl (fun hc5 => ?_) (fun hc5 => ?_) | refine W.cond_nd rfl (fun hc5 => ?_) (fun hc5 => ?_) | refine W.cond rfl (fun hc5 => ?_) (fun hc5 => ?_)
  ·skip
   refine W.skip (E.to (W.seq (W.block (W.rg ?_))))
   refine SL.val (O.idx_fz rfl rfl (rfl) (row_get (by omega)) Try.underlying39 hi3 hs3 rfl Taken.no) ?_
   refine SL.val (O.ld1 (PtI.ofU (PtU.fz rfl)) rfl Try.underlying3 rfl rfl Taken.no) ?_
   refine SL.an rfl rfl (E.fo (W.rg ?_))
   refine SL.memS (O.buildSlice 113 (rows := ([-1] : List Int).map eI) rfl rfl Try.underlying39 hi3 hz3 hs3 (by decide) rfl (by decide) rfl rfl rfl Taken.no) rfl rfl (S' := (113, .data 3 1 (([-1] : List Int).map eI)) :: _) rfl ?_
   refine SL.mv rfl rfl ?_
   refine SL.freeze 113 rfl (F' := [(52, _)]) (⟨⟨_, rfl, rfl⟩, trivial⟩) ?_
   refine SL.memS (O.buildSlice 114 (rows := [[-1], (selfs n m).map fun x : Nat => (x : Int)].map eLI) rfl rfl Try.underlying75 hi39 hz39 hs39 (by decide) rfl (by decide) rfl (by show _ = [[UV.sl 1 _], [UV.sl 1 (((selfs n m).map fun x : Nat => (x : Int)).map eI)]]; rw [eI_eN]; rfl) rfl Taken.no) rfl rfl (S' := (114, .data 39 1 ([[-1], (selfs n m).map fun x : Nat => (x : Int)].map eLI)) :: _) rfl ?_
   refine SL.freeze 114 rfl (F' := [(54, _)]) (⟨⟨_, rfl, rfl⟩, trivial⟩) ?_
   refine SL.val (O.callp rfl rfl rfl (Con.fz (concat_h (ls := [[-1], (selfs n m).map fun x : Nat => (x : Int)]) (by simp; omega)) rfl rfl) (.cons (ArgOk.same rfl) .nil) hcallOk72 rfl Taken.no) ?_
   refine SL.as (i' := vL 1 ((places (selfs n m)).map eI)) 55 rfl (by simp [places]) ?_
   refine SL.val (O.lenE (SlOf.fz rfl (by decide)) (by first | exact List.length_map _ | rfl) Try.underlying39 rfl Taken.no) ?_
   refine SL.mv rfl rfl (E.fo (W.block ?_))
   have hpl : (places (selfs n m)).length = (selfs n m).length + 1 := by simp [places]
   refine W.loopx1 (fun (j : Nat) => [(57, vI (j : Int)), (8, .own 115)]) (fun (j : Nat) => [(115, .data 55 3 (((((selfs n atm).take k).map (moves (selfs n m))).flatten ++ (moves (selfs n m) (selfs n atm)[k]!).take j).map eStp))]) (fun (j : Nat) => j ≤ (selfs n m).length + 1) (fun (j : Nat) => (selfs n m).length + 1 - j) (0) (rn [(115, 111)]) (.cons (t := 4) rfl (.cons (t := 5) rfl (.cons (t := 10) rfl (.cons (t := 46) rfl (.cons (t := 47) rfl (.cons (t := 48) rfl (.cons (t := 55) rfl (.cons (t := 56) rfl .nil)))))))) .nil rfl ?_ ?_ rfl rfl ?_ ?_
   · exact (SubF.cons rfl (SubF.cons rfl SubF.nil))
   · exact (SubS.val rfl (by exact sb_data (by rw [List.take_zero, List.append_nil])) SubS.nil)
   ·skip
    omega
   intro j hinv
   have hj := hinv
   have hml := moves_len (selfs n m) (selfs n atm)[k]!
   have hmt : ((moves (selfs n m) (selfs n atm)[k]!).take j).length = j := by rw [List.length_take]; omega
   refine W.rg ?_
   refine SL.val (O.det (fun _ => G.R.lss rfl rfl) rfl Taken.no) ?_
   refine E.fo (W.seq ?_)
   first | refine W.cond_d rfl (fun hc6 => ?_) (fun hc6 => ?_) | refine W.cond_nd rfl (fun hc6 => ?_) (fun hc6 => ?_) | refine W.cond rfl (fun hc6 => ?_) (fun hc6 => ?_)
   ·skip
    refine W.skip (E.to (W.seq (W.block (W.rg ?_))))
    refine SL.val (O.idx_fz rfl rfl (rfl) (row_get (by omega)) Try.underlying39 hi3 hs3 rfl Taken.no) ?_
    refine SL.val (O.ld1 (PtI.ofU (PtU.fz rfl)) rfl Try.underlying3 rfl rfl Taken.no) ?_
    refine SL.an rfl rfl (E.fo (W.region (SL.mv rfl rfl (SL.mv rfl rfl (SL.mv rfl rfl ?_)))))
    refine SL.val (O.build (res := [_, _, _]) (z := .agg #[.bool false, .int .i64 0, .int .i64 0]) (places := [(0, 1), (1, 1), (2, 1)]) rfl rfl Try.underlying55 (by kernel_rfl) (fun _ => by kernel_rfl) rfl rfl Taken.no) ?_
    refine SL.memS (O.buildSlice 116 (rows := [Stp.mk false ((selfs n atm)[k]! : Nat) ((places (selfs n m))[j]!)].map eStp) rfl rfl Try.underlying103 hi55 hz55 hs55 (by decide) rfl (by decide) rfl rfl rfl Taken.no) rfl rfl (S' := (116, .data 55 3 ([Stp.mk false ((selfs n atm)[k]! : Nat) ((places (selfs n m))[j]!)].map eStp)) :: _) rfl ?_
    refine SL.memS (O.app (k' := 117) rfl rfl (SlOf.own rfl rfl) Try.underlying103 hi55 hz55 hs55 rfl rfl (by exact app_map) (by rw [hb55]; (simp only [List.length_map, List.length_singleton, List.length_append]; omega)) (by (simp only [List.length_map, List.length_singleton, List.length_append]; omega)) rfl Taken.no) rfl rfl (S' := (117, _) :: (115, .dead) :: _) rfl ?_
    refine SL.an rfl rfl (SL.nil (E.inn (E.to (W.region ?_))))
    refine SL.val (O.det (fun _ => by first | exact G.R.add64 rfl rfl (by omega) | exact G.R.add rfl rfl) rfl Taken.no) ?_
    refine SL.mv rfl rfl (SL.nil ?_)
    refine E.again ((j + 1)) (rn [(115, 117)]) ?_ ?_ rfl (fixL_spec rfl) ?_ ?_
    · exact (SubF.cons rfl (SubF.cons rfl (SubF.cons rfl (SubF.cons rfl (SubF.cons rfl (SubF.cons rfl (SubF.cons rfl (SubF.cons rfl (SubF.cons rfl (SubF.cons rfl SubF.nil))))))))))
    · exact (SubS.val rfl (by (try dsimp only); exact sb_data (by rw [snocP (l := moves (selfs n m) (selfs n atm)[k]!) (by omega), moves_get (by omega), ← List.append_assoc])) SubS.nil)
    ·try dsimp only
     omega
    · (try dsimp only); omega
   ·skip
    refine W.exit (E.th (E.th (E.hit (E.inn (E.to (W.region ?_))))))
    refine SL.val (O.det (fun _ => by first | exact G.R.add64 rfl rfl (by omega) | exact G.R.add rfl rfl) rfl Taken.no) ?_
    refine SL.mv rfl rfl (SL.nil ?_)
    refine E.again ((k + 1)) (rn [(111, 115)]) ?_ ?_ rfl (fixL_spec rfl) ?_ ?_
    · exact (SubF.cons rfl (SubF.cons rfl (SubF.cons rfl (SubF.cons rfl (SubF.cons rfl (SubF.cons rfl SubF.nil))))))
    · exact (SubS.val rfl (by (try dsimp only); exact sb_data (by rw [moves_s (by omega), show j = (moves (selfs n m) (selfs n atm)[k]!).length by rw [moves_len]; omega, List.take_length])) SubS.nil)
    ·try dsimp only
     omega
    · (try dsimp only); omega
  ·skip
   refine W.exit (E.th (E.th (E.hit (E.to (W.seq (W.rg (SL.mv rfl rfl ?_)))))))
   refine SL.val (O.lenE (SlOf.fz rfl (by decide)) (by first | exact List.length_map _ | rfl) Try.underlying39 rfl Taken.no) ?_
   refine SL.mv rfl rfl (E.fo (W.block ?_))
   have hka : k = (selfs n atm).length := by omega
   rw [hka, List.take_length]
   refine W.loopx1 (fun (i : Nat) => [(71, vI (i : Int)), (8, .own 118)]) (fun (i : Nat) => [(118, .data 55 3 ((((selfs n atm).map (moves (selfs n m))).flatten ++ unions (selfs n m) i).map eStp))]) (fun (i : Nat) => i ≤ (selfs n m).length) (fun (i : Nat) => (selfs n m).length - i) (0) (rn [(118, 111)]) (.cons (t := 4) rfl (.cons (t := 5) rfl (.cons (t := 69) rfl (.cons (t := 70) rfl .nil)))) .nil rfl ?_ ?_ rfl rfl ?_ ?_
   · exact (SubF.cons rfl (SubF.cons rfl SubF.nil))
   · exact (SubS.val rfl (by exact sb_data (by rw [unions, List.append_nil])) SubS.nil)
   ·skip
    omega
   intro i hinv
   have hi := hinv
   have hub := unions_b (cl := (selfs n m)) (by omega) i hi
   have hab := moves_b (cl := (selfs n m)) (by omega) (l := (selfs n atm)) (selfs n atm).length (Nat.le_refl _)
   rw [List.take_length] at hab
   refine W.rg ?_
   refine SL.val (O.det (fun _ => G.R.lss rfl rfl) rfl Taken.no) ?_
   refine E.fo (W.seq ?_)
   first | refine W.cond_d rfl (fun hc7 => ?_) (fun hc7 => ?_) | refine W.cond_nd rfl (fun hc7 => ?_) (fun hc7 => ?_) | refine W.cond rfl (fun hc7 => ?_) (fun hc7 => ?_)
   ·skip
    refine W.skip (E.to (W.seq (W.block (W.rg (SL.mv rfl rfl ?_)))))
    refine SL.val (O.idx_fz rfl rfl (rfl) (row_get (by omega)) Try.underlying39 hi3 hs3 rfl Taken.no) ?_
    refine SL.val (O.ld1 (PtI.ofU (PtU.fz rfl)) rfl Try.underlying3 rfl rfl Taken.no) ?_
    refine SL.an rfl rfl (SL.an rfl rfl (E.fo (W.rg (SL.mv rfl rfl (SL.mv rfl rfl ?_)))))
    refine SL.val (O.det (fun _ => by first | exact G.R.add64 rfl rfl (by omega) | exact G.R.add rfl rfl) rfl Taken.no) ?_
    refine SL.val (O.sub_fz (i := (i + 1)) rfl (Bnd.at rfl (by omega)) Bnd.no (by rw [List.length_map]; omega) (by first | omega | (simp only [List.length_map, Nat.le_refl, Nat.zero_le] <;> omega) | (simp <;> omega)) sub_lo Try.underlying39 hi3 hs3 rfl Taken.no) ?_
    refine SL.val (O.lenE (SlOf.fz rfl (by decide)) (by first | exact List.length_map _ | rfl) Try.underlying39 rfl Taken.no) ?_
    refine SL.mv rfl rfl (E.fo (W.block ?_))
    refine W.loopx1 (fun (j : Nat) => [(81, vI (j : Int)), (8, .own 119)]) (fun (j : Nat) => [(119, .data 55 3 (((((selfs n atm).map (moves (selfs n m))).flatten ++ unions (selfs n m) i) ++ (((selfs n m).drop (i + 1)).map fun b : Nat => Stp.mk true ((selfs n m)[i]! : Nat) b).take j).map eStp))]) (fun (j : Nat) => j ≤ ((selfs n m).drop (i + 1)).length) (fun (j : Nat) => ((selfs n m).drop (i + 1)).length - j) (0) (rn [(119, 118)]) (.cons (t := 4) rfl (.cons (t := 5) rfl (.cons (t := 14) rfl (.cons (t := 69) rfl (.cons (t := 70) rfl (.cons (t := 71) rfl (.cons (t := 79) rfl (.cons (t := 80) rfl .nil)))))))) .nil rfl ?_ ?_ rfl rfl ?_ ?_
    · exact (SubF.cons rfl (SubF.cons rfl SubF.nil))
    · exact (SubS.val rfl (by exact sb_data (by rw [List.take_zero, List.append_nil])) SubS.nil)
    ·skip
     omega
    intro j hinv
    have hj := hinv
    have hdl : ((selfs n m).drop (i + 1)).length = (selfs n m).length - (i + 1) := List.length_drop
    have hmt : ((((selfs n m).drop (i + 1)).map fun b : Nat => Stp.mk true ((selfs n m)[i]! : Nat) b).take j).length = j := by rw [List.length_take, List.length_map]; omega
    refine W.rg ?_
    refine SL.val (O.det (fun _ => G.R.lss rfl rfl) rfl Taken.no) ?_
    refine E.fo (W.seq ?_)
    first | refine W.cond_d rfl (fun hc8 => ?_) (fun hc8 => ?_) | refine W.cond_nd rfl (fun hc8 => ?_) (fun hc8 => ?_) | refine W.cond rfl (fun hc8 => ?_) (fun hc8 => ?_)
    ·skip
     refine W.skip (E.to (W.seq (W.block (W.rg ?_))))
     refine SL.val (O.idx_fz rfl rfl (rfl) (row_get (by omega)) Try.underlying39 hi3 hs3 rfl Taken.no) ?_
     refine SL.val (O.ld1 (PtI.ofU (PtU.fz rfl)) rfl Try.underlying3 rfl rfl Taken.no) ?_
     refine SL.an rfl rfl (E.fo (W.region (SL.mv rfl rfl (SL.mv rfl rfl (SL.mv rfl rfl ?_)))))
     refine SL.val (O.build (res := [_, _, _]) (z := .agg #[.bool false, .int .i64 0, .int .i64 0]) (places := [(0, 1), (1, 1), (2, 1)]) rfl rfl Try.underlying55 (by kernel_rfl) (fun _ => by kernel_rfl) rfl rfl Taken.no) ?_
     refine SL.memS (O.buildSlice 120 (rows := [Stp.mk true ((selfs n m)[i]! : Nat) ((((selfs n m).drop (i + 1))[j]! : Nat) : Int)].map eStp) rfl rfl Try.underlying103 hi55 hz55 hs55 (by decide) rfl (by decide) rfl rfl rfl Taken.no) rfl rfl (S' := (120, .data 55 3 ([Stp.mk true ((selfs n m)[i]! : Nat) ((((selfs n m).drop (i + 1))[j]! : Nat) : Int)].map eStp)) :: _) rfl ?_
     refine SL.memS (O.app (k' := 121) rfl rfl (SlOf.own rfl rfl) Try.underlying103 hi55 hz55 hs55 rfl rfl (by exact app_map) (by rw [hb55]; (simp only [List.length_map, List.length_singleton, List.length_append]; omega)) (by (simp only [List.length_map, List.length_singleton, List.length_append]; omega)) rfl Taken.no) rfl rfl (S' := (121, _) :: (119, .dead) :: _) rfl ?_
     refine SL.an rfl rfl (SL.nil (E.inn (E.to (W.region ?_))))
     refine SL.val (O.det (fun _ => by first | exact G.R.add64 rfl rfl (by omega) | exact G.R.add rfl rfl) rfl Taken.no) ?_
     refine SL.mv rfl rfl (SL.nil ?_)
     refine E.again ((j + 1)) (rn [(119, 121)]) ?_ ?_ rfl (fixL_spec rfl) ?_ ?_
     · exact (SubF.cons rfl (SubF.cons rfl (SubF.cons rfl (SubF.cons rfl (SubF.cons rfl (SubF.cons rfl (SubF.cons rfl (SubF.cons rfl (SubF.cons rfl (SubF.cons rfl SubF.nil))))))))))
     · exact (SubS.val rfl (by (try dsimp only); exact sb_data (by rw [snocP (l := ((selfs n m).drop (i + 1)).map fun b : Nat => Stp.mk true ((selfs n m)[i]! : Nat) b) (by rw [List.length_map]; omega), get_map (by omega), ← List.append_assoc])) SubS.nil)
     ·try dsimp only
      omega
     · (try dsimp only); omega
    ·skip
     refine W.exit (E.th (E.th (E.hit (E.inn (E.to (W.region ?_))))))
     refine SL.val (O.det (fun _ => by first | exact G.R.add64 rfl rfl (by omega) | exact G.R.add rfl rfl) rfl Taken.no) ?_
     refine SL.mv rfl rfl (SL.nil ?_)
     refine E.again ((i + 1)) (rn [(118, 119)]) ?_ ?_ rfl (fixL_spec rfl) ?_ ?_
     · exact (SubF.cons rfl (SubF.cons rfl (SubF.cons rfl (SubF.cons rfl (SubF.cons rfl (SubF.cons rfl SubF.nil))))))
     · exact (SubS.val rfl (by (try dsimp only); exact sb_data (by rw [unions, show j = (((selfs n m).drop (i + 1)).map fun b : Nat => Stp.mk true ((selfs n m)[i]! : Nat) b).length by rw [List.length_map]; omega, List.take_length, ← List.append_assoc])) SubS.nil)
     ·try dsimp only
      omega
     · (try dsimp only); omega
   ·skip
    refine W.exit (E.th (E.th (E.hit (E.to (W.rg (SL.mv rfl rfl (SL.an rfl rfl (E.fo (W.ret ?_)))))))))
    refine E.freeze 118 rfl (F' := [(4, _)]) (⟨⟨_, rfl, rfl⟩, trivial⟩) ?_
    refine E.fin (rs := [_]) (rn []) (.inl rfl) rfl (.cons (ResOne.tmp rfl) .nil) ?_ ?_ rfl (fixL_spec rfl)
    ·skip
     (rw [show i = (selfs n m).length by omega]; rfl)
    · exact SubS.nil

end Go.Proofs.Ytppamigboeaefaa
end
section
namespace Go.D33
open Go Go.RowKit Go.H
/-! ### Parts of any list -/
structure PartsN (E : Nat → Nat → Bool) (units : List Nat) (ps : List (List Nat)) : Prop where
  perm : ps.flatten.Perm units
  ne : ∀ p ∈ ps, p ≠ []
  conn : ∀ p ∈ ps, ∀ u ∈ p, ∀ v ∈ p, Cn (within E p) u v
  sep : ps.Pairwise fun p q => ∀ u ∈ p, ∀ v ∈ q, E u v = false
theorem partsN_ok {E : Nat → Nat → Bool} : ∀ (m : Nat) (l : List Nat), l.length = m → PartsN E l (partsL E l) := by
  intro m
  induction m using Nat.strongRecOn with
  | _ m ih =>
    intro l hm
    cases l with
    | nil => rw [parts_nil]; exact ⟨.refl _, fun p hp => (by cases hp), fun p hp => (by cases hp), List.Pairwise.nil⟩
    | cons u r =>
      obtain ⟨a1, a2, a3, a4, a5⟩ := grow1 (E := E) u r
      rw [List.length_cons] at hm
      have hl := a4.length_le
      have := ih _ (by omega) (grow E [u] r 0).2 rfl
      rw [parts_cons]
      refine ⟨?_, fun p hp => ?_, fun p hp x hx v hv => ?_, List.pairwise_cons.2 ⟨fun p hp x hx v hv => ?_, this.sep⟩⟩
      · rw [List.flatten_cons]
        exact (this.perm.append_left _).trans a1
      · rcases List.mem_cons.1 hp with rfl | hp
        · intro e
          rw [e] at a5
          obtain ⟨q, hq⟩ := a5
          cases hq
        · exact this.ne p hp
      · rcases List.mem_cons.1 hp with rfl | hp
        · exact (a2 x hx).symm.trans (a2 v hv)
        · exact this.conn p hp x hx v hv
      · exact a3 x hx v (this.perm.subset (List.mem_flatten.2 ⟨p, hp, hv⟩))
theorem foldl_min_mem : ∀ {r : List Nat} {u : Nat}, r.foldl min u ∈ u :: r ∧ ∀ v ∈ u :: r, r.foldl min u ≤ v
  | [], u => ⟨by simp, fun v hv => by rw [List.mem_singleton.1 hv]; exact Nat.le_refl _⟩
  | x :: r, u => by
    obtain ⟨h1, h2⟩ := foldl_min_mem (r := r) (u := min u x)
    rw [List.foldl_cons]
    refine ⟨?_, fun v hv => ?_⟩
    · rcases List.mem_cons.1 h1 with q | q
      · rcases Nat.le_total u x with z | z
        · rw [q, Nat.min_eq_left z]; simp
        · rw [q, Nat.min_eq_right z]; simp
      · simp [q]
    · have h3 := h2 (min u x) (by simp)
      rcases List.mem_cons.1 hv with rfl | hv
      · omega
      · rcases List.mem_cons.1 hv with rfl | hv
        · omega
        · exact h2 v (by simp [hv])
theorem minL_mem : ∀ {p : List Nat}, p ≠ [] → minL p ∈ p ∧ ∀ v ∈ p, minL p ≤ v
  | [], h => absurd rfl h
  | _ :: _, _ => foldl_min_mem
/-! ### The program's step -/
def thereL (m : List Nat) (t : Int) : List Nat := if t < 0 then [] else unitsL m t.toNat
def g0L (m atm : List Nat) (s : Stp) : List Nat := if s.u = true then unitsL m m[s.f.toNat]! ++ thereL m s.t else thereL m s.t ++ (unitsL m m[s.f.toNat]!).filter fun u => decide (atm[u]! = s.f.toNat)
def g1L (m atm : List Nat) (s : Stp) : List Nat := if s.u = true then [] else (unitsL m m[s.f.toNat]!).filter fun u => !decide (atm[u]! = s.f.toNat)
def gL (lk : Nat → Nat → Bool) (m atm : List Nat) (s : Stp) : List (List Nat) := partsL lk (g0L m atm s) ++ partsL lk (g1L m atm s)
def sumV (w : Nat → Nat → Int) (ps : List (List Nat)) : Int := ps.foldl (fun n p => n + valF w p) 0
def hitR (g : List Nat) (x : Ru) : Bool := decide (x.a.toNat ∈ g ∧ x.b.toNat ∈ g)
def rngF (n : Nat) (s : Stp) : Prop := 0 ≤ s.f ∧ s.f < (n : Int) ∧ s.t < (n : Int) ∧ -1 ≤ s.t ∧ (s.t < 0 → s.u = false)
instance (n : Nat) (s : Stp) : Decidable (rngF n s) := by unfold rngF; infer_instance
def preF (n : Nat) (atm m : List Nat) (s : Stp) : Prop :=
  rngF n s ∧ (0 ≤ s.t → m[s.t.toNat]! = s.t.toNat ∧ m[s.f.toNat]! ≠ s.t.toNat) ∧
  (s.u = true → m[s.f.toNat]! = s.f.toNat ∧ s.f < s.t) ∧ (s.u = false → atm[s.f.toNat]! = s.f.toNat ∧ (s.t < 0 → g1L m atm s ≠ []))
instance (n : Nat) (atm m : List Nat) (s : Stp) : Decidable (preF n atm m s) := by unfold preF; infer_instance
def posF (n : Nat) (bar : List Ru) (atm m : List Nat) (s : Stp) : Prop := preF n atm m s ∧ bar.any (hitR (g0L m atm s)) = false
instance (n : Nat) (bar : List Ru) (atm m : List Nat) (s : Stp) : Decidable (posF n bar atm m s) := by unfold posF; infer_instance
def nm0 (m atm : List Nat) (s : Stp) : List Int := setAll (m.map fun x : Nat => (x : Int)) (g0L m atm s) (-1)
def nmF (lk : Nat → Nat → Bool) (m atm : List Nat) (s : Stp) : List Int := nameF (fun x : Nat => (x : Int)) (nm0 m atm s) (gL lk m atm s)
def gnF (w : Nat → Nat → Int) (lk : Nat → Nat → Bool) (m atm : List Nat) (s : Stp) : Int := sumV w (gL lk m atm s) - (valF w (unitsL m m[s.f.toNat]!) + valF w (thereL m s.t))
/-! ### The reference's step -/
def nmL (l : List Nat) : List Nat := (List.range l.length).map fun i => l.idxOf l[i]!
def mvL (n : Nat) (atm m : List Nat) (s : Stp) : List Nat := (List.range n).map fun i => if atm[i]! = s.f.toNat then (if s.t < 0 then n else s.t.toNat) else m[i]!
def labL (n : Nat) (atm m : List Nat) (s : Stp) : List Nat := if s.u = true then joinL m s.f.toNat s.t.toNat else nmL (mvL n atm m s)
def othR (k : Nat) (atm m : List Nat) (f : Nat) : Bool := (List.range k).any fun i => decide (m[i]! = m[f]! ∧ ¬ atm[i]! = f)
def preR (n : Nat) (atm m : List Nat) (s : Stp) : Prop :=
  rngF n s ∧ (0 ≤ s.t → m[s.t.toNat]! = s.t.toNat) ∧
  (s.u = true → m[s.f.toNat]! = s.f.toNat ∧ s.f < s.t) ∧ (s.u = false → atm[s.f.toNat]! = s.f.toNat ∧ (0 ≤ s.t → m[s.f.toNat]! ≠ s.t.toNat) ∧ (s.t < 0 → othR n atm m s.f.toNat = true))
instance (n : Nat) (atm m : List Nat) (s : Stp) : Decidable (preR n atm m s) := by unfold preR; infer_instance
def posR (n : Nat) (bar : List Ru) (atm m : List Nat) (s : Stp) : Prop := preR n atm m s ∧ clash bar (labL n atm m s) = false
instance (n : Nat) (bar : List Ru) (atm m : List Nat) (s : Stp) : Decidable (posR n bar atm m s) := by unfold posR; infer_instance
def resR (n : Nat) (ps : List Pr) (rs : List Ru) (m : List Nat) (s : Stp) : List Nat := connL n ps rs (labL n (atomsL n rs) m s)
/-! ### Sums over pairs -/
def sumQ (q : Nat → Nat → Prop) [∀ a b, Decidable (q a b)] (ps : List Pr) : Int := ps.foldl (fun n x => if q x.a.toNat x.b.toNat then n + x.w else n) 0
theorem sumQ_s {q : Nat → Nat → Prop} [∀ a b, Decidable (q a b)] {ps : List Pr} (x : Pr) : sumQ q (ps ++ [x]) = sumQ q ps + if q x.a.toNat x.b.toNat then x.w else 0 := by
  unfold sumQ
  rw [List.foldl_append, List.foldl_cons, List.foldl_nil]
  by_cases e : q x.a.toNat x.b.toNat
  · rw [if_pos e, if_pos e]
  · rw [if_neg e, if_neg e]; omega
theorem valR_sum (m : List Nat) (ps : List Pr) : valR m ps = sumQ (fun a b => m[a]! = m[b]!) ps := rfl
theorem lin_eq {n : Nat} {ps : List Pr} {rs : List Ru} (hf : (Prob.mk (n : Int) ps rs).formed) {V : (Nat → Nat → Int) → Int} {q : Nat → Nat → Prop} [∀ a b, Decidable (q a b)] (ha : ∀ w d, V (fun i j => w i j + d i j) = V w + V d)
    (hp : ∀ a b x, a < n → b < n → a ≠ b → V (pairW a b x) = if q a b then x else 0) : V (wF ps) = sumQ q ps := by
  have key : ∀ k, k ≤ ps.length → V (wF (ps.take k)) = sumQ q (ps.take k) := by
    intro k
    induction k with
    | zero =>
      intro _
      have h1 := ha (fun _ _ => 0) (fun _ _ => 0)
      have e : (fun (_ _ : Nat) => (0 : Int) + 0) = fun _ _ => 0 := by funext i j; rfl
      rw [e] at h1
      rw [List.take_zero]
      show V (fun _ _ => 0) = 0
      omega
    | succ k ih =>
      intro hk
      have hk' : k < ps.length := hk
      have hp2 : prOk (n : Int) ps[k]! := (hf.2.2.2.1 k hk').1
      unfold prOk at hp2
      have hne : ps[k]!.a.toNat ≠ ps[k]!.b.toNat := by omega
      have h0 : wF (ps.take k) ps[k]!.a.toNat ps[k]!.b.toNat = 0 ∧ wF (ps.take k) ps[k]!.b.toNat ps[k]!.a.toNat = 0 := by
        have hd : ∀ x ∈ ps.take k, x.a.toNat < x.b.toNat ∧ ¬ (x.a.toNat = ps[k]!.a.toNat ∧ x.b.toNat = ps[k]!.b.toNat) := fun x hx => by
          obtain ⟨i, hi, rfl⟩ := List.getElem_of_mem hx
          rw [List.length_take] at hi
          have hi2 : i < ps.length := by omega
          have e1 : (ps.take k)[i]'(by rw [List.length_take]; omega) = ps[i]! := by rw [List.getElem_take, getElem!_pos ps i hi2]
          rw [e1]
          have ha := asc_lt hf (show i < k by omega) hk'
          have hpi : prOk (n : Int) ps[i]! := (hf.2.2.2.1 i hi2).1
          have ha' : prAsc ps[i]! ps[k]! := ha
          unfold prAsc at ha'
          unfold prOk at hpi
          omega
        exact ⟨wF_0 rfl fun x hx q => by have := hd x hx; omega, wF_0 rfl fun x hx q => by have := hd x hx; omega⟩
      have ew : wF (ps.take (k + 1)) = fun i j => wF (ps.take k) i j + pairW ps[k]!.a.toNat ps[k]!.b.toNat ps[k]!.w i j := by
        rw [wF_s hk']
        funext i j
        unfold addW upd2 pairW
        by_cases q : (i = ps[k]!.a.toNat ∧ j = ps[k]!.b.toNat) ∨ (i = ps[k]!.b.toNat ∧ j = ps[k]!.a.toNat)
        · rw [if_pos q, if_pos q]
          rcases q with ⟨q1, q2⟩ | ⟨q1, q2⟩
          · rw [q1, q2, h0.1]; omega
          · rw [q1, q2, h0.2]; omega
        · rw [if_neg q, if_neg q]; omega
      rw [ew, ha, ih (by omega), hp _ _ _ (by omega) (by omega) hne, snocP hk', sumQ_s]
  have := key ps.length (Nat.le_refl _)
  rwa [List.take_length] at this
theorem sumV_c (w : Nat → Nat → Int) (p : List Nat) (L : List (List Nat)) : sumV w (p :: L) = valF w p + sumV w L := by
  have key : ∀ (L : List (List Nat)) (n : Int), L.foldl (fun n p => n + valF w p) n = n + L.foldl (fun n p => n + valF w p) 0 := by
    intro L
    induction L with
    | nil => intro n; simp
    | cons v r ih => intro n; rw [List.foldl_cons, List.foldl_cons, ih, ih (0 + valF w v)]; omega
  unfold sumV
  rw [List.foldl_cons, key]; omega
theorem sumV_s (w : Nat → Nat → Int) {L : List (List Nat)} {k : Nat} (h : k < L.length) : sumV w (L.take (k + 1)) = sumV w (L.take k) + valF w L[k]! := by rw [snocP h, sumV, List.foldl_append]; rfl
theorem sumV_add (w d : Nat → Nat → Int) : ∀ L : List (List Nat), sumV (fun i j => w i j + d i j) L = sumV w L + sumV d L
  | [] => rfl
  | p :: L => by rw [sumV_c, sumV_c, sumV_c, sumV_add w d L, valF_add]; omega
theorem sumV_pair {a b : Nat} (hne : a ≠ b) (x : Int) : ∀ L : List (List Nat), L.flatten.Nodup → sumV (pairW a b x) L = if ∃ p ∈ L, a ∈ p ∧ b ∈ p then x else 0
  | [], _ => by rw [if_neg (by simp)]; rfl
  | p :: L, h => by
    rw [List.flatten_cons, List.nodup_append] at h
    obtain ⟨h1, h2, h3⟩ := h
    rw [sumV_c, sumV_pair hne x L h2, valF_pair hne x p h1]
    by_cases e : a ∈ p ∧ b ∈ p
    · rw [if_pos e, if_neg (fun ⟨q, hq, qa, _⟩ => h3 a e.1 a (List.mem_flatten.2 ⟨q, hq, qa⟩) rfl), if_pos ⟨p, by simp, e⟩]; omega
    · rw [if_neg e]
      by_cases e2 : ∃ p ∈ L, a ∈ p ∧ b ∈ p
      · obtain ⟨q, hq, qq⟩ := e2
        rw [if_pos ⟨q, hq, qq⟩, if_pos ⟨q, by simp [hq], qq⟩]; omega
      · rw [if_neg e2, if_neg (fun ⟨q, hq, qq⟩ => (List.mem_cons.1 hq).elim (fun z => e (z ▸ qq)) fun z => e2 ⟨q, z, qq⟩)]; omega
theorem sumQ_four {q1 q2 q3 q4 : Nat → Nat → Prop} [∀ a b, Decidable (q1 a b)] [∀ a b, Decidable (q2 a b)] [∀ a b, Decidable (q3 a b)] [∀ a b, Decidable (q4 a b)] : ∀ {ps : List Pr},
    (∀ x ∈ ps, ((q1 x.a.toNat x.b.toNat ↔ q3 x.a.toNat x.b.toNat) ∧ (q2 x.a.toNat x.b.toNat ↔ q4 x.a.toNat x.b.toNat)) ∨ ((q1 x.a.toNat x.b.toNat ↔ q2 x.a.toNat x.b.toNat) ∧ (q3 x.a.toNat x.b.toNat ↔ q4 x.a.toNat x.b.toNat))) → sumQ q1 ps - sumQ q2 ps = sumQ q3 ps - sumQ q4 ps := by
  intro ps
  have key : ∀ k, k ≤ ps.length → (∀ x ∈ ps, ((q1 x.a.toNat x.b.toNat ↔ q3 x.a.toNat x.b.toNat) ∧ (q2 x.a.toNat x.b.toNat ↔ q4 x.a.toNat x.b.toNat)) ∨ ((q1 x.a.toNat x.b.toNat ↔ q2 x.a.toNat x.b.toNat) ∧ (q3 x.a.toNat x.b.toNat ↔ q4 x.a.toNat x.b.toNat))) → sumQ q1 (ps.take k) - sumQ q2 (ps.take k) = sumQ q3 (ps.take k) - sumQ q4 (ps.take k) := by
    intro k
    induction k with
    | zero => intro _ _; rfl
    | succ k ih =>
      intro hk h
      have ih' := ih (by omega) h
      rw [snocP (show k < ps.length from hk), sumQ_s, sumQ_s, sumQ_s, sumQ_s]
      rcases h ps[k]! (mem_at hk) with ⟨e1, e2⟩ | ⟨e1, e2⟩
      · simp only [e1, e2]; omega
      · simp only [e1, e2]; omega
  intro h
  have := key ps.length (Nat.le_refl _) h
  rwa [List.take_length] at this
/-! ### What a step leads to -/
section
variable {n : Nat} {ps : List Pr} {rs : List Ru} {m : List Nat}
theorem Cn.inside {R R' : Nat → Nat → Prop} {O : Nat → Prop} (hO : ∀ i j, R i j → (O i ↔ O j)) (hR : ∀ i j, R i j → O i → R' i j) {i j : Nat} (g : Cn R i j) : (O i ↔ O j) ∧ (O i → Cn R' i j) := by
  induction g with
  | base h => exact ⟨hO _ _ h, fun o => .base (hR _ _ h o)⟩
  | refl i => exact ⟨Iff.rfl, fun _ => .refl i⟩
  | symm _ ih => exact ⟨ih.1.symm, fun o => (ih.2 (ih.1.2 o)).symm⟩
  | trans _ _ ih ih' => exact ⟨ih.1.trans ih'.1, fun o => (ih.2 o).trans (ih'.2 (ih.1.1 o))⟩
theorem perm_comp (hf : (Prob.mk (n : Int) ps rs).formed) (h : permR n ps rs m) : Comp n (inC n ps rs m) m := by
  have := conn_in hf m
  rwa [h.2.2] at this
/-- The groups of a step. -/
structure Grp (n : Nat) (m g0 g1 lab : List Nat) : Prop where
  nd : (g0 ++ g1).Nodup
  lt : ∀ u ∈ g0 ++ g1, u < n
  cl : ∀ i j, i < n → j < n → m[i]! = m[j]! → i ∈ g0 ++ g1 → j ∈ g0 ++ g1
  g1 : ∀ i j, i ∈ g1 → j ∈ g1 → m[i]! = m[j]!
  lab : ∀ i j, i < n → j < n → (lab[i]! = lab[j]! ↔ (i ∈ g0 ∧ j ∈ g0) ∨ (i ∉ g0 ∧ j ∉ g0 ∧ m[i]! = m[j]!))
namespace Grp
variable {g0 g1 lab : List Nat} {lk : Nat → Nat → Bool}
theorem parts_nd (h : Grp n m g0 g1 lab) : (partsL lk g0 ++ partsL lk g1).flatten.Nodup := by
  rw [List.flatten_append]
  have p0 := partsN_ok (E := lk) _ g0 rfl
  have p1 := partsN_ok (E := lk) _ g1 rfl
  exact ((p0.perm.append p1.perm).nodup_iff).2 h.nd
theorem mem (_ : Grp n m g0 g1 lab) {i : Nat} (hi : i ∈ g0 ++ g1) : ∃ p ∈ partsL lk g0 ++ partsL lk g1, i ∈ p := by
  have p0 := partsN_ok (E := lk) _ g0 rfl
  have p1 := partsN_ok (E := lk) _ g1 rfl
  have := ((p0.perm.append p1.perm).mem_iff).2 hi
  rw [← List.flatten_append, List.mem_flatten] at this
  exact this
theorem mem_of (_ : Grp n m g0 g1 lab) {i : Nat} {p : List Nat} (hp : p ∈ partsL lk g0 ++ partsL lk g1) (hi : i ∈ p) : i ∈ g0 ++ g1 := by
  have p0 := partsN_ok (E := lk) _ g0 rfl
  have p1 := partsN_ok (E := lk) _ g1 rfl
  apply ((p0.perm.append p1.perm).mem_iff).1
  rw [← List.flatten_append, List.mem_flatten]
  exact ⟨p, hp, hi⟩
theorem ne (_ : Grp n m g0 g1 lab) {p : List Nat} (hp : p ∈ partsL lk g0 ++ partsL lk g1) : p ≠ [] := by
  rcases List.mem_append.1 hp with q | q
  · exact (partsN_ok (E := lk) _ g0 rfl).ne p q
  · exact (partsN_ok (E := lk) _ g1 rfl).ne p q
theorem same (h : Grp n m g0 g1 lab) {p q : List Nat} {i : Nat} (hp : p ∈ partsL lk g0 ++ partsL lk g1) (hq : q ∈ partsL lk g0 ++ partsL lk g1) (hi : i ∈ p) (hj : i ∈ q) : p = q := by
  have := h.parts_nd (lk := lk)
  revert this hp hq
  generalize partsL lk g0 ++ partsL lk g1 = L
  intro hp hq hn
  induction L with
  | nil => cases hp
  | cons a L ih =>
    rw [List.flatten_cons, List.nodup_append] at hn
    rcases List.mem_cons.1 hp with ep | hp1
    · rcases List.mem_cons.1 hq with eq | hq1
      · rw [ep, eq]
      · rw [← ep] at hn; exact absurd rfl (hn.2.2 i hi i (List.mem_flatten.2 ⟨q, hq1, hj⟩))
    · rcases List.mem_cons.1 hq with eq | hq1
      · rw [← eq] at hn; exact absurd rfl (hn.2.2 i hj i (List.mem_flatten.2 ⟨p, hp1, hi⟩))
      · exact ih hp1 hq1 hn.2.1
theorem get_in (h : Grp n m g0 g1 lab) {α : Type} [Inhabited α] {f : Nat → α} {o : List α} (ho : o.length = n) {p : List Nat} (hp : p ∈ partsL lk g0 ++ partsL lk g1) {i : Nat} (hi : i ∈ p) : (nameF f o (partsL lk g0 ++ partsL lk g1))[i]! = f (minL p) :=
  nameF_in (by rw [ho]; exact h.lt i (h.mem_of hp hi)) h.parts_nd hp hi
theorem get_out (h : Grp n m g0 g1 lab) {α : Type} [Inhabited α] {f : Nat → α} {o : List α} (ho : o.length = n) {i : Nat} (hin : i < n) (hi : i ∉ g0 ++ g1) : (nameF f o (partsL lk g0 ++ partsL lk g1))[i]! = o[i]! :=
  nameF_out (by rw [ho]; exact hin) fun p hp hip => hi (h.mem_of hp hip)
theorem cast (h : Grp n m g0 g1 lab) (hm : m.length = n) : nameF (fun x : Nat => (x : Int)) (setAll (m.map fun x : Nat => (x : Int)) g0 (-1)) (partsL lk g0 ++ partsL lk g1) = (nameF id m (partsL lk g0 ++ partsL lk g1)).map fun x : Nat => (x : Int) := by
  have hl : (setAll (m.map fun x : Nat => (x : Int)) g0 (-1)).length = n := by rw [setAll_len, List.length_map]; exact hm
  apply ext_g
  · rw [nameF_len, hl, List.length_map, nameF_len, hm]
  intro i hi
  rw [nameF_len, hl] at hi
  rw [get_map (by rw [nameF_len, hm]; exact hi)]
  by_cases hg : i ∈ g0 ++ g1
  · obtain ⟨p, hp, hip⟩ := h.mem (lk := lk) hg
    rw [h.get_in hl hp hip, h.get_in hm hp hip]; rfl
  · rw [h.get_out hl hi hg, h.get_out hm hi hg, setAll_get (by rw [List.length_map]; omega), if_neg (fun q => hg (List.mem_append_left _ q)), get_map (by omega)]
theorem comp (_ : (Prob.mk (n : Int) ps rs).formed) (h : Grp n m g0 g1 lab) (hm : isP n m) (hc : Comp n (inC n ps rs m) m) :
    Comp n (inC n ps rs lab) (nameF id m (partsL (mF (lF ps) rs) g0 ++ partsL (mF (lF ps) rs) g1)) := by
  have hml := hm.1
  have hE : ∀ i j, mF (lF ps) rs i j = mF (lF ps) rs j i := lk_sym ps rs
  have p0 := partsN_ok (E := mF (lF ps) rs) _ g0 rfl
  have p1 := partsN_ok (E := mF (lF ps) rs) _ g1 rfl
  have hdis : ∀ i, i ∈ g0 → i ∉ g1 := fun i a b => (List.nodup_append.1 h.nd).2.2 i a i b rfl
  refine ⟨by rw [nameF_len]; exact hml, fun i j q => ⟨q.2.2.1, q.2.2.2⟩, fun i hi => ?_, fun i j q => ?_, fun i hi => ?_⟩
  · by_cases hg : i ∈ g0 ++ g1
    · obtain ⟨p, hp, hip⟩ := h.mem (lk := mF (lF ps) rs) hg
      rw [h.get_in hml hp hip]
      exact (minL_mem (h.ne hp)).2 i hip
    · rw [h.get_out hml hi hg]
      exact (hm.2 i hi).1
  · obtain ⟨q1, q2, q3, q4⟩ := q
    rcases (h.lab i j q3 q4).1 q2 with ⟨a, b⟩ | ⟨a, b, c⟩
    · obtain ⟨p, hp, hip⟩ := h.mem (lk := mF (lF ps) rs) (List.mem_append_left g1 a)
      obtain ⟨q, hq, hjq⟩ := h.mem (lk := mF (lF ps) rs) (List.mem_append_left g1 b)
      have hp' : p ∈ partsL (mF (lF ps) rs) g0 := (List.mem_append.1 hp).elim id fun z => absurd (p1.perm.subset (List.mem_flatten.2 ⟨p, z, hip⟩)) (hdis i a)
      have hq' : q ∈ partsL (mF (lF ps) rs) g0 := (List.mem_append.1 hq).elim id fun z => absurd (p1.perm.subset (List.mem_flatten.2 ⟨q, z, hjq⟩)) (hdis j b)
      have := sep_same hE p0.sep hp' hq' hip hjq q1
      subst this
      rw [h.get_in hml hp hip, h.get_in hml hp hjq]
    · by_cases hg : i ∈ g1
      · have hj : j ∈ g1 := (List.mem_append.1 (h.cl i j q3 q4 c (List.mem_append_right _ hg))).elim (fun z => absurd z b) id
        obtain ⟨p, hp, hip⟩ := h.mem (lk := mF (lF ps) rs) (List.mem_append_right g0 hg)
        obtain ⟨q, hq, hjq⟩ := h.mem (lk := mF (lF ps) rs) (List.mem_append_right g0 hj)
        have hp' : p ∈ partsL (mF (lF ps) rs) g1 := (List.mem_append.1 hp).elim (fun z => absurd (p0.perm.subset (List.mem_flatten.2 ⟨p, z, hip⟩)) a) id
        have hq' : q ∈ partsL (mF (lF ps) rs) g1 := (List.mem_append.1 hq).elim (fun z => absurd (p0.perm.subset (List.mem_flatten.2 ⟨q, z, hjq⟩)) b) id
        have := sep_same hE p1.sep hp' hq' hip hjq q1
        subst this
        rw [h.get_in hml hp hip, h.get_in hml hp hjq]
      · have hi : i ∉ g0 ++ g1 := fun z => (List.mem_append.1 z).elim a hg
        have hj : j ∉ g0 ++ g1 := fun z => hi (h.cl j i q4 q3 c.symm z)
        rw [h.get_out hml q3 hi, h.get_out hml q4 hj]
        exact c
  · by_cases hg : i ∈ g0 ++ g1
    · obtain ⟨p, hp, hip⟩ := h.mem (lk := mF (lF ps) rs) hg
      rw [h.get_in hml hp hip]
      show Cn _ i (minL p)
      rcases List.mem_append.1 hp with z | z
      · have hin : ∀ x, x ∈ p → x ∈ g0 := fun x hx => p0.perm.subset (List.mem_flatten.2 ⟨p, z, hx⟩)
        refine (p0.conn p z i hip _ (minL_mem (h.ne hp)).1).mono fun x y r => ?_
        have hx := h.lt x (List.mem_append_left _ (hin x r.2.1))
        have hy := h.lt y (List.mem_append_left _ (hin y r.2.2))
        exact ⟨r.1, (h.lab x y hx hy).2 (.inl ⟨hin x r.2.1, hin y r.2.2⟩), hx, hy⟩
      · have hin : ∀ x, x ∈ p → x ∈ g1 := fun x hx => p1.perm.subset (List.mem_flatten.2 ⟨p, z, hx⟩)
        refine (p1.conn p z i hip _ (minL_mem (h.ne hp)).1).mono fun x y r => ?_
        have hx := h.lt x (List.mem_append_right _ (hin x r.2.1))
        have hy := h.lt y (List.mem_append_right _ (hin y r.2.2))
        exact ⟨r.1, (h.lab x y hx hy).2 (.inr ⟨fun w => hdis x w (hin x r.2.1), fun w => hdis y w (hin y r.2.2), h.g1 x y (hin x r.2.1) (hin y r.2.2)⟩), hx, hy⟩
    · rw [h.get_out hml hi hg]
      refine ((hc.cn i hi).inside (O := fun x => x ∉ g0 ++ g1) (fun x y r => ?_) (fun x y r o => ?_)).2 hg
      · exact ⟨fun a b => a (h.cl y x r.2.2.2 r.2.2.1 r.2.1.symm b), fun a b => a (h.cl x y r.2.2.1 r.2.2.2 r.2.1 b)⟩
      · have o2 : y ∉ g0 ++ g1 := fun b => o (h.cl y x r.2.2.2 r.2.2.1 r.2.1.symm b)
        exact ⟨r.1, (h.lab x y r.2.2.1 r.2.2.2).2 (.inr ⟨fun w => o (List.mem_append_left _ w), fun w => o2 (List.mem_append_left _ w), r.2.1⟩), r.2.2.1, r.2.2.2⟩
theorem val (hf : (Prob.mk (n : Int) ps rs).formed) (h : Grp n m g0 g1 lab) (hm : isP n m) {here there : List Nat} (hp : (g0 ++ g1).Perm (here ++ there)) (h1 : ∀ i j, i < n → j < n → i ∈ here → (m[i]! = m[j]! ↔ j ∈ here)) (h2 : ∀ i j, i < n → j < n → i ∈ there → (m[i]! = m[j]! ↔ j ∈ there)) :
    sumV (wF ps) (partsL lk g0 ++ partsL lk g1) - (valF (wF ps) here + valF (wF ps) there) = valR (nameF id m (partsL lk g0 ++ partsL lk g1)) ps - valR m ps := by
  have hml := hm.1
  have hnd2 : (here ++ there).Nodup := hp.nodup_iff.1 h.nd
  have e1 : sumV (wF ps) (partsL lk g0 ++ partsL lk g1) = sumQ (fun a b => ∃ p ∈ partsL lk g0 ++ partsL lk g1, a ∈ p ∧ b ∈ p) ps :=
    lin_eq hf (V := fun w => sumV w (partsL lk g0 ++ partsL lk g1)) (fun w d => sumV_add w d _) fun a b x _ _ hne => sumV_pair hne x _ h.parts_nd
  have e2 : valF (wF ps) here + valF (wF ps) there = sumQ (fun a b => ∃ p ∈ [here, there], a ∈ p ∧ b ∈ p) ps := by
    have := lin_eq hf (V := fun w => sumV w [here, there]) (fun w d => sumV_add w d _) (q := fun a b => ∃ p ∈ [here, there], a ∈ p ∧ b ∈ p) fun a b x _ _ hne => sumV_pair hne x _ (by simpa using hnd2)
    rw [← this]
    show _ = sumV (wF ps) [here, there]
    rw [sumV_c, sumV_c]
    show _ = _ + (_ + 0)
    omega
  rw [e1, e2, valR_sum, valR_sum]
  refine sumQ_four fun x hx => ?_
  obtain ⟨ha, hb⟩ := pr_lt hf hx
  generalize x.a.toNat = a at *
  generalize x.b.toNat = b at *
  have hmem : ∀ {i}, i ∈ g0 ++ g1 ↔ i ∈ here ∨ i ∈ there := fun {i} => by rw [hp.mem_iff, List.mem_append]
  have hH : a ∈ g0 ++ g1 → ((∃ p ∈ [here, there], a ∈ p ∧ b ∈ p) ↔ m[a]! = m[b]!) := fun q => by
    constructor
    · rintro ⟨p, hp, pa, pb⟩
      rcases List.mem_cons.1 hp with rfl | hp
      · exact (h1 a b ha hb pa).2 pb
      · rw [List.mem_singleton.1 hp] at pa pb
        exact (h2 a b ha hb pa).2 pb
    · intro e
      rcases hmem.1 q with z | z
      · exact ⟨here, by simp, z, (h1 a b ha hb z).1 e⟩
      · exact ⟨there, by simp, z, (h2 a b ha hb z).1 e⟩
  by_cases qa : a ∈ g0 ++ g1
  · obtain ⟨p, hpp, hap⟩ := h.mem (lk := lk) qa
    refine .inl ⟨?_, hH qa⟩
    show _ ↔ (nameF id m _)[a]! = (nameF id m _)[b]!
    rw [h.get_in hml hpp hap]
    by_cases qb : b ∈ g0 ++ g1
    · obtain ⟨q, hqp, hbq⟩ := h.mem (lk := lk) qb
      rw [h.get_in hml hqp hbq]
      constructor
      · rintro ⟨r, hr, ra, rb⟩
        rw [h.same hpp hr hap ra, h.same hqp hr hbq rb]
      · intro e
        have e' : minL p = minL q := e
        have m1 := (minL_mem (h.ne hpp)).1
        have m2 := (minL_mem (h.ne hqp)).1
        rw [← e'] at m2
        have := h.same hpp hqp m1 m2
        subst this
        exact ⟨p, hpp, hap, hbq⟩
    · rw [h.get_out hml hb qb]
      constructor
      · rintro ⟨r, hr, _, rb⟩
        exact absurd (h.mem_of hr rb) qb
      · intro e
        have m1 := h.mem_of hpp (minL_mem (h.ne hpp)).1
        have e' : minL p = m[b]! := e
        rw [e'] at m1
        have hb2 := hm.2 b hb
        exact absurd (h.cl m[b]! b (by omega) hb hb2.2 m1) qb
  · refine .inr ?_
    have nP : ¬ ∃ p ∈ partsL lk g0 ++ partsL lk g1, a ∈ p ∧ b ∈ p := fun ⟨p, hpp, hap, _⟩ => qa (h.mem_of hpp hap)
    have nH : ¬ ∃ p ∈ [here, there], a ∈ p ∧ b ∈ p := fun ⟨p, hpp, hap, _⟩ => by
      rcases List.mem_cons.1 hpp with rfl | hpp
      · exact qa (hmem.2 (.inl hap))
      · rw [List.mem_singleton.1 hpp] at hap
        exact qa (hmem.2 (.inr hap))
    refine ⟨⟨fun q => absurd q nP, fun q => absurd q nH⟩, ?_⟩
    show (nameF id m _)[a]! = (nameF id m _)[b]! ↔ _
    rw [h.get_out hml ha qa]
    by_cases qb : b ∈ g0 ++ g1
    · obtain ⟨q, hqp, hbq⟩ := h.mem (lk := lk) qb
      rw [h.get_in hml hqp hbq]
      constructor
      · intro e
        have m1 := h.mem_of hqp (minL_mem (h.ne hqp)).1
        have e' : m[a]! = minL q := e
        rw [← e'] at m1
        have ha2 := hm.2 a ha
        exact absurd (h.cl m[a]! a (by omega) ha ha2.2 m1) qa
      · intro e
        exact absurd (h.cl b a hb ha e.symm qb) qa
    · rw [h.get_out hml hb qb]
end Grp
end
end Go.D33
end
section
namespace Go.D33
open Go Go.RowKit Go.H
section
variable {n : Nat} {ps : List Pr} {rs : List Ru} {m atm : List Nat} {s : Stp}
theorem nmL_iff {l : List Nat} {i j : Nat} (hi : i < l.length) (hj : j < l.length) : (nmL l)[i]! = (nmL l)[j]! ↔ l[i]! = l[j]! := by
  have hg : ∀ {i}, i < l.length → (nmL l)[i]! = l.idxOf l[i]! ∧ l[l.idxOf l[i]!]! = l[i]! := fun {i} hi => by
    refine ⟨by rw [nmL, get_map (by rw [List.length_range]; exact hi), range_get hi], ?_⟩
    have hlt : l.idxOf l[i]! < l.length := List.idxOf_lt_length_of_mem (mem_at hi)
    rw [getElem!_pos l _ hlt, List.getElem_idxOf hlt]
  rw [(hg hi).1, (hg hj).1]
  constructor
  · intro e
    rw [← (hg hi).2, ← (hg hj).2, e]
  · intro e
    rw [e]
theorem mem_here (hm : m.length = n) {c i : Nat} : i ∈ unitsL m c ↔ i < n ∧ m[i]! = c := by rw [mem_units, hm]
theorem mem_there (hm : m.length = n) {t : Int} {i : Nat} : i ∈ thereL m t ↔ 0 ≤ t ∧ i < n ∧ m[i]! = t.toNat := by
  unfold thereL
  by_cases h : t < 0
  · rw [if_pos h]
    exact ⟨fun q => (by cases q), fun q => by omega⟩
  · rw [if_neg h, mem_here hm]
    exact ⟨fun q => ⟨by omega, q⟩, fun q => q.2⟩
theorem there_nodup (m : List Nat) (t : Int) : (thereL m t).Nodup := by
  unfold thereL
  split
  · exact List.nodup_nil
  · exact units_nodup _ _
theorem mem_g0u (hm : m.length = n) (hu : s.u = true) {i : Nat} : i ∈ g0L m atm s ↔ i < n ∧ (m[i]! = m[s.f.toNat]! ∨ (0 ≤ s.t ∧ m[i]! = s.t.toNat)) := by
  unfold g0L
  rw [if_pos hu, List.mem_append, mem_here hm, mem_there hm]
  constructor
  · rintro (q | q)
    · exact ⟨q.1, .inl q.2⟩
    · exact ⟨q.2.1, .inr ⟨q.1, q.2.2⟩⟩
  · rintro ⟨q1, q | q⟩
    · exact .inl ⟨q1, q⟩
    · exact .inr ⟨q.1, q1, q.2⟩
theorem mem_g0m (hm : m.length = n) (hu : s.u = false) {i : Nat} : i ∈ g0L m atm s ↔ i < n ∧ ((0 ≤ s.t ∧ m[i]! = s.t.toNat) ∨ (m[i]! = m[s.f.toNat]! ∧ atm[i]! = s.f.toNat)) := by
  unfold g0L
  rw [if_neg (by rw [hu]; decide), List.mem_append, List.mem_filter, mem_here hm, mem_there hm, decide_eq_true_eq]
  constructor
  · rintro (q | q)
    · exact ⟨q.2.1, .inl ⟨q.1, q.2.2⟩⟩
    · exact ⟨q.1.1, .inr ⟨q.1.2, q.2⟩⟩
  · rintro ⟨q1, q | q⟩
    · exact .inl ⟨q.1, q1, q.2⟩
    · exact .inr ⟨⟨q1, q.1⟩, q.2⟩
theorem mem_g1m (hm : m.length = n) (hu : s.u = false) {i : Nat} : i ∈ g1L m atm s ↔ i < n ∧ m[i]! = m[s.f.toNat]! ∧ ¬ atm[i]! = s.f.toNat := by
  unfold g1L
  rw [if_neg (by rw [hu]; decide), List.mem_filter, mem_here hm]
  simp only [Bool.not_eq_true', decide_eq_false_iff_not, and_assoc]
theorem g1u (hu : s.u = true) : g1L m atm s = [] := if_pos hu
theorem grp_perm (m atm : List Nat) (s : Stp) : (g0L m atm s ++ g1L m atm s).Perm (unitsL m m[s.f.toNat]! ++ thereL m s.t) := by
  by_cases hu : s.u = true
  · rw [g1u hu, List.append_nil, g0L, if_pos hu]
  · rw [g0L, g1L, if_neg hu, if_neg hu, List.append_assoc]
    refine List.perm_append_comm.trans ?_
    exact (perm_filt _ _).append_right _
theorem g0_at (hm : m.length = n) {i j : Nat} (hi : i < n) (hj : j < n) (h1 : m[i]! = m[j]!) (h2 : atm[i]! = atm[j]!) : i ∈ g0L m atm s ↔ j ∈ g0L m atm s := by
  cases hu : s.u with
  | true => rw [mem_g0u hm hu, mem_g0u hm hu, h1]; exact ⟨fun q => ⟨hj, q.2⟩, fun q => ⟨hi, q.2⟩⟩
  | false => rw [mem_g0m hm hu, mem_g0m hm hu, h1, h2]; exact ⟨fun q => ⟨hj, q.2⟩, fun q => ⟨hi, q.2⟩⟩
theorem mvL_get {i : Nat} (hi : i < n) : (mvL n atm m s)[i]! = if atm[i]! = s.f.toNat then (if s.t < 0 then n else s.t.toNat) else m[i]! := by
  rw [mvL, get_map (by rw [List.length_range]; exact hi), range_get hi]
theorem grp_of (hm : isP n m) (hat : ∀ i, i < n → m[i]! = m[atm[i]!]!) (h : preF n atm m s) : Grp n m (g0L m atm s) (g1L m atm s) (labL n atm m s) := by
  obtain ⟨⟨r1, r2, r3, r4, r5⟩, h2, h3, h4⟩ := h
  have hml := hm.1
  have hp := grp_perm m atm s
  have hmem : ∀ {i}, i ∈ g0L m atm s ++ g1L m atm s ↔ i < n ∧ (m[i]! = m[s.f.toNat]! ∨ (0 ≤ s.t ∧ m[i]! = s.t.toNat)) := fun {i} => by
    rw [hp.mem_iff, List.mem_append, mem_here hml, mem_there hml]
    exact ⟨fun q => q.elim (fun q => ⟨q.1, .inl q.2⟩) fun q => ⟨q.2.1, .inr ⟨q.1, q.2.2⟩⟩, fun ⟨q1, q2⟩ => q2.elim (fun q => .inl ⟨q1, q⟩) fun q => .inr ⟨q.1, q1, q.2⟩⟩
  refine ⟨hp.nodup_iff.2 (List.nodup_append.2 ⟨units_nodup _ _, there_nodup _ _, fun a ha b hb e => ?_⟩), fun u hu => (hmem.1 hu).1, fun i j hi hj e q => ?_, fun i j hi hj => ?_, fun i j hi hj => ?_⟩
  · subst e
    have q1 := (mem_here hml).1 ha
    have q2 := (mem_there hml).1 hb
    exact (h2 q2.1).2 (by omega)
  · rw [hmem] at q ⊢
    exact ⟨hj, by rw [← e]; exact q.2⟩
  · cases hu : s.u with
    | true => rw [g1u hu] at hi; cases hi
    | false =>
      have q1 := (mem_g1m hml hu).1 hi
      have q2 := (mem_g1m hml hu).1 hj
      omega
  · cases hu : s.u with
    | true =>
      have q3 := h3 hu
      have ht0 : 0 ≤ s.t := by omega
      have q2 := h2 ht0
      unfold labL
      rw [if_pos hu, join_get (by omega), join_get (by omega), mem_g0u hml hu, mem_g0u hml hu]
      have hlt : s.f.toNat < s.t.toNat := by omega
      rw [q3.1, q2.1, Nat.max_eq_right (Nat.le_of_lt hlt), Nat.min_eq_left (Nat.le_of_lt hlt)]
      split <;> split <;> omega
    | false =>
      have q4 := h4 hu
      have hfn : s.f.toNat < n := by omega
      unfold labL
      have hll : (mvL n atm m s).length = n := by rw [mvL, List.length_map, List.length_range]
      rw [if_neg (by rw [hu]; decide), nmL_iff (by omega) (by omega), mvL_get hi, mvL_get hj, mem_g0m hml hu, mem_g0m hml hu]
      have ai : atm[i]! = s.f.toNat → m[i]! = m[s.f.toNat]! := fun e => by rw [hat i hi, e]
      have aj : atm[j]! = s.f.toNat → m[j]! = m[s.f.toNat]! := fun e => by rw [hat j hj, e]
      have li := (hm.2 i hi).1
      have lj := (hm.2 j hj).1
      by_cases ht : s.t < 0
      · rw [if_pos ht]
        split <;> split <;> omega
      · rw [if_neg ht]
        have q2 := h2 (by omega)
        split <;> split <;> omega
theorem pre_iff (hm : isP n m) (_ : ∀ i, i < n → m[i]! = m[atm[i]!]!) : preF n atm m s ↔ preR n atm m s := by
  have hml := hm.1
  have hoth : s.u = false → (g1L m atm s ≠ [] ↔ othR n atm m s.f.toNat = true) := fun hu => by
    constructor
    · intro h
      obtain ⟨i, hi⟩ := List.exists_mem_of_ne_nil _ h
      have q := (mem_g1m hml hu).1 hi
      exact List.any_eq_true.2 ⟨i, List.mem_range.2 q.1, decide_eq_true ⟨q.2.1, q.2.2⟩⟩
    · intro h e
      obtain ⟨i, hi, q⟩ := List.any_eq_true.1 h
      have q := of_decide_eq_true q
      have : i ∈ g1L m atm s := (mem_g1m hml hu).2 ⟨List.mem_range.1 hi, q.1, q.2⟩
      rw [e] at this
      cases this
  constructor
  · rintro ⟨h1, h2, h3, h4⟩
    exact ⟨h1, fun q => (h2 q).1, h3, fun hu => ⟨(h4 hu).1, fun q => (h2 q).2, fun q => (hoth hu).1 ((h4 hu).2 q)⟩⟩
  · rintro ⟨h1, h2, h3, h4⟩
    refine ⟨h1, fun q => ⟨h2 q, ?_⟩, h3, fun hu => ⟨(h4 hu).1, fun q => (hoth hu).2 ((h4 hu).2.2 q)⟩⟩
    cases hu : s.u with
    | true => have := h3 hu; have := h1.1; omega
    | false => exact (h4 hu).2.1 q
theorem clash_lab {bar : List Ru} {g0 g1 lab : List Nat} (g : Grp n m g0 g1 lab) (hc : clash bar m = false) (hb : ∀ x ∈ bar, 0 ≤ x.a ∧ x.a < (n : Int) ∧ 0 ≤ x.b ∧ x.b < (n : Int)) : clash bar lab = bar.any (hitR g0) := by
  rw [Bool.eq_iff_iff]
  unfold clash at hc ⊢
  rw [List.any_eq_true, List.any_eq_true]
  have hno : ∀ x ∈ bar, ¬ m[x.a.toNat]! = m[x.b.toNat]! := fun x hx e => by
    have := List.any_eq_false.1 hc x hx
    exact this (decide_eq_true e)
  constructor
  · rintro ⟨x, hx, e⟩
    have hxb := hb x hx
    rcases (g.lab _ _ (by omega) (by omega)).1 (of_decide_eq_true e) with q | q
    · exact ⟨x, hx, decide_eq_true q⟩
    · exact absurd q.2.2 (hno x hx)
  · rintro ⟨x, hx, e⟩
    have hxb := hb x hx
    exact ⟨x, hx, decide_eq_true ((g.lab _ _ (by omega) (by omega)).2 (.inl (of_decide_eq_true e)))⟩
theorem atoms_comp (hf : (Prob.mk (n : Int) ps rs).formed) : Comp n (fun i j => (i, j) ∈ muE rs) (atomsL n rs) :=
  Comp.joins0 fun e he => by
    obtain ⟨r, hr, _, rfl⟩ := mem_muE.1 he
    exact ⟨(ru_lt hf hr).1, (ru_lt hf hr).2.1⟩
theorem pos_iff (hf : (Prob.mk (n : Int) ps rs).formed) (hm : isP n m) (hp : permR n ps rs m) : posF n (barL rs) (atomsL n rs) m s ↔ posR n (barL rs) (atomsL n rs) m s := by
  have e := pre_iff (atm := atomsL n rs) (s := s) hm hp.2.1
  constructor
  · rintro ⟨h1, h2⟩
    exact ⟨e.1 h1, by rw [clash_lab (grp_of hm hp.2.1 h1) hp.1 (bar_rng hf)]; exact h2⟩
  · rintro ⟨h1, h2⟩
    have h3 := e.2 h1
    exact ⟨h3, by rw [← clash_lab (grp_of hm hp.2.1 h3) hp.1 (bar_rng hf)]; exact h2⟩
theorem res_comp (hf : (Prob.mk (n : Int) ps rs).formed) (m : List Nat) (s : Stp) : Comp n (inC n ps rs (labL n (atomsL n rs) m s)) (resR n ps rs m s) := conn_in hf _
theorem apply_eq (hf : (Prob.mk (n : Int) ps rs).formed) (hm : isP n m) (hp : permR n ps rs m) (h : preF n (atomsL n rs) m s) :
    nmF (mF (lF ps) rs) m (atomsL n rs) s = (resR n ps rs m s).map (fun x : Nat => (x : Int)) ∧ gnF (wF ps) (mF (lF ps) rs) m (atomsL n rs) s = valR (resR n ps rs m s) ps - valR m ps := by
  have hml := hm.1
  have g := grp_of hm hp.2.1 h
  have e : resR n ps rs m s = nameF id m (gL (mF (lF ps) rs) m (atomsL n rs) s) := (res_comp hf m s).uniq (g.comp hf hm (perm_comp hf hp))
  refine ⟨?_, ?_⟩
  · rw [e]; exact g.cast hml
  · rw [e]
    have hfn : s.f.toNat < n := by have h1 := h.1.1; have h2 := h.1.2.1; omega
    refine g.val hf hm (grp_perm m _ s) (fun i j hi hj q => ?_) fun i j hi hj q => ?_
    · rw [mem_here hml] at q ⊢
      omega
    · rw [mem_there hml] at q ⊢
      omega
theorem lab_at (_ : (Prob.mk (n : Int) ps rs).formed) (hm : isP n m) (hp : permR n ps rs m) (h : preF n (atomsL n rs) m s) {i j : Nat} (hi : i < n) (hj : j < n) (e : (atomsL n rs)[i]! = (atomsL n rs)[j]!) : (labL n (atomsL n rs) m s)[i]! = (labL n (atomsL n rs) m s)[j]! := by
  have g := grp_of hm hp.2.1 h
  have hml := hm.1
  have e2 : m[i]! = m[j]! := by rw [hp.2.1 i hi, hp.2.1 j hj, e]
  have e3 := g0_at (s := s) hml hi hj e2 e
  refine (g.lab i j hi hj).2 ?_
  by_cases q : i ∈ g0L m (atomsL n rs) s
  · exact .inl ⟨q, e3.1 q⟩
  · exact .inr ⟨q, fun z => q (e3.2 z), e2⟩
/-- The result of labels that keep atoms together and break no rule is permitted. -/
theorem conn_perm (hf : (Prob.mk (n : Int) ps rs).formed) {lab : List Nat} (hat : ∀ i j, i < n → j < n → (atomsL n rs)[i]! = (atomsL n rs)[j]! → lab[i]! = lab[j]!) (hc : clash (barL rs) lab = false) : isP n (connL n ps rs lab) ∧ permR n ps rs (connL n ps rs lab) := by
  have hr := conn_in hf lab
  have ha := atoms_comp hf
  have hlab : ∀ i j, Cn (inC n ps rs lab) i j → lab[i]! = lab[j]! := fun i j g => Cn.keep (f := fun i => lab[i]!) (fun i j q => q.2.1) g
  refine ⟨⟨hr.len, fun i hi => ⟨hr.le i hi, hr.idem hi⟩⟩, ?_, fun i hi => ?_, ?_⟩
  · unfold clash at hc ⊢
    rw [List.any_eq_false] at hc ⊢
    intro x hx e
    have hxb := bar_rng hf x hx
    exact hc x hx (decide_eq_true (hlab _ _ ((hr.iff (by omega) (by omega)).1 (of_decide_eq_true e))))
  · refine (hr.iff hi (ha.lt hi)).2 ((ha.cn i hi).lift fun x y q => .base ?_)
    obtain ⟨hx, hy⟩ := ha.bnd x y q
    obtain ⟨r, hrr, hk, e⟩ := mem_muE.1 q
    cases e
    exact ⟨(mF_iff rs).2 (.inr ⟨r, hrr, (ru_lt hf hrr).2.2.2 hk, .inl ⟨rfl, rfl⟩⟩), hat _ _ hx hy (ha.rel _ _ q), hx, hy⟩
  · refine (conn_in hf _).uniq (hr.congr (fun i j q => ⟨q.2.2.1, q.2.2.2⟩) (fun i j q => ?_) fun i j q => ?_)
    · exact .base ⟨q.1, hlab _ _ ((hr.iff q.2.2.1 q.2.2.2).1 q.2.1), q.2.2.1, q.2.2.2⟩
    · exact .base ⟨q.1, hr.rel i j q, q.2.2.1, q.2.2.2⟩
theorem res_perm (hf : (Prob.mk (n : Int) ps rs).formed) (hm : isP n m) (hp : permR n ps rs m) (h : posR n (barL rs) (atomsL n rs) m s) : isP n (resR n ps rs m s) ∧ permR n ps rs (resR n ps rs m s) :=
  conn_perm hf (fun _ _ hi hj e => lab_at hf hm hp ((pre_iff hm hp.2.1).2 h.1) hi hj e) h.2
end
end Go.D33
end
section
namespace Go.D33
open Go Go.RowKit Go.H
/-! ### The best of some steps -/
def pick (ok : Stp → Prop) [DecidablePred ok] (g : Stp → Int) (b : Stp × Int) (s : Stp) : Stp × Int := if ok s ∧ b.2 < g s then (s, g s) else b
def bestF (ok : Stp → Prop) [DecidablePred ok] (g : Stp → Int) (l : List Stp) : Stp × Int := l.foldl (pick ok g) (⟨false, 0, 0⟩, 0)
section
variable {ok : Stp → Prop} [DecidablePred ok] {g : Stp → Int}
theorem pick_y {b : Stp × Int} {s : Stp} (h : ok s) (h2 : b.2 < g s) : pick ok g b s = (s, g s) := if_pos ⟨h, h2⟩
theorem pick_n {b : Stp × Int} {s : Stp} (h : ¬ (ok s ∧ b.2 < g s)) : pick ok g b s = b := if_neg h
theorem best_app (l k : List Stp) : bestF ok g (l ++ k) = k.foldl (pick ok g) (bestF ok g l) := List.foldl_append
theorem best_snoc (l : List Stp) (s : Stp) : bestF ok g (l ++ [s]) = pick ok g (bestF ok g l) s := by rw [best_app]; rfl
theorem best_s {l : List Stp} {k : Nat} (h : k < l.length) : bestF ok g (l.take (k + 1)) = pick ok g (bestF ok g (l.take k)) l[k]! := by rw [snocP h, best_snoc]
theorem best_spec' (l : List Stp) : ∀ k, k ≤ l.length → 0 ≤ (bestF ok g (l.take k)).2 ∧ (0 < (bestF ok g (l.take k)).2 → (bestF ok g (l.take k)).1 ∈ l ∧ ok (bestF ok g (l.take k)).1 ∧ g (bestF ok g (l.take k)).1 = (bestF ok g (l.take k)).2) ∧
    (∀ s ∈ l.take k, ok s → g s ≤ (bestF ok g (l.take k)).2) ∧ ((bestF ok g (l.take k)).2 = 0 → (bestF ok g (l.take k)).1 = ⟨false, 0, 0⟩) := by
  intro k
  induction k with
  | zero =>
    intro _
    refine ⟨Int.le_refl _, fun h => absurd h (by rw [List.take_zero]; show ¬ (0 : Int) < 0; omega), fun s hs => ?_, fun _ => rfl⟩
    rw [List.take_zero] at hs; cases hs
  | succ k ih =>
    intro hk
    obtain ⟨h1, h2, h3, h4⟩ := ih (by omega)
    rw [best_s (show k < l.length from hk)]
    by_cases hp : ok l[k]! ∧ (bestF ok g (l.take k)).2 < g l[k]!
    · rw [pick_y hp.1 hp.2]
      refine ⟨by show 0 ≤ g l[k]!; omega, fun _ => ⟨mem_at hk, hp.1, rfl⟩, fun s hs hok => ?_, fun e => ?_⟩
      · rw [snocP (show k < l.length from hk)] at hs
        rcases List.mem_append.1 hs with q | q
        · have := h3 s q hok
          show g s ≤ g l[k]!
          omega
        · rw [List.mem_singleton.1 q]; exact Int.le_refl _
      · have e' : g l[k]! = 0 := e
        omega
    · rw [pick_n hp]
      refine ⟨h1, h2, fun s hs hok => ?_, h4⟩
      rw [snocP (show k < l.length from hk)] at hs
      rcases List.mem_append.1 hs with q | q
      · exact h3 s q hok
      · rw [List.mem_singleton.1 q] at hok ⊢
        rcases Int.lt_or_le (bestF ok g (l.take k)).2 (g l[k]!) with z | z
        · exact absurd ⟨hok, z⟩ hp
        · exact z
theorem best_spec (l : List Stp) : 0 ≤ (bestF ok g l).2 ∧ (0 < (bestF ok g l).2 → (bestF ok g l).1 ∈ l ∧ ok (bestF ok g l).1 ∧ g (bestF ok g l).1 = (bestF ok g l).2) ∧
    (∀ s ∈ l, ok s → g s ≤ (bestF ok g l).2) ∧ ((bestF ok g l).2 = 0 → (bestF ok g l).1 = ⟨false, 0, 0⟩) := by
  have := best_spec' (ok := ok) (g := g) l l.length (Nat.le_refl _)
  rwa [List.take_length] at this
theorem best_filter {q : Stp → Bool} (hq : ∀ s, ok s → q s = true) (l : List Stp) : bestF ok g (l.filter q) = bestF ok g l := by
  unfold bestF
  generalize ((⟨false, 0, 0⟩, 0) : Stp × Int) = b
  induction l generalizing b with
  | nil => rfl
  | cons s l ih =>
    rw [List.foldl_cons]
    cases e : q s with
    | true => rw [List.filter_cons, if_pos e, List.foldl_cons]; exact ih _
    | false =>
      rw [List.filter_cons, if_neg (by rw [e]; decide), pick_n (fun z => by rw [hq s z.1] at e; cases e)]; exact ih _
theorem best_congr {ok' : Stp → Prop} [DecidablePred ok'] {g' : Stp → Int} {l : List Stp} (h : ∀ s ∈ l, (ok s ↔ ok' s) ∧ (ok s → g s = g' s)) : bestF ok g l = bestF ok' g' l := by
  unfold bestF
  generalize ((⟨false, 0, 0⟩, 0) : Stp × Int) = b
  induction l generalizing b with
  | nil => rfl
  | cons s l ih =>
    rw [List.foldl_cons, List.foldl_cons]
    have hs := h s (by simp)
    have e : pick ok g b s = pick ok' g' b s := by
      unfold pick
      by_cases q : ok s
      · rw [hs.2 q]
        by_cases z : b.2 < g' s
        · rw [if_pos ⟨q, z⟩, if_pos ⟨hs.1.1 q, z⟩]
        · rw [if_neg (fun w => z w.2), if_neg (fun w => z w.2)]
      · rw [if_neg (fun w => q w.1), if_neg (fun w => q (hs.1.2 w.1))]
    rw [e]
    exact ih (fun s hs => h s (by simp [hs])) _
end
/-! ### All steps -/
def rowS (n : Nat) (u : Bool) (f : Nat) : List Stp := (places (List.range n)).map fun t => ⟨u, (f : Int), t⟩
def kindS (n : Nat) (u : Bool) (k : Nat) : List Stp := ((List.range k).map (rowS n u)).flatten
def allS (n : Nat) : List Stp := kindS n false n ++ kindS n true n
theorem kindS_s (n : Nat) (u : Bool) (k : Nat) : kindS n u (k + 1) = kindS n u k ++ rowS n u k := by
  rw [kindS, List.range_succ, List.map_append, List.flatten_append]; simp [kindS]
theorem mem_allS {n : Nat} {s : Stp} : s ∈ allS n ↔ 0 ≤ s.f ∧ s.f < (n : Int) ∧ -1 ≤ s.t ∧ s.t < (n : Int) := by
  have hr : ∀ {u : Bool}, s ∈ kindS n u n ↔ s.u = u ∧ 0 ≤ s.f ∧ s.f < (n : Int) ∧ -1 ≤ s.t ∧ s.t < (n : Int) := fun {u} => by
    unfold kindS
    rw [List.mem_flatten]
    constructor
    · rintro ⟨l, hl, hs⟩
      obtain ⟨f, hf, rfl⟩ := List.mem_map.1 hl
      obtain ⟨t, ht, rfl⟩ := List.mem_map.1 hs
      have hf := List.mem_range.1 hf
      rcases List.mem_cons.1 ht with rfl | ht
      · exact ⟨rfl, by show (0 : Int) ≤ f; omega, by show (f : Int) < n; omega, by show (-1 : Int) ≤ -1; omega, by show (-1 : Int) < n; omega⟩
      · obtain ⟨t, ht', rfl⟩ := List.mem_map.1 ht
        have ht := List.mem_range.1 ht'
        exact ⟨rfl, by show (0 : Int) ≤ f; omega, by show (f : Int) < n; omega, by show (-1 : Int) ≤ t; omega, by show (t : Int) < n; omega⟩
    · rintro ⟨e, h1, h2, h3, h4⟩
      refine ⟨rowS n u s.f.toNat, List.mem_map.2 ⟨s.f.toNat, List.mem_range.2 (by omega), rfl⟩, List.mem_map.2 ⟨s.t, ?_, ?_⟩⟩
      · by_cases ht : s.t = -1
        · rw [ht]; simp [places]
        · refine List.mem_cons_of_mem _ (List.mem_map.2 ⟨s.t.toNat, List.mem_range.2 (by omega), by omega⟩)
      · obtain ⟨a, b, c⟩ := s
        have h1' : (0 : Int) ≤ b := h1
        have e' : a = u := e
        show Stp.mk u ((b.toNat : Nat) : Int) c = ⟨a, b, c⟩
        rw [e', Int.toNat_of_nonneg h1']
  unfold allS
  rw [List.mem_append, hr, hr]
  constructor
  · rintro (q | q) <;> exact q.2
  · intro q
    cases hu : s.u with
    | true => exact .inr ⟨rfl, q⟩
    | false => exact .inl ⟨rfl, q⟩
/-- Steps that the program looks at. -/
def lookQ (m atm : List Nat) (s : Stp) : Bool := if s.u = true then decide (m[s.f.toNat]! = s.f.toNat ∧ 0 ≤ s.t ∧ m[s.t.toNat]! = s.t.toNat ∧ s.f < s.t) else decide (atm[s.f.toNat]! = s.f.toNat ∧ (s.t < 0 ∨ m[s.t.toNat]! = s.t.toNat))
theorem flat_if {α : Type} (p : Nat → Bool) (k : Nat → List α) : ∀ l : List Nat, (l.map fun f => if p f = true then k f else []).flatten = ((l.filter p).map k).flatten
  | [] => rfl
  | a :: l => by
    rw [List.map_cons, List.flatten_cons, flat_if p k l, List.filter_cons]
    cases h : p a <;> simp
theorem filter_flat {α : Type} (q : α → Bool) : ∀ L : List (List α), L.flatten.filter q = (L.map fun l => l.filter q).flatten
  | [] => rfl
  | l :: L => by rw [List.flatten_cons, List.filter_append, filter_flat q L, List.map_cons, List.flatten_cons]
theorem row_false {n f : Nat} {m atm : List Nat} : (rowS n false f).filter (lookQ m atm) = if (decide (atm[f]! = f)) = true then moves (selfs n m) f else [] := by
  unfold rowS
  rw [List.filter_map]
  by_cases h : atm[f]! = f
  · rw [if_pos (decide_eq_true h)]
    unfold moves places selfs
    congr 1
    rw [List.filter_cons, if_pos (by simp [lookQ, h])]
    congr 1
    rw [List.filter_map]
    congr 1
    apply List.filter_congr
    intro t _
    show lookQ m atm ⟨false, (f : Int), (t : Int)⟩ = _
    unfold lookQ
    rw [if_neg (by show ¬ (false = true); decide)]
    refine dec_iff ?_
    show (atm[((f : Int)).toNat]! = ((f : Int)).toNat ∧ ((t : Int) < 0 ∨ m[((t : Int)).toNat]! = ((t : Int)).toNat)) ↔ m[t]! = t
    rw [Int.toNat_natCast, Int.toNat_natCast]
    exact ⟨fun q => q.2.elim (fun z => by omega) id, fun q => ⟨h, .inr q⟩⟩
  · rw [if_neg (by simpa using h)]
    rw [List.filter_eq_nil_iff.2, List.map_nil]
    intro t _ e
    have e : lookQ m atm ⟨false, (f : Int), t⟩ = true := e
    unfold lookQ at e
    rw [if_neg (by show ¬ (false = true); decide)] at e
    exact h (of_decide_eq_true e).1
theorem selfs_asc (n : Nat) (m : List Nat) : (selfs n m).Pairwise (· < ·) := (List.pairwise_lt_range (n := n)).filter _
theorem row_true {n f : Nat} {m atm : List Nat} : (rowS n true f).filter (lookQ m atm) = if (decide (m[f]! = f)) = true then ((selfs n m).filter fun t => decide (f < t)).map (fun t : Nat => ⟨true, (f : Int), (t : Int)⟩) else [] := by
  unfold rowS
  rw [List.filter_map]
  by_cases h : m[f]! = f
  · rw [if_pos (decide_eq_true h)]
    unfold places selfs
    rw [List.filter_cons, if_neg (by simp [lookQ])]
    rw [List.filter_map, List.map_map, List.filter_filter]
    have : ((List.range n).filter ((lookQ m atm ∘ fun t => Stp.mk true (f : Int) t) ∘ fun x : Nat => (x : Int))) = (List.range n).filter fun t => decide (f < t) && decide (m[t]! = t) := by
      apply List.filter_congr
      intro t _
      show lookQ m atm ⟨true, (f : Int), (t : Int)⟩ = _
      unfold lookQ
      rw [if_pos rfl, ← Bool.decide_and]
      refine dec_iff ?_
      show (m[((f : Int)).toNat]! = ((f : Int)).toNat ∧ 0 ≤ (t : Int) ∧ m[((t : Int)).toNat]! = ((t : Int)).toNat ∧ (f : Int) < t) ↔ (f < t ∧ m[t]! = t)
      rw [Int.toNat_natCast, Int.toNat_natCast]
      exact ⟨fun q => ⟨by omega, q.2.2.1⟩, fun q => ⟨h, by omega, q.2, by omega⟩⟩
    rw [this]
    rfl
  · rw [if_neg (by simpa using h)]
    rw [List.filter_eq_nil_iff.2, List.map_nil]
    intro t _ e
    have e : lookQ m atm ⟨true, (f : Int), t⟩ = true := e
    unfold lookQ at e
    rw [if_pos rfl] at e
    exact h (of_decide_eq_true e).1
theorem asc_drop : ∀ {l : List Nat}, l.Pairwise (· < ·) → ∀ {k : Nat}, k < l.length → (l.filter fun t => decide (l[k]! < t)) = l.drop (k + 1)
  | [], _, k, hk => absurd hk (by simp)
  | a :: l, h, 0, _ => by
    obtain ⟨h1, _⟩ := List.pairwise_cons.1 h
    show List.filter (fun t => decide (a < t)) (a :: l) = l
    rw [List.filter_cons, if_neg (by simp), List.filter_eq_self]
    exact fun t ht => decide_eq_true (h1 t ht)
  | a :: l, h, k + 1, hk => by
    obtain ⟨h1, h2⟩ := List.pairwise_cons.1 h
    rw [List.length_cons] at hk
    have hk' : k < l.length := by omega
    have := h1 l[k]! (mem_at hk')
    rw [List.getElem!_cons_succ, List.filter_cons, if_neg (by rw [decide_eq_true_eq]; omega), List.drop_succ_cons]
    exact asc_drop h2 hk'
theorem unions_eq (cl : List Nat) : ∀ k, unions cl k = ((List.range k).map fun k => (cl.drop (k + 1)).map fun b : Nat => Stp.mk true (cl[k]! : Nat) b).flatten
  | 0 => rfl
  | k + 1 => by rw [unions, unions_eq cl k, List.range_succ, List.map_append, List.flatten_append]; simp
theorem map_range {α : Type} (l : List Nat) (h : Nat → α) : l.map h = (List.range l.length).map fun k => h l[k]! := by
  apply List.ext_getElem
  · simp
  · intro i h1 h2
    rw [List.getElem_map, List.getElem_map, List.getElem_range, getElem!_pos l i (by simpa using h1)]
theorem steps_filter (n : Nat) (m atm : List Nat) : (allS n).filter (lookQ m atm) = stepsL (selfs n m) (selfs n atm) := by
  have e1 : (kindS n false n).filter (lookQ m atm) = ((selfs n atm).map (moves (selfs n m))).flatten := by
    unfold kindS
    rw [filter_flat, List.map_map]
    have : ((fun l => List.filter (lookQ m atm) l) ∘ rowS n false) = fun f => if (decide (atm[f]! = f)) = true then moves (selfs n m) f else [] := funext fun f => row_false
    rw [this]
    exact flat_if (fun f => decide (atm[f]! = f)) (moves (selfs n m)) (List.range n)
  have e2 : (kindS n true n).filter (lookQ m atm) = unions (selfs n m) (selfs n m).length := by
    unfold kindS
    rw [filter_flat, List.map_map]
    have : ((fun l => List.filter (lookQ m atm) l) ∘ rowS n true) = fun f => if (decide (m[f]! = f)) = true then ((selfs n m).filter fun t => decide (f < t)).map (fun t : Nat => Stp.mk true (f : Int) (t : Int)) else [] := funext fun f => row_true
    rw [this, flat_if (fun f => decide (m[f]! = f)), unions_eq]
    show ((selfs n m).map _).flatten = _
    rw [map_range]
    congr 1
    apply List.map_congr_left
    intro k hk
    rw [asc_drop (selfs_asc n m) (List.mem_range.1 hk)]
  unfold allS stepsL
  rw [List.filter_append, e1, e2]
/-! ### The search -/
section
variable {n : Nat} {ps : List Pr} {rs : List Ru} {m : List Nat} {s : Stp}
def gnR (n : Nat) (ps : List Pr) (rs : List Ru) (m : List Nat) (s : Stp) : Int := valR (resR n ps rs m s) ps - valR m ps
def nextR (n : Nat) (ps : List Pr) (rs : List Ru) (m : List Nat) : Stp × Int := bestF (posR n (barL rs) (atomsL n rs) m) (gnR n ps rs m) (allS n)
def nextF (n : Nat) (ps : List Pr) (rs : List Ru) (m : List Nat) (l : List Stp) : Stp × Int := bestF (posF n (barL rs) (atomsL n rs) m) (gnF (wF ps) (mF (lF ps) rs) m (atomsL n rs)) l
theorem next_eq (hf : (Prob.mk (n : Int) ps rs).formed) (hm : isP n m) (hp : permR n ps rs m) : nextF n ps rs m (stepsL (selfs n m) (selfs n (atomsL n rs))) = nextR n ps rs m := by
  unfold nextF nextR
  rw [← steps_filter, best_filter]
  · exact best_congr fun s _ => ⟨pos_iff hf hm hp, fun h => (apply_eq hf hm hp h.1).2⟩
  · rintro s ⟨⟨h1, h2, h3, h4⟩, _⟩
    unfold lookQ
    cases hu : s.u with
    | true =>
      rw [if_pos rfl]
      have q := h3 hu
      have h10 := h1.1
      have q2 := h2 (by omega)
      exact decide_eq_true ⟨q.1, by omega, q2.1, q.2⟩
    | false =>
      rw [if_neg (by decide)]
      refine decide_eq_true ⟨(h4 hu).1, ?_⟩
      rcases Int.lt_or_le s.t 0 with z | z
      · exact .inl z
      · exact .inr (h2 z).1
theorem next_spec (n : Nat) (ps : List Pr) (rs : List Ru) (m : List Nat) : 0 ≤ (nextR n ps rs m).2 ∧ (0 < (nextR n ps rs m).2 → (nextR n ps rs m).1 ∈ allS n ∧ posR n (barL rs) (atomsL n rs) m (nextR n ps rs m).1 ∧ gnR n ps rs m (nextR n ps rs m).1 = (nextR n ps rs m).2) ∧
    (∀ s ∈ allS n, posR n (barL rs) (atomsL n rs) m s → gnR n ps rs m s ≤ (nextR n ps rs m).2) ∧ ((nextR n ps rs m).2 = 0 → (nextR n ps rs m).1 = ⟨false, 0, 0⟩) := best_spec _
def solveN (n : Nat) (ps : List Pr) (rs : List Ru) : Nat → List Nat → List Nat
  | 0, m => m
  | k + 1, m => if (nextR n ps rs m).2 = 0 then m else solveN n ps rs k (resR n ps rs m (nextR n ps rs m).1)
def muS (ps : List Pr) (m : List Nat) : Nat := (1000 * (ps.length : Int) - valR m ps).toNat
def solveR (n : Nat) (ps : List Pr) (rs : List Ru) : List Nat := solveN n ps rs (muS ps (atomsL n rs) + 1) (atomsL n rs)
theorem valR_le (hf : (Prob.mk (n : Int) ps rs).formed) (m : List Nat) : -1000 * (ps.length : Int) ≤ valR m ps ∧ valR m ps ≤ 1000 * (ps.length : Int) := by
  have := valR_b (m := m) (ps := ps) (fun x hx => ⟨(formed_pr hf hx).2.2.2.1, (formed_pr hf hx).2.2.2.2⟩) ps.length (Nat.le_refl _)
  rwa [List.take_length] at this
/-- A best step: permitted, and nearer to the end. -/
theorem next_step (hf : (Prob.mk (n : Int) ps rs).formed) (hm : isP n m) (hp : permR n ps rs m) (h : ¬ (nextR n ps rs m).2 = 0) : isP n (resR n ps rs m (nextR n ps rs m).1) ∧ permR n ps rs (resR n ps rs m (nextR n ps rs m).1) ∧
    valR (resR n ps rs m (nextR n ps rs m).1) ps = valR m ps + (nextR n ps rs m).2 ∧ muS ps (resR n ps rs m (nextR n ps rs m).1) < muS ps m := by
  obtain ⟨h1, h2, _, _⟩ := next_spec n ps rs m
  obtain ⟨_, q2, q3⟩ := h2 (by omega)
  have := res_perm hf hm hp q2
  have l1 := valR_le hf (resR n ps rs m (nextR n ps rs m).1)
  unfold gnR at q3
  exact ⟨this.1, this.2, by omega, by unfold muS; omega⟩
theorem solve_ge (hf : (Prob.mk (n : Int) ps rs).formed) : ∀ {k j : Nat} {m : List Nat}, isP n m → permR n ps rs m → muS ps m < k → muS ps m < j → solveN n ps rs k m = solveN n ps rs j m
  | 0, _, _, _, _, h, _ => absurd h (by omega)
  | _ + 1, 0, _, _, _, _, h => absurd h (by omega)
  | k + 1, j + 1, m, hm, hp, h1, h2 => by
    rw [solveN, solveN]
    split
    · rfl
    · rename_i h
      have := next_step hf hm hp h
      exact solve_ge hf this.1 this.2.1 (by omega) (by omega)
theorem solve_step (hf : (Prob.mk (n : Int) ps rs).formed) (hm : isP n m) (hp : permR n ps rs m) (h : ¬ (nextR n ps rs m).2 = 0) : solveN n ps rs (muS ps (resR n ps rs m (nextR n ps rs m).1) + 1) (resR n ps rs m (nextR n ps rs m).1) = solveN n ps rs (muS ps m + 1) m := by
  have := next_step hf hm hp h
  conv => rhs; rw [solveN, if_neg h]
  exact solve_ge hf this.1 this.2.1 (by omega) (by omega)
theorem solve_end (h : (nextR n ps rs m).2 = 0) (k : Nat) : solveN n ps rs k m = m := by
  cases k with
  | zero => rfl
  | succ k => rw [solveN, if_pos h]
theorem atoms_perm (hok : (Prob.mk (n : Int) ps rs).ok) : isP n (atomsL n rs) ∧ permR n ps rs (atomsL n rs) := by
  have hf := hok.1
  have ha := atoms_comp hf
  refine ⟨⟨ha.len, fun i hi => ⟨ha.le i hi, ha.idem hi⟩⟩, ?_, fun i hi => (ha.idem hi).symm, ?_⟩
  · rw [← bad_eq hf]; exact hok.2
  · refine (conn_in hf _).uniq ⟨ha.len, fun i j q => ⟨q.2.2.1, q.2.2.2⟩, ha.le, fun i j q => q.2.1, fun i hi => (ha.cn i hi).lift fun x y q => .base ?_⟩
    obtain ⟨hx, hy⟩ := ha.bnd x y q
    obtain ⟨r, hrr, hk, e⟩ := mem_muE.1 q
    cases e
    exact ⟨(mF_iff rs).2 (.inr ⟨r, hrr, (ru_lt hf hrr).2.2.2 hk, .inl ⟨rfl, rfl⟩⟩), ha.rel _ _ q, hx, hy⟩
end
end Go.D33
end
section
namespace Go.D33
open Go Go.RowKit Go.H
section
variable {n : Nat} {m atm : List Nat} {s : Stp}
theorem posF_iff {bar : List Ru} {u : Bool} {f t : Int} : posF n bar atm m ⟨u, f, t⟩ ↔ ((0 ≤ f ∧ f < (n : Int) ∧ t < (n : Int) ∧ -1 ≤ t ∧ (t < 0 → u = false)) ∧ (0 ≤ t → m[t.toNat]! = t.toNat ∧ m[f.toNat]! ≠ t.toNat) ∧
    (u = true → m[f.toNat]! = f.toNat ∧ f < t) ∧ (u = false → atm[f.toNat]! = f.toNat ∧ (t < 0 → g1L m atm ⟨u, f, t⟩ ≠ []))) ∧ bar.any (hitR (g0L m atm ⟨u, f, t⟩)) = false := Iff.rfl
def apN (n : Nat) (lk : Nat → Nat → Bool) (bar : List Ru) (atm m : List Nat) (s : Stp) : List Int := if posF n bar atm m s then nmF lk m atm s else []
def apG (n : Nat) (w : Nat → Nat → Int) (lk : Nat → Nat → Bool) (bar : List Ru) (atm m : List Nat) (s : Stp) : Int := if posF n bar atm m s then gnF w lk m atm s else 0
theorem apN_y {lk : Nat → Nat → Bool} {bar : List Ru} (h : posF n bar atm m s) : apN n lk bar atm m s = nmF lk m atm s := if_pos h
theorem apN_n {lk : Nat → Nat → Bool} {bar : List Ru} (h : ¬ posF n bar atm m s) : apN n lk bar atm m s = [] := if_neg h
theorem apG_y {w : Nat → Nat → Int} {lk : Nat → Nat → Bool} {bar : List Ru} (h : posF n bar atm m s) : apG n w lk bar atm m s = gnF w lk m atm s := if_pos h
theorem apG_n {w : Nat → Nat → Int} {lk : Nat → Nat → Bool} {bar : List Ru} (h : ¬ posF n bar atm m s) : apG n w lk bar atm m s = 0 := if_neg h
theorem there_nat (m : List Nat) (t : Nat) : thereL m (t : Int) = unitsL m t := if_neg (by omega)
theorem there_neg (m : List Nat) : thereL m (-1) = [] := rfl
theorem there_len (m : List Nat) (t : Int) : (thereL m t).length ≤ m.length := by
  unfold thereL
  split
  · exact Nat.zero_le _
  · exact units_len _ _
theorem setAll_sG {α : Type} {o : List α} {us : List Nat} {k : Nat} {x : α} (h : k < us.length) : setAll o (us.take (k + 1)) x = (setAll o (us.take k) x).set us[k]! x := by rw [snocP h, setAll_snoc]
theorem g_b (hm : m.length = n) : (g0L m atm s).length + (g1L m atm s).length ≤ 2 * n ∧ (∀ u ∈ g0L m atm s, u < n) ∧ ∀ u ∈ g1L m atm s, u < n := by
  have hp := grp_perm m atm s
  have hl := hp.length_eq
  rw [List.length_append, List.length_append] at hl
  have h1 := units_len m m[s.f.toNat]!
  have h2 := there_len m s.t
  have hmem : ∀ u, u ∈ g0L m atm s ++ g1L m atm s → u < n := fun u hu => by
    rcases List.mem_append.1 (hp.subset hu) with q | q
    · exact ((mem_here hm).1 q).1
    · exact ((mem_there hm).1 q).2.1
  exact ⟨by omega, fun u hu => hmem u (List.mem_append_left _ hu), fun u hu => hmem u (List.mem_append_right _ hu)⟩
theorem partsN_units {E : Nat → Nat → Bool} {g : List Nat} {p : List Nat} (hp : p ∈ partsL E g) : 0 < p.length ∧ p.length ≤ g.length ∧ ∀ u ∈ p, u ∈ g := by
  have h := partsN_ok (E := E) _ g rfl
  refine ⟨List.length_pos_iff.2 (h.ne p hp), ?_, fun u hu => h.perm.subset (List.mem_flatten.2 ⟨p, hp, hu⟩)⟩
  rw [← h.perm.length_eq]
  exact (List.sublist_flatten_of_mem hp).length_le
theorem partsN_len {E : Nat → Nat → Bool} {g : List Nat} : (partsL E g).length ≤ g.length := by
  have h := partsN_ok (E := E) _ g rfl
  rw [← h.perm.length_eq]
  have h2 := h.ne
  revert h2
  generalize partsL E g = L
  intro h2
  induction L with
  | nil => simp
  | cons p L ih =>
    have h3 := List.length_pos_iff.2 (h2 p (by simp))
    have := ih (fun q hq => h2 q (by simp [hq]))
    rw [List.flatten_cons, List.length_append, List.length_cons]; omega
theorem sumV_b {w : Nat → Nat → Int} (hw : ∀ i j, -1000 ≤ w i j ∧ w i j ≤ 1000) {L : List (List Nat)} (hL : ∀ p ∈ L, p.length ≤ 1000) : ∀ k : Nat, k ≤ L.length → -1000000000 * (k : Int) ≤ sumV w (L.take k) ∧ sumV w (L.take k) ≤ 1000000000 * (k : Int)
  | 0, _ => by simp [sumV]
  | k + 1, h => by
    have ih := sumV_b hw hL k (by omega)
    have := valF_b hw (hL L[k]! (mem_at (by omega)))
    rw [sumV_s w (by omega)]; omega
theorem sumV_b2 {w : Nat → Nat → Int} (hw : ∀ i j, -1000 ≤ w i j ∧ w i j ≤ 1000) {L : List (List Nat)} (hL : ∀ p ∈ L, p.length ≤ 1000) : -1000000000 * (L.length : Int) ≤ sumV w L ∧ sumV w L ≤ 1000000000 * (L.length : Int) := by
  have := sumV_b hw hL L.length (Nat.le_refl _)
  rwa [List.take_length] at this
theorem sumV_snoc (w : Nat → Nat → Int) (L : List (List Nat)) (p : List Nat) : sumV w (L ++ [p]) = sumV w L + valF w p := by rw [sumV, List.foldl_append]; rfl
/-! ### Names that are taken away -/
def nmHit (nm : List Int) (x : Ru) : Bool := decide (nm[x.a.toNat]! = -1 ∧ nm[x.b.toNat]! = -1)
theorem nm0_len : (nm0 m atm s).length = m.length := by rw [nm0, setAll_len, List.length_map]
theorem nm0_get (hm : m.length = n) {i : Nat} (hi : i < n) : (nm0 m atm s)[i]! = -1 ↔ i ∈ g0L m atm s := by
  rw [nm0, setAll_get (by rw [List.length_map]; omega)]
  by_cases q : i ∈ g0L m atm s
  · rw [if_pos q]; exact ⟨fun _ => q, fun _ => rfl⟩
  · rw [if_neg q, get_map (by omega)]; exact ⟨fun e => by omega, fun e => absurd e q⟩
theorem hit_eq {bar : List Ru} (hm : m.length = n) (hb : ∀ x ∈ bar, 0 ≤ x.a ∧ x.a < (n : Int) ∧ 0 ≤ x.b ∧ x.b < (n : Int)) : bar.any (nmHit (nm0 m atm s)) = bar.any (hitR (g0L m atm s)) := by
  rw [Bool.eq_iff_iff, List.any_eq_true, List.any_eq_true]
  have key : ∀ x ∈ bar, nmHit (nm0 m atm s) x = hitR (g0L m atm s) x := fun x hx => by
    have := hb x hx
    exact dec_iff (by rw [nm0_get hm (by omega), nm0_get hm (by omega)])
  exact ⟨fun ⟨x, hx, e⟩ => ⟨x, hx, by rw [← key x hx]; exact e⟩, fun ⟨x, hx, e⟩ => ⟨x, hx, by rw [key x hx]; exact e⟩⟩
/-! ### The best step, and the partition behind it -/
def outF (lk : Nat → Nat → Bool) (m atm : List Nat) (b : Stp × Int) : List Int := if b.2 = 0 then [] else nmF lk m atm b.1
theorem outF_y {lk : Nat → Nat → Bool} {b : Int} {s : Stp} {g : Int} (h0 : 0 ≤ b) (h : b < g) : outF lk m atm (s, g) = nmF lk m atm s := if_neg (show ¬ g = 0 by omega)
theorem best_ge {ok : Stp → Prop} [DecidablePred ok] {g : Stp → Int} (l : List Stp) {k : Nat} (h : k ≤ l.length) : 0 ≤ (bestF ok g (l.take k)).2 := (best_spec' l k h).1
theorem steps_b (n : Nat) (hn : n ≤ 200) (m atm : List Nat) : (stepsL (selfs n m) (selfs n atm)).length ≤ 1000000 := by
  have h1 := selfs_len n m
  have h2 := selfs_len n atm
  have a := moves_b (cl := selfs n m) (by omega) (l := selfs n atm) _ (Nat.le_refl _)
  rw [List.take_length] at a
  have b := unions_b (cl := selfs n m) (by omega) _ (Nat.le_refl _)
  rw [stepsL, List.length_append]; omega
end
end Go.D33
end
section
namespace Go.Proofs.Ytppamigboeaefaa
open Go Go.RowKit Go.H Go.D33

theorem hcallOk64 : G.callOk Try.prog 64 = true := by kernel_rfl

set_option maxRecDepth 8000 in
/-- (*bookplate/cluster.field).apply$1. -/
theorem apply1_h {nm : List Int} {x : Ru} (hx : 0 ≤ x.a ∧ x.a < (nm.length : Int) ∧ 0 ≤ x.b ∧ x.b < (nm.length : Int)) :
    Con Try.prog 64 [vA (eRu x), .ref 0 0] [(0, .cells 39 [.own 1]), (1, .data 3 1 (nm.map eI))] (vB (nmHit nm x)) [(0, .cells 39 [.own 1]), (1, .data 3 1 (nm.map eI))] := by
 obtain ⟨i3, hi3, hz3, hs3, hb3⟩ := hinf3
 refine Con.enterL (n := 18) Try.func64 rfl rfl rfl (fun τ w ok vs hin => ?_)
 clear hin
 refine W.rg ?_
 refine SL.memS (O.box (is := [_, _, _]) 101 rfl rfl (by simp) rfl rfl Taken.no) rfl rfl (S' := (101, _) :: _) rfl ?_
 refine SL.an rfl rfl (E.fo (W.rg ?_))
 refine SL.val (O.ld1 (PtI.ref rfl rfl) rfl Try.underlying39 rfl rfl Taken.no) ?_
 refine SL.val (O.fld_ref (o' := 1) rfl Try.underlying38 rfl (m := 0) (by kernel_rfl) rfl rfl Taken.no) ?_
 refine SL.val (O.ld1 (PtI.ref rfl rfl) rfl Try.underlying3 rfl rfl Taken.no) ?_
 refine SL.val (O.idx_own (i := x.a.toNat) rfl rfl rfl (by omega) (by rw [List.length_map]; omega) Try.underlying39 hi3 hs3 rfl Taken.no) ?_
 refine SL.val (O.ld1 (PtI.ofU (PtU.el rfl rfl (row_get (by omega)))) rfl Try.underlying3 rfl rfl Taken.no) ?_
 refine SL.val (O.det (fun _ => G.R.eql rfl rfl) rfl Taken.no) ?_
 refine SL.mv rfl rfl ?_
 refine SL.case (j := 6) (g := 10) (want := true) rfl rfl (fun hg1 => ?_) (fun hg1 => ?_)
 ·skip
  first | have hg1p := G.gA1 hg1 | have hg1p := G.gA2 hg1 | have hg1p := hg1
  refine SL.val (O.ld1 (PtI.ref rfl rfl) rfl Try.underlying39 rfl rfl (Taken.yes rfl rfl hg1)) ?_
  refine SL.val (O.fld_ref (o' := 2) rfl Try.underlying38 rfl (m := 0) (by kernel_rfl) rfl rfl (Taken.yes rfl rfl hg1)) ?_
  refine SL.val (O.ld1 (PtI.ref rfl rfl) rfl Try.underlying3 rfl rfl (Taken.yes rfl rfl hg1)) ?_
  refine SL.val (O.idx_own (i := x.b.toNat) rfl rfl rfl (by omega) (by rw [List.length_map]; omega) Try.underlying39 hi3 hs3 rfl (Taken.yes rfl rfl hg1)) ?_
  refine SL.val (O.ld1 (PtI.ofU (PtU.el rfl rfl (row_get (by omega)))) rfl Try.underlying3 rfl rfl (Taken.yes rfl rfl hg1)) ?_
  refine SL.val (O.det (fun _ => G.R.eql rfl rfl) rfl (Taken.yes rfl rfl hg1)) ?_
  refine SL.val (O.pick_t rfl hg1 rfl rfl Taken.no) ?_
  refine SL.an rfl rfl (E.fo (W.ret ?_))
  refine E.fin (rs := [_]) (rn []) (.inl rfl) rfl (.cons (ResOne.tmp rfl) .nil) ?_ ?_ rfl (fixL_spec rfl)
  ·skip
   first | exact iv_bool (dec_iff (by omega)) | exact iv_bool (dec_f (by omega)) | exact iv_bool (dec_t (by omega))
  · exact (SubS.cons rfl (SubS.cons rfl SubS.nil))
 ·skip
  first | have hg1p := G.gA5 hg1 | have hg1p := G.gA6 hg1 | have hg1p := hg1
  refine SL.sk rfl rfl rfl hg1 (SL.sk rfl rfl rfl hg1 (SL.sk rfl rfl rfl hg1 (SL.sk rfl rfl rfl hg1 (SL.sk rfl rfl rfl hg1 (SL.sk rfl rfl rfl hg1 ?_)))))
  refine SL.val (O.pick_f rfl (G.ne_t hg1) rfl rfl Taken.no) ?_
  refine SL.an rfl rfl (E.fo (W.ret ?_))
  refine E.fin (rs := [_]) (rn []) (.inl rfl) rfl (.cons (ResOne.tmp rfl) .nil) ?_ ?_ rfl (fixL_spec rfl)
  ·skip
   first | exact iv_bool (dec_iff (by omega)) | exact iv_bool (dec_f (by omega)) | exact iv_bool (dec_t (by omega))
  · exact (SubS.cons rfl (SubS.cons rfl SubS.nil))

set_option maxRecDepth 8000 in
/-- slices.IndexFunc[[]bookplate/api.Constraint,bookplate/api.Constraint]. -/
theorem indexFuncN {nm : List Int} {q : List Ru} (hq : ∀ x ∈ q, 0 ≤ x.a ∧ x.a < (nm.length : Int) ∧ 0 ≤ x.b ∧ x.b < (nm.length : Int)) :
    Con Try.prog 73 [vL 3 (q.map eRu), .clo (.func 64) [] [.ref 0 0]] [(0, .cells 39 [.own 1]), (1, .data 3 1 (nm.map eI))] (vI (idxF (nmHit nm) q)) [(0, .cells 39 [.own 1]), (1, .data 3 1 (nm.map eI))] := by
 obtain ⟨i38, hi38, hz38, hs38, hb38⟩ := hinf38
 refine Con.enterL (n := 19) Try.func73 rfl rfl rfl (fun τ w ok vs hin => ?_)
 have hl0 := hin.len (i := 0) rfl
 try rw [List.length_map] at hl0
 clear hin
 refine W.rg (SL.an rfl rfl (E.fo (W.seq (W.rg (SL.mv rfl rfl ?_)))))
 refine SL.val (O.lenE (SlOf.fz rfl (by decide)) (by first | exact List.length_map _ | rfl) Try.underlying23 rfl Taken.no) ?_
 refine SL.mv rfl rfl (E.fo (W.block ?_))
 refine W.loopx1 (fun (k : Nat) => [(8, vI (k : Int))]) (fun (k : Nat) => []) (fun (k : Nat) => k ≤ q.length ∧ ∀ j, j < k → (nmHit nm) q[j]! = false) (fun (k : Nat) => q.length - k) (0) (rn []) (.cons (t := 0) rfl (.cons (t := 1) rfl (.cons (t := 7) rfl .nil))) (.cons (t := 0) rfl (.cons (t := 1) rfl .nil)) rfl ?_ ?_ rfl rfl ?_ ?_
 · exact (SubF.cons rfl SubF.nil)
 · exact SubS.nil
 ·skip
  exact ⟨by omega, fun j h => by omega⟩
 intro k hinv
 obtain ⟨hk, hp⟩ := hinv
 refine W.rg ?_
 refine SL.val (O.det (fun _ => G.R.lss rfl rfl) rfl Taken.no) ?_
 refine E.fo (W.seq ?_)
 first | refine W.cond_d rfl (fun hc1 => ?_) (fun hc1 => ?_) | refine W.cond_nd rfl (fun hc1 => ?_) (fun hc1 => ?_) | refine W.cond rfl (fun hc1 => ?_) (fun hc1 => ?_)
 ·skip
  refine W.skip (E.to (W.seq (W.block (W.rg (SL.mv rfl rfl (SL.an rfl rfl (E.fo (W.rg (SL.mv rfl rfl (SL.mv rfl rfl (SL.mv rfl rfl ?_)))))))))))
  refine SL.val (O.idx_fz rfl rfl (rfl) (row_get (by omega)) Try.underlying23 hi38 hs38 rfl Taken.no) ?_
  refine SL.val (O.ldU (m := 3) (PtU.fz rfl) rfl Try.underlying38 rfl (by kernel_rfl) rfl Taken.no) ?_
  refine SL.memS (O.call (rn [(0, 0), (1, 1)]) [] rfl rfl rfl (apply1_h (x := q[k]!) (hq _ (mem_at (by omega)))) (.cons (ArgOk.same rfl) (.cons (ArgOk.same rfl) .nil)) (SubS.cons rfl (SubS.cons rfl SubS.nil)) rfl rfl rfl rfl rfl (.inl rfl) hcallOk64 (r' := .u _) rfl rfl Taken.no) rfl rfl (S' := (0, .cells _ [.own 1]) :: (1, .data _ _ _) :: _) rfl ?_
  refine E.fo ?_
  first | refine W.cond_d rfl (fun hc2 => ?_) (fun hc2 => ?_) | refine W.cond_nd rfl (fun hc2 => ?_) (fun hc2 => ?_) | refine W.cond rfl (fun hc2 => ?_) (fun hc2 => ?_)
  ·skip
   refine W.rg (SL.mv rfl rfl (SL.an rfl rfl (E.fo (W.ret ?_))))
   refine E.inr ?_
   refine E.thr (E.thr ?_)
   refine E.inr ?_
   refine E.thr ?_
   refine E.fin (rs := [_]) (rn []) (.inl rfl) rfl (.cons (ResOne.tmp rfl) .nil) ?_ ?_ rfl (fixL_spec rfl)
   ·skip
    exact iv_int (idxF_here (p := nmHit nm) (by omega) hp (by first | assumption | exact decide_eq_true (by assumption)))
   · exact (SubS.cons rfl (SubS.cons rfl SubS.nil))
  ·skip
   refine W.skip (E.inn (E.to (W.region ?_)))
   refine SL.val (O.det (fun _ => by first | exact G.R.add64 rfl rfl (by omega) | exact G.R.add rfl rfl) rfl Taken.no) ?_
   refine SL.mv rfl rfl (SL.nil ?_)
   refine E.again ((k + 1)) (rn []) ?_ ?_ rfl (fixL_spec rfl) ?_ ?_
   · exact (SubF.cons rfl (SubF.cons rfl (SubF.cons rfl (SubF.cons rfl SubF.nil))))
   · exact (SubS.cons rfl (SubS.cons rfl SubS.nil))
   ·try dsimp only
    exact ⟨by omega, fun j hj => by rcases Nat.lt_succ_iff_lt_or_eq.1 hj with h | h; exact hp j h; subst h; first | assumption | exact decide_eq_false (by assumption)⟩
   · (try dsimp only); omega
 ·skip
  refine W.exit (E.th (E.th (E.hit (E.to (W.rg (SL.an rfl rfl (E.fo (W.ret ?_))))))))
  refine E.fin (rs := [_]) (rn []) (.inl rfl) rfl (.cons (ResOne.tmp rfl) .nil) ?_ ?_ rfl (fixL_spec rfl)
  ·skip
   exact iv_int (idxF_none (p := nmHit nm) (by omega) hp)
  · exact (SubS.cons rfl (SubS.cons rfl SubS.nil))

set_option maxRecDepth 8000 in
/-- slices.ContainsFunc[[]bookplate/api.Constraint,bookplate/api.Constraint]. -/
theorem containsFuncN {nm : List Int} {q : List Ru} (hq : ∀ x ∈ q, 0 ≤ x.a ∧ x.a < (nm.length : Int) ∧ 0 ≤ x.b ∧ x.b < (nm.length : Int)) :
    Con Try.prog 63 [vL 3 (q.map eRu), .clo (.func 64) [] [.ref 0 0]] [(0, .cells 39 [.own 1]), (1, .data 3 1 (nm.map eI))] (vB (q.any (nmHit nm))) [(0, .cells 39 [.own 1]), (1, .data 3 1 (nm.map eI))] := by
 refine Con.enterL (n := 9) Try.func63 rfl rfl rfl (fun τ w ok vs hin => ?_)
 have hl0 := hin.len (i := 0) rfl
 try rw [List.length_map] at hl0
 clear hin
 refine W.rg (SL.an rfl rfl (E.fo (W.rg (SL.mv rfl rfl (SL.mv rfl rfl ?_)))))
 refine SL.memS (O.call (rn [(0, 0), (1, 1)]) [] rfl rfl rfl (indexFuncN hq) (.cons (ArgOk.same rfl) (.cons (ArgOk.same rfl) .nil)) (SubS.cons rfl (SubS.cons rfl SubS.nil)) rfl rfl rfl rfl rfl (.inl rfl) hcallOk73 (r' := .u _) rfl rfl Taken.no) rfl rfl (S' := (0, .cells _ [.own 1]) :: (1, .data _ _ _) :: _) rfl ?_
 refine SL.val (O.det (fun _ => G.R.geq rfl rfl) rfl Taken.no) ?_
 refine SL.an rfl rfl (E.fo (W.ret ?_))
 refine E.fin (rs := [_]) (rn []) (.inl rfl) rfl (.cons (ResOne.tmp rfl) .nil) ?_ ?_ rfl (fixL_spec rfl)
 ·skip
  exact iv_bool any_any.symm
 · exact (SubS.cons rfl (SubS.cons rfl SubS.nil))

end Go.Proofs.Ytppamigboeaefaa
end
