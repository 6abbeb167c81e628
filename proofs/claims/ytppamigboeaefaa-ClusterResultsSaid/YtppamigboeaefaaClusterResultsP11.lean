/-
  What the proof rests on: part 11 of 12.
-/
import Derived.Test.YtppamigboeaefaaClusterResultsP10
section
namespace Go.D33
open Go Go.RowKit Go.H
section
variable {n : Nat} {ps : List Pr} {rs : List Ru} {m atm : List Nat} {s : Stp}
theorem nmL_iff {l : List Nat} {i j : Nat} (hi : i < l.length) (hj : j < l.length) : (nmL l)[i]! = (nmL l)[j]! ↔ l[i]! = l[j]! := by
  have hg : ∀ {i}, i < l.length → (nmL l)[i]! = l.idxOf l[i]! ∧ l[l.idxOf l[i]!]! = l[i]! := fun {i} hi => by
    refine ⟨by rw [nmL, get_map (by rw [List.length_range]; exact hi), range_get hi], ?_⟩
    have hlt : l.idxOf l[i]! < l.length := List.idxOf_lt_length_of_mem (mem_at hi)
    rw [getElem!_pos l _ hlt, List.getElem_idxOf hlt]
  rw [(hg hi).1, (hg hj).1]
  constructor
  · intro e
    rw [← (hg hi).2, ← (hg hj).2, e]
  · intro e
    rw [e]
theorem mem_here (hm : m.length = n) {c i : Nat} : i ∈ unitsL m c ↔ i < n ∧ m[i]! = c := by rw [mem_units, hm]
theorem mem_there (hm : m.length = n) {t : Int} {i : Nat} : i ∈ thereL m t ↔ 0 ≤ t ∧ i < n ∧ m[i]! = t.toNat := by
  unfold thereL
  by_cases h : t < 0
  · rw [if_pos h]
    exact ⟨fun q => (by cases q), fun q => by omega⟩
  · rw [if_neg h, mem_here hm]
    exact ⟨fun q => ⟨by omega, q⟩, fun q => q.2⟩
theorem there_nodup (m : List Nat) (t : Int) : (thereL m t).Nodup := by
  unfold thereL
  split
  · exact List.nodup_nil
  · exact units_nodup _ _
theorem mem_g0u (hm : m.length = n) (hu : s.u = true) {i : Nat} : i ∈ g0L m atm s ↔ i < n ∧ (m[i]! = m[s.f.toNat]! ∨ (0 ≤ s.t ∧ m[i]! = s.t.toNat)) := by
  unfold g0L
  rw [if_pos hu, List.mem_append, mem_here hm, mem_there hm]
  constructor
  · rintro (q | q)
    · exact ⟨q.1, .inl q.2⟩
    · exact ⟨q.2.1, .inr ⟨q.1, q.2.2⟩⟩
  · rintro ⟨q1, q | q⟩
    · exact .inl ⟨q1, q⟩
    · exact .inr ⟨q.1, q1, q.2⟩
theorem mem_g0m (hm : m.length = n) (hu : s.u = false) {i : Nat} : i ∈ g0L m atm s ↔ i < n ∧ ((0 ≤ s.t ∧ m[i]! = s.t.toNat) ∨ (m[i]! = m[s.f.toNat]! ∧ atm[i]! = s.f.toNat)) := by
  unfold g0L
  rw [if_neg (by rw [hu]; decide), List.mem_append, List.mem_filter, mem_here hm, mem_there hm, decide_eq_true_eq]
  constructor
  · rintro (q | q)
    · exact ⟨q.2.1, .inl ⟨q.1, q.2.2⟩⟩
    · exact ⟨q.1.1, .inr ⟨q.1.2, q.2⟩⟩
  · rintro ⟨q1, q | q⟩
    · exact .inl ⟨q.1, q1, q.2⟩
    · exact .inr ⟨⟨q1, q.1⟩, q.2⟩
theorem mem_g1m (hm : m.length = n) (hu : s.u = false) {i : Nat} : i ∈ g1L m atm s ↔ i < n ∧ m[i]! = m[s.f.toNat]! ∧ ¬ atm[i]! = s.f.toNat := by
  unfold g1L
  rw [if_neg (by rw [hu]; decide), List.mem_filter, mem_here hm]
  simp only [Bool.not_eq_true', decide_eq_false_iff_not, and_assoc]
theorem g1u (hu : s.u = true) : g1L m atm s = [] := if_pos hu
theorem grp_perm (m atm : List Nat) (s : Stp) : (g0L m atm s ++ g1L m atm s).Perm (unitsL m m[s.f.toNat]! ++ thereL m s.t) := by
  by_cases hu : s.u = true
  · rw [g1u hu, List.append_nil, g0L, if_pos hu]
  · rw [g0L, g1L, if_neg hu, if_neg hu, List.append_assoc]
    refine List.perm_append_comm.trans ?_
    exact (perm_filt _ _).append_right _
theorem g0_at (hm : m.length = n) {i j : Nat} (hi : i < n) (hj : j < n) (h1 : m[i]! = m[j]!) (h2 : atm[i]! = atm[j]!) : i ∈ g0L m atm s ↔ j ∈ g0L m atm s := by
  cases hu : s.u with
  | true => rw [mem_g0u hm hu, mem_g0u hm hu, h1]; exact ⟨fun q => ⟨hj, q.2⟩, fun q => ⟨hi, q.2⟩⟩
  | false => rw [mem_g0m hm hu, mem_g0m hm hu, h1, h2]; exact ⟨fun q => ⟨hj, q.2⟩, fun q => ⟨hi, q.2⟩⟩
theorem mvL_get {i : Nat} (hi : i < n) : (mvL n atm m s)[i]! = if atm[i]! = s.f.toNat then (if s.t < 0 then n else s.t.toNat) else m[i]! := by
  rw [mvL, get_map (by rw [List.length_range]; exact hi), range_get hi]
theorem grp_of (hm : isP n m) (hat : ∀ i, i < n → m[i]! = m[atm[i]!]!) (h : preF n atm m s) : Grp n m (g0L m atm s) (g1L m atm s) (labL n atm m s) := by
  obtain ⟨⟨r1, r2, r3, r4, r5⟩, h2, h3, h4⟩ := h
  have hml := hm.1
  have hp := grp_perm m atm s
  have hmem : ∀ {i}, i ∈ g0L m atm s ++ g1L m atm s ↔ i < n ∧ (m[i]! = m[s.f.toNat]! ∨ (0 ≤ s.t ∧ m[i]! = s.t.toNat)) := fun {i} => by
    rw [hp.mem_iff, List.mem_append, mem_here hml, mem_there hml]
    exact ⟨fun q => q.elim (fun q => ⟨q.1, .inl q.2⟩) fun q => ⟨q.2.1, .inr ⟨q.1, q.2.2⟩⟩, fun ⟨q1, q2⟩ => q2.elim (fun q => .inl ⟨q1, q⟩) fun q => .inr ⟨q.1, q1, q.2⟩⟩
  refine ⟨hp.nodup_iff.2 (List.nodup_append.2 ⟨units_nodup _ _, there_nodup _ _, fun a ha b hb e => ?_⟩), fun u hu => (hmem.1 hu).1, fun i j hi hj e q => ?_, fun i j hi hj => ?_, fun i j hi hj => ?_⟩
  · subst e
    have q1 := (mem_here hml).1 ha
    have q2 := (mem_there hml).1 hb
    exact (h2 q2.1).2 (by omega)
  · rw [hmem] at q ⊢
    exact ⟨hj, by rw [← e]; exact q.2⟩
  · cases hu : s.u with
    | true => rw [g1u hu] at hi; cases hi
    | false =>
      have q1 := (mem_g1m hml hu).1 hi
      have q2 := (mem_g1m hml hu).1 hj
      omega
  · cases hu : s.u with
    | true =>
      have q3 := h3 hu
      have ht0 : 0 ≤ s.t := by omega
      have q2 := h2 ht0
      unfold labL
      rw [if_pos hu, join_get (by omega), join_get (by omega), mem_g0u hml hu, mem_g0u hml hu]
      have hlt : s.f.toNat < s.t.toNat := by omega
      rw [q3.1, q2.1, Nat.max_eq_right (Nat.le_of_lt hlt), Nat.min_eq_left (Nat.le_of_lt hlt)]
      split <;> split <;> omega
    | false =>
      have q4 := h4 hu
      have hfn : s.f.toNat < n := by omega
      unfold labL
      have hll : (mvL n atm m s).length = n := by rw [mvL, List.length_map, List.length_range]
      rw [if_neg (by rw [hu]; decide), nmL_iff (by omega) (by omega), mvL_get hi, mvL_get hj, mem_g0m hml hu, mem_g0m hml hu]
      have ai : atm[i]! = s.f.toNat → m[i]! = m[s.f.toNat]! := fun e => by rw [hat i hi, e]
      have aj : atm[j]! = s.f.toNat → m[j]! = m[s.f.toNat]! := fun e => by rw [hat j hj, e]
      have li := (hm.2 i hi).1
      have lj := (hm.2 j hj).1
      by_cases ht : s.t < 0
      · rw [if_pos ht]
        split <;> split <;> omega
      · rw [if_neg ht]
        have q2 := h2 (by omega)
        split <;> split <;> omega
theorem pre_iff (hm : isP n m) (_ : ∀ i, i < n → m[i]! = m[atm[i]!]!) : preF n atm m s ↔ preR n atm m s := by
  have hml := hm.1
  have hoth : s.u = false → (g1L m atm s ≠ [] ↔ othR n atm m s.f.toNat = true) := fun hu => by
    constructor
    · intro h
      obtain ⟨i, hi⟩ := List.exists_mem_of_ne_nil _ h
      have q := (mem_g1m hml hu).1 hi
      exact List.any_eq_true.2 ⟨i, List.mem_range.2 q.1, decide_eq_true ⟨q.2.1, q.2.2⟩⟩
    · intro h e
      obtain ⟨i, hi, q⟩ := List.any_eq_true.1 h
      have q := of_decide_eq_true q
      have : i ∈ g1L m atm s := (mem_g1m hml hu).2 ⟨List.mem_range.1 hi, q.1, q.2⟩
      rw [e] at this
      cases this
  constructor
  · rintro ⟨h1, h2, h3, h4⟩
    exact ⟨h1, fun q => (h2 q).1, h3, fun hu => ⟨(h4 hu).1, fun q => (h2 q).2, fun q => (hoth hu).1 ((h4 hu).2 q)⟩⟩
  · rintro ⟨h1, h2, h3, h4⟩
    refine ⟨h1, fun q => ⟨h2 q, ?_⟩, h3, fun hu => ⟨(h4 hu).1, fun q => (hoth hu).2 ((h4 hu).2.2 q)⟩⟩
    cases hu : s.u with
    | true => have := h3 hu; have := h1.1; omega
    | false => exact (h4 hu).2.1 q
theorem clash_lab {bar : List Ru} {g0 g1 lab : List Nat} (g : Grp n m g0 g1 lab) (hc : clash bar m = false) (hb : ∀ x ∈ bar, 0 ≤ x.a ∧ x.a < (n : Int) ∧ 0 ≤ x.b ∧ x.b < (n : Int)) : clash bar lab = bar.any (hitR g0) := by
  rw [Bool.eq_iff_iff]
  unfold clash at hc ⊢
  rw [List.any_eq_true, List.any_eq_true]
  have hno : ∀ x ∈ bar, ¬ m[x.a.toNat]! = m[x.b.toNat]! := fun x hx e => by
    have := List.any_eq_false.1 hc x hx
    exact this (decide_eq_true e)
  constructor
  · rintro ⟨x, hx, e⟩
    have hxb := hb x hx
    rcases (g.lab _ _ (by omega) (by omega)).1 (of_decide_eq_true e) with q | q
    · exact ⟨x, hx, decide_eq_true q⟩
    · exact absurd q.2.2 (hno x hx)
  · rintro ⟨x, hx, e⟩
    have hxb := hb x hx
    exact ⟨x, hx, decide_eq_true ((g.lab _ _ (by omega) (by omega)).2 (.inl (of_decide_eq_true e)))⟩
theorem atoms_comp (hf : (Prob.mk (n : Int) ps rs).formed) : Comp n (fun i j => (i, j) ∈ muE rs) (atomsL n rs) :=
  Comp.joins0 fun e he => by
    obtain ⟨r, hr, _, rfl⟩ := mem_muE.1 he
    exact ⟨(ru_lt hf hr).1, (ru_lt hf hr).2.1⟩
theorem pos_iff (hf : (Prob.mk (n : Int) ps rs).formed) (hm : isP n m) (hp : permR n ps rs m) : posF n (barL rs) (atomsL n rs) m s ↔ posR n (barL rs) (atomsL n rs) m s := by
  have e := pre_iff (atm := atomsL n rs) (s := s) hm hp.2.1
  constructor
  · rintro ⟨h1, h2⟩
    exact ⟨e.1 h1, by rw [clash_lab (grp_of hm hp.2.1 h1) hp.1 (bar_rng hf)]; exact h2⟩
  · rintro ⟨h1, h2⟩
    have h3 := e.2 h1
    exact ⟨h3, by rw [← clash_lab (grp_of hm hp.2.1 h3) hp.1 (bar_rng hf)]; exact h2⟩
theorem res_comp (hf : (Prob.mk (n : Int) ps rs).formed) (m : List Nat) (s : Stp) : Comp n (inC n ps rs (labL n (atomsL n rs) m s)) (resR n ps rs m s) := conn_in hf _
theorem apply_eq (hf : (Prob.mk (n : Int) ps rs).formed) (hm : isP n m) (hp : permR n ps rs m) (h : preF n (atomsL n rs) m s) :
    nmF (mF (lF ps) rs) m (atomsL n rs) s = (resR n ps rs m s).map (fun x : Nat => (x : Int)) ∧ gnF (wF ps) (mF (lF ps) rs) m (atomsL n rs) s = valR (resR n ps rs m s) ps - valR m ps := by
  have hml := hm.1
  have g := grp_of hm hp.2.1 h
  have e : resR n ps rs m s = nameF id m (gL (mF (lF ps) rs) m (atomsL n rs) s) := (res_comp hf m s).uniq (g.comp hf hm (perm_comp hf hp))
  refine ⟨?_, ?_⟩
  · rw [e]; exact g.cast hml
  · rw [e]
    have hfn : s.f.toNat < n := by have h1 := h.1.1; have h2 := h.1.2.1; omega
    refine g.val hf hm (grp_perm m _ s) (fun i j hi hj q => ?_) fun i j hi hj q => ?_
    · rw [mem_here hml] at q ⊢
      omega
    · rw [mem_there hml] at q ⊢
      omega
theorem lab_at (_ : (Prob.mk (n : Int) ps rs).formed) (hm : isP n m) (hp : permR n ps rs m) (h : preF n (atomsL n rs) m s) {i j : Nat} (hi : i < n) (hj : j < n) (e : (atomsL n rs)[i]! = (atomsL n rs)[j]!) : (labL n (atomsL n rs) m s)[i]! = (labL n (atomsL n rs) m s)[j]! := by
  have g := grp_of hm hp.2.1 h
  have hml := hm.1
  have e2 : m[i]! = m[j]! := by rw [hp.2.1 i hi, hp.2.1 j hj, e]
  have e3 := g0_at (s := s) hml hi hj e2 e
  refine (g.lab i j hi hj).2 ?_
  by_cases q : i ∈ g0L m (atomsL n rs) s
  · exact .inl ⟨q, e3.1 q⟩
  · exact .inr ⟨q, fun z => q (e3.2 z), e2⟩
/-- The result of labels that keep atoms together and break no rule is permitted. -/
theorem conn_perm (hf : (Prob.mk (n : Int) ps rs).formed) {lab : List Nat} (hat : ∀ i j, i < n → j < n → (atomsL n rs)[i]! = (atomsL n rs)[j]! → lab[i]! = lab[j]!) (hc : clash (barL rs) lab = false) : isP n (connL n ps rs lab) ∧ permR n ps rs (connL n ps rs lab) := by
  have hr := conn_in hf lab
  have ha := atoms_comp hf
  have hlab : ∀ i j, Cn (inC n ps rs lab) i j → lab[i]! = lab[j]! := fun i j g => Cn.keep (f := fun i => lab[i]!) (fun i j q => q.2.1) g
  refine ⟨⟨hr.len, fun i hi => ⟨hr.le i hi, hr.idem hi⟩⟩, ?_, fun i hi => ?_, ?_⟩
  · unfold clash at hc ⊢
    rw [List.any_eq_false] at hc ⊢
    intro x hx e
    have hxb := bar_rng hf x hx
    exact hc x hx (decide_eq_true (hlab _ _ ((hr.iff (by omega) (by omega)).1 (of_decide_eq_true e))))
  · refine (hr.iff hi (ha.lt hi)).2 ((ha.cn i hi).lift fun x y q => .base ?_)
    obtain ⟨hx, hy⟩ := ha.bnd x y q
    obtain ⟨r, hrr, hk, e⟩ := mem_muE.1 q
    cases e
    exact ⟨(mF_iff rs).2 (.inr ⟨r, hrr, (ru_lt hf hrr).2.2.2 hk, .inl ⟨rfl, rfl⟩⟩), hat _ _ hx hy (ha.rel _ _ q), hx, hy⟩
  · refine (conn_in hf _).uniq (hr.congr (fun i j q => ⟨q.2.2.1, q.2.2.2⟩) (fun i j q => ?_) fun i j q => ?_)
    · exact .base ⟨q.1, hlab _ _ ((hr.iff q.2.2.1 q.2.2.2).1 q.2.1), q.2.2.1, q.2.2.2⟩
    · exact .base ⟨q.1, hr.rel i j q, q.2.2.1, q.2.2.2⟩
theorem res_perm (hf : (Prob.mk (n : Int) ps rs).formed) (hm : isP n m) (hp : permR n ps rs m) (h : posR n (barL rs) (atomsL n rs) m s) : isP n (resR n ps rs m s) ∧ permR n ps rs (resR n ps rs m s) :=
  conn_perm hf (fun _ _ hi hj e => lab_at hf hm hp ((pre_iff hm hp.2.1).2 h.1) hi hj e) h.2
end
end Go.D33
end
section
namespace Go.D33
open Go Go.RowKit Go.H
/-! ### The best of some steps -/
def pick (ok : Stp → Prop) [DecidablePred ok] (g : Stp → Int) (b : Stp × Int) (s : Stp) : Stp × Int := if ok s ∧ b.2 < g s then (s, g s) else b
def bestF (ok : Stp → Prop) [DecidablePred ok] (g : Stp → Int) (l : List Stp) : Stp × Int := l.foldl (pick ok g) (⟨false, 0, 0⟩, 0)
section
variable {ok : Stp → Prop} [DecidablePred ok] {g : Stp → Int}
theorem pick_y {b : Stp × Int} {s : Stp} (h : ok s) (h2 : b.2 < g s) : pick ok g b s = (s, g s) := if_pos ⟨h, h2⟩
theorem pick_n {b : Stp × Int} {s : Stp} (h : ¬ (ok s ∧ b.2 < g s)) : pick ok g b s = b := if_neg h
theorem best_app (l k : List Stp) : bestF ok g (l ++ k) = k.foldl (pick ok g) (bestF ok g l) := List.foldl_append
theorem best_snoc (l : List Stp) (s : Stp) : bestF ok g (l ++ [s]) = pick ok g (bestF ok g l) s := by rw [best_app]; rfl
theorem best_s {l : List Stp} {k : Nat} (h : k < l.length) : bestF ok g (l.take (k + 1)) = pick ok g (bestF ok g (l.take k)) l[k]! := by rw [snocP h, best_snoc]
theorem best_spec' (l : List Stp) : ∀ k, k ≤ l.length → 0 ≤ (bestF ok g (l.take k)).2 ∧ (0 < (bestF ok g (l.take k)).2 → (bestF ok g (l.take k)).1 ∈ l ∧ ok (bestF ok g (l.take k)).1 ∧ g (bestF ok g (l.take k)).1 = (bestF ok g (l.take k)).2) ∧
    (∀ s ∈ l.take k, ok s → g s ≤ (bestF ok g (l.take k)).2) ∧ ((bestF ok g (l.take k)).2 = 0 → (bestF ok g (l.take k)).1 = ⟨false, 0, 0⟩) := by
  intro k
  induction k with
  | zero =>
    intro _
    refine ⟨Int.le_refl _, fun h => absurd h (by rw [List.take_zero]; show ¬ (0 : Int) < 0; omega), fun s hs => ?_, fun _ => rfl⟩
    rw [List.take_zero] at hs; cases hs
  | succ k ih =>
    intro hk
    obtain ⟨h1, h2, h3, h4⟩ := ih (by omega)
    rw [best_s (show k < l.length from hk)]
    by_cases hp : ok l[k]! ∧ (bestF ok g (l.take k)).2 < g l[k]!
    · rw [pick_y hp.1 hp.2]
      refine ⟨by show 0 ≤ g l[k]!; omega, fun _ => ⟨mem_at hk, hp.1, rfl⟩, fun s hs hok => ?_, fun e => ?_⟩
      · rw [snocP (show k < l.length from hk)] at hs
        rcases List.mem_append.1 hs with q | q
        · have := h3 s q hok
          show g s ≤ g l[k]!
          omega
        · rw [List.mem_singleton.1 q]; exact Int.le_refl _
      · have e' : g l[k]! = 0 := e
        omega
    · rw [pick_n hp]
      refine ⟨h1, h2, fun s hs hok => ?_, h4⟩
      rw [snocP (show k < l.length from hk)] at hs
      rcases List.mem_append.1 hs with q | q
      · exact h3 s q hok
      · rw [List.mem_singleton.1 q] at hok ⊢
        rcases Int.lt_or_le (bestF ok g (l.take k)).2 (g l[k]!) with z | z
        · exact absurd ⟨hok, z⟩ hp
        · exact z
theorem best_spec (l : List Stp) : 0 ≤ (bestF ok g l).2 ∧ (0 < (bestF ok g l).2 → (bestF ok g l).1 ∈ l ∧ ok (bestF ok g l).1 ∧ g (bestF ok g l).1 = (bestF ok g l).2) ∧
    (∀ s ∈ l, ok s → g s ≤ (bestF ok g l).2) ∧ ((bestF ok g l).2 = 0 → (bestF ok g l).1 = ⟨false, 0, 0⟩) := by
  have := best_spec' (ok := ok) (g := g) l l.length (Nat.le_refl _)
  rwa [List.take_length] at this
theorem best_filter {q : Stp → Bool} (hq : ∀ s, ok s → q s = true) (l : List Stp) : bestF ok g (l.filter q) = bestF ok g l := by
  unfold bestF
  generalize ((⟨false, 0, 0⟩, 0) : Stp × Int) = b
  induction l generalizing b with
  | nil => rfl
  | cons s l ih =>
    rw [List.foldl_cons]
    cases e : q s with
    | true => rw [List.filter_cons, if_pos e, List.foldl_cons]; exact ih _
    | false =>
      rw [List.filter_cons, if_neg (by rw [e]; decide), pick_n (fun z => by rw [hq s z.1] at e; cases e)]; exact ih _
theorem best_congr {ok' : Stp → Prop} [DecidablePred ok'] {g' : Stp → Int} {l : List Stp} (h : ∀ s ∈ l, (ok s ↔ ok' s) ∧ (ok s → g s = g' s)) : bestF ok g l = bestF ok' g' l := by
  unfold bestF
  generalize ((⟨false, 0, 0⟩, 0) : Stp × Int) = b
  induction l generalizing b with
  | nil => rfl
  | cons s l ih =>
    rw [List.foldl_cons, List.foldl_cons]
    have hs := h s (by simp)
    have e : pick ok g b s = pick ok' g' b s := by
      unfold pick
      by_cases q : ok s
      · rw [hs.2 q]
        by_cases z : b.2 < g' s
        · rw [if_pos ⟨q, z⟩, if_pos ⟨hs.1.1 q, z⟩]
        · rw [if_neg (fun w => z w.2), if_neg (fun w => z w.2)]
      · rw [if_neg (fun w => q w.1), if_neg (fun w => q (hs.1.2 w.1))]
    rw [e]
    exact ih (fun s hs => h s (by simp [hs])) _
end
/-! ### All steps -/
def rowS (n : Nat) (u : Bool) (f : Nat) : List Stp := (places (List.range n)).map fun t => ⟨u, (f : Int), t⟩
def kindS (n : Nat) (u : Bool) (k : Nat) : List Stp := ((List.range k).map (rowS n u)).flatten
def allS (n : Nat) : List Stp := kindS n false n ++ kindS n true n
/-- Steps that the program looks at. -/
def lookQ (m atm : List Nat) (s : Stp) : Bool := if s.u = true then decide (m[s.f.toNat]! = s.f.toNat ∧ 0 ≤ s.t ∧ m[s.t.toNat]! = s.t.toNat ∧ s.f < s.t) else decide (atm[s.f.toNat]! = s.f.toNat ∧ (s.t < 0 ∨ m[s.t.toNat]! = s.t.toNat))
theorem flat_if {α : Type} (p : Nat → Bool) (k : Nat → List α) : ∀ l : List Nat, (l.map fun f => if p f = true then k f else []).flatten = ((l.filter p).map k).flatten
  | [] => rfl
  | a :: l => by
    rw [List.map_cons, List.flatten_cons, flat_if p k l, List.filter_cons]
    cases h : p a <;> simp
theorem filter_flat {α : Type} (q : α → Bool) : ∀ L : List (List α), L.flatten.filter q = (L.map fun l => l.filter q).flatten
  | [] => rfl
  | l :: L => by rw [List.flatten_cons, List.filter_append, filter_flat q L, List.map_cons, List.flatten_cons]
theorem row_false {n f : Nat} {m atm : List Nat} : (rowS n false f).filter (lookQ m atm) = if (decide (atm[f]! = f)) = true then moves (selfs n m) f else [] := by
  unfold rowS
  rw [List.filter_map]
  by_cases h : atm[f]! = f
  · rw [if_pos (decide_eq_true h)]
    unfold moves places selfs
    congr 1
    rw [List.filter_cons, if_pos (by simp [lookQ, h])]
    congr 1
    rw [List.filter_map]
    congr 1
    apply List.filter_congr
    intro t _
    show lookQ m atm ⟨false, (f : Int), (t : Int)⟩ = _
    unfold lookQ
    rw [if_neg (by show ¬ (false = true); decide)]
    refine dec_iff ?_
    show (atm[((f : Int)).toNat]! = ((f : Int)).toNat ∧ ((t : Int) < 0 ∨ m[((t : Int)).toNat]! = ((t : Int)).toNat)) ↔ m[t]! = t
    rw [Int.toNat_natCast, Int.toNat_natCast]
    exact ⟨fun q => q.2.elim (fun z => by omega) id, fun q => ⟨h, .inr q⟩⟩
  · rw [if_neg (by simpa using h)]
    rw [List.filter_eq_nil_iff.2, List.map_nil]
    intro t _ e
    have e : lookQ m atm ⟨false, (f : Int), t⟩ = true := e
    unfold lookQ at e
    rw [if_neg (by show ¬ (false = true); decide)] at e
    exact h (of_decide_eq_true e).1
theorem selfs_asc (n : Nat) (m : List Nat) : (selfs n m).Pairwise (· < ·) := (List.pairwise_lt_range (n := n)).filter _
theorem row_true {n f : Nat} {m atm : List Nat} : (rowS n true f).filter (lookQ m atm) = if (decide (m[f]! = f)) = true then ((selfs n m).filter fun t => decide (f < t)).map (fun t : Nat => ⟨true, (f : Int), (t : Int)⟩) else [] := by
  unfold rowS
  rw [List.filter_map]
  by_cases h : m[f]! = f
  · rw [if_pos (decide_eq_true h)]
    unfold places selfs
    rw [List.filter_cons, if_neg (by simp [lookQ])]
    rw [List.filter_map, List.map_map, List.filter_filter]
    have : ((List.range n).filter ((lookQ m atm ∘ fun t => Stp.mk true (f : Int) t) ∘ fun x : Nat => (x : Int))) = (List.range n).filter fun t => decide (f < t) && decide (m[t]! = t) := by
      apply List.filter_congr
      intro t _
      show lookQ m atm ⟨true, (f : Int), (t : Int)⟩ = _
      unfold lookQ
      rw [if_pos rfl, ← Bool.decide_and]
      refine dec_iff ?_
      show (m[((f : Int)).toNat]! = ((f : Int)).toNat ∧ 0 ≤ (t : Int) ∧ m[((t : Int)).toNat]! = ((t : Int)).toNat ∧ (f : Int) < t) ↔ (f < t ∧ m[t]! = t)
      rw [Int.toNat_natCast, Int.toNat_natCast]
      exact ⟨fun q => ⟨by omega, q.2.2.1⟩, fun q => ⟨h, by omega, q.2, by omega⟩⟩
    rw [this]
    rfl
  · rw [if_neg (by simpa using h)]
    rw [List.filter_eq_nil_iff.2, List.map_nil]
    intro t _ e
    have e : lookQ m atm ⟨true, (f : Int), t⟩ = true := e
    unfold lookQ at e
    rw [if_pos rfl] at e
    exact h (of_decide_eq_true e).1
theorem asc_drop : ∀ {l : List Nat}, l.Pairwise (· < ·) → ∀ {k : Nat}, k < l.length → (l.filter fun t => decide (l[k]! < t)) = l.drop (k + 1)
  | [], _, k, hk => absurd hk (by simp)
  | a :: l, h, 0, _ => by
    obtain ⟨h1, _⟩ := List.pairwise_cons.1 h
    show List.filter (fun t => decide (a < t)) (a :: l) = l
    rw [List.filter_cons, if_neg (by simp), List.filter_eq_self]
    exact fun t ht => decide_eq_true (h1 t ht)
  | a :: l, h, k + 1, hk => by
    obtain ⟨h1, h2⟩ := List.pairwise_cons.1 h
    rw [List.length_cons] at hk
    have hk' : k < l.length := by omega
    have := h1 l[k]! (mem_at hk')
    rw [List.getElem!_cons_succ, List.filter_cons, if_neg (by rw [decide_eq_true_eq]; omega), List.drop_succ_cons]
    exact asc_drop h2 hk'
theorem unions_eq (cl : List Nat) : ∀ k, unions cl k = ((List.range k).map fun k => (cl.drop (k + 1)).map fun b : Nat => Stp.mk true (cl[k]! : Nat) b).flatten
  | 0 => rfl
  | k + 1 => by rw [unions, unions_eq cl k, List.range_succ, List.map_append, List.flatten_append]; simp
theorem map_range {α : Type} (l : List Nat) (h : Nat → α) : l.map h = (List.range l.length).map fun k => h l[k]! := by
  apply List.ext_getElem
  · simp
  · intro i h1 h2
    rw [List.getElem_map, List.getElem_map, List.getElem_range, getElem!_pos l i (by simpa using h1)]
theorem steps_filter (n : Nat) (m atm : List Nat) : (allS n).filter (lookQ m atm) = stepsL (selfs n m) (selfs n atm) := by
  have e1 : (kindS n false n).filter (lookQ m atm) = ((selfs n atm).map (moves (selfs n m))).flatten := by
    unfold kindS
    rw [filter_flat, List.map_map]
    have : ((fun l => List.filter (lookQ m atm) l) ∘ rowS n false) = fun f => if (decide (atm[f]! = f)) = true then moves (selfs n m) f else [] := funext fun f => row_false
    rw [this]
    exact flat_if (fun f => decide (atm[f]! = f)) (moves (selfs n m)) (List.range n)
  have e2 : (kindS n true n).filter (lookQ m atm) = unions (selfs n m) (selfs n m).length := by
    unfold kindS
    rw [filter_flat, List.map_map]
    have : ((fun l => List.filter (lookQ m atm) l) ∘ rowS n true) = fun f => if (decide (m[f]! = f)) = true then ((selfs n m).filter fun t => decide (f < t)).map (fun t : Nat => Stp.mk true (f : Int) (t : Int)) else [] := funext fun f => row_true
    rw [this, flat_if (fun f => decide (m[f]! = f)), unions_eq]
    show ((selfs n m).map _).flatten = _
    rw [map_range]
    congr 1
    apply List.map_congr_left
    intro k hk
    rw [asc_drop (selfs_asc n m) (List.mem_range.1 hk)]
  unfold allS stepsL
  rw [List.filter_append, e1, e2]
/-! ### The search -/
section
variable {n : Nat} {ps : List Pr} {rs : List Ru} {m : List Nat} {s : Stp}
def gnR (n : Nat) (ps : List Pr) (rs : List Ru) (m : List Nat) (s : Stp) : Int := valR (resR n ps rs m s) ps - valR m ps
def nextR (n : Nat) (ps : List Pr) (rs : List Ru) (m : List Nat) : Stp × Int := bestF (posR n (barL rs) (atomsL n rs) m) (gnR n ps rs m) (allS n)
def nextF (n : Nat) (ps : List Pr) (rs : List Ru) (m : List Nat) (l : List Stp) : Stp × Int := bestF (posF n (barL rs) (atomsL n rs) m) (gnF (wF ps) (mF (lF ps) rs) m (atomsL n rs)) l
theorem next_eq (hf : (Prob.mk (n : Int) ps rs).formed) (hm : isP n m) (hp : permR n ps rs m) : nextF n ps rs m (stepsL (selfs n m) (selfs n (atomsL n rs))) = nextR n ps rs m := by
  unfold nextF nextR
  rw [← steps_filter, best_filter]
  · exact best_congr fun s _ => ⟨pos_iff hf hm hp, fun h => (apply_eq hf hm hp h.1).2⟩
  · rintro s ⟨⟨h1, h2, h3, h4⟩, _⟩
    unfold lookQ
    cases hu : s.u with
    | true =>
      rw [if_pos rfl]
      have q := h3 hu
      have h10 := h1.1
      have q2 := h2 (by omega)
      exact decide_eq_true ⟨q.1, by omega, q2.1, q.2⟩
    | false =>
      rw [if_neg (by decide)]
      refine decide_eq_true ⟨(h4 hu).1, ?_⟩
      rcases Int.lt_or_le s.t 0 with z | z
      · exact .inl z
      · exact .inr (h2 z).1
theorem next_spec (n : Nat) (ps : List Pr) (rs : List Ru) (m : List Nat) : 0 ≤ (nextR n ps rs m).2 ∧ (0 < (nextR n ps rs m).2 → (nextR n ps rs m).1 ∈ allS n ∧ posR n (barL rs) (atomsL n rs) m (nextR n ps rs m).1 ∧ gnR n ps rs m (nextR n ps rs m).1 = (nextR n ps rs m).2) ∧
    (∀ s ∈ allS n, posR n (barL rs) (atomsL n rs) m s → gnR n ps rs m s ≤ (nextR n ps rs m).2) ∧ ((nextR n ps rs m).2 = 0 → (nextR n ps rs m).1 = ⟨false, 0, 0⟩) := best_spec _
def solveN (n : Nat) (ps : List Pr) (rs : List Ru) : Nat → List Nat → List Nat
  | 0, m => m
  | k + 1, m => if (nextR n ps rs m).2 = 0 then m else solveN n ps rs k (resR n ps rs m (nextR n ps rs m).1)
def muS (ps : List Pr) (m : List Nat) : Nat := (1000 * (ps.length : Int) - valR m ps).toNat
def solveR (n : Nat) (ps : List Pr) (rs : List Ru) : List Nat := solveN n ps rs (muS ps (atomsL n rs) + 1) (atomsL n rs)
theorem valR_le (hf : (Prob.mk (n : Int) ps rs).formed) (m : List Nat) : -1000 * (ps.length : Int) ≤ valR m ps ∧ valR m ps ≤ 1000 * (ps.length : Int) := by
  have := valR_b (m := m) (ps := ps) (fun x hx => ⟨(formed_pr hf hx).2.2.2.1, (formed_pr hf hx).2.2.2.2⟩) ps.length (Nat.le_refl _)
  rwa [List.take_length] at this
/-- A best step: permitted, and nearer to the end. -/
theorem next_step (hf : (Prob.mk (n : Int) ps rs).formed) (hm : isP n m) (hp : permR n ps rs m) (h : ¬ (nextR n ps rs m).2 = 0) : isP n (resR n ps rs m (nextR n ps rs m).1) ∧ permR n ps rs (resR n ps rs m (nextR n ps rs m).1) ∧
    valR (resR n ps rs m (nextR n ps rs m).1) ps = valR m ps + (nextR n ps rs m).2 ∧ muS ps (resR n ps rs m (nextR n ps rs m).1) < muS ps m := by
  obtain ⟨h1, h2, _, _⟩ := next_spec n ps rs m
  obtain ⟨_, q2, q3⟩ := h2 (by omega)
  have := res_perm hf hm hp q2
  have l1 := valR_le hf (resR n ps rs m (nextR n ps rs m).1)
  unfold gnR at q3
  exact ⟨this.1, this.2, by omega, by unfold muS; omega⟩
theorem solve_ge (hf : (Prob.mk (n : Int) ps rs).formed) : ∀ {k j : Nat} {m : List Nat}, isP n m → permR n ps rs m → muS ps m < k → muS ps m < j → solveN n ps rs k m = solveN n ps rs j m
  | 0, _, _, _, _, h, _ => absurd h (by omega)
  | _ + 1, 0, _, _, _, _, h => absurd h (by omega)
  | k + 1, j + 1, m, hm, hp, h1, h2 => by
    rw [solveN, solveN]
    split
    · rfl
    · rename_i h
      have := next_step hf hm hp h
      exact solve_ge hf this.1 this.2.1 (by omega) (by omega)
theorem solve_step (hf : (Prob.mk (n : Int) ps rs).formed) (hm : isP n m) (hp : permR n ps rs m) (h : ¬ (nextR n ps rs m).2 = 0) : solveN n ps rs (muS ps (resR n ps rs m (nextR n ps rs m).1) + 1) (resR n ps rs m (nextR n ps rs m).1) = solveN n ps rs (muS ps m + 1) m := by
  have := next_step hf hm hp h
  conv => rhs; rw [solveN, if_neg h]
  exact solve_ge hf this.1 this.2.1 (by omega) (by omega)
theorem solve_end (h : (nextR n ps rs m).2 = 0) (k : Nat) : solveN n ps rs k m = m := by
  cases k with
  | zero => rfl
  | succ k => rw [solveN, if_pos h]
theorem atoms_perm (hok : (Prob.mk (n : Int) ps rs).ok) : isP n (atomsL n rs) ∧ permR n ps rs (atomsL n rs) := by
  have hf := hok.1
  have ha := atoms_comp hf
  refine ⟨⟨ha.len, fun i hi => ⟨ha.le i hi, ha.idem hi⟩⟩, ?_, fun i hi => (ha.idem hi).symm, ?_⟩
  · rw [← bad_eq hf]; exact hok.2
  · refine (conn_in hf _).uniq ⟨ha.len, fun i j q => ⟨q.2.2.1, q.2.2.2⟩, ha.le, fun i j q => q.2.1, fun i hi => (ha.cn i hi).lift fun x y q => .base ?_⟩
    obtain ⟨hx, hy⟩ := ha.bnd x y q
    obtain ⟨r, hrr, hk, e⟩ := mem_muE.1 q
    cases e
    exact ⟨(mF_iff rs).2 (.inr ⟨r, hrr, (ru_lt hf hrr).2.2.2 hk, .inl ⟨rfl, rfl⟩⟩), ha.rel _ _ q, hx, hy⟩
end
end Go.D33
end
section
namespace Go.D33
open Go Go.RowKit Go.H
section
variable {n : Nat} {m atm : List Nat} {s : Stp}
theorem posF_iff {bar : List Ru} {u : Bool} {f t : Int} : posF n bar atm m ⟨u, f, t⟩ ↔ ((0 ≤ f ∧ f < (n : Int) ∧ t < (n : Int) ∧ -1 ≤ t ∧ (t < 0 → u = false)) ∧ (0 ≤ t → m[t.toNat]! = t.toNat ∧ m[f.toNat]! ≠ t.toNat) ∧
    (u = true → m[f.toNat]! = f.toNat ∧ f < t) ∧ (u = false → atm[f.toNat]! = f.toNat ∧ (t < 0 → g1L m atm ⟨u, f, t⟩ ≠ []))) ∧ bar.any (hitR (g0L m atm ⟨u, f, t⟩)) = false := Iff.rfl
def apN (n : Nat) (lk : Nat → Nat → Bool) (bar : List Ru) (atm m : List Nat) (s : Stp) : List Int := if posF n bar atm m s then nmF lk m atm s else []
def apG (n : Nat) (w : Nat → Nat → Int) (lk : Nat → Nat → Bool) (bar : List Ru) (atm m : List Nat) (s : Stp) : Int := if posF n bar atm m s then gnF w lk m atm s else 0
theorem apN_y {lk : Nat → Nat → Bool} {bar : List Ru} (h : posF n bar atm m s) : apN n lk bar atm m s = nmF lk m atm s := if_pos h
theorem apN_n {lk : Nat → Nat → Bool} {bar : List Ru} (h : ¬ posF n bar atm m s) : apN n lk bar atm m s = [] := if_neg h
theorem apG_y {w : Nat → Nat → Int} {lk : Nat → Nat → Bool} {bar : List Ru} (h : posF n bar atm m s) : apG n w lk bar atm m s = gnF w lk m atm s := if_pos h
theorem apG_n {w : Nat → Nat → Int} {lk : Nat → Nat → Bool} {bar : List Ru} (h : ¬ posF n bar atm m s) : apG n w lk bar atm m s = 0 := if_neg h
theorem there_nat (m : List Nat) (t : Nat) : thereL m (t : Int) = unitsL m t := if_neg (by omega)
theorem there_neg (m : List Nat) : thereL m (-1) = [] := rfl
theorem there_len (m : List Nat) (t : Int) : (thereL m t).length ≤ m.length := by
  unfold thereL
  split
  · exact Nat.zero_le _
  · exact units_len _ _
theorem setAll_sG {α : Type} {o : List α} {us : List Nat} {k : Nat} {x : α} (h : k < us.length) : setAll o (us.take (k + 1)) x = (setAll o (us.take k) x).set us[k]! x := by rw [snocP h, setAll_snoc]
theorem g_b (hm : m.length = n) : (g0L m atm s).length + (g1L m atm s).length ≤ 2 * n ∧ (∀ u ∈ g0L m atm s, u < n) ∧ ∀ u ∈ g1L m atm s, u < n := by
  have hp := grp_perm m atm s
  have hl := hp.length_eq
  rw [List.length_append, List.length_append] at hl
  have h1 := units_len m m[s.f.toNat]!
  have h2 := there_len m s.t
  have hmem : ∀ u, u ∈ g0L m atm s ++ g1L m atm s → u < n := fun u hu => by
    rcases List.mem_append.1 (hp.subset hu) with q | q
    · exact ((mem_here hm).1 q).1
    · exact ((mem_there hm).1 q).2.1
  exact ⟨by omega, fun u hu => hmem u (List.mem_append_left _ hu), fun u hu => hmem u (List.mem_append_right _ hu)⟩
theorem partsN_units {E : Nat → Nat → Bool} {g : List Nat} {p : List Nat} (hp : p ∈ partsL E g) : 0 < p.length ∧ p.length ≤ g.length ∧ ∀ u ∈ p, u ∈ g := by
  have h := partsN_ok (E := E) _ g rfl
  refine ⟨List.length_pos_iff.2 (h.ne p hp), ?_, fun u hu => h.perm.subset (List.mem_flatten.2 ⟨p, hp, hu⟩)⟩
  rw [← h.perm.length_eq]
  exact (List.sublist_flatten_of_mem hp).length_le
theorem partsN_len {E : Nat → Nat → Bool} {g : List Nat} : (partsL E g).length ≤ g.length := by
  have h := partsN_ok (E := E) _ g rfl
  rw [← h.perm.length_eq]
  have h2 := h.ne
  revert h2
  generalize partsL E g = L
  intro h2
  induction L with
  | nil => simp
  | cons p L ih =>
    have h3 := List.length_pos_iff.2 (h2 p (by simp))
    have := ih (fun q hq => h2 q (by simp [hq]))
    rw [List.flatten_cons, List.length_append, List.length_cons]; omega
theorem sumV_b {w : Nat → Nat → Int} (hw : ∀ i j, -1000 ≤ w i j ∧ w i j ≤ 1000) {L : List (List Nat)} (hL : ∀ p ∈ L, p.length ≤ 1000) : ∀ k : Nat, k ≤ L.length → -1000000000 * (k : Int) ≤ sumV w (L.take k) ∧ sumV w (L.take k) ≤ 1000000000 * (k : Int)
  | 0, _ => by simp [sumV]
  | k + 1, h => by
    have ih := sumV_b hw hL k (by omega)
    have := valF_b hw (hL L[k]! (mem_at (by omega)))
    rw [sumV_s w (by omega)]; omega
theorem sumV_b2 {w : Nat → Nat → Int} (hw : ∀ i j, -1000 ≤ w i j ∧ w i j ≤ 1000) {L : List (List Nat)} (hL : ∀ p ∈ L, p.length ≤ 1000) : -1000000000 * (L.length : Int) ≤ sumV w L ∧ sumV w L ≤ 1000000000 * (L.length : Int) := by
  have := sumV_b hw hL L.length (Nat.le_refl _)
  rwa [List.take_length] at this
theorem sumV_snoc (w : Nat → Nat → Int) (L : List (List Nat)) (p : List Nat) : sumV w (L ++ [p]) = sumV w L + valF w p := by rw [sumV, List.foldl_append]; rfl
/-! ### Names that are taken away -/
def nmHit (nm : List Int) (x : Ru) : Bool := decide (nm[x.a.toNat]! = -1 ∧ nm[x.b.toNat]! = -1)
theorem nm0_len : (nm0 m atm s).length = m.length := by rw [nm0, setAll_len, List.length_map]
theorem nm0_get (hm : m.length = n) {i : Nat} (hi : i < n) : (nm0 m atm s)[i]! = -1 ↔ i ∈ g0L m atm s := by
  rw [nm0, setAll_get (by rw [List.length_map]; omega)]
  by_cases q : i ∈ g0L m atm s
  · rw [if_pos q]; exact ⟨fun _ => q, fun _ => rfl⟩
  · rw [if_neg q, get_map (by omega)]; exact ⟨fun e => by omega, fun e => absurd e q⟩
theorem hit_eq {bar : List Ru} (hm : m.length = n) (hb : ∀ x ∈ bar, 0 ≤ x.a ∧ x.a < (n : Int) ∧ 0 ≤ x.b ∧ x.b < (n : Int)) : bar.any (nmHit (nm0 m atm s)) = bar.any (hitR (g0L m atm s)) := by
  rw [Bool.eq_iff_iff, List.any_eq_true, List.any_eq_true]
  have key : ∀ x ∈ bar, nmHit (nm0 m atm s) x = hitR (g0L m atm s) x := fun x hx => by
    have := hb x hx
    exact dec_iff (by rw [nm0_get hm (by omega), nm0_get hm (by omega)])
  exact ⟨fun ⟨x, hx, e⟩ => ⟨x, hx, by rw [← key x hx]; exact e⟩, fun ⟨x, hx, e⟩ => ⟨x, hx, by rw [key x hx]; exact e⟩⟩
/-! ### The best step, and the partition behind it -/
def outF (lk : Nat → Nat → Bool) (m atm : List Nat) (b : Stp × Int) : List Int := if b.2 = 0 then [] else nmF lk m atm b.1
theorem outF_y {lk : Nat → Nat → Bool} {b : Int} {s : Stp} {g : Int} (h0 : 0 ≤ b) (h : b < g) : outF lk m atm (s, g) = nmF lk m atm s := if_neg (show ¬ g = 0 by omega)
theorem best_ge {ok : Stp → Prop} [DecidablePred ok] {g : Stp → Int} (l : List Stp) {k : Nat} (h : k ≤ l.length) : 0 ≤ (bestF ok g (l.take k)).2 := (best_spec' l k h).1
theorem steps_b (n : Nat) (hn : n ≤ 200) (m atm : List Nat) : (stepsL (selfs n m) (selfs n atm)).length ≤ 1000000 := by
  have h1 := selfs_len n m
  have h2 := selfs_len n atm
  have a := moves_b (cl := selfs n m) (by omega) (l := selfs n atm) _ (Nat.le_refl _)
  rw [List.take_length] at a
  have b := unions_b (cl := selfs n m) (by omega) _ (Nat.le_refl _)
  rw [stepsL, List.length_append]; omega
end
end Go.D33
end
section
namespace Go.Proofs.Ytppamigboeaefaa
open Go Go.RowKit Go.H Go.D33

theorem hcallOk64 : G.callOk Try.prog 64 = true := by kernel_rfl

set_option maxRecDepth 8000 in
/-- (*bookplate/cluster.field).apply$1. -/
theorem apply1_h {nm : List Int} {x : Ru} (hx : 0 ≤ x.a ∧ x.a < (nm.length : Int) ∧ 0 ≤ x.b ∧ x.b < (nm.length : Int)) :
    Con Try.prog 64 [vA (eRu x), .ref 0 0] [(0, .cells 39 [.own 1]), (1, .data 3 1 (nm.map eI))] (vB (nmHit nm x)) [(0, .cells 39 [.own 1]), (1, .data 3 1 (nm.map eI))] := by
 obtain ⟨i3, hi3, hz3, hs3, hb3⟩ := hinf3
 refine Con.enterL (n := 18) Try.func64 rfl rfl rfl (fun τ w ok vs hin => ?_)
 clear hin
 refine W.rg ?_
 refine SL.memS (O.box (is := [_, _, _]) 101 rfl rfl (by simp) rfl rfl Taken.no) rfl rfl (S' := (101, _) :: _) rfl ?_
 refine SL.an rfl rfl (E.fo (W.rg ?_))
 refine SL.val (O.ld1 (PtI.ref rfl rfl) rfl Try.underlying39 rfl rfl Taken.no) ?_
 refine SL.val (O.fld_ref (o' := 1) rfl Try.underlying38 rfl (m := 0) (by kernel_rfl) rfl rfl Taken.no) ?_
 refine SL.val (O.ld1 (PtI.ref rfl rfl) rfl Try.underlying3 rfl rfl Taken.no) ?_
 refine SL.val (O.idx_own (i := x.a.toNat) rfl rfl rfl (by omega) (by rw [List.length_map]; omega) Try.underlying39 hi3 hs3 rfl Taken.no) ?_
 refine SL.val (O.ld1 (PtI.ofU (PtU.el rfl rfl (row_get (by omega)))) rfl Try.underlying3 rfl rfl Taken.no) ?_
 refine SL.val (O.det (fun _ => G.R.eql rfl rfl) rfl Taken.no) ?_
 refine SL.mv rfl rfl ?_
 refine SL.case (j := 6) (g := 10) (want := true) rfl rfl (fun hg1 => ?_) (fun hg1 => ?_)
 ·skip
  first | have hg1p := G.gA1 hg1 | have hg1p := G.gA2 hg1 | have hg1p := hg1
  refine SL.val (O.ld1 (PtI.ref rfl rfl) rfl Try.underlying39 rfl rfl (Taken.yes rfl rfl hg1)) ?_
  refine SL.val (O.fld_ref (o' := 2) rfl Try.underlying38 rfl (m := 0) (by kernel_rfl) rfl rfl (Taken.yes rfl rfl hg1)) ?_
  refine SL.val (O.ld1 (PtI.ref rfl rfl) rfl Try.underlying3 rfl rfl (Taken.yes rfl rfl hg1)) ?_
  refine SL.val (O.idx_own (i := x.b.toNat) rfl rfl rfl (by omega) (by rw [List.length_map]; omega) Try.underlying39 hi3 hs3 rfl (Taken.yes rfl rfl hg1)) ?_
  refine SL.val (O.ld1 (PtI.ofU (PtU.el rfl rfl (row_get (by omega)))) rfl Try.underlying3 rfl rfl (Taken.yes rfl rfl hg1)) ?_
  refine SL.val (O.det (fun _ => G.R.eql rfl rfl) rfl (Taken.yes rfl rfl hg1)) ?_
  refine SL.val (O.pick_t rfl hg1 rfl rfl Taken.no) ?_
  refine SL.an rfl rfl (E.fo (W.ret ?_))
  refine E.fin (rs := [_]) (rn []) (.inl rfl) rfl (.cons (ResOne.tmp rfl) .nil) ?_ ?_ rfl (fixL_spec rfl)
  ·skip
   first | exact iv_bool (dec_iff (by omega)) | exact iv_bool (dec_f (by omega)) | exact iv_bool (dec_t (by omega))
  · exact (SubS.cons rfl (SubS.cons rfl SubS.nil))
 ·skip
  first | have hg1p := G.gA5 hg1 | have hg1p := G.gA6 hg1 | have hg1p := hg1
  refine SL.sk rfl rfl rfl hg1 (SL.sk rfl rfl rfl hg1 (SL.sk rfl rfl rfl hg1 (SL.sk rfl rfl rfl hg1 (SL.sk rfl rfl rfl hg1 (SL.sk rfl rfl rfl hg1 ?_)))))
  refine SL.val (O.pick_f rfl (G.ne_t hg1) rfl rfl Taken.no) ?_
  refine SL.an rfl rfl (E.fo (W.ret ?_))
  refine E.fin (rs := [_]) (rn []) (.inl rfl) rfl (.cons (ResOne.tmp rfl) .nil) ?_ ?_ rfl (fixL_spec rfl)
  ·skip
   first | exact iv_bool (dec_iff (by omega)) | exact iv_bool (dec_f (by omega)) | exact iv_bool (dec_t (by omega))
  · exact (SubS.cons rfl (SubS.cons rfl SubS.nil))

set_option maxRecDepth 8000 in
/-- slices.IndexFunc[[]bookplate/api.Constraint,bookplate/api.Constraint]. -/
theorem indexFuncN {nm : List Int} {q : List Ru} (hq : ∀ x ∈ q, 0 ≤ x.a ∧ x.a < (nm.length : Int) ∧ 0 ≤ x.b ∧ x.b < (nm.length : Int)) :
    Con Try.prog 73 [vL 3 (q.map eRu), .clo (.func 64) [] [.ref 0 0]] [(0, .cells 39 [.own 1]), (1, .data 3 1 (nm.map eI))] (vI (idxF (nmHit nm) q)) [(0, .cells 39 [.own 1]), (1, .data 3 1 (nm.map eI))] := by
 obtain ⟨i38, hi38, hz38, hs38, hb38⟩ := hinf38
 refine Con.enterL (n := 19) Try.func73 rfl rfl rfl (fun τ w ok vs hin => ?_)
 have hl0 := hin.len (i := 0) rfl
 try rw [List.length_map] at hl0
 clear hin
 refine W.rg (SL.an rfl rfl (E.fo (W.seq (W.rg (SL.mv rfl rfl ?_)))))
 refine SL.val (O.lenE (SlOf.fz rfl (by decide)) (by first | exact List.length_map _ | rfl) Try.underlying23 rfl Taken.no) ?_
 refine SL.mv rfl rfl (E.fo (W.block ?_))
 refine W.loopx1 (fun (k : Nat) => [(8, vI (k : Int))]) (fun (k : Nat) => []) (fun (k : Nat) => k ≤ q.length ∧ ∀ j, j < k → (nmHit nm) q[j]! = false) (fun (k : Nat) => q.length - k) (0) (rn []) (.cons (t := 0) rfl (.cons (t := 1) rfl (.cons (t := 7) rfl .nil))) (.cons (t := 0) rfl (.cons (t := 1) rfl .nil)) rfl ?_ ?_ rfl rfl ?_ ?_
 · exact (SubF.cons rfl SubF.nil)
 · exact SubS.nil
 ·skip
  exact ⟨by omega, fun j h => by omega⟩
 intro k hinv
 obtain ⟨hk, hp⟩ := hinv
 refine W.rg ?_
 refine SL.val (O.det (fun _ => G.R.lss rfl rfl) rfl Taken.no) ?_
 refine E.fo (W.seq ?_)
 first | refine W.cond_d rfl (fun hc1 => ?_) (fun hc1 => ?_) | refine W.cond_nd rfl (fun hc1 => ?_) (fun hc1 => ?_) | refine W.cond rfl (fun hc1 => ?_) (fun hc1 => ?_)
 ·skip
  refine W.skip (E.to (W.seq (W.block (W.rg (SL.mv rfl rfl (SL.an rfl rfl (E.fo (W.rg (SL.mv rfl rfl (SL.mv rfl rfl (SL.mv rfl rfl ?_)))))))))))
  refine SL.val (O.idx_fz rfl rfl (rfl) (row_get (by omega)) Try.underlying23 hi38 hs38 rfl Taken.no) ?_
  refine SL.val (O.ldU (m := 3) (PtU.fz rfl) rfl Try.underlying38 rfl (by kernel_rfl) rfl Taken.no) ?_
  refine SL.memS (O.call (rn [(0, 0), (1, 1)]) [] rfl rfl rfl (apply1_h (x := q[k]!) (hq _ (mem_at (by omega)))) (.cons (ArgOk.same rfl) (.cons (ArgOk.same rfl) .nil)) (SubS.cons rfl (SubS.cons rfl SubS.nil)) rfl rfl rfl rfl rfl (.inl rfl) hcallOk64 (r' := .u _) rfl rfl Taken.no) rfl rfl (S' := (0, .cells _ [.own 1]) :: (1, .data _ _ _) :: _) rfl ?_
  refine E.fo ?_
  first | refine W.cond_d rfl (fun hc2 => ?_) (fun hc2 => ?_) | refine W.cond_nd rfl (fun hc2 => ?_) (fun hc2 => ?_) | refine W.cond rfl (fun hc2 => ?_) (fun hc2 => ?_)
  ·skip
   refine W.rg (SL.mv rfl rfl (SL.an rfl rfl (E.fo (W.ret ?_))))
   refine E.inr ?_
   refine E.thr (E.thr ?_)
   refine E.inr ?_
   refine E.thr ?_
   refine E.fin (rs := [_]) (rn []) (.inl rfl) rfl (.cons (ResOne.tmp rfl) .nil) ?_ ?_ rfl (fixL_spec rfl)
   ·skip
    exact iv_int (idxF_here (p := nmHit nm) (by omega) hp (by first | assumption | exact decide_eq_true (by assumption)))
   · exact (SubS.cons rfl (SubS.cons rfl SubS.nil))
  ·skip
   refine W.skip (E.inn (E.to (W.region ?_)))
   refine SL.val (O.det (fun _ => by first | exact G.R.add64 rfl rfl (by omega) | exact G.R.add rfl rfl) rfl Taken.no) ?_
   refine SL.mv rfl rfl (SL.nil ?_)
   refine E.again ((k + 1)) (rn []) ?_ ?_ rfl (fixL_spec rfl) ?_ ?_
   · exact (SubF.cons rfl (SubF.cons rfl (SubF.cons rfl (SubF.cons rfl SubF.nil))))
   · exact (SubS.cons rfl (SubS.cons rfl SubS.nil))
   ·try dsimp only
    exact ⟨by omega, fun j hj => by rcases Nat.lt_succ_iff_lt_or_eq.1 hj with h | h; exact hp j h; subst h; first | assumption | exact decide_eq_false (by assumption)⟩
   · (try dsimp only); omega
 ·skip
  refine W.exit (E.th (E.th (E.hit (E.to (W.rg (SL.an rfl rfl (E.fo (W.ret ?_))))))))
  refine E.fin (rs := [_]) (rn []) (.inl rfl) rfl (.cons (ResOne.tmp rfl) .nil) ?_ ?_ rfl (fixL_spec rfl)
  ·skip
   exact iv_int (idxF_none (p := nmHit nm) (by omega) hp)
  · exact (SubS.cons rfl (SubS.cons rfl SubS.nil))

set_option maxRecDepth 8000 in
/-- slices.ContainsFunc[[]bookplate/api.Constraint,bookplate/api.Constraint]. -/
theorem containsFuncN {nm : List Int} {q : List Ru} (hq : ∀ x ∈ q, 0 ≤ x.a ∧ x.a < (nm.length : Int) ∧ 0 ≤ x.b ∧ x.b < (nm.length : Int)) :
    Con Try.prog 63 [vL 3 (q.map eRu), .clo (.func 64) [] [.ref 0 0]] [(0, .cells 39 [.own 1]), (1, .data 3 1 (nm.map eI))] (vB (q.any (nmHit nm))) [(0, .cells 39 [.own 1]), (1, .data 3 1 (nm.map eI))] := by
 refine Con.enterL (n := 9) Try.func63 rfl rfl rfl (fun τ w ok vs hin => ?_)
 have hl0 := hin.len (i := 0) rfl
 try rw [List.length_map] at hl0
 clear hin
 refine W.rg (SL.an rfl rfl (E.fo (W.rg (SL.mv rfl rfl (SL.mv rfl rfl ?_)))))
 refine SL.memS (O.call (rn [(0, 0), (1, 1)]) [] rfl rfl rfl (indexFuncN hq) (.cons (ArgOk.same rfl) (.cons (ArgOk.same rfl) .nil)) (SubS.cons rfl (SubS.cons rfl SubS.nil)) rfl rfl rfl rfl rfl (.inl rfl) hcallOk73 (r' := .u _) rfl rfl Taken.no) rfl rfl (S' := (0, .cells _ [.own 1]) :: (1, .data _ _ _) :: _) rfl ?_
 refine SL.val (O.det (fun _ => G.R.geq rfl rfl) rfl Taken.no) ?_
 refine SL.an rfl rfl (E.fo (W.ret ?_))
 refine E.fin (rs := [_]) (rn []) (.inl rfl) rfl (.cons (ResOne.tmp rfl) .nil) ?_ ?_ rfl (fixL_spec rfl)
 ·skip
  exact iv_bool any_any.symm
 · exact (SubS.cons rfl (SubS.cons rfl SubS.nil))

end Go.Proofs.Ytppamigboeaefaa
end
section
namespace Go.Proofs.Ytppamigboeaefaa
open Go Go.RowKit Go.H Go.D33



set_option maxRecDepth 8000 in
set_option maxHeartbeats 6400000 in
/-- (*bookplate/cluster.field).apply. -/
theorem apply_h {n : Nat} {wt : Nat → Nat → Int} {lk : Nat → Nat → Bool} {bar : List Ru} {atm : List Nat} {m : List Nat} {u : Bool} {f t : Int} (hn : n ≤ 200) (hw : ∀ i j, -1000 ≤ wt i j ∧ wt i j ≤ 1000) (ha : atm.length = n ∧ ∀ i, i < n → atm[i]! < n) (hb : ∀ x ∈ bar, 0 ≤ x.a ∧ x.a < (n : Int) ∧ 0 ≤ x.b ∧ x.b < (n : Int)) (hml : m.length = n) :
    Con Try.prog 50 [.u (.ptr [uI (n : Int), .sl 1 (gridU (gridF n fun i j => uI (wt i j))), .sl 1 (gridU (gridF n fun i j => uB (lk i j))), .sl 3 (bar.map eRu), .sl 1 (atm.map eN), .sl 1 ((List.range n).map eN)]), vL 1 (m.map eN), vA [uB u, uI f, uI t]] [] (.tup [vL 1 ((apN n lk bar atm m ⟨u, f, t⟩).map eI), vI (apG n wt lk bar atm m ⟨u, f, t⟩), vB (decide (posF n bar atm m ⟨u, f, t⟩))]) [] := by
 have hal := ha.1
 obtain ⟨i3, hi3, hz3, hs3, hb3⟩ := hinf3
 obtain ⟨i39, hi39, hz39, hs39, hb39⟩ := hinf39
 refine Con.enterL (n := 225) Try.func50 rfl rfl rfl (fun τ w ok vs hin => ?_)
 have hl1 := hin.len (i := 1) rfl
 try rw [List.length_map] at hl1
 clear hin
 refine W.rg ?_
 refine SL.memS (O.box (is := [_, _, _]) 101 rfl rfl (by simp) rfl rfl Taken.no) rfl rfl (S' := (101, _) :: _) rfl ?_
 refine SL.an rfl rfl (SL.an rfl rfl (SL.an rfl rfl (E.fo (W.seq (W.seq ?_)))))
 refine W.draw [⟨[], [], [], [101]⟩, ⟨[101], [], [], []⟩, ⟨[], [], [], []⟩, ⟨[], [], [], []⟩, ⟨[], [], [], [101]⟩, ⟨[101], [], [], []⟩, ⟨[], [], [], []⟩, ⟨[], [], [], []⟩, ⟨[], [], [], []⟩, ⟨[], [], [], []⟩, ⟨[], [], [], []⟩, ⟨[], [], [], []⟩, ⟨[], [], [], []⟩, ⟨[], [], [], [101]⟩, ⟨[101], [], [], []⟩, ⟨[], [], [], []⟩, ⟨[], [], [], []⟩, ⟨[], [], [], []⟩, ⟨[], [], [], []⟩, ⟨[], [], [], []⟩, ⟨[], [], [], []⟩, ⟨[], [], [], []⟩, ⟨[], [], [], [101]⟩, ⟨[101], [], [], []⟩, ⟨[], [], [], []⟩, ⟨[], [], [], []⟩, ⟨[], [], [], [101]⟩, ⟨[101], [], [], []⟩, ⟨[], [], [], []⟩, ⟨[], [], [], [101]⟩, ⟨[101], [], [], []⟩, ⟨[], [], [], []⟩, ⟨[], [], [], []⟩, ⟨[], [], [], []⟩, ⟨[], [], [], []⟩] rfl (by kernel_rfl) (by kernel_rfl) rfl rfl ?_
 refine WH.val (O.fld_ref (o' := 1) rfl Try.underlying55 rfl (m := 0) (by kernel_rfl) rfl rfl Taken.no) rfl rfl ?_
 refine WH.val (O.ld1 (PtI.ref rfl rfl) rfl Try.underlying3 rfl rfl Taken.no) rfl rfl ?_
 refine WH.val (O.det (fun _ => G.R.lss rfl rfl) rfl Taken.no) rfl rfl ?_
 refine WH.mv rfl rfl rfl ?_
 refine WH.case (j := 3) (g := 29) (want := false) rfl rfl (fun hg1 => ?_) (fun hg1 => ?_)
 ·skip
  first | have hg1p := G.gA3 hg1 | have hg1p := G.gA4 hg1 | have hg1p := hg1
  refine WH.val (O.fld_ref (o' := 1) rfl Try.underlying55 rfl (m := 0) (by kernel_rfl) rfl rfl (Taken.yes rfl rfl hg1)) rfl rfl ?_
  refine WH.val (O.ld1 (PtI.ref rfl rfl) rfl Try.underlying3 rfl rfl (Taken.yes rfl rfl hg1)) rfl rfl ?_
  refine WH.val (O.move rfl rfl (Taken.yes rfl rfl hg1)) rfl rfl ?_
  refine WH.val (O.nilCheck rfl rfl rfl (Taken.yes rfl rfl hg1)) rfl rfl ?_
  refine WH.val (O.fld_fz rfl Try.underlying78 rfl (m := 0) (by kernel_rfl) rfl rfl (Taken.yes rfl rfl hg1)) rfl rfl ?_
  refine WH.val (O.ld1 (PtI.ofU (PtU.fz rfl)) rfl Try.underlying3 rfl rfl (Taken.yes rfl rfl hg1)) rfl rfl ?_
  refine WH.val (O.det (fun _ => G.R.geq rfl rfl) rfl (Taken.yes rfl rfl hg1)) rfl rfl ?_
  refine WH.val (O.pick_f rfl hg1 rfl rfl Taken.no) rfl rfl ?_
  refine WH.mv rfl rfl rfl ?_
  refine WH.case (j := 12) (g := 38) (want := false) rfl rfl (fun hg2 => ?_) (fun hg2 => ?_)
  ·skip
   first | have hg2p := G.gA3 hg2 | have hg2p := G.gA4 hg2 | have hg2p := hg2
   refine WH.val (O.fld_ref (o' := 2) rfl Try.underlying55 rfl (m := 0) (by kernel_rfl) rfl rfl (Taken.yes rfl rfl hg2)) rfl rfl ?_
   refine WH.val (O.ld1 (PtI.ref rfl rfl) rfl Try.underlying3 rfl rfl (Taken.yes rfl rfl hg2)) rfl rfl ?_
   refine WH.val (O.move rfl rfl (Taken.yes rfl rfl hg2)) rfl rfl ?_
   refine WH.val (O.nilCheck rfl rfl rfl (Taken.yes rfl rfl hg2)) rfl rfl ?_
   refine WH.val (O.fld_fz rfl Try.underlying78 rfl (m := 0) (by kernel_rfl) rfl rfl (Taken.yes rfl rfl hg2)) rfl rfl ?_
   refine WH.val (O.ld1 (PtI.ofU (PtU.fz rfl)) rfl Try.underlying3 rfl rfl (Taken.yes rfl rfl hg2)) rfl rfl ?_
   refine WH.val (O.det (fun _ => G.R.geq rfl rfl) rfl (Taken.yes rfl rfl hg2)) rfl rfl ?_
   refine WH.val (O.pick_f rfl hg2 rfl rfl Taken.no) rfl rfl ?_
   refine WH.mv rfl rfl rfl ?_
   refine WH.case (j := 21) (g := 47) (want := false) rfl rfl (fun hg3 => ?_) (fun hg3 => ?_)
   ·skip
    first | have hg3p := G.gA3 hg3 | have hg3p := G.gA4 hg3 | have hg3p := hg3
    refine WH.val (O.fld_ref (o' := 2) rfl Try.underlying55 rfl (m := 0) (by kernel_rfl) rfl rfl (Taken.yes rfl rfl hg3)) rfl rfl ?_
    refine WH.val (O.ld1 (PtI.ref rfl rfl) rfl Try.underlying3 rfl rfl (Taken.yes rfl rfl hg3)) rfl rfl ?_
    refine WH.val (O.det (fun _ => G.R.lss rfl rfl) rfl (Taken.yes rfl rfl hg3)) rfl rfl ?_
    refine WH.val (O.move rfl rfl (Taken.yes rfl rfl hg3)) rfl rfl ?_
    refine WH.case (j := 25) (g := 51) (want := true) rfl rfl (fun hg4 => ?_) (fun hg4 => ?_)
    ·skip
     first | have hg4p := G.gA1 hg4 | have hg4p := G.gA2 hg4 | have hg4p := hg4
     refine WH.val (O.fld_ref (o' := 0) rfl Try.underlying55 rfl (m := 0) (by kernel_rfl) rfl rfl (Taken.yes rfl rfl hg4)) rfl rfl ?_
     refine WH.val (O.ld1 (PtI.ref rfl rfl) rfl Try.underlying4 rfl rfl (Taken.yes rfl rfl hg4)) rfl rfl ?_
     refine WH.val (O.move rfl rfl (Taken.yes rfl rfl hg4)) rfl rfl ?_
     refine WH.case (j := 28) (g := 54) (want := false) rfl rfl (fun hg5 => ?_) (fun hg5 => ?_)
     ·skip
      first | have hg5p := G.gA3 hg5 | have hg5p := G.gA4 hg5 | have hg5p := hg5
      refine WH.val (O.fld_ref (o' := 2) rfl Try.underlying55 rfl (m := 0) (by kernel_rfl) rfl rfl (Taken.yes rfl rfl hg5)) rfl rfl ?_
      refine WH.val (O.ld1 (PtI.ref rfl rfl) rfl Try.underlying3 rfl rfl (Taken.yes rfl rfl hg5)) rfl rfl ?_
      refine WH.val (O.det (fun _ => G.R.neq rfl rfl) rfl (Taken.yes rfl rfl hg5)) rfl rfl ?_
      refine WH.val (O.pick_f rfl hg5 rfl rfl (Taken.yes rfl rfl hg4)) rfl rfl ?_
      refine WH.val (O.pick_t rfl hg4 rfl rfl (Taken.yes rfl rfl hg3)) rfl rfl ?_
      refine WH.val (O.pick_f rfl hg3 rfl rfl Taken.no) rfl rfl ?_
      refine WH.nil (E.to ?_)
      refine W.pick (K:=[(0,_),(1,_),(5,_),(6,_),(7,_),(8,_),(60,_)]) (Z:=[(101,_)]) ⟨rfl,rfl,rfl,rfl,rfl,rfl,rfl,trivial⟩ ⟨rfl,trivial⟩ ?_
      first | refine W.cond_d rfl (fun hc6 => ?_) (fun hc6 => ?_) | refine W.cond_nd rfl (fun hc6 => ?_) (fun hc6 => ?_) | refine W.cond rfl (fun hc6 => ?_) (fun hc6 => ?_)
      ·skip
       refine W.rg (SL.an rfl rfl (SL.an rfl rfl (SL.an rfl rfl (E.fo (W.ret (E.thr ?_))))))
       refine E.nilsl 6 1 rfl ?_
       refine E.fin (rs := [_, _, _]) (rn []) (.inl rfl) rfl (.cons (ResOne.tmp rfl) (.cons (ResOne.tmp rfl) (.cons (ResOne.tmp rfl) .nil))) ?_ ?_ rfl (fixL_spec rfl)
       ·skip
        first | ((have hno : ¬ posF n bar atm m ⟨u, f, t⟩ := fun q => by ((obtain ⟨⟨⟨q1, q2, q3, q4, q5⟩, q6, q7, q8⟩, q9⟩ := posF_iff.1 q); (try simp only [Int.toNat_natCast] at q6 q7 q8); (first | omega | (have q5 := q5 (by omega); simp_all)))); rw [apN_n hno, apG_n hno, dec_f hno]; rfl)
       · exact SubS.nil
      ·skip
       refine W.skip (E.to (W.rg ?_))
       obtain rfl : t = -1 := by omega
       obtain rfl : u = false := by simp_all
       have hvb2 := valF_b hw (l := []) (by simp)
       obtain ⟨f, rfl⟩ : ∃ k : Nat, f = (k : Int) := ⟨f.toNat, by omega⟩
       have hul := units_len m m[f]!
       have hvb1 := valF_b hw (l := (unitsL m m[f]!)) (by omega)
       have hHn : ∀ u ∈ (unitsL m m[f]!), u < n := fun u hu => ((mem_here hml).1 hu).1
       refine SL.mv rfl rfl (SL.mv rfl rfl ?_)
       refine SL.val (O.fld_ref (o' := 1) rfl Try.underlying55 rfl (m := 0) (by kernel_rfl) rfl rfl Taken.no) ?_
       refine SL.val (O.ld1 (PtI.ref rfl rfl) rfl Try.underlying3 rfl rfl Taken.no) ?_
       refine SL.val (O.idx_fz (i := f) rfl rfl (rfl) (row_get (by omega)) Try.underlying39 hi3 hs3 rfl Taken.no) ?_
       refine SL.val (O.ld1 (PtI.ofU (PtU.fz rfl)) rfl Try.underlying3 rfl rfl Taken.no) ?_
       refine SL.memS (O.call (rn [(0, 102)]) [] rfl rfl rfl (units_h (l := m) (c := m[f]!) (by omega)) (.cons (ArgOk.same rfl) (.cons (ArgOk.same rfl) .nil)) SubS.nil rfl rfl rfl rfl rfl (.inl rfl) hcallOk46 (r' := .own 102) rfl rfl Taken.no) rfl rfl (S' := (102, .data _ _ _) :: _) rfl ?_
       refine SL.an rfl rfl (E.fo (W.rg (SL.an rfl rfl (E.fo (W.seq (W.rg ?_))))))
       refine SL.val (O.fld_ref (o' := 2) rfl Try.underlying55 rfl (m := 0) (by kernel_rfl) rfl rfl Taken.no) ?_
       refine SL.val (O.ld1 (PtI.ref rfl rfl) rfl Try.underlying3 rfl rfl Taken.no) ?_
       refine SL.val (O.det (fun _ => G.R.geq rfl rfl) rfl Taken.no) ?_
       refine E.fo ?_
       first | refine W.cond_d rfl (fun hc7 => ?_) (fun hc7 => ?_) | refine W.cond_nd rfl (fun hc7 => ?_) (fun hc7 => ?_) | refine W.cond rfl (fun hc7 => ?_) (fun hc7 => ?_)
       ·skip
        omega
       ·skip
        refine W.skip (E.to (W.rg (SL.mv rfl rfl (SL.mv rfl rfl ?_))))
        refine SL.memS (O.call (rn []) [102] rfl rfl rfl (value_h (l := (unitsL m m[f]!)) hw (by omega) hHn) (.cons (ArgOk.same rfl) (.cons (ArgOk.own rfl rfl) .nil)) SubS.nil rfl rfl rfl rfl rfl (.inr ⟨rfl, fun x hx => by simp at hx⟩) hcallOk45 (r' := .u _) rfl rfl Taken.no) rfl rfl (S' := _) rfl ?_
        refine SL.mv rfl rfl (SL.mv rfl rfl ?_)
        refine SL.val (O.callp rfl rfl rfl (value_h (l := []) hw (by simp) (fun u hu => by cases hu)) (.cons (ArgOk.same rfl) (.cons ArgOk.nil .nil)) hcallOk45 rfl Taken.no) ?_
        refine SL.val (O.det (fun _ => by first | exact G.R.add64 rfl rfl (by omega) | exact G.R.add rfl rfl) rfl Taken.no) ?_
        refine SL.an rfl rfl (E.fo ?_)
        refine W.pick (K:=[(0,_),(1,_),(5,_),(6,_),(7,_),(8,_),(9,_),(10,_),(11,_)]) (Z:=[(101,_),(102,_)]) ⟨rfl,rfl,rfl,rfl,rfl,rfl,rfl,rfl,rfl,trivial⟩ ⟨rfl,rfl,trivial⟩ ?_
        refine W.rg ?_
        refine SL.memS (O.alloc (z := .agg #[.slice none 0 0, .slice none 0 0]) (is := [.u (.sc (.slice none 0 0)), .u (.sc (.slice none 0 0))]) 103 (by kernel_rfl) rfl rfl rfl Taken.no) rfl rfl (S' := (103, _) :: _) rfl ?_
        refine E.fo (W.seq (W.rg ?_))
        refine SL.val (O.fld_ref (o' := 0) rfl Try.underlying55 rfl (m := 0) (by kernel_rfl) rfl rfl Taken.no) ?_
        refine SL.val (O.ld1 (PtI.ref rfl rfl) rfl Try.underlying4 rfl rfl Taken.no) ?_
        refine E.fo ?_
        refine W.cond_f rfl ?_
        refine W.seq (W.seq ?_)
        refine W.draw [⟨[], [], [], []⟩, ⟨[], [], [], []⟩, ⟨[], [], [], []⟩, ⟨[], [], [], []⟩, ⟨[], [], [], [101]⟩, ⟨[101], [], [], []⟩, ⟨[], [], [], []⟩, ⟨[], [], [], []⟩, ⟨[], [], [], [101]⟩, ⟨[101], [], [], []⟩, ⟨[], [], [], []⟩] rfl (by kernel_rfl) (by kernel_rfl) rfl rfl ?_
        refine WH.mv rfl rfl rfl ?_
        refine WH.val (O.nilCheck rfl rfl rfl Taken.no) rfl rfl ?_
        refine WH.val (O.fld_fz rfl Try.underlying78 rfl (m := 0) (by kernel_rfl) rfl rfl Taken.no) rfl rfl ?_
        refine WH.val (O.ld1 (PtI.ofU (PtU.fz rfl)) rfl Try.underlying39 rfl rfl Taken.no) rfl rfl ?_
        refine WH.val (O.fld_ref (o' := 1) rfl Try.underlying55 rfl (m := 0) (by kernel_rfl) rfl rfl Taken.no) rfl rfl ?_
        refine WH.val (O.ld1 (PtI.ref rfl rfl) rfl Try.underlying3 rfl rfl Taken.no) rfl rfl ?_
        refine WH.val (O.idx_fz (i := f) rfl rfl (rfl) (row_get (by omega)) Try.underlying39 hi3 hs3 rfl Taken.no) rfl rfl ?_
        refine WH.val (O.ld1 (PtI.ofU (PtU.fz rfl)) rfl Try.underlying3 rfl rfl Taken.no) rfl rfl ?_
        refine WH.val (O.fld_ref (o' := 1) rfl Try.underlying55 rfl (m := 0) (by kernel_rfl) rfl rfl Taken.no) rfl rfl ?_
        refine WH.val (O.ld1 (PtI.ref rfl rfl) rfl Try.underlying3 rfl rfl Taken.no) rfl rfl ?_
        refine WH.val (O.det (fun _ => G.R.neq rfl rfl) rfl Taken.no) rfl rfl ?_
        refine WH.nil (E.to ?_)
        first | refine W.cond_d rfl (fun hc8 => ?_) (fun hc8 => ?_) | refine W.cond_nd rfl (fun hc8 => ?_) (fun hc8 => ?_) | refine W.cond rfl (fun hc8 => ?_) (fun hc8 => ?_)
        ·skip
         refine W.rg (SL.an rfl rfl (SL.an rfl rfl (SL.an rfl rfl (E.fo ?_))))
         refine W.pick (K:=[(0,_),(1,_),(5,_),(6,_),(7,_),(8,_),(9,_),(10,_),(11,_),(12,_)]) (Z:=[(101,_),(102,_),(103,_)]) ⟨rfl,rfl,rfl,rfl,rfl,rfl,rfl,rfl,rfl,rfl,trivial⟩ ⟨rfl,rfl,rfl,trivial⟩ ?_
         refine W.ret (E.thr (E.thr ?_))
         refine E.nilsl 6 1 rfl ?_
         refine E.fin (rs := [_, _, _]) (rn []) (.inl rfl) rfl (.cons (ResOne.tmp rfl) (.cons (ResOne.tmp rfl) (.cons (ResOne.tmp rfl) .nil))) ?_ ?_ rfl (fixL_spec rfl)
         ·skip
          first | ((have hno : ¬ posF n bar atm m ⟨false, (f : Int), (t : Int)⟩ := fun q => by ((obtain ⟨⟨⟨q1, q2, q3, q4, q5⟩, q6, q7, q8⟩, q9⟩ := posF_iff.1 q); (try simp only [Int.toNat_natCast] at q6 q7 q8); (have q8 := (q8 (by trivial)).1; omega))); rw [apN_n hno, apG_n hno, dec_f hno]; rfl) | ((have hno : ¬ posF n bar atm m ⟨false, (f : Int), -1⟩ := fun q => by ((obtain ⟨⟨⟨q1, q2, q3, q4, q5⟩, q6, q7, q8⟩, q9⟩ := posF_iff.1 q); (try simp only [Int.toNat_natCast] at q6 q7 q8); (have q8 := (q8 (by trivial)).1; omega))); rw [apN_n hno, apG_n hno, dec_f hno]; rfl)
         · exact SubS.nil
        ·skip
         refine W.skip (E.to (W.rg (SL.mv rfl rfl ?_)))
         refine SL.val (O.idx_ref (i := 0) (m := 1) rfl rfl (rfl) (by decide) Try.underlying106 (by kernel_rfl) rfl rfl Taken.no) ?_
         refine SL.effS (O.st_ref (m := 1) rfl rfl rfl (js := [_]) rfl rfl (by kernel_rfl) (by simp) (Nat.le_of_ble_eq_true rfl) rfl (is' := [_, _]) rfl Taken.no) (S' := (103, _) :: _) rfl ?_
         refine E.fo ?_
         refine W.pick (K:=[(0,_),(1,_),(5,_),(6,_),(7,_),(8,_),(9,_),(11,_),(12,_)]) (Z:=[(101,_),(102,_),(103,_)]) ⟨rfl,rfl,rfl,rfl,rfl,rfl,rfl,rfl,rfl,trivial⟩ ⟨rfl,rfl,rfl,trivial⟩ ?_
         refine W.seq (W.rg (SL.mv rfl rfl ?_))
         refine SL.val (O.lenE (SlOf.own rfl rfl) (by first | exact List.length_map _ | rfl) Try.underlying39 rfl Taken.no) ?_
         refine SL.mv rfl rfl (E.fo (W.block ?_))
         refine W.adoptC 103 0 106 3 1 (is' := [_, _]) (by decide) rfl rfl rfl rfl rfl ?_
         refine W.adoptC 103 1 107 3 1 (is' := [_, _]) (by decide) rfl rfl rfl rfl rfl ?_
         refine W.loopx1 (fun (k : Nat) => [(136, vI (k : Int))]) (fun (k : Nat) => [(104, .data 3 1 (((thereL m (-1)) ++ ((unitsL m m[f]!).take k).filter (fun u => decide (atm[u]! = f))).map eN)), (105, .data 3 1 ((((unitsL m m[f]!).take k).filter (fun u => !decide (atm[u]! = f))).map eN)), (103, .cells 106 [.own 104, .own 105])]) (fun (k : Nat) => k ≤ (unitsL m m[f]!).length) (fun (k : Nat) => (unitsL m m[f]!).length - k) (0) (rn [(104, 106), (105, 107)]) (.cons (t := 0) rfl (.cons (t := 1) rfl (.cons (t := 5) rfl (.cons (t := 6) rfl (.cons (t := 7) rfl (.cons (t := 8) rfl (.cons (t := 11) rfl (.cons (t := 12) rfl (.cons (t := 134) rfl (.cons (t := 135) rfl .nil)))))))))) (.cons (t := 101) rfl (.cons (t := 102) rfl .nil)) rfl ?_ ?_ rfl rfl ?_ ?_
         · exact (SubF.cons rfl SubF.nil)
         · exact (SubS.val rfl (by exact sb_data (by rw [List.take_zero, List.filter_nil, List.append_nil]; rfl)) (SubS.val rfl (by exact sb_data (by rw [List.take_zero, List.filter_nil]; rfl)) (SubS.cons rfl SubS.nil)))
         ·skip
          omega
         intro k hinv
         have hk := hinv
         have hf0 := List.length_filter_le (fun u => decide (atm[u]! = f)) ((unitsL m m[f]!).take k)
         have hf1 := List.length_filter_le (fun u => !decide (atm[u]! = f)) ((unitsL m m[f]!).take k)
         rw [List.length_take] at hf0 hf1
         have hthl := there_len m (-1)
         refine W.rg ?_
         refine SL.val (O.det (fun _ => G.R.lss rfl rfl) rfl Taken.no) ?_
         refine E.fo (W.seq ?_)
         first | refine W.cond_d rfl (fun hc9 => ?_) (fun hc9 => ?_) | refine W.cond_nd rfl (fun hc9 => ?_) (fun hc9 => ?_) | refine W.cond rfl (fun hc9 => ?_) (fun hc9 => ?_)
         ·skip
          have hHk := hHn (unitsL m m[f]!)[k]! (mem_at (by omega))
          refine W.skip (E.to (W.seq (W.block (W.rg ?_))))
          refine SL.val (O.idx_own (i := k) rfl rfl rfl (rfl) (by rw [List.length_map]; omega) Try.underlying39 hi3 hs3 rfl Taken.no) ?_
          refine SL.val (O.ld1 (PtI.ofU (PtU.el rfl rfl (row_get (by omega)))) rfl Try.underlying3 rfl rfl Taken.no) ?_
          refine SL.an rfl rfl (E.fo (W.rg (SL.an rfl rfl (E.fo (W.seq (W.seq ?_))))))
          refine W.draw [⟨[], [], [], []⟩, ⟨[], [], [], []⟩, ⟨[], [], [], []⟩, ⟨[], [], [], []⟩, ⟨[], [], [], []⟩, ⟨[], [], [], []⟩, ⟨[], [], [], []⟩, ⟨[], [], [], [101]⟩, ⟨[101], [], [], []⟩, ⟨[], [], [], []⟩] rfl (by kernel_rfl) (by kernel_rfl) rfl rfl ?_
          refine WH.mv rfl rfl rfl ?_
          refine WH.val (O.nilCheck rfl rfl rfl Taken.no) rfl rfl ?_
          refine WH.val (O.fld_fz rfl Try.underlying78 rfl (m := 0) (by kernel_rfl) rfl rfl Taken.no) rfl rfl ?_
          refine WH.val (O.ld1 (PtI.ofU (PtU.fz rfl)) rfl Try.underlying39 rfl rfl Taken.no) rfl rfl ?_
          refine WH.mv rfl rfl rfl ?_
          refine WH.val (O.idx_fz (i := ((unitsL m m[f]!)[k]!)) rfl rfl (rfl) (row_get (by omega)) Try.underlying39 hi3 hs3 rfl Taken.no) rfl rfl ?_
          refine WH.val (O.ld1 (PtI.ofU (PtU.fz rfl)) rfl Try.underlying3 rfl rfl Taken.no) rfl rfl ?_
          refine WH.val (O.fld_ref (o' := 1) rfl Try.underlying55 rfl (m := 0) (by kernel_rfl) rfl rfl Taken.no) rfl rfl ?_
          refine WH.val (O.ld1 (PtI.ref rfl rfl) rfl Try.underlying3 rfl rfl Taken.no) rfl rfl ?_
          refine WH.val (O.det (fun _ => G.R.eql rfl rfl) rfl Taken.no) rfl rfl ?_
          refine WH.nil (E.to ?_)
          refine W.pick (K:=[(0,_),(1,_),(5,_),(6,_),(7,_),(8,_),(11,_),(12,_),(14,_),(15,_),(134,_),(135,_),(136,_),(149,_)]) (Z:=[(101,_),(102,_),(103,_),(104,_),(105,_)]) ⟨rfl,rfl,rfl,rfl,rfl,rfl,rfl,rfl,rfl,rfl,rfl,rfl,rfl,rfl,trivial⟩ ⟨rfl,rfl,rfl,rfl,rfl,trivial⟩ ?_
          first | refine W.cond_d rfl (fun hc10 => ?_) (fun hc10 => ?_) | refine W.cond_nd rfl (fun hc10 => ?_) (fun hc10 => ?_) | refine W.cond rfl (fun hc10 => ?_) (fun hc10 => ?_)
          ·skip
           have hp0 : (fun u => decide (atm[u]! = f)) (unitsL m m[f]!)[k]! = true := decide_eq_true (by omega)
           have hp1 : (fun u => !decide (atm[u]! = f)) (unitsL m m[f]!)[k]! = false := by show (!decide _) = false; rw [decide_eq_true (by omega)]; rfl
           refine W.region (SL.an rfl rfl (E.fo (W.region (SL.mv rfl rfl (SL.mv rfl rfl ?_)))))
           refine SL.val (O.idx_ref (i := 0) (m := 1) rfl rfl (rfl) (by decide) Try.underlying106 (by kernel_rfl) rfl rfl Taken.no) ?_
           refine SL.val (O.ld1 (PtI.ref rfl rfl) rfl Try.underlying39 rfl rfl Taken.no) ?_
           refine SL.mv rfl rfl ?_
           refine SL.memS (O.buildSlice 108 (rows := [(unitsL m m[f]!)[k]!].map eN) rfl rfl Try.underlying39 hi3 hz3 hs3 (by decide) rfl (by decide) rfl rfl rfl Taken.no) rfl rfl (S' := (108, .data 3 1 ([(unitsL m m[f]!)[k]!].map eN)) :: _) rfl ?_
           refine SL.memS (O.app (k' := 109) rfl rfl (SlOf.own rfl rfl) Try.underlying39 hi3 hz3 hs3 rfl rfl (by exact app_map) (by rw [hb3]; (simp only [List.length_map, List.length_singleton, List.length_append]; omega)) (by (simp only [List.length_map, List.length_singleton, List.length_append]; omega)) rfl Taken.no) rfl rfl (S' := (109, _) :: (104, .dead) :: _) rfl ?_
           refine SL.val (O.idx_ref (i := 0) (m := 1) rfl rfl (rfl) (by decide) Try.underlying106 (by kernel_rfl) rfl rfl Taken.no) ?_
           refine SL.effS (O.st_ref (m := 1) rfl rfl rfl (js := [_]) rfl rfl (by kernel_rfl) (by simp) (Nat.le_of_ble_eq_true rfl) rfl (is' := [_, _]) rfl Taken.no) (S' := (103, _) :: _) rfl ?_
           refine SL.nil (E.inn (E.to (W.region ?_)))
           refine SL.val (O.det (fun _ => by first | exact G.R.add64 rfl rfl (by omega) | exact G.R.add rfl rfl) rfl Taken.no) ?_
           refine SL.mv rfl rfl (SL.nil ?_)
           refine E.again ((k + 1)) (rn [(104, 109)]) ?_ ?_ rfl (fixL_spec rfl) ?_ ?_
           · exact (SubF.cons rfl (SubF.cons rfl (SubF.cons rfl (SubF.cons rfl (SubF.cons rfl (SubF.cons rfl (SubF.cons rfl (SubF.cons rfl (SubF.cons rfl (SubF.cons rfl (SubF.cons rfl SubF.nil)))))))))))
           · exact (SubS.val rfl (by (try dsimp only); first | exact sb_data (by rw [filt_y (by omega) hp0, ← List.append_assoc]) | exact sb_data (by rw [filt_n (by omega) hp0])) (SubS.val rfl (by (try dsimp only); first | exact sb_data (by rw [filt_n (by omega) hp1]) | exact sb_data (by rw [filt_y (by omega) hp1])) (SubS.cons rfl (SubS.cons rfl (SubS.cons rfl SubS.nil)))))
           ·try dsimp only
            omega
           · (try dsimp only); omega
          ·skip
           have hp0 : (fun u => decide (atm[u]! = f)) (unitsL m m[f]!)[k]! = false := decide_eq_false (by omega)
           have hp1 : (fun u => !decide (atm[u]! = f)) (unitsL m m[f]!)[k]! = true := by show (!decide _) = true; rw [decide_eq_false (by omega)]; rfl
           refine W.skip (E.to (W.region (SL.mv rfl rfl (SL.mv rfl rfl ?_))))
           refine SL.val (O.idx_ref (i := 1) (m := 1) rfl rfl (rfl) (by decide) Try.underlying106 (by kernel_rfl) rfl rfl Taken.no) ?_
           refine SL.val (O.ld1 (PtI.ref rfl rfl) rfl Try.underlying39 rfl rfl Taken.no) ?_
           refine SL.mv rfl rfl ?_
           refine SL.memS (O.buildSlice 110 (rows := [(unitsL m m[f]!)[k]!].map eN) rfl rfl Try.underlying39 hi3 hz3 hs3 (by decide) rfl (by decide) rfl rfl rfl Taken.no) rfl rfl (S' := (110, .data 3 1 ([(unitsL m m[f]!)[k]!].map eN)) :: _) rfl ?_
           refine SL.memS (O.app (k' := 111) rfl rfl (SlOf.own rfl rfl) Try.underlying39 hi3 hz3 hs3 rfl rfl (by exact app_map) (by rw [hb3]; (simp only [List.length_map, List.length_singleton]; omega)) (by (simp only [List.length_map, List.length_singleton]; omega)) rfl Taken.no) rfl rfl (S' := (111, _) :: (105, .dead) :: _) rfl ?_
           refine SL.val (O.idx_ref (i := 1) (m := 1) rfl rfl (rfl) (by decide) Try.underlying106 (by kernel_rfl) rfl rfl Taken.no) ?_
           refine SL.effS (O.st_ref (m := 1) rfl rfl rfl (js := [_]) rfl rfl (by kernel_rfl) (by simp) (Nat.le_of_ble_eq_true rfl) rfl (is' := [_, _]) rfl Taken.no) (S' := (103, _) :: _) rfl ?_
           refine SL.nil (E.inn (E.to (W.region ?_)))
           refine SL.val (O.det (fun _ => by first | exact G.R.add64 rfl rfl (by omega) | exact G.R.add rfl rfl) rfl Taken.no) ?_
           refine SL.mv rfl rfl (SL.nil ?_)
           refine E.again ((k + 1)) (rn [(105, 111)]) ?_ ?_ rfl (fixL_spec rfl) ?_ ?_
           · exact (SubF.cons rfl (SubF.cons rfl (SubF.cons rfl (SubF.cons rfl (SubF.cons rfl (SubF.cons rfl (SubF.cons rfl (SubF.cons rfl (SubF.cons rfl (SubF.cons rfl (SubF.cons rfl SubF.nil)))))))))))
           · exact (SubS.val rfl (by (try dsimp only); first | exact sb_data (by rw [filt_y (by omega) hp0, ← List.append_assoc]) | exact sb_data (by rw [filt_n (by omega) hp0])) (SubS.val rfl (by (try dsimp only); first | exact sb_data (by rw [filt_n (by omega) hp1]) | exact sb_data (by rw [filt_y (by omega) hp1])) (SubS.cons rfl (SubS.cons rfl (SubS.cons rfl SubS.nil)))))
           ·try dsimp only
            omega
           · (try dsimp only); omega
         ·skip
          refine W.exit (E.th (E.th (E.hit (E.to (W.rg ?_)))))
          refine SL.val (O.fld_ref (o' := 2) rfl Try.underlying55 rfl (m := 0) (by kernel_rfl) rfl rfl Taken.no) ?_
          refine SL.val (O.ld1 (PtI.ref rfl rfl) rfl Try.underlying3 rfl rfl Taken.no) ?_
          refine SL.val (O.det (fun _ => G.R.mv (G.R.eql rfl rfl) (congrArg Value.bool (decide_eq_true (by rfl)))) rfl Taken.no) ?_
          refine SL.mv rfl rfl ?_
          have hg11 : true = true := by decide
          refine SL.val (O.idx_ref (i := 1) (m := 1) rfl rfl (rfl) (by decide) Try.underlying106 (by kernel_rfl) rfl rfl (Taken.yes rfl rfl hg11)) ?_
          refine SL.val (O.ld1 (PtI.ref rfl rfl) rfl Try.underlying39 rfl rfl (Taken.yes rfl rfl hg11)) ?_
          refine SL.val (O.lenE (SlOf.own rfl rfl) (by first | exact List.length_map _ | rfl) Try.underlying39 rfl (Taken.yes rfl rfl hg11)) ?_
          refine SL.val (O.det (fun _ => G.R.eql rfl rfl) rfl (Taken.yes rfl rfl hg11)) ?_
          refine SL.val (O.pick_t rfl rfl rfl rfl Taken.no) ?_
          refine E.fo ?_
          first | refine W.cond_d rfl (fun hc12 => ?_) (fun hc12 => ?_) | refine W.cond_nd rfl (fun hc12 => ?_) (fun hc12 => ?_) | refine W.cond rfl (fun hc12 => ?_) (fun hc12 => ?_)
          ·skip
           refine W.rg (SL.an rfl rfl (SL.an rfl rfl (SL.an rfl rfl (E.fo (W.ret (E.thr ?_))))))
           refine E.nilsl 6 1 rfl ?_
           refine E.fin (rs := [_, _, _]) (rn []) (.inl rfl) rfl (.cons (ResOne.tmp rfl) (.cons (ResOne.tmp rfl) (.cons (ResOne.tmp rfl) .nil))) ?_ ?_ rfl (fixL_spec rfl)
           ·skip
            first | ((have hno : ¬ posF n bar atm m ⟨false, (f : Int), -1⟩ := fun q => by ((obtain ⟨⟨⟨q1, q2, q3, q4, q5⟩, q6, q7, q8⟩, q9⟩ := posF_iff.1 q); (try simp only [Int.toNat_natCast] at q6 q7 q8); (refine (q8 (by trivial)).2 (by omega) ?_; show (unitsL m m[f]!).filter (fun u => !decide (atm[u]! = f)) = []; rw [← List.take_length (l := unitsL m m[f]!), show (unitsL m m[f]!).length = k by omega]; exact List.eq_nil_of_length_eq_zero (by omega)))); rw [apN_n hno, apG_n hno, dec_f hno]; rfl)
           · exact SubS.nil
          ·skip
           refine W.skip (E.to (W.seq ?_))
           refine W.freezeC 103 0 104 (is' := [_, _]) rfl rfl rfl rfl ?_
           refine W.freezeC 103 1 105 (is' := [_, _]) rfl rfl rfl rfl ?_
           refine W.region ?_
           have hkH : k = (unitsL m m[f]!).length := by omega
           obtain ⟨s, hs⟩ : ∃ s : Stp, s = ⟨false, (f : Int), -1⟩ := ⟨_, rfl⟩
           have hfe : s.f.toNat = f := by rw [hs]; rfl
           have hth : thereL m s.t = [] := by rw [hs]; exact there_neg m
           have hg0 : ((thereL m (-1)) ++ ((unitsL m m[f]!).take k).filter (fun u => decide (atm[u]! = f))) = g0L m atm s := by rw [hkH, List.take_length, hs]; rfl
           have hg1 : (((unitsL m m[f]!).take k).filter (fun u => !decide (atm[u]! = f))) = g1L m atm s := by rw [hkH, List.take_length, hs]; rfl
           have hpre : preF n atm m s := by rw [hs]; exact ⟨⟨by show (0 : Int) ≤ f; omega, by show (f : Int) < n; omega, by show (-1 : Int) < (n : Int); omega, by show -1 ≤ (-1 : Int); omega, fun h => rfl⟩, fun h => ⟨by exfalso; have h2 : (0 : Int) ≤ -1 := h; omega, by exfalso; have h2 : (0 : Int) ≤ -1 := h; omega⟩, fun h => (by cases h), fun h => ⟨by show atm[f]! = f; omega, fun _ e => by have e2 := congrArg List.length e; rw [← hs, ← hg1] at e2; rw [List.length_nil] at e2; omega⟩⟩
           have hgb := g_b (atm := atm) (s := s) hml
           have hl0 : (partsL lk (g0L m atm s)).length ≤ (g0L m atm s).length := partsN_len
           have hl1 : (partsL lk (g1L m atm s)).length ≤ (g1L m atm s).length := partsN_len
           rw [hg0]
           refine SL.mv rfl rfl ?_
           refine SL.memS (O.call (rn [(0, 112)]) [] rfl rfl rfl (clone_h (rows := m.map eN) (by rw [List.length_map]; omega)) (.cons (ArgOk.same rfl) .nil) SubS.nil rfl rfl rfl rfl rfl (.inl rfl) hcallOk39 (r' := .own 112) rfl rfl Taken.no) rfl rfl (S' := (112, .data _ _ _) :: _) rfl ?_
           refine SL.memS (O.alloc (z := .slice none 0 0) (is := [.u (.sc (.slice none 0 0))]) 113 (by kernel_rfl) rfl rfl rfl Taken.no) rfl rfl (S' := (113, _) :: _) rfl ?_
           refine SL.effS (O.st_ref (m := 1) rfl rfl rfl (js := [_]) rfl rfl (by kernel_rfl) (by simp) (Nat.le_of_ble_eq_true rfl) rfl (is' := [_]) rfl Taken.no) (S' := (113, _) :: _) rfl ?_
           refine E.fo (W.seq (W.rg ?_))
           refine SL.val (O.idx_ref (i := 0) (m := 1) rfl rfl (rfl) (by decide) Try.underlying106 (by kernel_rfl) rfl rfl Taken.no) ?_
           refine SL.val (O.ld1 (PtI.ref rfl rfl) rfl Try.underlying39 rfl rfl Taken.no) ?_
           refine SL.val (O.lenE (SlOf.fz rfl (by decide)) (by first | exact List.length_map _ | rfl) Try.underlying39 rfl Taken.no) ?_
           refine SL.mv rfl rfl (E.fo ?_)
           refine W.pick (K:=[(0,_),(6,_),(7,_),(8,_),(11,_),(12,_),(16,_),(171,_),(172,_),(173,_)]) (Z:=[(101,_),(102,_),(103,_),(112,_),(113,_)]) ⟨rfl,rfl,rfl,rfl,rfl,rfl,rfl,rfl,rfl,rfl,trivial⟩ ⟨rfl,rfl,rfl,rfl,rfl,trivial⟩ ?_
           refine W.block ?_
           refine W.loopx1 (fun (j : Nat) => [(173, vI (j : Int))]) (fun (j : Nat) => [(114, .data 3 1 ((setAll (m.map (fun x : Nat => (x : Int))) ((g0L m atm s).take j) (-1)).map eI)), (113, .cells 39 [.own 114])]) (fun (j : Nat) => j ≤ (g0L m atm s).length) (fun (j : Nat) => (g0L m atm s).length - j) (0) (rn [(114, 112)]) (.cons (t := 0) rfl (.cons (t := 6) rfl (.cons (t := 7) rfl (.cons (t := 8) rfl (.cons (t := 11) rfl (.cons (t := 12) rfl (.cons (t := 16) rfl (.cons (t := 171) rfl (.cons (t := 172) rfl .nil))))))))) (.cons (t := 101) rfl (.cons (t := 102) rfl (.cons (t := 103) rfl .nil))) rfl ?_ ?_ rfl rfl ?_ ?_
           · exact (SubF.cons rfl SubF.nil)
           · exact (SubS.val rfl (by exact sb_data (by rw [List.take_zero]; exact (eI_eN m).symm)) (SubS.cons rfl SubS.nil))
           ·skip
            omega
           intro j hinv
           have hj := hinv
           have hnl : (setAll (m.map (fun x : Nat => (x : Int))) ((g0L m atm s).take j) (-1)).length = n := by rw [setAll_len, List.length_map]; exact hml
           refine W.rg ?_
           refine SL.val (O.det (fun _ => G.R.lss rfl rfl) rfl Taken.no) ?_
           refine E.fo (W.seq ?_)
           first | refine W.cond_d rfl (fun hc13 => ?_) (fun hc13 => ?_) | refine W.cond_nd rfl (fun hc13 => ?_) (fun hc13 => ?_) | refine W.cond rfl (fun hc13 => ?_) (fun hc13 => ?_)
           ·skip
            have hGj := hgb.2.1 (g0L m atm s)[j]! (mem_at (by omega))
            refine W.skip (E.to (W.seq (W.block (W.rg ?_))))
            refine SL.val (O.idx_fz (i := j) rfl rfl (rfl) (row_get (by omega)) Try.underlying39 hi3 hs3 rfl Taken.no) ?_
            refine SL.val (O.ld1 (PtI.ofU (PtU.fz rfl)) rfl Try.underlying3 rfl rfl Taken.no) ?_
            refine SL.an rfl rfl (E.fo (W.region ?_))
            refine SL.val (O.ld1 (PtI.ref rfl rfl) rfl Try.underlying39 rfl rfl Taken.no) ?_
            refine SL.mv rfl rfl ?_
            refine SL.val (O.idx_own (i := ((g0L m atm s)[j]!)) rfl rfl rfl (rfl) (by rw [List.length_map]; omega) Try.underlying39 hi3 hs3 rfl Taken.no) ?_
            refine SL.effS (O.st_els (m := 1) rfl rfl rfl (us := [_]) rfl rfl (by kernel_rfl) (by simp) (row_get (by omega)) (by exact Nat.le_of_ble_eq_true rfl) rfl rfl (rows' := ((setAll (m.map (fun x : Nat => (x : Int))) ((g0L m atm s).take j) (-1)).set ((g0L m atm s)[j]!) (-1)).map eI) (by exact set_map rfl) Taken.no) (S' := (114, _) :: _) rfl ?_
            refine SL.nil (E.inn (E.to (W.region ?_)))
            refine SL.val (O.det (fun _ => by first | exact G.R.add64 rfl rfl (by omega) | exact G.R.add rfl rfl) rfl Taken.no) ?_
            refine SL.mv rfl rfl (SL.nil ?_)
            refine E.again ((j + 1)) (rn []) ?_ ?_ rfl (fixL_spec rfl) ?_ ?_
            · exact (SubF.cons rfl (SubF.cons rfl (SubF.cons rfl (SubF.cons rfl (SubF.cons rfl (SubF.cons rfl (SubF.cons rfl (SubF.cons rfl (SubF.cons rfl (SubF.cons rfl SubF.nil))))))))))
            · exact (SubS.val rfl (by (try dsimp only); exact sb_data (by rw [setAll_sG (by omega)])) (SubS.cons rfl (SubS.cons rfl (SubS.cons rfl (SubS.cons rfl SubS.nil)))))
            ·try dsimp only
             omega
            · (try dsimp only); omega
           ·skip
            refine W.exit (E.th (E.th (E.hit (E.to (W.seq (W.seq ?_))))))
            have hjG : j = (g0L m atm s).length := by omega
            rw [hjG, List.take_length]
            refine W.region (SL.mv rfl rfl ?_)
            refine SL.val (O.nilCheck rfl rfl rfl Taken.no) ?_
            refine SL.val (O.fld_fz rfl Try.underlying78 rfl (m := 0) (by kernel_rfl) rfl rfl Taken.no) ?_
            refine SL.val (O.ld1 (PtI.ofU (PtU.fz rfl)) rfl Try.underlying23 rfl rfl Taken.no) ?_
            refine SL.val (O.makeFunc rfl rfl rfl Taken.no) ?_
            refine SL.memS (O.call (rn [(0, 113), (1, 114)]) [] rfl rfl rfl (containsFuncN (nm := (nm0 m atm s)) (q := bar) (by rw [nm0_len, hml]; exact hb)) (.cons (ArgOk.same rfl) (.cons (ArgOk.same rfl) .nil)) (SubS.cons rfl (SubS.cons rfl SubS.nil)) rfl rfl rfl rfl rfl (.inl rfl) hcallOk63 (r' := .u _) rfl rfl Taken.no) rfl rfl (S' := (113, .cells _ [.own 114]) :: (114, .data _ _ _) :: _) rfl ?_
            refine E.fo ?_
            first | refine W.cond_d rfl (fun hc14 => ?_) (fun hc14 => ?_) | refine W.cond_nd rfl (fun hc14 => ?_) (fun hc14 => ?_) | refine W.cond rfl (fun hc14 => ?_) (fun hc14 => ?_)
            ·skip
             refine W.rg (SL.an rfl rfl (SL.an rfl rfl (SL.an rfl rfl (E.fo (W.ret (E.thr ?_))))))
             refine E.nilsl 6 1 rfl ?_
             refine E.fin (rs := [_, _, _]) (rn []) (.inl rfl) rfl (.cons (ResOne.tmp rfl) (.cons (ResOne.tmp rfl) (.cons (ResOne.tmp rfl) .nil))) ?_ ?_ rfl (fixL_spec rfl)
             ·skip
              have hcl : bar.any (nmHit (nm0 m atm s)) = true := by assumption
              have hno : ¬ posF n bar atm m s := fun q => by rw [hit_eq hml hb, q.2] at hcl; cases hcl
              rw [← hs, apN_n hno, apG_n hno, dec_f hno]; rfl
             · exact SubS.nil
            ·skip
             refine W.skip (E.to (W.rg (SL.an rfl rfl (E.fo (W.seq (W.rg ?_))))))
             have hcl : bar.any (nmHit (nm0 m atm s)) = false := by first | assumption | simp_all
             have hL : ∀ p ∈ gL lk m atm s, p.length ≤ 1000 := fun p hp => by rcases List.mem_append.1 hp with z | z <;> (have := (partsN_units z).2.1; omega)
             refine SL.val (O.ldN (m := 2) (PtI.ref rfl rfl) (js := [_, _]) rfl (Nat.le_of_ble_eq_true rfl) Try.underlying106 rfl (by kernel_rfl) rfl Taken.no) ?_
             refine SL.mv rfl rfl (E.fo (W.block ?_))
             refine W.unroll ?_
             refine W.rg ?_
             refine SL.val (O.det (fun _ => G.R.mv (G.R.lss rfl rfl) (congrArg Value.bool (decide_eq_true (by decide)))) rfl Taken.no) ?_
             refine E.fo (W.seq ?_)
             refine W.cond_t rfl ?_
             refine W.skip (E.to (W.seq (W.block (W.rg ?_))))
             refine SL.val (O.idxval (i := 0) rfl rfl (by rfl) (by decide) (by rfl) Try.underlying106 (by kernel_rfl) Try.underlying39 rfl rfl Taken.no) ?_
             refine SL.an rfl rfl (E.fo (W.rg (SL.mv rfl rfl (SL.mv rfl rfl ?_))))
             refine SL.val (O.nilCheck rfl rfl rfl Taken.no) ?_
             refine SL.val (O.fld_fz rfl Try.underlying78 rfl (m := 0) (by kernel_rfl) rfl rfl Taken.no) ?_
             refine SL.val (O.ld1 (PtI.ofU (PtU.fz rfl)) rfl Try.underlying76 rfl rfl Taken.no) ?_
             refine SL.val (O.callp rfl rfl rfl (parts_h (n := n) (us := (g0L m atm s)) (by omega) hgb.2.1) (.cons (ArgOk.same rfl) (.cons (ArgOk.same rfl) .nil)) hcallOk42 rfl Taken.no) ?_
             refine SL.val (O.lenE (SlOf.fz rfl (by decide)) (by first | exact List.length_map _ | rfl) Try.underlying75 rfl Taken.no) ?_
             refine SL.mv rfl rfl (E.fo ?_)
             refine W.pick (K:=[(0,_),(6,_),(7,_),(8,_),(11,_),(16,_),(19,_),(21,_),(187,_),(188,_),(189,_),(190,_),(191,_),(192,_),(193,_),(194,_),(195,_),(196,_),(197,_),(198,_)]) (Z:=[(101,_),(102,_),(103,_),(113,_),(114,_)]) ⟨rfl,rfl,rfl,rfl,rfl,rfl,rfl,rfl,rfl,rfl,rfl,rfl,rfl,rfl,rfl,rfl,rfl,rfl,rfl,rfl,trivial⟩ ⟨rfl,rfl,rfl,rfl,rfl,trivial⟩ ?_
             refine W.block ?_
             refine W.loopx1 (fun (p : Nat) => [(198, vI (p : Int)), (19, vI (sumV wt ((partsL lk (g0L m atm s)).take p)))]) (fun (p : Nat) => [(115, .data 3 1 ((nameF (fun x : Nat => (x : Int)) (nm0 m atm s) ((partsL lk (g0L m atm s)).take p)).map eI)), (113, .cells 39 [.own 115])]) (fun (p : Nat) => p ≤ (partsL lk (g0L m atm s)).length) (fun (p : Nat) => (partsL lk (g0L m atm s)).length - p) (0) (rn [(115, 114)]) (.cons (t := 0) rfl (.cons (t := 6) rfl (.cons (t := 7) rfl (.cons (t := 8) rfl (.cons (t := 11) rfl (.cons (t := 16) rfl (.cons (t := 21) rfl (.cons (t := 187) rfl (.cons (t := 188) rfl (.cons (t := 189) rfl (.cons (t := 190) rfl (.cons (t := 191) rfl (.cons (t := 192) rfl (.cons (t := 193) rfl (.cons (t := 194) rfl (.cons (t := 195) rfl (.cons (t := 196) rfl (.cons (t := 197) rfl .nil)))))))))))))))))) (.cons (t := 101) rfl (.cons (t := 102) rfl (.cons (t := 103) rfl .nil))) rfl ?_ ?_ rfl rfl ?_ ?_
             · exact (SubF.cons rfl (SubF.val rfl (by exact iv_int rfl) SubF.nil))
             · exact (SubS.val rfl (by exact sb_data (by rw [List.take_zero]; rfl)) (SubS.cons rfl SubS.nil))
             ·skip
              omega
             intro p hinv
             have hp := hinv
             have hpl : ((partsL lk (g0L m atm s)).take p).length ≤ 400 := by (try rw [List.length_append]); rw [List.length_take]; omega
             have hvb := sumV_b2 hw (L := ((partsL lk (g0L m atm s)).take p)) (fun p hp => hL p (List.mem_append_left _ (List.mem_of_mem_take hp)))
             refine W.rg ?_
             refine SL.val (O.det (fun _ => G.R.lss rfl rfl) rfl Taken.no) ?_
             refine E.fo (W.seq ?_)
             first | refine W.cond_d rfl (fun hc15 => ?_) (fun hc15 => ?_) | refine W.cond_nd rfl (fun hc15 => ?_) (fun hc15 => ?_) | refine W.cond rfl (fun hc15 => ?_) (fun hc15 => ?_)
             ·skip
              have hpu := partsN_units (mem_at (l := (partsL lk (g0L m atm s))) (i := p) (by omega))
              have hvp := valF_b hw (l := ((partsL lk (g0L m atm s))[p]!)) (by omega)
              refine W.skip (E.to (W.seq (W.block (W.rg ?_))))
              refine SL.val (O.idx_fz (i := p) rfl rfl (rfl) (row_get (by omega)) Try.underlying75 hi39 hs39 rfl Taken.no) ?_
              refine SL.val (O.ld1 (PtI.ofU (PtU.fz rfl)) rfl Try.underlying39 rfl rfl Taken.no) ?_
              refine SL.an rfl rfl (E.fo (W.rg (SL.mv rfl rfl (SL.mv rfl rfl (SL.mv rfl rfl ?_)))))
              refine SL.val (O.callp rfl rfl rfl (value_h (l := ((partsL lk (g0L m atm s))[p]!)) hw (by omega) (fun u hu => hgb.2.1 u (hpu.2.2 u hu))) (.cons (ArgOk.same rfl) (.cons (ArgOk.same rfl) .nil)) hcallOk45 rfl Taken.no) ?_
              refine SL.val (O.det (fun _ => by first | exact G.R.add64 rfl rfl (by omega) | exact G.R.add rfl rfl) rfl Taken.no) ?_
              refine SL.an rfl rfl (E.fo ?_)
              refine W.pick (K:=[(0,_),(6,_),(7,_),(8,_),(11,_),(16,_),(19,_),(21,_),(23,_),(187,_),(188,_),(189,_),(190,_),(191,_),(192,_),(193,_),(194,_),(195,_),(196,_),(197,_),(198,_),(199,_),(200,_),(201,_),(202,_),(203,_),(204,_),(205,_),(206,_)]) (Z:=[(101,_),(102,_),(103,_),(113,_),(115,_)]) ⟨rfl,rfl,rfl,rfl,rfl,rfl,rfl,rfl,rfl,rfl,rfl,rfl,rfl,rfl,rfl,rfl,rfl,rfl,rfl,rfl,rfl,rfl,rfl,rfl,rfl,rfl,rfl,rfl,rfl,trivial⟩ ⟨rfl,rfl,rfl,rfl,rfl,trivial⟩ ?_
              refine W.rg (SL.mv rfl rfl ?_)
              refine SL.val (O.lenE (SlOf.fz rfl (by decide)) (by first | exact List.length_map _ | rfl) Try.underlying39 rfl Taken.no) ?_
              refine SL.mv rfl rfl (E.fo ?_)
              refine W.pick (K:=[(0,_),(6,_),(7,_),(8,_),(11,_),(16,_),(19,_),(21,_),(23,_),(187,_),(188,_),(189,_),(190,_),(191,_),(192,_),(193,_),(194,_),(195,_),(196,_),(197,_),(198,_),(199,_),(200,_),(201,_),(202,_),(203,_),(204,_),(205,_),(206,_),(207,_),(208,_),(209,_)]) (Z:=[(101,_),(102,_),(103,_),(113,_),(115,_)]) ⟨rfl,rfl,rfl,rfl,rfl,rfl,rfl,rfl,rfl,rfl,rfl,rfl,rfl,rfl,rfl,rfl,rfl,rfl,rfl,rfl,rfl,rfl,rfl,rfl,rfl,rfl,rfl,rfl,rfl,rfl,rfl,rfl,trivial⟩ ⟨rfl,rfl,rfl,rfl,rfl,trivial⟩ ?_
              refine W.block ?_
              refine W.loopx1 (fun (j : Nat) => [(209, vI (j : Int))]) (fun (j : Nat) => [(116, .data 3 1 ((setAll (nameF (fun x : Nat => (x : Int)) (nm0 m atm s) ((partsL lk (g0L m atm s)).take p)) (((partsL lk (g0L m atm s))[p]!).take j) ((minL ((partsL lk (g0L m atm s))[p]!) : Nat) : Int)).map eI)), (113, .cells 39 [.own 116])]) (fun (j : Nat) => j ≤ ((partsL lk (g0L m atm s))[p]!).length) (fun (j : Nat) => ((partsL lk (g0L m atm s))[p]!).length - j) (0) (rn [(116, 115)]) (.cons (t := 0) rfl (.cons (t := 6) rfl (.cons (t := 7) rfl (.cons (t := 8) rfl (.cons (t := 11) rfl (.cons (t := 16) rfl (.cons (t := 19) rfl (.cons (t := 21) rfl (.cons (t := 23) rfl (.cons (t := 187) rfl (.cons (t := 188) rfl (.cons (t := 189) rfl (.cons (t := 190) rfl (.cons (t := 191) rfl (.cons (t := 192) rfl (.cons (t := 193) rfl (.cons (t := 194) rfl (.cons (t := 195) rfl (.cons (t := 196) rfl (.cons (t := 197) rfl (.cons (t := 198) rfl (.cons (t := 199) rfl (.cons (t := 200) rfl (.cons (t := 201) rfl (.cons (t := 202) rfl (.cons (t := 203) rfl (.cons (t := 204) rfl (.cons (t := 205) rfl (.cons (t := 206) rfl (.cons (t := 207) rfl (.cons (t := 208) rfl .nil))))))))))))))))))))))))))))))) (.cons (t := 101) rfl (.cons (t := 102) rfl (.cons (t := 103) rfl .nil))) rfl ?_ ?_ rfl rfl ?_ ?_
              · exact (SubF.cons rfl SubF.nil)
              · exact (SubS.val rfl (by exact sb_data (by rw [List.take_zero]; rfl)) (SubS.cons rfl SubS.nil))
              ·skip
               omega
              intro j hinv
              have hj := hinv
              have hnl : (setAll (nameF (fun x : Nat => (x : Int)) (nm0 m atm s) ((partsL lk (g0L m atm s)).take p)) (((partsL lk (g0L m atm s))[p]!).take j) ((minL ((partsL lk (g0L m atm s))[p]!) : Nat) : Int)).length = n := by rw [setAll_len, nameF_len, nm0_len]; exact hml
              refine W.rg ?_
              refine SL.val (O.det (fun _ => G.R.lss rfl rfl) rfl Taken.no) ?_
              refine E.fo ?_
              refine W.pick (K:=[(0,_),(6,_),(7,_),(8,_),(11,_),(16,_),(19,_),(21,_),(23,_),(187,_),(188,_),(189,_),(190,_),(191,_),(192,_),(193,_),(194,_),(195,_),(196,_),(197,_),(198,_),(199,_),(200,_),(201,_),(202,_),(203,_),(204,_),(205,_),(206,_),(207,_),(208,_),(209,_),(210,_)]) (Z:=[(101,_),(102,_),(103,_),(113,_),(116,_)]) ⟨rfl,rfl,rfl,rfl,rfl,rfl,rfl,rfl,rfl,rfl,rfl,rfl,rfl,rfl,rfl,rfl,rfl,rfl,rfl,rfl,rfl,rfl,rfl,rfl,rfl,rfl,rfl,rfl,rfl,rfl,rfl,rfl,rfl,trivial⟩ ⟨rfl,rfl,rfl,rfl,rfl,trivial⟩ ?_
              refine W.seq ?_
              first | refine W.cond_d rfl (fun hc16 => ?_) (fun hc16 => ?_) | refine W.cond_nd rfl (fun hc16 => ?_) (fun hc16 => ?_) | refine W.cond rfl (fun hc16 => ?_) (fun hc16 => ?_)
              ·skip
               have hun := hgb.2.1 _ (hpu.2.2 ((partsL lk (g0L m atm s))[p]!)[j]! (mem_at (by omega)))
               refine W.skip (E.to ?_)
               refine W.pick (K:=[(0,_),(6,_),(7,_),(8,_),(11,_),(16,_),(19,_),(21,_),(23,_),(187,_),(188,_),(189,_),(190,_),(191,_),(192,_),(193,_),(194,_),(195,_),(196,_),(197,_),(198,_),(199,_),(200,_),(201,_),(202,_),(203,_),(204,_),(205,_),(206,_),(207,_),(208,_),(209,_),(210,_)]) (Z:=[(101,_),(102,_),(103,_),(113,_),(116,_)]) ⟨rfl,rfl,rfl,rfl,rfl,rfl,rfl,rfl,rfl,rfl,rfl,rfl,rfl,rfl,rfl,rfl,rfl,rfl,rfl,rfl,rfl,rfl,rfl,rfl,rfl,rfl,rfl,rfl,rfl,rfl,rfl,rfl,rfl,trivial⟩ ⟨rfl,rfl,rfl,rfl,rfl,trivial⟩ ?_
               refine W.seq (W.block (W.rg ?_))
               refine SL.val (O.idx_fz (i := j) rfl rfl (rfl) (row_get (by omega)) Try.underlying39 hi3 hs3 rfl Taken.no) ?_
               refine SL.val (O.ld1 (PtI.ofU (PtU.fz rfl)) rfl Try.underlying3 rfl rfl Taken.no) ?_
               refine SL.an rfl rfl (E.fo ?_)
               refine W.pick (K:=[(0,_),(6,_),(7,_),(8,_),(11,_),(16,_),(19,_),(21,_),(23,_),(25,_),(187,_),(188,_),(189,_),(190,_),(191,_),(192,_),(193,_),(194,_),(195,_),(196,_),(197,_),(198,_),(199,_),(200,_),(201,_),(202,_),(203,_),(204,_),(205,_),(206,_),(207,_),(208,_),(209,_),(210,_),(211,_),(212,_)]) (Z:=[(101,_),(102,_),(103,_),(113,_),(116,_)]) ⟨rfl,rfl,rfl,rfl,rfl,rfl,rfl,rfl,rfl,rfl,rfl,rfl,rfl,rfl,rfl,rfl,rfl,rfl,rfl,rfl,rfl,rfl,rfl,rfl,rfl,rfl,rfl,rfl,rfl,rfl,rfl,rfl,rfl,rfl,rfl,rfl,trivial⟩ ⟨rfl,rfl,rfl,rfl,rfl,trivial⟩ ?_
               refine W.draw [⟨[113], [], [], [116]⟩, ⟨[], [], [], []⟩, ⟨[], [], [], []⟩, ⟨[], [], [], []⟩, ⟨[116], [], [], []⟩, ⟨[116], [116], [], []⟩] rfl (by kernel_rfl) (by kernel_rfl) rfl rfl ?_
               refine WH.val (O.ld1 (PtI.ref rfl rfl) rfl Try.underlying39 rfl rfl Taken.no) rfl rfl ?_
               refine WH.mv rfl rfl rfl (WH.mv rfl rfl rfl ?_)
               refine WH.val (O.callp rfl rfl rfl (min_h (l := ((partsL lk (g0L m atm s))[p]!)) (by omega)) (.cons (ArgOk.same rfl) .nil) hcallOk62 rfl Taken.no) rfl rfl ?_
               refine WH.val (O.idx_own (i := (((partsL lk (g0L m atm s))[p]!)[j]!)) rfl rfl rfl (rfl) (by rw [List.length_map]; omega) Try.underlying39 hi3 hs3 rfl Taken.no) rfl rfl ?_
               refine WH.effS (O.st_els (m := 1) rfl rfl rfl (us := [_]) rfl rfl (by kernel_rfl) (by simp) (row_get (by omega)) (by exact Nat.le_of_ble_eq_true rfl) rfl rfl (rows' := ((setAll (nameF (fun x : Nat => (x : Int)) (nm0 m atm s) ((partsL lk (g0L m atm s)).take p)) (((partsL lk (g0L m atm s))[p]!).take j) ((minL ((partsL lk (g0L m atm s))[p]!) : Nat) : Int)).set (((partsL lk (g0L m atm s))[p]!)[j]!) ((minL ((partsL lk (g0L m atm s))[p]!) : Nat) : Int)).map eI) (by exact set_map rfl) Taken.no) rfl rfl rfl (S' := (116, _) :: _) rfl ?_
               refine WH.nil (E.inn (E.to ?_))
               refine W.pick (K:=[(0,_),(6,_),(7,_),(8,_),(11,_),(16,_),(19,_),(21,_),(23,_),(25,_),(187,_),(188,_),(189,_),(190,_),(191,_),(192,_),(193,_),(194,_),(195,_),(196,_),(197,_),(198,_),(199,_),(200,_),(201,_),(202,_),(203,_),(204,_),(205,_),(206,_),(207,_),(208,_),(209,_),(210,_),(211,_),(212,_),(213,_),(214,_),(215,_),(216,_),(217,_)]) (Z:=[(101,_),(102,_),(103,_),(113,_),(116,_)]) ⟨rfl,rfl,rfl,rfl,rfl,rfl,rfl,rfl,rfl,rfl,rfl,rfl,rfl,rfl,rfl,rfl,rfl,rfl,rfl,rfl,rfl,rfl,rfl,rfl,rfl,rfl,rfl,rfl,rfl,rfl,rfl,rfl,rfl,rfl,rfl,rfl,rfl,rfl,rfl,rfl,rfl,trivial⟩ ⟨rfl,rfl,rfl,rfl,rfl,trivial⟩ ?_
               refine W.region ?_
               refine SL.val (O.det (fun _ => by first | exact G.R.add64 rfl rfl (by omega) | exact G.R.add rfl rfl) rfl Taken.no) ?_
               refine SL.mv rfl rfl (SL.nil ?_)
               refine E.again ((j + 1)) (rn []) ?_ ?_ rfl (fixL_spec rfl) ?_ ?_
               · exact (SubF.cons rfl (SubF.cons rfl (SubF.cons rfl (SubF.cons rfl (SubF.cons rfl (SubF.cons rfl (SubF.cons rfl (SubF.cons rfl (SubF.cons rfl (SubF.cons rfl (SubF.cons rfl (SubF.cons rfl (SubF.cons rfl (SubF.cons rfl (SubF.cons rfl (SubF.cons rfl (SubF.cons rfl (SubF.cons rfl (SubF.cons rfl (SubF.cons rfl (SubF.cons rfl (SubF.cons rfl (SubF.cons rfl (SubF.cons rfl (SubF.cons rfl (SubF.cons rfl (SubF.cons rfl (SubF.cons rfl (SubF.cons rfl (SubF.cons rfl (SubF.cons rfl (SubF.cons rfl SubF.nil))))))))))))))))))))))))))))))))
               · exact (SubS.val rfl (by (try dsimp only); exact sb_data (by rw [setAll_sG (by omega)])) (SubS.cons rfl (SubS.cons rfl (SubS.cons rfl (SubS.cons rfl SubS.nil)))))
               ·try dsimp only
                omega
               · (try dsimp only); omega
              ·skip
               refine W.exit (E.th (E.th (E.hit (E.inn (E.to ?_)))))
               refine W.pick (K:=[(0,_),(6,_),(7,_),(8,_),(11,_),(16,_),(19,_),(21,_),(23,_),(187,_),(188,_),(189,_),(190,_),(191,_),(192,_),(193,_),(194,_),(195,_),(196,_),(197,_),(198,_),(199,_),(200,_),(201,_),(202,_),(203,_),(204,_),(205,_),(206,_),(207,_),(208,_),(209,_),(210,_)]) (Z:=[(101,_),(102,_),(103,_),(113,_),(116,_)]) ⟨rfl,rfl,rfl,rfl,rfl,rfl,rfl,rfl,rfl,rfl,rfl,rfl,rfl,rfl,rfl,rfl,rfl,rfl,rfl,rfl,rfl,rfl,rfl,rfl,rfl,rfl,rfl,rfl,rfl,rfl,rfl,rfl,rfl,trivial⟩ ⟨rfl,rfl,rfl,rfl,rfl,trivial⟩ ?_
               refine W.region ?_
               refine SL.val (O.det (fun _ => by first | exact G.R.add64 rfl rfl (by omega) | exact G.R.add rfl rfl) rfl Taken.no) ?_
               refine SL.mv rfl rfl (SL.nil ?_)
               refine E.again ((p + 1)) (rn [(115, 116)]) ?_ ?_ rfl (fixL_spec rfl) ?_ ?_
               · exact (SubF.cons rfl (SubF.val rfl (by (try dsimp only); exact iv_int (by rw [snocP (l := (partsL lk (g0L m atm s))) (by omega), sumV_snoc])) (SubF.cons rfl (SubF.cons rfl (SubF.cons rfl (SubF.cons rfl (SubF.cons rfl (SubF.cons rfl (SubF.cons rfl (SubF.cons rfl (SubF.cons rfl (SubF.cons rfl (SubF.cons rfl (SubF.cons rfl (SubF.cons rfl (SubF.cons rfl (SubF.cons rfl (SubF.cons rfl (SubF.cons rfl (SubF.cons rfl SubF.nil))))))))))))))))))))
               · exact (SubS.val rfl (by (try dsimp only); exact sb_data (by rw [snocP (l := (partsL lk (g0L m atm s))) (by omega), nameF_snoc, show j = ((partsL lk (g0L m atm s))[p]!).length by omega, List.take_length])) (SubS.cons rfl (SubS.cons rfl (SubS.cons rfl (SubS.cons rfl SubS.nil)))))
               ·try dsimp only
                omega
               · (try dsimp only); omega
             ·skip
              refine W.exit (E.th (E.th (E.hit (E.inn (E.to (W.region ?_))))))
              refine SL.val (O.det (fun _ => by first | exact G.R.add64 rfl rfl (by omega) | exact G.R.add rfl rfl) rfl Taken.no) ?_
              refine SL.mv rfl rfl (SL.nil ?_)
              refine E.reround ?_
              refine W.pick (K:=[(0,_),(6,_),(7,_),(8,_),(11,_),(16,_),(19,_),(21,_),(187,_),(188,_),(189,_),(190,_),(191,_),(192,_),(193,_),(194,_),(195,_),(196,_),(197,_),(198,_),(199,_),(220,_)]) (Z:=[(101,_),(102,_),(103,_),(113,_),(115,_)]) ⟨rfl,rfl,rfl,rfl,rfl,rfl,rfl,rfl,rfl,rfl,rfl,rfl,rfl,rfl,rfl,rfl,rfl,rfl,rfl,rfl,rfl,rfl,trivial⟩ ⟨rfl,rfl,rfl,rfl,rfl,trivial⟩ ?_
              refine W.rg ?_
              refine SL.val (O.det (fun _ => G.R.mv (G.R.lss rfl rfl) (congrArg Value.bool (decide_eq_true (by decide)))) rfl Taken.no) ?_
              refine E.fo (W.seq ?_)
              refine W.cond_t rfl ?_
              refine W.skip (E.to (W.seq (W.block (W.rg ?_))))
              refine SL.val (O.idxval (i := 1) rfl rfl (by rfl) (by decide) (by rfl) Try.underlying106 (by kernel_rfl) Try.underlying39 rfl rfl Taken.no) ?_
              refine SL.an rfl rfl ?_
              refine SL.as (i' := vL 1 ((g1L m atm s).map eN)) 21 rfl (by (rw [← hg1]; try rfl)) ?_
              refine E.fo ?_
              refine W.pick (K:=[(0,_),(6,_),(7,_),(8,_),(11,_),(16,_),(19,_),(21,_),(187,_),(188,_),(189,_),(190,_),(191,_),(192,_),(193,_),(194,_),(195,_),(196,_),(197,_),(198,_),(199,_),(220,_)]) (Z:=[(101,_),(102,_),(103,_),(113,_),(115,_)]) ⟨rfl,rfl,rfl,rfl,rfl,rfl,rfl,rfl,rfl,rfl,rfl,rfl,rfl,rfl,rfl,rfl,rfl,rfl,rfl,rfl,rfl,rfl,trivial⟩ ⟨rfl,rfl,rfl,rfl,rfl,trivial⟩ ?_
              refine W.rg (SL.mv rfl rfl (SL.mv rfl rfl ?_))
              refine SL.val (O.nilCheck rfl rfl rfl Taken.no) ?_
              refine SL.val (O.fld_fz rfl Try.underlying78 rfl (m := 0) (by kernel_rfl) rfl rfl Taken.no) ?_
              refine SL.val (O.ld1 (PtI.ofU (PtU.fz rfl)) rfl Try.underlying76 rfl rfl Taken.no) ?_
              refine SL.val (O.callp rfl rfl rfl (parts_h (n := n) (us := (g1L m atm s)) (by omega) hgb.2.2) (.cons (ArgOk.same rfl) (.cons (ArgOk.same rfl) .nil)) hcallOk42 rfl Taken.no) ?_
              refine SL.val (O.lenE (SlOf.fz rfl (by decide)) (by first | exact List.length_map _ | rfl) Try.underlying75 rfl Taken.no) ?_
              refine SL.mv rfl rfl (E.fo ?_)
              refine W.pick (K:=[(0,_),(6,_),(7,_),(8,_),(11,_),(16,_),(19,_),(21,_),(187,_),(188,_),(189,_),(190,_),(191,_),(192,_),(193,_),(194,_),(195,_),(196,_),(197,_),(198,_),(199,_),(220,_)]) (Z:=[(101,_),(102,_),(103,_),(113,_),(115,_)]) ⟨rfl,rfl,rfl,rfl,rfl,rfl,rfl,rfl,rfl,rfl,rfl,rfl,rfl,rfl,rfl,rfl,rfl,rfl,rfl,rfl,rfl,rfl,trivial⟩ ⟨rfl,rfl,rfl,rfl,rfl,trivial⟩ ?_
              refine W.block ?_
              refine W.loopx1 (fun (q : Nat) => [(198, vI (q : Int)), (19, vI (sumV wt ((partsL lk (g0L m atm s)) ++ (partsL lk (g1L m atm s)).take q)))]) (fun (q : Nat) => [(117, .data 3 1 ((nameF (fun x : Nat => (x : Int)) (nm0 m atm s) ((partsL lk (g0L m atm s)) ++ (partsL lk (g1L m atm s)).take q)).map eI)), (113, .cells 39 [.own 117])]) (fun (q : Nat) => q ≤ (partsL lk (g1L m atm s)).length) (fun (q : Nat) => (partsL lk (g1L m atm s)).length - q) (0) (rn [(117, 115)]) (.cons (t := 0) rfl (.cons (t := 6) rfl (.cons (t := 7) rfl (.cons (t := 8) rfl (.cons (t := 11) rfl (.cons (t := 16) rfl (.cons (t := 21) rfl (.cons (t := 187) rfl (.cons (t := 188) rfl (.cons (t := 189) rfl (.cons (t := 190) rfl (.cons (t := 191) rfl (.cons (t := 192) rfl (.cons (t := 193) rfl (.cons (t := 194) rfl (.cons (t := 195) rfl (.cons (t := 196) rfl (.cons (t := 197) rfl (.cons (t := 220) rfl .nil))))))))))))))))))) (.cons (t := 101) rfl (.cons (t := 102) rfl (.cons (t := 103) rfl .nil))) rfl ?_ ?_ rfl rfl ?_ ?_
              · exact (SubF.cons rfl (SubF.val rfl (by exact iv_int (by rw [List.take_zero, List.append_nil, show p = (partsL lk (g0L m atm s)).length by omega, List.take_length])) SubF.nil))
              · exact (SubS.val rfl (by exact sb_data (by rw [List.take_zero, List.append_nil, show p = (partsL lk (g0L m atm s)).length by omega, List.take_length])) (SubS.cons rfl SubS.nil))
              ·skip
               omega
              intro q hinv
              have hq := hinv
              have hpl : ((partsL lk (g0L m atm s)) ++ (partsL lk (g1L m atm s)).take q).length ≤ 400 := by (try rw [List.length_append]); rw [List.length_take]; omega
              have hvb := sumV_b2 hw (L := ((partsL lk (g0L m atm s)) ++ (partsL lk (g1L m atm s)).take q)) (fun p hp => hL p ((List.mem_append.1 hp).elim (fun z => List.mem_append_left _ z) fun z => List.mem_append_right _ (List.mem_of_mem_take z)))
              refine W.rg ?_
              refine SL.val (O.det (fun _ => G.R.lss rfl rfl) rfl Taken.no) ?_
              refine E.fo (W.seq ?_)
              first | refine W.cond_d rfl (fun hc17 => ?_) (fun hc17 => ?_) | refine W.cond_nd rfl (fun hc17 => ?_) (fun hc17 => ?_) | refine W.cond rfl (fun hc17 => ?_) (fun hc17 => ?_)
              ·skip
               have hpu := partsN_units (mem_at (l := (partsL lk (g1L m atm s))) (i := q) (by omega))
               have hvp := valF_b hw (l := ((partsL lk (g1L m atm s))[q]!)) (by omega)
               refine W.skip (E.to (W.seq (W.block (W.rg ?_))))
               refine SL.val (O.idx_fz (i := q) rfl rfl (rfl) (row_get (by omega)) Try.underlying75 hi39 hs39 rfl Taken.no) ?_
               refine SL.val (O.ld1 (PtI.ofU (PtU.fz rfl)) rfl Try.underlying39 rfl rfl Taken.no) ?_
               refine SL.an rfl rfl (E.fo ?_)
               refine W.pick (K:=[(0,_),(6,_),(7,_),(8,_),(11,_),(16,_),(19,_),(21,_),(23,_),(187,_),(188,_),(189,_),(190,_),(191,_),(192,_),(193,_),(194,_),(195,_),(196,_),(197,_),(198,_),(199,_),(200,_),(201,_),(220,_)]) (Z:=[(101,_),(102,_),(103,_),(113,_),(117,_)]) ⟨rfl,rfl,rfl,rfl,rfl,rfl,rfl,rfl,rfl,rfl,rfl,rfl,rfl,rfl,rfl,rfl,rfl,rfl,rfl,rfl,rfl,rfl,rfl,rfl,rfl,trivial⟩ ⟨rfl,rfl,rfl,rfl,rfl,trivial⟩ ?_
               refine W.rg (SL.mv rfl rfl (SL.mv rfl rfl (SL.mv rfl rfl ?_)))
               refine SL.val (O.callp rfl rfl rfl (value_h (l := ((partsL lk (g1L m atm s))[q]!)) hw (by omega) (fun u hu => hgb.2.2 u (hpu.2.2 u hu))) (.cons (ArgOk.same rfl) (.cons (ArgOk.same rfl) .nil)) hcallOk45 rfl Taken.no) ?_
               refine SL.val (O.det (fun _ => by first | exact G.R.add64 rfl rfl (by omega) | exact G.R.add rfl rfl) rfl Taken.no) ?_
               refine SL.an rfl rfl (E.fo ?_)
               refine W.pick (K:=[(0,_),(6,_),(7,_),(8,_),(11,_),(16,_),(19,_),(21,_),(23,_),(187,_),(188,_),(189,_),(190,_),(191,_),(192,_),(193,_),(194,_),(195,_),(196,_),(197,_),(198,_),(199,_),(200,_),(201,_),(202,_),(203,_),(204,_),(205,_),(206,_),(220,_)]) (Z:=[(101,_),(102,_),(103,_),(113,_),(117,_)]) ⟨rfl,rfl,rfl,rfl,rfl,rfl,rfl,rfl,rfl,rfl,rfl,rfl,rfl,rfl,rfl,rfl,rfl,rfl,rfl,rfl,rfl,rfl,rfl,rfl,rfl,rfl,rfl,rfl,rfl,rfl,trivial⟩ ⟨rfl,rfl,rfl,rfl,rfl,trivial⟩ ?_
               refine W.rg (SL.mv rfl rfl ?_)
               refine SL.val (O.lenE (SlOf.fz rfl (by decide)) (by first | exact List.length_map _ | rfl) Try.underlying39 rfl Taken.no) ?_
               refine SL.mv rfl rfl (E.fo ?_)
               refine W.pick (K:=[(0,_),(6,_),(7,_),(8,_),(11,_),(16,_),(19,_),(21,_),(23,_),(187,_),(188,_),(189,_),(190,_),(191,_),(192,_),(193,_),(194,_),(195,_),(196,_),(197,_),(198,_),(199,_),(200,_),(201,_),(202,_),(203,_),(204,_),(205,_),(206,_),(207,_),(208,_),(209,_),(220,_)]) (Z:=[(101,_),(102,_),(103,_),(113,_),(117,_)]) ⟨rfl,rfl,rfl,rfl,rfl,rfl,rfl,rfl,rfl,rfl,rfl,rfl,rfl,rfl,rfl,rfl,rfl,rfl,rfl,rfl,rfl,rfl,rfl,rfl,rfl,rfl,rfl,rfl,rfl,rfl,rfl,rfl,rfl,trivial⟩ ⟨rfl,rfl,rfl,rfl,rfl,trivial⟩ ?_
               refine W.block ?_
               refine W.loopx1 (fun (j : Nat) => [(209, vI (j : Int))]) (fun (j : Nat) => [(118, .data 3 1 ((setAll (nameF (fun x : Nat => (x : Int)) (nm0 m atm s) ((partsL lk (g0L m atm s)) ++ (partsL lk (g1L m atm s)).take q)) (((partsL lk (g1L m atm s))[q]!).take j) ((minL ((partsL lk (g1L m atm s))[q]!) : Nat) : Int)).map eI)), (113, .cells 39 [.own 118])]) (fun (j : Nat) => j ≤ ((partsL lk (g1L m atm s))[q]!).length) (fun (j : Nat) => ((partsL lk (g1L m atm s))[q]!).length - j) (0) (rn [(118, 117)]) (.cons (t := 0) rfl (.cons (t := 6) rfl (.cons (t := 7) rfl (.cons (t := 8) rfl (.cons (t := 11) rfl (.cons (t := 16) rfl (.cons (t := 19) rfl (.cons (t := 21) rfl (.cons (t := 23) rfl (.cons (t := 187) rfl (.cons (t := 188) rfl (.cons (t := 189) rfl (.cons (t := 190) rfl (.cons (t := 191) rfl (.cons (t := 192) rfl (.cons (t := 193) rfl (.cons (t := 194) rfl (.cons (t := 195) rfl (.cons (t := 196) rfl (.cons (t := 197) rfl (.cons (t := 198) rfl (.cons (t := 199) rfl (.cons (t := 200) rfl (.cons (t := 201) rfl (.cons (t := 202) rfl (.cons (t := 203) rfl (.cons (t := 204) rfl (.cons (t := 205) rfl (.cons (t := 206) rfl (.cons (t := 207) rfl (.cons (t := 208) rfl (.cons (t := 220) rfl .nil)))))))))))))))))))))))))))))))) (.cons (t := 101) rfl (.cons (t := 102) rfl (.cons (t := 103) rfl .nil))) rfl ?_ ?_ rfl rfl ?_ ?_
               · exact (SubF.cons rfl SubF.nil)
               · exact (SubS.val rfl (by exact sb_data (by rw [List.take_zero]; rfl)) (SubS.cons rfl SubS.nil))
               ·skip
                omega
               intro j hinv
               have hj := hinv
               have hnl : (setAll (nameF (fun x : Nat => (x : Int)) (nm0 m atm s) ((partsL lk (g0L m atm s)) ++ (partsL lk (g1L m atm s)).take q)) (((partsL lk (g1L m atm s))[q]!).take j) ((minL ((partsL lk (g1L m atm s))[q]!) : Nat) : Int)).length = n := by rw [setAll_len, nameF_len, nm0_len]; exact hml
               refine W.rg ?_
               refine SL.val (O.det (fun _ => G.R.lss rfl rfl) rfl Taken.no) ?_
               refine E.fo ?_
               refine W.pick (K:=[(0,_),(6,_),(7,_),(8,_),(11,_),(16,_),(19,_),(21,_),(23,_),(187,_),(188,_),(189,_),(190,_),(191,_),(192,_),(193,_),(194,_),(195,_),(196,_),(197,_),(198,_),(199,_),(200,_),(201,_),(202,_),(203,_),(204,_),(205,_),(206,_),(207,_),(208,_),(209,_),(210,_),(220,_)]) (Z:=[(101,_),(102,_),(103,_),(113,_),(118,_)]) ⟨rfl,rfl,rfl,rfl,rfl,rfl,rfl,rfl,rfl,rfl,rfl,rfl,rfl,rfl,rfl,rfl,rfl,rfl,rfl,rfl,rfl,rfl,rfl,rfl,rfl,rfl,rfl,rfl,rfl,rfl,rfl,rfl,rfl,rfl,trivial⟩ ⟨rfl,rfl,rfl,rfl,rfl,trivial⟩ ?_
               refine W.seq ?_
               first | refine W.cond_d rfl (fun hc18 => ?_) (fun hc18 => ?_) | refine W.cond_nd rfl (fun hc18 => ?_) (fun hc18 => ?_) | refine W.cond rfl (fun hc18 => ?_) (fun hc18 => ?_)
               ·skip
                have hun := hgb.2.2 _ (hpu.2.2 ((partsL lk (g1L m atm s))[q]!)[j]! (mem_at (by omega)))
                refine W.skip (E.to ?_)
                refine W.pick (K:=[(0,_),(6,_),(7,_),(8,_),(11,_),(16,_),(19,_),(21,_),(23,_),(187,_),(188,_),(189,_),(190,_),(191,_),(192,_),(193,_),(194,_),(195,_),(196,_),(197,_),(198,_),(199,_),(200,_),(201,_),(202,_),(203,_),(204,_),(205,_),(206,_),(207,_),(208,_),(209,_),(210,_),(220,_)]) (Z:=[(101,_),(102,_),(103,_),(113,_),(118,_)]) ⟨rfl,rfl,rfl,rfl,rfl,rfl,rfl,rfl,rfl,rfl,rfl,rfl,rfl,rfl,rfl,rfl,rfl,rfl,rfl,rfl,rfl,rfl,rfl,rfl,rfl,rfl,rfl,rfl,rfl,rfl,rfl,rfl,rfl,rfl,trivial⟩ ⟨rfl,rfl,rfl,rfl,rfl,trivial⟩ ?_
                refine W.seq (W.block (W.rg ?_))
                refine SL.val (O.idx_fz (i := j) rfl rfl (rfl) (row_get (by omega)) Try.underlying39 hi3 hs3 rfl Taken.no) ?_
                refine SL.val (O.ld1 (PtI.ofU (PtU.fz rfl)) rfl Try.underlying3 rfl rfl Taken.no) ?_
                refine SL.an rfl rfl (E.fo ?_)
                refine W.pick (K:=[(0,_),(6,_),(7,_),(8,_),(11,_),(16,_),(19,_),(21,_),(23,_),(25,_),(187,_),(188,_),(189,_),(190,_),(191,_),(192,_),(193,_),(194,_),(195,_),(196,_),(197,_),(198,_),(199,_),(200,_),(201,_),(202,_),(203,_),(204,_),(205,_),(206,_),(207,_),(208,_),(209,_),(210,_),(211,_),(212,_),(220,_)]) (Z:=[(101,_),(102,_),(103,_),(113,_),(118,_)]) ⟨rfl,rfl,rfl,rfl,rfl,rfl,rfl,rfl,rfl,rfl,rfl,rfl,rfl,rfl,rfl,rfl,rfl,rfl,rfl,rfl,rfl,rfl,rfl,rfl,rfl,rfl,rfl,rfl,rfl,rfl,rfl,rfl,rfl,rfl,rfl,rfl,rfl,trivial⟩ ⟨rfl,rfl,rfl,rfl,rfl,trivial⟩ ?_
                refine W.draw [⟨[113], [], [], [118]⟩, ⟨[], [], [], []⟩, ⟨[], [], [], []⟩, ⟨[], [], [], []⟩, ⟨[118], [], [], []⟩, ⟨[118], [118], [], []⟩] rfl (by kernel_rfl) (by kernel_rfl) rfl rfl ?_
                refine WH.val (O.ld1 (PtI.ref rfl rfl) rfl Try.underlying39 rfl rfl Taken.no) rfl rfl ?_
                refine WH.mv rfl rfl rfl (WH.mv rfl rfl rfl ?_)
                refine WH.val (O.callp rfl rfl rfl (min_h (l := ((partsL lk (g1L m atm s))[q]!)) (by omega)) (.cons (ArgOk.same rfl) .nil) hcallOk62 rfl Taken.no) rfl rfl ?_
                refine WH.val (O.idx_own (i := (((partsL lk (g1L m atm s))[q]!)[j]!)) rfl rfl rfl (rfl) (by rw [List.length_map]; omega) Try.underlying39 hi3 hs3 rfl Taken.no) rfl rfl ?_
                refine WH.effS (O.st_els (m := 1) rfl rfl rfl (us := [_]) rfl rfl (by kernel_rfl) (by simp) (row_get (by omega)) (by exact Nat.le_of_ble_eq_true rfl) rfl rfl (rows' := ((setAll (nameF (fun x : Nat => (x : Int)) (nm0 m atm s) ((partsL lk (g0L m atm s)) ++ (partsL lk (g1L m atm s)).take q)) (((partsL lk (g1L m atm s))[q]!).take j) ((minL ((partsL lk (g1L m atm s))[q]!) : Nat) : Int)).set (((partsL lk (g1L m atm s))[q]!)[j]!) ((minL ((partsL lk (g1L m atm s))[q]!) : Nat) : Int)).map eI) (by exact set_map rfl) Taken.no) rfl rfl rfl (S' := (118, _) :: _) rfl ?_
                refine WH.nil (E.inn (E.to ?_))
                refine W.pick (K:=[(0,_),(6,_),(7,_),(8,_),(11,_),(16,_),(19,_),(21,_),(23,_),(25,_),(187,_),(188,_),(189,_),(190,_),(191,_),(192,_),(193,_),(194,_),(195,_),(196,_),(197,_),(198,_),(199,_),(200,_),(201,_),(202,_),(203,_),(204,_),(205,_),(206,_),(207,_),(208,_),(209,_),(210,_),(211,_),(212,_),(213,_),(214,_),(215,_),(216,_),(217,_),(220,_)]) (Z:=[(101,_),(102,_),(103,_),(113,_),(118,_)]) ⟨rfl,rfl,rfl,rfl,rfl,rfl,rfl,rfl,rfl,rfl,rfl,rfl,rfl,rfl,rfl,rfl,rfl,rfl,rfl,rfl,rfl,rfl,rfl,rfl,rfl,rfl,rfl,rfl,rfl,rfl,rfl,rfl,rfl,rfl,rfl,rfl,rfl,rfl,rfl,rfl,rfl,rfl,trivial⟩ ⟨rfl,rfl,rfl,rfl,rfl,trivial⟩ ?_
                refine W.region ?_
                refine SL.val (O.det (fun _ => by first | exact G.R.add64 rfl rfl (by omega) | exact G.R.add rfl rfl) rfl Taken.no) ?_
                refine SL.mv rfl rfl (SL.nil ?_)
                refine E.again ((j + 1)) (rn []) ?_ ?_ rfl (fixL_spec rfl) ?_ ?_
                · exact (SubF.cons rfl (SubF.cons rfl (SubF.cons rfl (SubF.cons rfl (SubF.cons rfl (SubF.cons rfl (SubF.cons rfl (SubF.cons rfl (SubF.cons rfl (SubF.cons rfl (SubF.cons rfl (SubF.cons rfl (SubF.cons rfl (SubF.cons rfl (SubF.cons rfl (SubF.cons rfl (SubF.cons rfl (SubF.cons rfl (SubF.cons rfl (SubF.cons rfl (SubF.cons rfl (SubF.cons rfl (SubF.cons rfl (SubF.cons rfl (SubF.cons rfl (SubF.cons rfl (SubF.cons rfl (SubF.cons rfl (SubF.cons rfl (SubF.cons rfl (SubF.cons rfl (SubF.cons rfl (SubF.cons rfl SubF.nil)))))))))))))))))))))))))))))))))
                · exact (SubS.val rfl (by (try dsimp only); exact sb_data (by rw [setAll_sG (by omega)])) (SubS.cons rfl (SubS.cons rfl (SubS.cons rfl (SubS.cons rfl SubS.nil)))))
                ·try dsimp only
                 omega
                · (try dsimp only); omega
               ·skip
                refine W.exit (E.th (E.th (E.hit (E.inn (E.to ?_)))))
                refine W.pick (K:=[(0,_),(6,_),(7,_),(8,_),(11,_),(16,_),(19,_),(21,_),(23,_),(187,_),(188,_),(189,_),(190,_),(191,_),(192,_),(193,_),(194,_),(195,_),(196,_),(197,_),(198,_),(199,_),(200,_),(201,_),(202,_),(203,_),(204,_),(205,_),(206,_),(207,_),(208,_),(209,_),(210,_),(220,_)]) (Z:=[(101,_),(102,_),(103,_),(113,_),(118,_)]) ⟨rfl,rfl,rfl,rfl,rfl,rfl,rfl,rfl,rfl,rfl,rfl,rfl,rfl,rfl,rfl,rfl,rfl,rfl,rfl,rfl,rfl,rfl,rfl,rfl,rfl,rfl,rfl,rfl,rfl,rfl,rfl,rfl,rfl,rfl,trivial⟩ ⟨rfl,rfl,rfl,rfl,rfl,trivial⟩ ?_
                refine W.region ?_
                refine SL.val (O.det (fun _ => by first | exact G.R.add64 rfl rfl (by omega) | exact G.R.add rfl rfl) rfl Taken.no) ?_
                refine SL.mv rfl rfl (SL.nil ?_)
                refine E.again ((q + 1)) (rn [(117, 118)]) ?_ ?_ rfl (fixL_spec rfl) ?_ ?_
                · exact (SubF.cons rfl (SubF.val rfl (by (try dsimp only); exact iv_int (by rw [snocP (l := (partsL lk (g1L m atm s))) (by omega), ← List.append_assoc, sumV_snoc])) (SubF.cons rfl (SubF.cons rfl (SubF.cons rfl (SubF.cons rfl (SubF.cons rfl (SubF.cons rfl (SubF.cons rfl (SubF.cons rfl (SubF.cons rfl (SubF.cons rfl (SubF.cons rfl (SubF.cons rfl (SubF.cons rfl (SubF.cons rfl (SubF.cons rfl (SubF.cons rfl (SubF.cons rfl (SubF.cons rfl (SubF.cons rfl SubF.nil)))))))))))))))))))))
                · exact (SubS.val rfl (by (try dsimp only); exact sb_data (by rw [snocP (l := (partsL lk (g1L m atm s))) (by omega), ← List.append_assoc, nameF_snoc, show j = ((partsL lk (g1L m atm s))[q]!).length by omega, List.take_length])) (SubS.cons rfl (SubS.cons rfl (SubS.cons rfl (SubS.cons rfl SubS.nil)))))
                ·try dsimp only
                 omega
                · (try dsimp only); omega
              ·skip
               refine W.exit (E.th (E.th (E.hit (E.inn (E.to (W.region ?_))))))
               refine SL.val (O.det (fun _ => by first | exact G.R.add64 rfl rfl (by omega) | exact G.R.add rfl rfl) rfl Taken.no) ?_
               refine SL.mv rfl rfl (SL.nil ?_)
               refine E.reround ?_
               refine W.pick (K:=[(0,_),(6,_),(7,_),(8,_),(11,_),(16,_),(19,_),(21,_),(187,_),(188,_),(189,_),(190,_),(191,_),(192,_),(193,_),(194,_),(195,_),(196,_),(197,_),(198,_),(199,_),(220,_)]) (Z:=[(101,_),(102,_),(103,_),(113,_),(117,_)]) ⟨rfl,rfl,rfl,rfl,rfl,rfl,rfl,rfl,rfl,rfl,rfl,rfl,rfl,rfl,rfl,rfl,rfl,rfl,rfl,rfl,rfl,rfl,trivial⟩ ⟨rfl,rfl,rfl,rfl,rfl,trivial⟩ ?_
               refine W.rg ?_
               refine SL.val (O.det (fun _ => G.R.mv (G.R.lss rfl rfl) (congrArg Value.bool (decide_eq_false (by decide)))) rfl Taken.no) ?_
               refine E.fo (W.seq ?_)
               refine W.cond_f rfl ?_
               refine W.exit (E.th (E.th (E.hit (E.to (W.rg ?_)))))
               refine SL.val (O.ld1 (PtI.ref rfl rfl) rfl Try.underlying39 rfl rfl Taken.no) ?_
               refine SL.mv rfl rfl (SL.mv rfl rfl ?_)
               refine SL.val (O.det (fun _ => by first | exact G.R.sub64 rfl rfl (by omega) | exact G.R.sub rfl rfl) rfl Taken.no) ?_
               refine SL.an rfl rfl (SL.an rfl rfl (SL.an rfl rfl (E.fo ?_)))
               refine W.pick (K:=[(6,_),(7,_),(8,_)]) (Z:=[(101,_),(102,_),(103,_),(113,_),(117,_)]) ⟨rfl,rfl,rfl,trivial⟩ ⟨rfl,rfl,rfl,rfl,rfl,trivial⟩ ?_
               refine W.ret ?_
               refine E.freeze 117 rfl (F' := [(6, _)]) (⟨⟨_, rfl, rfl⟩, trivial⟩) ?_
               refine E.fin (rs := [_, _, _]) (rn []) (.inl rfl) rfl (.cons (ResOne.tmp rfl) (.cons (ResOne.tmp rfl) (.cons (ResOne.tmp rfl) .nil))) ?_ ?_ rfl (fixL_spec rfl)
               ·skip
                have hyes : posF n bar atm m s := ⟨hpre, by rw [← hit_eq hml hb]; exact hcl⟩
                rw [← hs, apN_y hyes, apG_y hyes, dec_t hyes, gnF, hfe, hth, show q = (partsL lk (g1L m atm s)).length by omega, List.take_length]; rfl
               · exact SubS.nil
     ·skip
      first | have hg5p := G.gA7 hg5 | have hg5p := G.gA8 hg5 | have hg5p := hg5
      refine WH.sk rfl rfl rfl hg5 (WH.sk rfl rfl rfl hg5 (WH.sk rfl rfl rfl hg5 ?_))
      refine WH.val (O.pick_t rfl (G.ne_f hg5) rfl rfl (Taken.yes rfl rfl hg4)) rfl rfl ?_
      refine WH.val (O.pick_t rfl hg4 rfl rfl (Taken.yes rfl rfl hg3)) rfl rfl ?_
      refine WH.val (O.pick_f rfl hg3 rfl rfl Taken.no) rfl rfl ?_
      refine WH.nil (E.to ?_)
      refine W.pick (K:=[(0,_),(1,_),(5,_),(6,_),(7,_),(8,_),(60,_)]) (Z:=[(101,_)]) ⟨rfl,rfl,rfl,rfl,rfl,rfl,rfl,trivial⟩ ⟨rfl,trivial⟩ ?_
      refine W.cond_t rfl ?_
      refine W.rg (SL.an rfl rfl (SL.an rfl rfl (SL.an rfl rfl (E.fo (W.ret (E.thr ?_))))))
      refine E.nilsl 6 1 rfl ?_
      refine E.fin (rs := [_, _, _]) (rn []) (.inl rfl) rfl (.cons (ResOne.tmp rfl) (.cons (ResOne.tmp rfl) (.cons (ResOne.tmp rfl) .nil))) ?_ ?_ rfl (fixL_spec rfl)
      ·skip
       first | ((have hno : ¬ posF n bar atm m ⟨u, f, t⟩ := fun q => by ((obtain ⟨⟨⟨q1, q2, q3, q4, q5⟩, q6, q7, q8⟩, q9⟩ := posF_iff.1 q); (try simp only [Int.toNat_natCast] at q6 q7 q8); (first | omega | (have q5 := q5 (by omega); simp_all)))); rw [apN_n hno, apG_n hno, dec_f hno]; rfl)
      · exact SubS.nil
    ·skip
     first | have hg4p := G.gA5 hg4 | have hg4p := G.gA6 hg4 | have hg4p := hg4
     refine WH.sk rfl rfl rfl hg4 (WH.sk rfl rfl rfl hg4 (WH.sk rfl rfl rfl hg4 ?_))
     refine WH.skip (OpOk.not2 rfl rfl rfl) ?_
     refine WH.skip (OpOk.not2 rfl rfl rfl) ?_
     refine WH.skip (OpOk.not2 rfl rfl rfl) ?_
     refine WH.sk rfl rfl rfl hg4 ?_
     refine WH.val (O.pick_f rfl (G.ne_t hg4) rfl rfl (Taken.yes rfl rfl hg3)) rfl rfl ?_
     refine WH.val (O.pick_f rfl hg3 rfl rfl Taken.no) rfl rfl ?_
     refine WH.nil (E.to ?_)
     refine W.pick (K:=[(0,_),(1,_),(5,_),(6,_),(7,_),(8,_),(60,_)]) (Z:=[(101,_)]) ⟨rfl,rfl,rfl,rfl,rfl,rfl,rfl,trivial⟩ ⟨rfl,trivial⟩ ?_
     refine W.cond_f rfl ?_
     refine W.skip (E.to (W.rg ?_))
     obtain ⟨t, rfl⟩ : ∃ k : Nat, t = (k : Int) := ⟨t.toNat, by omega⟩
     have hul2 := units_len m t
     have hvb2 := valF_b hw (l := unitsL m t) (by omega)
     have hTn : ∀ u ∈ unitsL m t, u < n := fun u hu => ((mem_here hml).1 hu).1
     obtain ⟨f, rfl⟩ : ∃ k : Nat, f = (k : Int) := ⟨f.toNat, by omega⟩
     have hul := units_len m m[f]!
     have hvb1 := valF_b hw (l := (unitsL m m[f]!)) (by omega)
     have hHn : ∀ u ∈ (unitsL m m[f]!), u < n := fun u hu => ((mem_here hml).1 hu).1
     refine SL.mv rfl rfl (SL.mv rfl rfl ?_)
     refine SL.val (O.fld_ref (o' := 1) rfl Try.underlying55 rfl (m := 0) (by kernel_rfl) rfl rfl Taken.no) ?_
     refine SL.val (O.ld1 (PtI.ref rfl rfl) rfl Try.underlying3 rfl rfl Taken.no) ?_
     refine SL.val (O.idx_fz (i := f) rfl rfl (rfl) (row_get (by omega)) Try.underlying39 hi3 hs3 rfl Taken.no) ?_
     refine SL.val (O.ld1 (PtI.ofU (PtU.fz rfl)) rfl Try.underlying3 rfl rfl Taken.no) ?_
     refine SL.memS (O.call (rn [(0, 119)]) [] rfl rfl rfl (units_h (l := m) (c := m[f]!) (by omega)) (.cons (ArgOk.same rfl) (.cons (ArgOk.same rfl) .nil)) SubS.nil rfl rfl rfl rfl rfl (.inl rfl) hcallOk46 (r' := .own 119) rfl rfl Taken.no) rfl rfl (S' := (119, .data _ _ _) :: _) rfl ?_
     refine SL.an rfl rfl (E.fo (W.rg (SL.an rfl rfl (E.fo (W.seq (W.rg ?_))))))
     refine SL.val (O.fld_ref (o' := 2) rfl Try.underlying55 rfl (m := 0) (by kernel_rfl) rfl rfl Taken.no) ?_
     refine SL.val (O.ld1 (PtI.ref rfl rfl) rfl Try.underlying3 rfl rfl Taken.no) ?_
     refine SL.val (O.det (fun _ => G.R.geq rfl rfl) rfl Taken.no) ?_
     refine E.fo ?_
     first | refine W.cond_d rfl (fun hc19 => ?_) (fun hc19 => ?_) | refine W.cond_nd rfl (fun hc19 => ?_) (fun hc19 => ?_) | refine W.cond rfl (fun hc19 => ?_) (fun hc19 => ?_)
     ·skip
      refine W.seq (W.seq ?_)
      refine W.draw [⟨[], [], [], []⟩, ⟨[], [], [], [101]⟩, ⟨[101], [], [], []⟩, ⟨[], [], [], []⟩, ⟨[], [], [], []⟩, ⟨[], [], [], [101]⟩, ⟨[101], [], [], []⟩, ⟨[], [], [], []⟩, ⟨[], [], [], []⟩, ⟨[], [], [], []⟩, ⟨[], [], [], [101]⟩, ⟨[101], [], [], []⟩, ⟨[], [], [], []⟩, ⟨[], [], [], []⟩, ⟨[], [], [], [101]⟩, ⟨[101], [], [], []⟩, ⟨[], [], [], []⟩, ⟨[], [], [], []⟩] rfl (by kernel_rfl) (by kernel_rfl) rfl rfl ?_
      refine WH.mv rfl rfl rfl ?_
      refine WH.val (O.fld_ref (o' := 2) rfl Try.underlying55 rfl (m := 0) (by kernel_rfl) rfl rfl Taken.no) rfl rfl ?_
      refine WH.val (O.ld1 (PtI.ref rfl rfl) rfl Try.underlying3 rfl rfl Taken.no) rfl rfl ?_
      refine WH.val (O.idx_fz (i := t) rfl rfl (rfl) (row_get (by omega)) Try.underlying39 hi3 hs3 rfl Taken.no) rfl rfl ?_
      refine WH.val (O.ld1 (PtI.ofU (PtU.fz rfl)) rfl Try.underlying3 rfl rfl Taken.no) rfl rfl ?_
      refine WH.val (O.fld_ref (o' := 2) rfl Try.underlying55 rfl (m := 0) (by kernel_rfl) rfl rfl Taken.no) rfl rfl ?_
      refine WH.val (O.ld1 (PtI.ref rfl rfl) rfl Try.underlying3 rfl rfl Taken.no) rfl rfl ?_
      refine WH.val (O.det (fun _ => G.R.neq rfl rfl) rfl Taken.no) rfl rfl ?_
      refine WH.mv rfl rfl rfl ?_
      refine WH.case (j := 8) (g := 79) (want := false) rfl rfl (fun hg20 => ?_) (fun hg20 => ?_)
      ·skip
       first | have hg20p := G.gA3 hg20 | have hg20p := G.gA4 hg20 | have hg20p := hg20
       refine WH.val (O.move rfl rfl (Taken.yes rfl rfl hg20)) rfl rfl ?_
       refine WH.val (O.fld_ref (o' := 1) rfl Try.underlying55 rfl (m := 0) (by kernel_rfl) rfl rfl (Taken.yes rfl rfl hg20)) rfl rfl ?_
       refine WH.val (O.ld1 (PtI.ref rfl rfl) rfl Try.underlying3 rfl rfl (Taken.yes rfl rfl hg20)) rfl rfl ?_
       refine WH.val (O.idx_fz (i := f) rfl rfl (rfl) (row_get (by omega)) Try.underlying39 hi3 hs3 rfl (Taken.yes rfl rfl hg20)) rfl rfl ?_
       refine WH.val (O.ld1 (PtI.ofU (PtU.fz rfl)) rfl Try.underlying3 rfl rfl (Taken.yes rfl rfl hg20)) rfl rfl ?_
       refine WH.val (O.fld_ref (o' := 2) rfl Try.underlying55 rfl (m := 0) (by kernel_rfl) rfl rfl (Taken.yes rfl rfl hg20)) rfl rfl ?_
       refine WH.val (O.ld1 (PtI.ref rfl rfl) rfl Try.underlying3 rfl rfl (Taken.yes rfl rfl hg20)) rfl rfl ?_
       refine WH.val (O.det (fun _ => G.R.eql rfl rfl) rfl (Taken.yes rfl rfl hg20)) rfl rfl ?_
       refine WH.val (O.pick_f rfl hg20 rfl rfl Taken.no) rfl rfl ?_
       refine WH.nil (E.to ?_)
       refine W.pick (K:=[(0,_),(1,_),(5,_),(6,_),(7,_),(8,_),(9,_),(10,_),(88,_)]) (Z:=[(101,_),(119,_)]) ⟨rfl,rfl,rfl,rfl,rfl,rfl,rfl,rfl,rfl,trivial⟩ ⟨rfl,rfl,trivial⟩ ?_
       first | refine W.cond_d rfl (fun hc21 => ?_) (fun hc21 => ?_) | refine W.cond_nd rfl (fun hc21 => ?_) (fun hc21 => ?_) | refine W.cond rfl (fun hc21 => ?_) (fun hc21 => ?_)
       ·skip
        refine W.rg (SL.an rfl rfl (SL.an rfl rfl (SL.an rfl rfl (E.fo (W.ret (E.thr (E.thr ?_)))))))
        refine E.nilsl 6 1 rfl ?_
        refine E.fin (rs := [_, _, _]) (rn []) (.inl rfl) rfl (.cons (ResOne.tmp rfl) (.cons (ResOne.tmp rfl) (.cons (ResOne.tmp rfl) .nil))) ?_ ?_ rfl (fixL_spec rfl)
        ·skip
         first | ((have hno : ¬ posF n bar atm m ⟨u, (f : Int), (t : Int)⟩ := fun q => by ((obtain ⟨⟨⟨q1, q2, q3, q4, q5⟩, q6, q7, q8⟩, q9⟩ := posF_iff.1 q); (try simp only [Int.toNat_natCast] at q6 q7 q8); (have q6 := q6 (by omega); omega))); rw [apN_n hno, apG_n hno, dec_f hno]; rfl)
        · exact SubS.nil
       ·skip
        refine W.skip (E.to (W.region (SL.mv rfl rfl ?_)))
        refine SL.val (O.fld_ref (o' := 2) rfl Try.underlying55 rfl (m := 0) (by kernel_rfl) rfl rfl Taken.no) ?_
        refine SL.val (O.ld1 (PtI.ref rfl rfl) rfl Try.underlying3 rfl rfl Taken.no) ?_
        refine SL.memS (O.call (rn [(0, 120)]) [] rfl rfl rfl (units_h (l := m) (c := t) (by omega)) (.cons (ArgOk.same rfl) (.cons (ArgOk.same rfl) .nil)) SubS.nil rfl rfl rfl rfl rfl (.inl rfl) hcallOk46 (r' := .own 120) rfl rfl Taken.no) rfl rfl (S' := (120, .data _ _ _) :: _) rfl ?_
        refine SL.an rfl rfl (E.fo (W.rg (SL.mv rfl rfl (SL.mv rfl rfl ?_))))
        refine SL.memS (O.call (rn []) [119] rfl rfl rfl (value_h (l := (unitsL m m[f]!)) hw (by omega) hHn) (.cons (ArgOk.same rfl) (.cons (ArgOk.own rfl rfl) .nil)) SubS.nil rfl rfl rfl rfl rfl (.inr ⟨rfl, fun x hx => by simp at hx⟩) hcallOk45 (r' := .u _) rfl rfl Taken.no) rfl rfl (S' := _) rfl ?_
        refine SL.mv rfl rfl (SL.mv rfl rfl ?_)
        refine SL.memS (O.call (rn []) [120] rfl rfl rfl (value_h (l := unitsL m t) hw (by omega) hTn) (.cons (ArgOk.same rfl) (.cons (ArgOk.own rfl rfl) .nil)) SubS.nil rfl rfl rfl rfl rfl (.inr ⟨rfl, fun x hx => by simp at hx⟩) hcallOk45 (r' := .u _) rfl rfl Taken.no) rfl rfl (S' := _) rfl ?_
        refine SL.val (O.det (fun _ => by first | exact G.R.add64 rfl rfl (by omega) | exact G.R.add rfl rfl) rfl Taken.no) ?_
        refine SL.an rfl rfl (E.fo (W.rg ?_))
        refine SL.memS (O.alloc (z := .agg #[.slice none 0 0, .slice none 0 0]) (is := [.u (.sc (.slice none 0 0)), .u (.sc (.slice none 0 0))]) 121 (by kernel_rfl) rfl rfl rfl Taken.no) rfl rfl (S' := (121, _) :: _) rfl ?_
        refine E.fo (W.seq (W.rg ?_))
        refine SL.val (O.fld_ref (o' := 0) rfl Try.underlying55 rfl (m := 0) (by kernel_rfl) rfl rfl Taken.no) ?_
        refine SL.val (O.ld1 (PtI.ref rfl rfl) rfl Try.underlying4 rfl rfl Taken.no) ?_
        refine E.fo ?_
        refine W.pick (K:=[(0,_),(1,_),(5,_),(6,_),(7,_),(8,_),(9,_),(10,_),(11,_),(12,_),(101,_)]) (Z:=[(101,_),(119,_),(120,_),(121,_)]) ⟨rfl,rfl,rfl,rfl,rfl,rfl,rfl,rfl,rfl,rfl,rfl,trivial⟩ ⟨rfl,rfl,rfl,rfl,trivial⟩ ?_
        first | refine W.cond_d rfl (fun hc22 => ?_) (fun hc22 => ?_) | refine W.cond_nd rfl (fun hc22 => ?_) (fun hc22 => ?_) | refine W.cond rfl (fun hc22 => ?_) (fun hc22 => ?_)
        ·skip
         obtain rfl : u = true := by simp_all
         refine W.seq (W.seq ?_)
         refine W.draw [⟨[], [], [], []⟩, ⟨[], [], [], [101]⟩, ⟨[101], [], [], []⟩, ⟨[], [], [], []⟩, ⟨[], [], [], []⟩, ⟨[], [], [], [101]⟩, ⟨[101], [], [], []⟩, ⟨[], [], [], []⟩, ⟨[], [], [], []⟩, ⟨[], [], [], [101]⟩, ⟨[101], [], [], []⟩, ⟨[], [], [], [101]⟩, ⟨[101], [], [], []⟩, ⟨[], [], [], []⟩, ⟨[], [], [], []⟩] rfl (by kernel_rfl) (by kernel_rfl) rfl rfl ?_
         refine WH.mv rfl rfl rfl ?_
         refine WH.val (O.fld_ref (o' := 1) rfl Try.underlying55 rfl (m := 0) (by kernel_rfl) rfl rfl Taken.no) rfl rfl ?_
         refine WH.val (O.ld1 (PtI.ref rfl rfl) rfl Try.underlying3 rfl rfl Taken.no) rfl rfl ?_
         refine WH.val (O.idx_fz (i := f) rfl rfl (rfl) (row_get (by omega)) Try.underlying39 hi3 hs3 rfl Taken.no) rfl rfl ?_
         refine WH.val (O.ld1 (PtI.ofU (PtU.fz rfl)) rfl Try.underlying3 rfl rfl Taken.no) rfl rfl ?_
         refine WH.val (O.fld_ref (o' := 1) rfl Try.underlying55 rfl (m := 0) (by kernel_rfl) rfl rfl Taken.no) rfl rfl ?_
         refine WH.val (O.ld1 (PtI.ref rfl rfl) rfl Try.underlying3 rfl rfl Taken.no) rfl rfl ?_
         refine WH.val (O.det (fun _ => G.R.neq rfl rfl) rfl Taken.no) rfl rfl ?_
         refine WH.mv rfl rfl rfl ?_
         refine WH.case (j := 8) (g := 110) (want := false) rfl rfl (fun hg23 => ?_) (fun hg23 => ?_)
         ·skip
          first | have hg23p := G.gA3 hg23 | have hg23p := G.gA4 hg23 | have hg23p := hg23
          refine WH.val (O.fld_ref (o' := 1) rfl Try.underlying55 rfl (m := 0) (by kernel_rfl) rfl rfl (Taken.yes rfl rfl hg23)) rfl rfl ?_
          refine WH.val (O.ld1 (PtI.ref rfl rfl) rfl Try.underlying3 rfl rfl (Taken.yes rfl rfl hg23)) rfl rfl ?_
          refine WH.val (O.fld_ref (o' := 2) rfl Try.underlying55 rfl (m := 0) (by kernel_rfl) rfl rfl (Taken.yes rfl rfl hg23)) rfl rfl ?_
          refine WH.val (O.ld1 (PtI.ref rfl rfl) rfl Try.underlying3 rfl rfl (Taken.yes rfl rfl hg23)) rfl rfl ?_
          refine WH.val (O.det (fun _ => G.R.geq rfl rfl) rfl (Taken.yes rfl rfl hg23)) rfl rfl ?_
          refine WH.val (O.pick_f rfl hg23 rfl rfl Taken.no) rfl rfl ?_
          refine WH.nil (E.to ?_)
          refine W.pick (K:=[(0,_),(1,_),(6,_),(7,_),(8,_),(9,_),(10,_),(11,_),(12,_),(116,_)]) (Z:=[(101,_),(119,_),(120,_),(121,_)]) ⟨rfl,rfl,rfl,rfl,rfl,rfl,rfl,rfl,rfl,rfl,trivial⟩ ⟨rfl,rfl,rfl,rfl,trivial⟩ ?_
          first | refine W.cond_d rfl (fun hc24 => ?_) (fun hc24 => ?_) | refine W.cond_nd rfl (fun hc24 => ?_) (fun hc24 => ?_) | refine W.cond rfl (fun hc24 => ?_) (fun hc24 => ?_)
          ·skip
           refine W.rg (SL.an rfl rfl (SL.an rfl rfl (SL.an rfl rfl (E.fo (W.ret (E.thr (E.thr ?_)))))))
           refine E.nilsl 6 1 rfl ?_
           refine E.fin (rs := [_, _, _]) (rn []) (.inl rfl) rfl (.cons (ResOne.tmp rfl) (.cons (ResOne.tmp rfl) (.cons (ResOne.tmp rfl) .nil))) ?_ ?_ rfl (fixL_spec rfl)
           ·skip
            first | ((have hno : ¬ posF n bar atm m ⟨true, (f : Int), (t : Int)⟩ := fun q => by ((obtain ⟨⟨⟨q1, q2, q3, q4, q5⟩, q6, q7, q8⟩, q9⟩ := posF_iff.1 q); (try simp only [Int.toNat_natCast] at q6 q7 q8); (have q7 := q7 (by trivial); omega))); rw [apN_n hno, apG_n hno, dec_f hno]; rfl)
           · exact SubS.nil
          ·skip
           refine W.skip (E.to (W.region (SL.mv rfl rfl (SL.mv rfl rfl ?_))))
           refine SL.memS (O.app (k' := 122) rfl rfl (SlOf.own rfl rfl) Try.underlying39 hi3 hz3 hs3 rfl rfl (by exact app_map) (by rw [hb3]; (simp only [List.length_map]; omega)) (by (simp only [List.length_map]; omega)) rfl Taken.no) rfl rfl (S' := (122, _) :: (119, .dead) :: _) rfl ?_
           refine SL.val (O.idx_ref (i := 0) (m := 1) rfl rfl (rfl) (by decide) Try.underlying106 (by kernel_rfl) rfl rfl Taken.no) ?_
           refine SL.effS (O.st_ref (m := 1) rfl rfl rfl (js := [_]) rfl rfl (by kernel_rfl) (by simp) (Nat.le_of_ble_eq_true rfl) rfl (is' := [_, _]) rfl Taken.no) (S' := (121, _) :: _) rfl ?_
           refine E.fo (W.seq ?_)
           refine W.freezeC 121 0 122 (is' := [_, _]) rfl rfl rfl rfl ?_
           refine W.nilslC 121 1 1 (is' := [_, _]) rfl rfl rfl ?_
           refine W.region ?_
           obtain ⟨s, hs⟩ : ∃ s : Stp, s = ⟨true, (f : Int), (t : Int)⟩ := ⟨_, rfl⟩
           have hfe : s.f.toNat = f := by rw [hs]; rfl
           have hth : thereL m s.t = unitsL m t := by rw [hs]; exact there_nat m t
           have hg0 : ((unitsL m m[f]!) ++ unitsL m t) = g0L m atm s := by rw [hs]; show _ = unitsL m m[f]! ++ thereL m (t : Int); rw [there_nat]
           have hg1 : ([] : List Nat) = g1L m atm s := by rw [hs]; rfl
           have hpre : preF n atm m s := by rw [hs]; exact ⟨⟨by show (0 : Int) ≤ f; omega, by show (f : Int) < n; omega, by show (t : Int) < (n : Int); omega, by show -1 ≤ (t : Int); omega, fun h => by exfalso; have h2 : (t : Int) < 0 := h; omega⟩, fun h => ⟨by show m[t]! = t; omega, by show m[f]! ≠ t; omega⟩, fun h => ⟨by show m[f]! = f; omega, by show (f : Int) < t; omega⟩, fun h => by cases h⟩
           have hgb := g_b (atm := atm) (s := s) hml
           have hl0 : (partsL lk (g0L m atm s)).length ≤ (g0L m atm s).length := partsN_len
           have hl1 : (partsL lk (g1L m atm s)).length ≤ (g1L m atm s).length := partsN_len
           rw [hg0]
           refine SL.mv rfl rfl ?_
           refine SL.memS (O.call (rn [(0, 123)]) [] rfl rfl rfl (clone_h (rows := m.map eN) (by rw [List.length_map]; omega)) (.cons (ArgOk.same rfl) .nil) SubS.nil rfl rfl rfl rfl rfl (.inl rfl) hcallOk39 (r' := .own 123) rfl rfl Taken.no) rfl rfl (S' := (123, .data _ _ _) :: _) rfl ?_
           refine SL.memS (O.alloc (z := .slice none 0 0) (is := [.u (.sc (.slice none 0 0))]) 124 (by kernel_rfl) rfl rfl rfl Taken.no) rfl rfl (S' := (124, _) :: _) rfl ?_
           refine SL.effS (O.st_ref (m := 1) rfl rfl rfl (js := [_]) rfl rfl (by kernel_rfl) (by simp) (Nat.le_of_ble_eq_true rfl) rfl (is' := [_]) rfl Taken.no) (S' := (124, _) :: _) rfl ?_
           refine E.fo (W.seq (W.rg ?_))
           refine SL.val (O.idx_ref (i := 0) (m := 1) rfl rfl (rfl) (by decide) Try.underlying106 (by kernel_rfl) rfl rfl Taken.no) ?_
           refine SL.val (O.ld1 (PtI.ref rfl rfl) rfl Try.underlying39 rfl rfl Taken.no) ?_
           refine SL.val (O.lenE (SlOf.fz rfl (by decide)) (by first | exact List.length_map _ | rfl) Try.underlying39 rfl Taken.no) ?_
           refine SL.mv rfl rfl (E.fo (W.block ?_))
           refine W.loopx1 (fun (j : Nat) => [(173, vI (j : Int))]) (fun (j : Nat) => [(125, .data 3 1 ((setAll (m.map (fun x : Nat => (x : Int))) ((g0L m atm s).take j) (-1)).map eI)), (124, .cells 39 [.own 125])]) (fun (j : Nat) => j ≤ (g0L m atm s).length) (fun (j : Nat) => (g0L m atm s).length - j) (0) (rn [(125, 123)]) (.cons (t := 0) rfl (.cons (t := 6) rfl (.cons (t := 7) rfl (.cons (t := 8) rfl (.cons (t := 11) rfl (.cons (t := 12) rfl (.cons (t := 16) rfl (.cons (t := 171) rfl (.cons (t := 172) rfl .nil))))))))) (.cons (t := 101) rfl (.cons (t := 120) rfl (.cons (t := 121) rfl .nil))) rfl ?_ ?_ rfl rfl ?_ ?_
           · exact (SubF.cons rfl SubF.nil)
           · exact (SubS.val rfl (by exact sb_data (by rw [List.take_zero]; exact (eI_eN m).symm)) (SubS.cons rfl SubS.nil))
           ·skip
            omega
           intro j hinv
           have hj := hinv
           have hnl : (setAll (m.map (fun x : Nat => (x : Int))) ((g0L m atm s).take j) (-1)).length = n := by rw [setAll_len, List.length_map]; exact hml
           refine W.rg ?_
           refine SL.val (O.det (fun _ => G.R.lss rfl rfl) rfl Taken.no) ?_
           refine E.fo (W.seq ?_)
           first | refine W.cond_d rfl (fun hc25 => ?_) (fun hc25 => ?_) | refine W.cond_nd rfl (fun hc25 => ?_) (fun hc25 => ?_) | refine W.cond rfl (fun hc25 => ?_) (fun hc25 => ?_)
           ·skip
            have hGj := hgb.2.1 (g0L m atm s)[j]! (mem_at (by omega))
            refine W.skip (E.to (W.seq (W.block (W.rg ?_))))
            refine SL.val (O.idx_fz (i := j) rfl rfl (rfl) (row_get (by omega)) Try.underlying39 hi3 hs3 rfl Taken.no) ?_
            refine SL.val (O.ld1 (PtI.ofU (PtU.fz rfl)) rfl Try.underlying3 rfl rfl Taken.no) ?_
            refine SL.an rfl rfl (E.fo (W.region ?_))
            refine SL.val (O.ld1 (PtI.ref rfl rfl) rfl Try.underlying39 rfl rfl Taken.no) ?_
            refine SL.mv rfl rfl ?_
            refine SL.val (O.idx_own (i := ((g0L m atm s)[j]!)) rfl rfl rfl (rfl) (by rw [List.length_map]; omega) Try.underlying39 hi3 hs3 rfl Taken.no) ?_
            refine SL.effS (O.st_els (m := 1) rfl rfl rfl (us := [_]) rfl rfl (by kernel_rfl) (by simp) (row_get (by omega)) (by exact Nat.le_of_ble_eq_true rfl) rfl rfl (rows' := ((setAll (m.map (fun x : Nat => (x : Int))) ((g0L m atm s).take j) (-1)).set ((g0L m atm s)[j]!) (-1)).map eI) (by exact set_map rfl) Taken.no) (S' := (125, _) :: _) rfl ?_
            refine SL.nil (E.inn (E.to (W.region ?_)))
            refine SL.val (O.det (fun _ => by first | exact G.R.add64 rfl rfl (by omega) | exact G.R.add rfl rfl) rfl Taken.no) ?_
            refine SL.mv rfl rfl (SL.nil ?_)
            refine E.again ((j + 1)) (rn []) ?_ ?_ rfl (fixL_spec rfl) ?_ ?_
            · exact (SubF.cons rfl (SubF.cons rfl (SubF.cons rfl (SubF.cons rfl (SubF.cons rfl (SubF.cons rfl (SubF.cons rfl (SubF.cons rfl (SubF.cons rfl (SubF.cons rfl SubF.nil))))))))))
            · exact (SubS.val rfl (by (try dsimp only); exact sb_data (by rw [setAll_sG (by omega)])) (SubS.cons rfl (SubS.cons rfl (SubS.cons rfl (SubS.cons rfl SubS.nil)))))
            ·try dsimp only
             omega
            · (try dsimp only); omega
           ·skip
            refine W.exit (E.th (E.th (E.hit (E.to (W.seq (W.seq ?_))))))
            have hjG : j = (g0L m atm s).length := by omega
            rw [hjG, List.take_length]
            refine W.region (SL.mv rfl rfl ?_)
            refine SL.val (O.nilCheck rfl rfl rfl Taken.no) ?_
            refine SL.val (O.fld_fz rfl Try.underlying78 rfl (m := 0) (by kernel_rfl) rfl rfl Taken.no) ?_
            refine SL.val (O.ld1 (PtI.ofU (PtU.fz rfl)) rfl Try.underlying23 rfl rfl Taken.no) ?_
            refine SL.val (O.makeFunc rfl rfl rfl Taken.no) ?_
            refine SL.memS (O.call (rn [(0, 124), (1, 125)]) [] rfl rfl rfl (containsFuncN (nm := (nm0 m atm s)) (q := bar) (by rw [nm0_len, hml]; exact hb)) (.cons (ArgOk.same rfl) (.cons (ArgOk.same rfl) .nil)) (SubS.cons rfl (SubS.cons rfl SubS.nil)) rfl rfl rfl rfl rfl (.inl rfl) hcallOk63 (r' := .u _) rfl rfl Taken.no) rfl rfl (S' := (124, .cells _ [.own 125]) :: (125, .data _ _ _) :: _) rfl ?_
            refine E.fo ?_
            first | refine W.cond_d rfl (fun hc26 => ?_) (fun hc26 => ?_) | refine W.cond_nd rfl (fun hc26 => ?_) (fun hc26 => ?_) | refine W.cond rfl (fun hc26 => ?_) (fun hc26 => ?_)
            ·skip
             refine W.rg (SL.an rfl rfl (SL.an rfl rfl (SL.an rfl rfl (E.fo (W.ret (E.thr ?_))))))
             refine E.nilsl 6 1 rfl ?_
             refine E.fin (rs := [_, _, _]) (rn []) (.inl rfl) rfl (.cons (ResOne.tmp rfl) (.cons (ResOne.tmp rfl) (.cons (ResOne.tmp rfl) .nil))) ?_ ?_ rfl (fixL_spec rfl)
             ·skip
              have hcl : bar.any (nmHit (nm0 m atm s)) = true := by assumption
              have hno : ¬ posF n bar atm m s := fun q => by rw [hit_eq hml hb, q.2] at hcl; cases hcl
              rw [← hs, apN_n hno, apG_n hno, dec_f hno]; rfl
             · exact SubS.nil
            ·skip
             refine W.skip (E.to (W.rg (SL.an rfl rfl (E.fo (W.seq (W.rg ?_))))))
             have hcl : bar.any (nmHit (nm0 m atm s)) = false := by first | assumption | simp_all
             have hL : ∀ p ∈ gL lk m atm s, p.length ≤ 1000 := fun p hp => by rcases List.mem_append.1 hp with z | z <;> (have := (partsN_units z).2.1; omega)
             refine SL.val (O.ldN (m := 2) (PtI.ref rfl rfl) (js := [_, _]) rfl (Nat.le_of_ble_eq_true rfl) Try.underlying106 rfl (by kernel_rfl) rfl Taken.no) ?_
             refine SL.mv rfl rfl (E.fo (W.block ?_))
             refine W.unroll ?_
             refine W.rg ?_
             refine SL.val (O.det (fun _ => G.R.mv (G.R.lss rfl rfl) (congrArg Value.bool (decide_eq_true (by decide)))) rfl Taken.no) ?_
             refine E.fo (W.seq ?_)
             refine W.cond_t rfl ?_
             refine W.skip (E.to (W.seq (W.block (W.rg ?_))))
             refine SL.val (O.idxval (i := 0) rfl rfl (by rfl) (by decide) (by rfl) Try.underlying106 (by kernel_rfl) Try.underlying39 rfl rfl Taken.no) ?_
             refine SL.an rfl rfl (E.fo (W.rg (SL.mv rfl rfl (SL.mv rfl rfl ?_))))
             refine SL.val (O.nilCheck rfl rfl rfl Taken.no) ?_
             refine SL.val (O.fld_fz rfl Try.underlying78 rfl (m := 0) (by kernel_rfl) rfl rfl Taken.no) ?_
             refine SL.val (O.ld1 (PtI.ofU (PtU.fz rfl)) rfl Try.underlying76 rfl rfl Taken.no) ?_
             refine SL.val (O.callp rfl rfl rfl (parts_h (n := n) (us := (g0L m atm s)) (by omega) hgb.2.1) (.cons (ArgOk.same rfl) (.cons (ArgOk.same rfl) .nil)) hcallOk42 rfl Taken.no) ?_
             refine SL.val (O.lenE (SlOf.fz rfl (by decide)) (by first | exact List.length_map _ | rfl) Try.underlying75 rfl Taken.no) ?_
             refine SL.mv rfl rfl (E.fo ?_)
             refine W.pick (K:=[(0,_),(6,_),(7,_),(8,_),(11,_),(16,_),(19,_),(21,_),(187,_),(188,_),(189,_),(190,_),(191,_),(192,_),(193,_),(194,_),(195,_),(196,_),(197,_),(198,_)]) (Z:=[(101,_),(120,_),(121,_),(124,_),(125,_)]) ⟨rfl,rfl,rfl,rfl,rfl,rfl,rfl,rfl,rfl,rfl,rfl,rfl,rfl,rfl,rfl,rfl,rfl,rfl,rfl,rfl,trivial⟩ ⟨rfl,rfl,rfl,rfl,rfl,trivial⟩ ?_
             refine W.block ?_
             refine W.loopx1 (fun (p : Nat) => [(198, vI (p : Int)), (19, vI (sumV wt ((partsL lk (g0L m atm s)).take p)))]) (fun (p : Nat) => [(126, .data 3 1 ((nameF (fun x : Nat => (x : Int)) (nm0 m atm s) ((partsL lk (g0L m atm s)).take p)).map eI)), (124, .cells 39 [.own 126])]) (fun (p : Nat) => p ≤ (partsL lk (g0L m atm s)).length) (fun (p : Nat) => (partsL lk (g0L m atm s)).length - p) (0) (rn [(126, 125)]) (.cons (t := 0) rfl (.cons (t := 6) rfl (.cons (t := 7) rfl (.cons (t := 8) rfl (.cons (t := 11) rfl (.cons (t := 16) rfl (.cons (t := 21) rfl (.cons (t := 187) rfl (.cons (t := 188) rfl (.cons (t := 189) rfl (.cons (t := 190) rfl (.cons (t := 191) rfl (.cons (t := 192) rfl (.cons (t := 193) rfl (.cons (t := 194) rfl (.cons (t := 195) rfl (.cons (t := 196) rfl (.cons (t := 197) rfl .nil)))))))))))))))))) (.cons (t := 101) rfl (.cons (t := 120) rfl (.cons (t := 121) rfl .nil))) rfl ?_ ?_ rfl rfl ?_ ?_
             · exact (SubF.cons rfl (SubF.val rfl (by exact iv_int rfl) SubF.nil))
             · exact (SubS.val rfl (by exact sb_data (by rw [List.take_zero]; rfl)) (SubS.cons rfl SubS.nil))
             ·skip
              omega
             intro p hinv
             have hp := hinv
             have hpl : ((partsL lk (g0L m atm s)).take p).length ≤ 400 := by (try rw [List.length_append]); rw [List.length_take]; omega
             have hvb := sumV_b2 hw (L := ((partsL lk (g0L m atm s)).take p)) (fun p hp => hL p (List.mem_append_left _ (List.mem_of_mem_take hp)))
             refine W.rg ?_
             refine SL.val (O.det (fun _ => G.R.lss rfl rfl) rfl Taken.no) ?_
             refine E.fo (W.seq ?_)
             first | refine W.cond_d rfl (fun hc27 => ?_) (fun hc27 => ?_) | refine W.cond_nd rfl (fun hc27 => ?_) (fun hc27 => ?_) | refine W.cond rfl (fun hc27 => ?_) (fun hc27 => ?_)
             ·skip
              have hpu := partsN_units (mem_at (l := (partsL lk (g0L m atm s))) (i := p) (by omega))
              have hvp := valF_b hw (l := ((partsL lk (g0L m atm s))[p]!)) (by omega)
              refine W.skip (E.to (W.seq (W.block (W.rg ?_))))
              refine SL.val (O.idx_fz (i := p) rfl rfl (rfl) (row_get (by omega)) Try.underlying75 hi39 hs39 rfl Taken.no) ?_
              refine SL.val (O.ld1 (PtI.ofU (PtU.fz rfl)) rfl Try.underlying39 rfl rfl Taken.no) ?_
              refine SL.an rfl rfl (E.fo (W.rg (SL.mv rfl rfl (SL.mv rfl rfl (SL.mv rfl rfl ?_)))))
              refine SL.val (O.callp rfl rfl rfl (value_h (l := ((partsL lk (g0L m atm s))[p]!)) hw (by omega) (fun u hu => hgb.2.1 u (hpu.2.2 u hu))) (.cons (ArgOk.same rfl) (.cons (ArgOk.same rfl) .nil)) hcallOk45 rfl Taken.no) ?_
              refine SL.val (O.det (fun _ => by first | exact G.R.add64 rfl rfl (by omega) | exact G.R.add rfl rfl) rfl Taken.no) ?_
              refine SL.an rfl rfl (E.fo ?_)
              refine W.pick (K:=[(0,_),(6,_),(7,_),(8,_),(11,_),(16,_),(19,_),(21,_),(23,_),(187,_),(188,_),(189,_),(190,_),(191,_),(192,_),(193,_),(194,_),(195,_),(196,_),(197,_),(198,_),(199,_),(200,_),(201,_),(202,_),(203,_),(204,_),(205,_),(206,_)]) (Z:=[(101,_),(120,_),(121,_),(124,_),(126,_)]) ⟨rfl,rfl,rfl,rfl,rfl,rfl,rfl,rfl,rfl,rfl,rfl,rfl,rfl,rfl,rfl,rfl,rfl,rfl,rfl,rfl,rfl,rfl,rfl,rfl,rfl,rfl,rfl,rfl,rfl,trivial⟩ ⟨rfl,rfl,rfl,rfl,rfl,trivial⟩ ?_
              refine W.rg (SL.mv rfl rfl ?_)
              refine SL.val (O.lenE (SlOf.fz rfl (by decide)) (by first | exact List.length_map _ | rfl) Try.underlying39 rfl Taken.no) ?_
              refine SL.mv rfl rfl (E.fo ?_)
              refine W.pick (K:=[(0,_),(6,_),(7,_),(8,_),(11,_),(16,_),(19,_),(21,_),(23,_),(187,_),(188,_),(189,_),(190,_),(191,_),(192,_),(193,_),(194,_),(195,_),(196,_),(197,_),(198,_),(199,_),(200,_),(201,_),(202,_),(203,_),(204,_),(205,_),(206,_),(207,_),(208,_),(209,_)]) (Z:=[(101,_),(120,_),(121,_),(124,_),(126,_)]) ⟨rfl,rfl,rfl,rfl,rfl,rfl,rfl,rfl,rfl,rfl,rfl,rfl,rfl,rfl,rfl,rfl,rfl,rfl,rfl,rfl,rfl,rfl,rfl,rfl,rfl,rfl,rfl,rfl,rfl,rfl,rfl,rfl,trivial⟩ ⟨rfl,rfl,rfl,rfl,rfl,trivial⟩ ?_
              refine W.block ?_
              refine W.loopx1 (fun (j : Nat) => [(209, vI (j : Int))]) (fun (j : Nat) => [(127, .data 3 1 ((setAll (nameF (fun x : Nat => (x : Int)) (nm0 m atm s) ((partsL lk (g0L m atm s)).take p)) (((partsL lk (g0L m atm s))[p]!).take j) ((minL ((partsL lk (g0L m atm s))[p]!) : Nat) : Int)).map eI)), (124, .cells 39 [.own 127])]) (fun (j : Nat) => j ≤ ((partsL lk (g0L m atm s))[p]!).length) (fun (j : Nat) => ((partsL lk (g0L m atm s))[p]!).length - j) (0) (rn [(127, 126)]) (.cons (t := 0) rfl (.cons (t := 6) rfl (.cons (t := 7) rfl (.cons (t := 8) rfl (.cons (t := 11) rfl (.cons (t := 16) rfl (.cons (t := 19) rfl (.cons (t := 21) rfl (.cons (t := 23) rfl (.cons (t := 187) rfl (.cons (t := 188) rfl (.cons (t := 189) rfl (.cons (t := 190) rfl (.cons (t := 191) rfl (.cons (t := 192) rfl (.cons (t := 193) rfl (.cons (t := 194) rfl (.cons (t := 195) rfl (.cons (t := 196) rfl (.cons (t := 197) rfl (.cons (t := 198) rfl (.cons (t := 199) rfl (.cons (t := 200) rfl (.cons (t := 201) rfl (.cons (t := 202) rfl (.cons (t := 203) rfl (.cons (t := 204) rfl (.cons (t := 205) rfl (.cons (t := 206) rfl (.cons (t := 207) rfl (.cons (t := 208) rfl .nil))))))))))))))))))))))))))))))) (.cons (t := 101) rfl (.cons (t := 120) rfl (.cons (t := 121) rfl .nil))) rfl ?_ ?_ rfl rfl ?_ ?_
              · exact (SubF.cons rfl SubF.nil)
              · exact (SubS.val rfl (by exact sb_data (by rw [List.take_zero]; rfl)) (SubS.cons rfl SubS.nil))
              ·skip
               omega
              intro j hinv
              have hj := hinv
              have hnl : (setAll (nameF (fun x : Nat => (x : Int)) (nm0 m atm s) ((partsL lk (g0L m atm s)).take p)) (((partsL lk (g0L m atm s))[p]!).take j) ((minL ((partsL lk (g0L m atm s))[p]!) : Nat) : Int)).length = n := by rw [setAll_len, nameF_len, nm0_len]; exact hml
              refine W.rg ?_
              refine SL.val (O.det (fun _ => G.R.lss rfl rfl) rfl Taken.no) ?_
              refine E.fo ?_
              refine W.pick (K:=[(0,_),(6,_),(7,_),(8,_),(11,_),(16,_),(19,_),(21,_),(23,_),(187,_),(188,_),(189,_),(190,_),(191,_),(192,_),(193,_),(194,_),(195,_),(196,_),(197,_),(198,_),(199,_),(200,_),(201,_),(202,_),(203,_),(204,_),(205,_),(206,_),(207,_),(208,_),(209,_),(210,_)]) (Z:=[(101,_),(120,_),(121,_),(124,_),(127,_)]) ⟨rfl,rfl,rfl,rfl,rfl,rfl,rfl,rfl,rfl,rfl,rfl,rfl,rfl,rfl,rfl,rfl,rfl,rfl,rfl,rfl,rfl,rfl,rfl,rfl,rfl,rfl,rfl,rfl,rfl,rfl,rfl,rfl,rfl,trivial⟩ ⟨rfl,rfl,rfl,rfl,rfl,trivial⟩ ?_
              refine W.seq ?_
              first | refine W.cond_d rfl (fun hc28 => ?_) (fun hc28 => ?_) | refine W.cond_nd rfl (fun hc28 => ?_) (fun hc28 => ?_) | refine W.cond rfl (fun hc28 => ?_) (fun hc28 => ?_)
              ·skip
               have hun := hgb.2.1 _ (hpu.2.2 ((partsL lk (g0L m atm s))[p]!)[j]! (mem_at (by omega)))
               refine W.skip (E.to ?_)
               refine W.pick (K:=[(0,_),(6,_),(7,_),(8,_),(11,_),(16,_),(19,_),(21,_),(23,_),(187,_),(188,_),(189,_),(190,_),(191,_),(192,_),(193,_),(194,_),(195,_),(196,_),(197,_),(198,_),(199,_),(200,_),(201,_),(202,_),(203,_),(204,_),(205,_),(206,_),(207,_),(208,_),(209,_),(210,_)]) (Z:=[(101,_),(120,_),(121,_),(124,_),(127,_)]) ⟨rfl,rfl,rfl,rfl,rfl,rfl,rfl,rfl,rfl,rfl,rfl,rfl,rfl,rfl,rfl,rfl,rfl,rfl,rfl,rfl,rfl,rfl,rfl,rfl,rfl,rfl,rfl,rfl,rfl,rfl,rfl,rfl,rfl,trivial⟩ ⟨rfl,rfl,rfl,rfl,rfl,trivial⟩ ?_
               refine W.seq (W.block (W.rg ?_))
               refine SL.val (O.idx_fz (i := j) rfl rfl (rfl) (row_get (by omega)) Try.underlying39 hi3 hs3 rfl Taken.no) ?_
               refine SL.val (O.ld1 (PtI.ofU (PtU.fz rfl)) rfl Try.underlying3 rfl rfl Taken.no) ?_
               refine SL.an rfl rfl (E.fo ?_)
               refine W.pick (K:=[(0,_),(6,_),(7,_),(8,_),(11,_),(16,_),(19,_),(21,_),(23,_),(25,_),(187,_),(188,_),(189,_),(190,_),(191,_),(192,_),(193,_),(194,_),(195,_),(196,_),(197,_),(198,_),(199,_),(200,_),(201,_),(202,_),(203,_),(204,_),(205,_),(206,_),(207,_),(208,_),(209,_),(210,_),(211,_),(212,_)]) (Z:=[(101,_),(120,_),(121,_),(124,_),(127,_)]) ⟨rfl,rfl,rfl,rfl,rfl,rfl,rfl,rfl,rfl,rfl,rfl,rfl,rfl,rfl,rfl,rfl,rfl,rfl,rfl,rfl,rfl,rfl,rfl,rfl,rfl,rfl,rfl,rfl,rfl,rfl,rfl,rfl,rfl,rfl,rfl,rfl,trivial⟩ ⟨rfl,rfl,rfl,rfl,rfl,trivial⟩ ?_
               refine W.draw [⟨[124], [], [], [127]⟩, ⟨[], [], [], []⟩, ⟨[], [], [], []⟩, ⟨[], [], [], []⟩, ⟨[127], [], [], []⟩, ⟨[127], [127], [], []⟩] rfl (by kernel_rfl) (by kernel_rfl) rfl rfl ?_
               refine WH.val (O.ld1 (PtI.ref rfl rfl) rfl Try.underlying39 rfl rfl Taken.no) rfl rfl ?_
               refine WH.mv rfl rfl rfl (WH.mv rfl rfl rfl ?_)
               refine WH.val (O.callp rfl rfl rfl (min_h (l := ((partsL lk (g0L m atm s))[p]!)) (by omega)) (.cons (ArgOk.same rfl) .nil) hcallOk62 rfl Taken.no) rfl rfl ?_
               refine WH.val (O.idx_own (i := (((partsL lk (g0L m atm s))[p]!)[j]!)) rfl rfl rfl (rfl) (by rw [List.length_map]; omega) Try.underlying39 hi3 hs3 rfl Taken.no) rfl rfl ?_
               refine WH.effS (O.st_els (m := 1) rfl rfl rfl (us := [_]) rfl rfl (by kernel_rfl) (by simp) (row_get (by omega)) (by exact Nat.le_of_ble_eq_true rfl) rfl rfl (rows' := ((setAll (nameF (fun x : Nat => (x : Int)) (nm0 m atm s) ((partsL lk (g0L m atm s)).take p)) (((partsL lk (g0L m atm s))[p]!).take j) ((minL ((partsL lk (g0L m atm s))[p]!) : Nat) : Int)).set (((partsL lk (g0L m atm s))[p]!)[j]!) ((minL ((partsL lk (g0L m atm s))[p]!) : Nat) : Int)).map eI) (by exact set_map rfl) Taken.no) rfl rfl rfl (S' := (127, _) :: _) rfl ?_
               refine WH.nil (E.inn (E.to ?_))
               refine W.pick (K:=[(0,_),(6,_),(7,_),(8,_),(11,_),(16,_),(19,_),(21,_),(23,_),(25,_),(187,_),(188,_),(189,_),(190,_),(191,_),(192,_),(193,_),(194,_),(195,_),(196,_),(197,_),(198,_),(199,_),(200,_),(201,_),(202,_),(203,_),(204,_),(205,_),(206,_),(207,_),(208,_),(209,_),(210,_),(211,_),(212,_),(213,_),(214,_),(215,_),(216,_),(217,_)]) (Z:=[(101,_),(120,_),(121,_),(124,_),(127,_)]) ⟨rfl,rfl,rfl,rfl,rfl,rfl,rfl,rfl,rfl,rfl,rfl,rfl,rfl,rfl,rfl,rfl,rfl,rfl,rfl,rfl,rfl,rfl,rfl,rfl,rfl,rfl,rfl,rfl,rfl,rfl,rfl,rfl,rfl,rfl,rfl,rfl,rfl,rfl,rfl,rfl,rfl,trivial⟩ ⟨rfl,rfl,rfl,rfl,rfl,trivial⟩ ?_
               refine W.region ?_
               refine SL.val (O.det (fun _ => by first | exact G.R.add64 rfl rfl (by omega) | exact G.R.add rfl rfl) rfl Taken.no) ?_
               refine SL.mv rfl rfl (SL.nil ?_)
               refine E.again ((j + 1)) (rn []) ?_ ?_ rfl (fixL_spec rfl) ?_ ?_
               · exact (SubF.cons rfl (SubF.cons rfl (SubF.cons rfl (SubF.cons rfl (SubF.cons rfl (SubF.cons rfl (SubF.cons rfl (SubF.cons rfl (SubF.cons rfl (SubF.cons rfl (SubF.cons rfl (SubF.cons rfl (SubF.cons rfl (SubF.cons rfl (SubF.cons rfl (SubF.cons rfl (SubF.cons rfl (SubF.cons rfl (SubF.cons rfl (SubF.cons rfl (SubF.cons rfl (SubF.cons rfl (SubF.cons rfl (SubF.cons rfl (SubF.cons rfl (SubF.cons rfl (SubF.cons rfl (SubF.cons rfl (SubF.cons rfl (SubF.cons rfl (SubF.cons rfl (SubF.cons rfl SubF.nil))))))))))))))))))))))))))))))))
               · exact (SubS.val rfl (by (try dsimp only); exact sb_data (by rw [setAll_sG (by omega)])) (SubS.cons rfl (SubS.cons rfl (SubS.cons rfl (SubS.cons rfl SubS.nil)))))
               ·try dsimp only
                omega
               · (try dsimp only); omega
              ·skip
               refine W.exit (E.th (E.th (E.hit (E.inn (E.to ?_)))))
               refine W.pick (K:=[(0,_),(6,_),(7,_),(8,_),(11,_),(16,_),(19,_),(21,_),(23,_),(187,_),(188,_),(189,_),(190,_),(191,_),(192,_),(193,_),(194,_),(195,_),(196,_),(197,_),(198,_),(199,_),(200,_),(201,_),(202,_),(203,_),(204,_),(205,_),(206,_),(207,_),(208,_),(209,_),(210,_)]) (Z:=[(101,_),(120,_),(121,_),(124,_),(127,_)]) ⟨rfl,rfl,rfl,rfl,rfl,rfl,rfl,rfl,rfl,rfl,rfl,rfl,rfl,rfl,rfl,rfl,rfl,rfl,rfl,rfl,rfl,rfl,rfl,rfl,rfl,rfl,rfl,rfl,rfl,rfl,rfl,rfl,rfl,trivial⟩ ⟨rfl,rfl,rfl,rfl,rfl,trivial⟩ ?_
               refine W.region ?_
               refine SL.val (O.det (fun _ => by first | exact G.R.add64 rfl rfl (by omega) | exact G.R.add rfl rfl) rfl Taken.no) ?_
               refine SL.mv rfl rfl (SL.nil ?_)
               refine E.again ((p + 1)) (rn [(126, 127)]) ?_ ?_ rfl (fixL_spec rfl) ?_ ?_
               · exact (SubF.cons rfl (SubF.val rfl (by (try dsimp only); exact iv_int (by rw [snocP (l := (partsL lk (g0L m atm s))) (by omega), sumV_snoc])) (SubF.cons rfl (SubF.cons rfl (SubF.cons rfl (SubF.cons rfl (SubF.cons rfl (SubF.cons rfl (SubF.cons rfl (SubF.cons rfl (SubF.cons rfl (SubF.cons rfl (SubF.cons rfl (SubF.cons rfl (SubF.cons rfl (SubF.cons rfl (SubF.cons rfl (SubF.cons rfl (SubF.cons rfl (SubF.cons rfl SubF.nil))))))))))))))))))))
               · exact (SubS.val rfl (by (try dsimp only); exact sb_data (by rw [snocP (l := (partsL lk (g0L m atm s))) (by omega), nameF_snoc, show j = ((partsL lk (g0L m atm s))[p]!).length by omega, List.take_length])) (SubS.cons rfl (SubS.cons rfl (SubS.cons rfl (SubS.cons rfl SubS.nil)))))
               ·try dsimp only
                omega
               · (try dsimp only); omega
             ·skip
              refine W.exit (E.th (E.th (E.hit (E.inn (E.to (W.region ?_))))))
              refine SL.val (O.det (fun _ => by first | exact G.R.add64 rfl rfl (by omega) | exact G.R.add rfl rfl) rfl Taken.no) ?_
              refine SL.mv rfl rfl (SL.nil ?_)
              refine E.reround ?_
              refine W.pick (K:=[(0,_),(6,_),(7,_),(8,_),(11,_),(16,_),(19,_),(21,_),(187,_),(188,_),(189,_),(190,_),(191,_),(192,_),(193,_),(194,_),(195,_),(196,_),(197,_),(198,_),(199,_),(220,_)]) (Z:=[(101,_),(120,_),(121,_),(124,_),(126,_)]) ⟨rfl,rfl,rfl,rfl,rfl,rfl,rfl,rfl,rfl,rfl,rfl,rfl,rfl,rfl,rfl,rfl,rfl,rfl,rfl,rfl,rfl,rfl,trivial⟩ ⟨rfl,rfl,rfl,rfl,rfl,trivial⟩ ?_
              refine W.rg ?_
              refine SL.val (O.det (fun _ => G.R.mv (G.R.lss rfl rfl) (congrArg Value.bool (decide_eq_true (by decide)))) rfl Taken.no) ?_
              refine E.fo (W.seq ?_)
              refine W.cond_t rfl ?_
              refine W.skip (E.to (W.seq (W.block (W.rg ?_))))
              refine SL.val (O.idxval (i := 1) rfl rfl (by rfl) (by decide) (by rfl) Try.underlying106 (by kernel_rfl) Try.underlying39 rfl rfl Taken.no) ?_
              refine SL.an rfl rfl ?_
              refine SL.as (i' := vL 1 ((g1L m atm s).map eN)) 21 rfl (by (rw [← hg1]; try rfl)) ?_
              refine E.fo ?_
              refine W.pick (K:=[(0,_),(6,_),(7,_),(8,_),(11,_),(16,_),(19,_),(21,_),(187,_),(188,_),(189,_),(190,_),(191,_),(192,_),(193,_),(194,_),(195,_),(196,_),(197,_),(198,_),(199,_),(220,_)]) (Z:=[(101,_),(120,_),(121,_),(124,_),(126,_)]) ⟨rfl,rfl,rfl,rfl,rfl,rfl,rfl,rfl,rfl,rfl,rfl,rfl,rfl,rfl,rfl,rfl,rfl,rfl,rfl,rfl,rfl,rfl,trivial⟩ ⟨rfl,rfl,rfl,rfl,rfl,trivial⟩ ?_
              refine W.rg (SL.mv rfl rfl (SL.mv rfl rfl ?_))
              refine SL.val (O.nilCheck rfl rfl rfl Taken.no) ?_
              refine SL.val (O.fld_fz rfl Try.underlying78 rfl (m := 0) (by kernel_rfl) rfl rfl Taken.no) ?_
              refine SL.val (O.ld1 (PtI.ofU (PtU.fz rfl)) rfl Try.underlying76 rfl rfl Taken.no) ?_
              refine SL.val (O.callp rfl rfl rfl (parts_h (n := n) (us := (g1L m atm s)) (by omega) hgb.2.2) (.cons (ArgOk.same rfl) (.cons (ArgOk.same rfl) .nil)) hcallOk42 rfl Taken.no) ?_
              refine SL.val (O.lenE (SlOf.fz rfl (by decide)) (by first | exact List.length_map _ | rfl) Try.underlying75 rfl Taken.no) ?_
              refine SL.mv rfl rfl (E.fo ?_)
              refine W.pick (K:=[(0,_),(6,_),(7,_),(8,_),(11,_),(16,_),(19,_),(21,_),(187,_),(188,_),(189,_),(190,_),(191,_),(192,_),(193,_),(194,_),(195,_),(196,_),(197,_),(198,_),(199,_),(220,_)]) (Z:=[(101,_),(120,_),(121,_),(124,_),(126,_)]) ⟨rfl,rfl,rfl,rfl,rfl,rfl,rfl,rfl,rfl,rfl,rfl,rfl,rfl,rfl,rfl,rfl,rfl,rfl,rfl,rfl,rfl,rfl,trivial⟩ ⟨rfl,rfl,rfl,rfl,rfl,trivial⟩ ?_
              refine W.block ?_
              refine W.loopx1 (fun (q : Nat) => [(198, vI (q : Int)), (19, vI (sumV wt ((partsL lk (g0L m atm s)) ++ (partsL lk (g1L m atm s)).take q)))]) (fun (q : Nat) => [(128, .data 3 1 ((nameF (fun x : Nat => (x : Int)) (nm0 m atm s) ((partsL lk (g0L m atm s)) ++ (partsL lk (g1L m atm s)).take q)).map eI)), (124, .cells 39 [.own 128])]) (fun (q : Nat) => q ≤ (partsL lk (g1L m atm s)).length) (fun (q : Nat) => (partsL lk (g1L m atm s)).length - q) (0) (rn [(128, 126)]) (.cons (t := 0) rfl (.cons (t := 6) rfl (.cons (t := 7) rfl (.cons (t := 8) rfl (.cons (t := 11) rfl (.cons (t := 16) rfl (.cons (t := 21) rfl (.cons (t := 187) rfl (.cons (t := 188) rfl (.cons (t := 189) rfl (.cons (t := 190) rfl (.cons (t := 191) rfl (.cons (t := 192) rfl (.cons (t := 193) rfl (.cons (t := 194) rfl (.cons (t := 195) rfl (.cons (t := 196) rfl (.cons (t := 197) rfl (.cons (t := 220) rfl .nil))))))))))))))))))) (.cons (t := 101) rfl (.cons (t := 120) rfl (.cons (t := 121) rfl .nil))) rfl ?_ ?_ rfl rfl ?_ ?_
              · exact (SubF.cons rfl (SubF.val rfl (by exact iv_int (by rw [List.take_zero, List.append_nil, show p = (partsL lk (g0L m atm s)).length by omega, List.take_length])) SubF.nil))
              · exact (SubS.val rfl (by exact sb_data (by rw [List.take_zero, List.append_nil, show p = (partsL lk (g0L m atm s)).length by omega, List.take_length])) (SubS.cons rfl SubS.nil))
              ·skip
               omega
              intro q hinv
              have hq := hinv
              have hpl : ((partsL lk (g0L m atm s)) ++ (partsL lk (g1L m atm s)).take q).length ≤ 400 := by (try rw [List.length_append]); rw [List.length_take]; omega
              have hvb := sumV_b2 hw (L := ((partsL lk (g0L m atm s)) ++ (partsL lk (g1L m atm s)).take q)) (fun p hp => hL p ((List.mem_append.1 hp).elim (fun z => List.mem_append_left _ z) fun z => List.mem_append_right _ (List.mem_of_mem_take z)))
              refine W.rg ?_
              refine SL.val (O.det (fun _ => G.R.lss rfl rfl) rfl Taken.no) ?_
              refine E.fo (W.seq ?_)
              first | refine W.cond_d rfl (fun hc29 => ?_) (fun hc29 => ?_) | refine W.cond_nd rfl (fun hc29 => ?_) (fun hc29 => ?_) | refine W.cond rfl (fun hc29 => ?_) (fun hc29 => ?_)
              ·skip
               have hpu := partsN_units (mem_at (l := (partsL lk (g1L m atm s))) (i := q) (by omega))
               have hvp := valF_b hw (l := ((partsL lk (g1L m atm s))[q]!)) (by omega)
               refine W.skip (E.to (W.seq (W.block (W.rg ?_))))
               refine SL.val (O.idx_fz (i := q) rfl rfl (rfl) (row_get (by omega)) Try.underlying75 hi39 hs39 rfl Taken.no) ?_
               refine SL.val (O.ld1 (PtI.ofU (PtU.fz rfl)) rfl Try.underlying39 rfl rfl Taken.no) ?_
               refine SL.an rfl rfl (E.fo ?_)
               refine W.pick (K:=[(0,_),(6,_),(7,_),(8,_),(11,_),(16,_),(19,_),(21,_),(23,_),(187,_),(188,_),(189,_),(190,_),(191,_),(192,_),(193,_),(194,_),(195,_),(196,_),(197,_),(198,_),(199,_),(200,_),(201,_),(220,_)]) (Z:=[(101,_),(120,_),(121,_),(124,_),(128,_)]) ⟨rfl,rfl,rfl,rfl,rfl,rfl,rfl,rfl,rfl,rfl,rfl,rfl,rfl,rfl,rfl,rfl,rfl,rfl,rfl,rfl,rfl,rfl,rfl,rfl,rfl,trivial⟩ ⟨rfl,rfl,rfl,rfl,rfl,trivial⟩ ?_
               refine W.rg (SL.mv rfl rfl (SL.mv rfl rfl (SL.mv rfl rfl ?_)))
               refine SL.val (O.callp rfl rfl rfl (value_h (l := ((partsL lk (g1L m atm s))[q]!)) hw (by omega) (fun u hu => hgb.2.2 u (hpu.2.2 u hu))) (.cons (ArgOk.same rfl) (.cons (ArgOk.same rfl) .nil)) hcallOk45 rfl Taken.no) ?_
               refine SL.val (O.det (fun _ => by first | exact G.R.add64 rfl rfl (by omega) | exact G.R.add rfl rfl) rfl Taken.no) ?_
               refine SL.an rfl rfl (E.fo ?_)
               refine W.pick (K:=[(0,_),(6,_),(7,_),(8,_),(11,_),(16,_),(19,_),(21,_),(23,_),(187,_),(188,_),(189,_),(190,_),(191,_),(192,_),(193,_),(194,_),(195,_),(196,_),(197,_),(198,_),(199,_),(200,_),(201,_),(202,_),(203,_),(204,_),(205,_),(206,_),(220,_)]) (Z:=[(101,_),(120,_),(121,_),(124,_),(128,_)]) ⟨rfl,rfl,rfl,rfl,rfl,rfl,rfl,rfl,rfl,rfl,rfl,rfl,rfl,rfl,rfl,rfl,rfl,rfl,rfl,rfl,rfl,rfl,rfl,rfl,rfl,rfl,rfl,rfl,rfl,rfl,trivial⟩ ⟨rfl,rfl,rfl,rfl,rfl,trivial⟩ ?_
               refine W.rg (SL.mv rfl rfl ?_)
               refine SL.val (O.lenE (SlOf.fz rfl (by decide)) (by first | exact List.length_map _ | rfl) Try.underlying39 rfl Taken.no) ?_
               refine SL.mv rfl rfl (E.fo ?_)
               refine W.pick (K:=[(0,_),(6,_),(7,_),(8,_),(11,_),(16,_),(19,_),(21,_),(23,_),(187,_),(188,_),(189,_),(190,_),(191,_),(192,_),(193,_),(194,_),(195,_),(196,_),(197,_),(198,_),(199,_),(200,_),(201,_),(202,_),(203,_),(204,_),(205,_),(206,_),(207,_),(208,_),(209,_),(220,_)]) (Z:=[(101,_),(120,_),(121,_),(124,_),(128,_)]) ⟨rfl,rfl,rfl,rfl,rfl,rfl,rfl,rfl,rfl,rfl,rfl,rfl,rfl,rfl,rfl,rfl,rfl,rfl,rfl,rfl,rfl,rfl,rfl,rfl,rfl,rfl,rfl,rfl,rfl,rfl,rfl,rfl,rfl,trivial⟩ ⟨rfl,rfl,rfl,rfl,rfl,trivial⟩ ?_
               refine W.block ?_
               refine W.loopx1 (fun (j : Nat) => [(209, vI (j : Int))]) (fun (j : Nat) => [(129, .data 3 1 ((setAll (nameF (fun x : Nat => (x : Int)) (nm0 m atm s) ((partsL lk (g0L m atm s)) ++ (partsL lk (g1L m atm s)).take q)) (((partsL lk (g1L m atm s))[q]!).take j) ((minL ((partsL lk (g1L m atm s))[q]!) : Nat) : Int)).map eI)), (124, .cells 39 [.own 129])]) (fun (j : Nat) => j ≤ ((partsL lk (g1L m atm s))[q]!).length) (fun (j : Nat) => ((partsL lk (g1L m atm s))[q]!).length - j) (0) (rn [(129, 128)]) (.cons (t := 0) rfl (.cons (t := 6) rfl (.cons (t := 7) rfl (.cons (t := 8) rfl (.cons (t := 11) rfl (.cons (t := 16) rfl (.cons (t := 19) rfl (.cons (t := 21) rfl (.cons (t := 23) rfl (.cons (t := 187) rfl (.cons (t := 188) rfl (.cons (t := 189) rfl (.cons (t := 190) rfl (.cons (t := 191) rfl (.cons (t := 192) rfl (.cons (t := 193) rfl (.cons (t := 194) rfl (.cons (t := 195) rfl (.cons (t := 196) rfl (.cons (t := 197) rfl (.cons (t := 198) rfl (.cons (t := 199) rfl (.cons (t := 200) rfl (.cons (t := 201) rfl (.cons (t := 202) rfl (.cons (t := 203) rfl (.cons (t := 204) rfl (.cons (t := 205) rfl (.cons (t := 206) rfl (.cons (t := 207) rfl (.cons (t := 208) rfl (.cons (t := 220) rfl .nil)))))))))))))))))))))))))))))))) (.cons (t := 101) rfl (.cons (t := 120) rfl (.cons (t := 121) rfl .nil))) rfl ?_ ?_ rfl rfl ?_ ?_
               · exact (SubF.cons rfl SubF.nil)
               · exact (SubS.val rfl (by exact sb_data (by rw [List.take_zero]; rfl)) (SubS.cons rfl SubS.nil))
               ·skip
                omega
               intro j hinv
               have hj := hinv
               have hnl : (setAll (nameF (fun x : Nat => (x : Int)) (nm0 m atm s) ((partsL lk (g0L m atm s)) ++ (partsL lk (g1L m atm s)).take q)) (((partsL lk (g1L m atm s))[q]!).take j) ((minL ((partsL lk (g1L m atm s))[q]!) : Nat) : Int)).length = n := by rw [setAll_len, nameF_len, nm0_len]; exact hml
               refine W.rg ?_
               refine SL.val (O.det (fun _ => G.R.lss rfl rfl) rfl Taken.no) ?_
               refine E.fo ?_
               refine W.pick (K:=[(0,_),(6,_),(7,_),(8,_),(11,_),(16,_),(19,_),(21,_),(23,_),(187,_),(188,_),(189,_),(190,_),(191,_),(192,_),(193,_),(194,_),(195,_),(196,_),(197,_),(198,_),(199,_),(200,_),(201,_),(202,_),(203,_),(204,_),(205,_),(206,_),(207,_),(208,_),(209,_),(210,_),(220,_)]) (Z:=[(101,_),(120,_),(121,_),(124,_),(129,_)]) ⟨rfl,rfl,rfl,rfl,rfl,rfl,rfl,rfl,rfl,rfl,rfl,rfl,rfl,rfl,rfl,rfl,rfl,rfl,rfl,rfl,rfl,rfl,rfl,rfl,rfl,rfl,rfl,rfl,rfl,rfl,rfl,rfl,rfl,rfl,trivial⟩ ⟨rfl,rfl,rfl,rfl,rfl,trivial⟩ ?_
               refine W.seq ?_
               first | refine W.cond_d rfl (fun hc30 => ?_) (fun hc30 => ?_) | refine W.cond_nd rfl (fun hc30 => ?_) (fun hc30 => ?_) | refine W.cond rfl (fun hc30 => ?_) (fun hc30 => ?_)
               ·skip
                have hun := hgb.2.2 _ (hpu.2.2 ((partsL lk (g1L m atm s))[q]!)[j]! (mem_at (by omega)))
                refine W.skip (E.to ?_)
                refine W.pick (K:=[(0,_),(6,_),(7,_),(8,_),(11,_),(16,_),(19,_),(21,_),(23,_),(187,_),(188,_),(189,_),(190,_),(191,_),(192,_),(193,_),(194,_),(195,_),(196,_),(197,_),(198,_),(199,_),(200,_),(201,_),(202,_),(203,_),(204,_),(205,_),(206,_),(207,_),(208,_),(209,_),(210,_),(220,_)]) (Z:=[(101,_),(120,_),(121,_),(124,_),(129,_)]) ⟨rfl,rfl,rfl,rfl,rfl,rfl,rfl,rfl,rfl,rfl,rfl,rfl,rfl,rfl,rfl,rfl,rfl,rfl,rfl,rfl,rfl,rfl,rfl,rfl,rfl,rfl,rfl,rfl,rfl,rfl,rfl,rfl,rfl,rfl,trivial⟩ ⟨rfl,rfl,rfl,rfl,rfl,trivial⟩ ?_
                refine W.seq (W.block (W.rg ?_))
                refine SL.val (O.idx_fz (i := j) rfl rfl (rfl) (row_get (by omega)) Try.underlying39 hi3 hs3 rfl Taken.no) ?_
                refine SL.val (O.ld1 (PtI.ofU (PtU.fz rfl)) rfl Try.underlying3 rfl rfl Taken.no) ?_
                refine SL.an rfl rfl (E.fo ?_)
                refine W.pick (K:=[(0,_),(6,_),(7,_),(8,_),(11,_),(16,_),(19,_),(21,_),(23,_),(25,_),(187,_),(188,_),(189,_),(190,_),(191,_),(192,_),(193,_),(194,_),(195,_),(196,_),(197,_),(198,_),(199,_),(200,_),(201,_),(202,_),(203,_),(204,_),(205,_),(206,_),(207,_),(208,_),(209,_),(210,_),(211,_),(212,_),(220,_)]) (Z:=[(101,_),(120,_),(121,_),(124,_),(129,_)]) ⟨rfl,rfl,rfl,rfl,rfl,rfl,rfl,rfl,rfl,rfl,rfl,rfl,rfl,rfl,rfl,rfl,rfl,rfl,rfl,rfl,rfl,rfl,rfl,rfl,rfl,rfl,rfl,rfl,rfl,rfl,rfl,rfl,rfl,rfl,rfl,rfl,rfl,trivial⟩ ⟨rfl,rfl,rfl,rfl,rfl,trivial⟩ ?_
                refine W.draw [⟨[124], [], [], [129]⟩, ⟨[], [], [], []⟩, ⟨[], [], [], []⟩, ⟨[], [], [], []⟩, ⟨[129], [], [], []⟩, ⟨[129], [129], [], []⟩] rfl (by kernel_rfl) (by kernel_rfl) rfl rfl ?_
                refine WH.val (O.ld1 (PtI.ref rfl rfl) rfl Try.underlying39 rfl rfl Taken.no) rfl rfl ?_
                refine WH.mv rfl rfl rfl (WH.mv rfl rfl rfl ?_)
                refine WH.val (O.callp rfl rfl rfl (min_h (l := ((partsL lk (g1L m atm s))[q]!)) (by omega)) (.cons (ArgOk.same rfl) .nil) hcallOk62 rfl Taken.no) rfl rfl ?_
                refine WH.val (O.idx_own (i := (((partsL lk (g1L m atm s))[q]!)[j]!)) rfl rfl rfl (rfl) (by rw [List.length_map]; omega) Try.underlying39 hi3 hs3 rfl Taken.no) rfl rfl ?_
                refine WH.effS (O.st_els (m := 1) rfl rfl rfl (us := [_]) rfl rfl (by kernel_rfl) (by simp) (row_get (by omega)) (by exact Nat.le_of_ble_eq_true rfl) rfl rfl (rows' := ((setAll (nameF (fun x : Nat => (x : Int)) (nm0 m atm s) ((partsL lk (g0L m atm s)) ++ (partsL lk (g1L m atm s)).take q)) (((partsL lk (g1L m atm s))[q]!).take j) ((minL ((partsL lk (g1L m atm s))[q]!) : Nat) : Int)).set (((partsL lk (g1L m atm s))[q]!)[j]!) ((minL ((partsL lk (g1L m atm s))[q]!) : Nat) : Int)).map eI) (by exact set_map rfl) Taken.no) rfl rfl rfl (S' := (129, _) :: _) rfl ?_
                refine WH.nil (E.inn (E.to ?_))
                refine W.pick (K:=[(0,_),(6,_),(7,_),(8,_),(11,_),(16,_),(19,_),(21,_),(23,_),(25,_),(187,_),(188,_),(189,_),(190,_),(191,_),(192,_),(193,_),(194,_),(195,_),(196,_),(197,_),(198,_),(199,_),(200,_),(201,_),(202,_),(203,_),(204,_),(205,_),(206,_),(207,_),(208,_),(209,_),(210,_),(211,_),(212,_),(213,_),(214,_),(215,_),(216,_),(217,_),(220,_)]) (Z:=[(101,_),(120,_),(121,_),(124,_),(129,_)]) ⟨rfl,rfl,rfl,rfl,rfl,rfl,rfl,rfl,rfl,rfl,rfl,rfl,rfl,rfl,rfl,rfl,rfl,rfl,rfl,rfl,rfl,rfl,rfl,rfl,rfl,rfl,rfl,rfl,rfl,rfl,rfl,rfl,rfl,rfl,rfl,rfl,rfl,rfl,rfl,rfl,rfl,rfl,trivial⟩ ⟨rfl,rfl,rfl,rfl,rfl,trivial⟩ ?_
                refine W.region ?_
                refine SL.val (O.det (fun _ => by first | exact G.R.add64 rfl rfl (by omega) | exact G.R.add rfl rfl) rfl Taken.no) ?_
                refine SL.mv rfl rfl (SL.nil ?_)
                refine E.again ((j + 1)) (rn []) ?_ ?_ rfl (fixL_spec rfl) ?_ ?_
                · exact (SubF.cons rfl (SubF.cons rfl (SubF.cons rfl (SubF.cons rfl (SubF.cons rfl (SubF.cons rfl (SubF.cons rfl (SubF.cons rfl (SubF.cons rfl (SubF.cons rfl (SubF.cons rfl (SubF.cons rfl (SubF.cons rfl (SubF.cons rfl (SubF.cons rfl (SubF.cons rfl (SubF.cons rfl (SubF.cons rfl (SubF.cons rfl (SubF.cons rfl (SubF.cons rfl (SubF.cons rfl (SubF.cons rfl (SubF.cons rfl (SubF.cons rfl (SubF.cons rfl (SubF.cons rfl (SubF.cons rfl (SubF.cons rfl (SubF.cons rfl (SubF.cons rfl (SubF.cons rfl (SubF.cons rfl SubF.nil)))))))))))))))))))))))))))))))))
                · exact (SubS.val rfl (by (try dsimp only); exact sb_data (by rw [setAll_sG (by omega)])) (SubS.cons rfl (SubS.cons rfl (SubS.cons rfl (SubS.cons rfl SubS.nil)))))
                ·try dsimp only
                 omega
                · (try dsimp only); omega
               ·skip
                refine W.exit (E.th (E.th (E.hit (E.inn (E.to ?_)))))
                refine W.pick (K:=[(0,_),(6,_),(7,_),(8,_),(11,_),(16,_),(19,_),(21,_),(23,_),(187,_),(188,_),(189,_),(190,_),(191,_),(192,_),(193,_),(194,_),(195,_),(196,_),(197,_),(198,_),(199,_),(200,_),(201,_),(202,_),(203,_),(204,_),(205,_),(206,_),(207,_),(208,_),(209,_),(210,_),(220,_)]) (Z:=[(101,_),(120,_),(121,_),(124,_),(129,_)]) ⟨rfl,rfl,rfl,rfl,rfl,rfl,rfl,rfl,rfl,rfl,rfl,rfl,rfl,rfl,rfl,rfl,rfl,rfl,rfl,rfl,rfl,rfl,rfl,rfl,rfl,rfl,rfl,rfl,rfl,rfl,rfl,rfl,rfl,rfl,trivial⟩ ⟨rfl,rfl,rfl,rfl,rfl,trivial⟩ ?_
                refine W.region ?_
                refine SL.val (O.det (fun _ => by first | exact G.R.add64 rfl rfl (by omega) | exact G.R.add rfl rfl) rfl Taken.no) ?_
                refine SL.mv rfl rfl (SL.nil ?_)
                refine E.again ((q + 1)) (rn [(128, 129)]) ?_ ?_ rfl (fixL_spec rfl) ?_ ?_
                · exact (SubF.cons rfl (SubF.val rfl (by (try dsimp only); exact iv_int (by rw [snocP (l := (partsL lk (g1L m atm s))) (by omega), ← List.append_assoc, sumV_snoc])) (SubF.cons rfl (SubF.cons rfl (SubF.cons rfl (SubF.cons rfl (SubF.cons rfl (SubF.cons rfl (SubF.cons rfl (SubF.cons rfl (SubF.cons rfl (SubF.cons rfl (SubF.cons rfl (SubF.cons rfl (SubF.cons rfl (SubF.cons rfl (SubF.cons rfl (SubF.cons rfl (SubF.cons rfl (SubF.cons rfl (SubF.cons rfl SubF.nil)))))))))))))))))))))
                · exact (SubS.val rfl (by (try dsimp only); exact sb_data (by rw [snocP (l := (partsL lk (g1L m atm s))) (by omega), ← List.append_assoc, nameF_snoc, show j = ((partsL lk (g1L m atm s))[q]!).length by omega, List.take_length])) (SubS.cons rfl (SubS.cons rfl (SubS.cons rfl (SubS.cons rfl SubS.nil)))))
                ·try dsimp only
                 omega
                · (try dsimp only); omega
              ·skip
               refine W.exit (E.th (E.th (E.hit (E.inn (E.to (W.region ?_))))))
               refine SL.val (O.det (fun _ => by first | exact G.R.add64 rfl rfl (by omega) | exact G.R.add rfl rfl) rfl Taken.no) ?_
               refine SL.mv rfl rfl (SL.nil ?_)
               refine E.reround ?_
               refine W.pick (K:=[(0,_),(6,_),(7,_),(8,_),(11,_),(16,_),(19,_),(21,_),(187,_),(188,_),(189,_),(190,_),(191,_),(192,_),(193,_),(194,_),(195,_),(196,_),(197,_),(198,_),(199,_),(220,_)]) (Z:=[(101,_),(120,_),(121,_),(124,_),(128,_)]) ⟨rfl,rfl,rfl,rfl,rfl,rfl,rfl,rfl,rfl,rfl,rfl,rfl,rfl,rfl,rfl,rfl,rfl,rfl,rfl,rfl,rfl,rfl,trivial⟩ ⟨rfl,rfl,rfl,rfl,rfl,trivial⟩ ?_
               refine W.rg ?_
               refine SL.val (O.det (fun _ => G.R.mv (G.R.lss rfl rfl) (congrArg Value.bool (decide_eq_false (by decide)))) rfl Taken.no) ?_
               refine E.fo (W.seq ?_)
               refine W.cond_f rfl ?_
               refine W.exit (E.th (E.th (E.hit (E.to (W.rg ?_)))))
               refine SL.val (O.ld1 (PtI.ref rfl rfl) rfl Try.underlying39 rfl rfl Taken.no) ?_
               refine SL.mv rfl rfl (SL.mv rfl rfl ?_)
               refine SL.val (O.det (fun _ => by first | exact G.R.sub64 rfl rfl (by omega) | exact G.R.sub rfl rfl) rfl Taken.no) ?_
               refine SL.an rfl rfl (SL.an rfl rfl (SL.an rfl rfl (E.fo ?_)))
               refine W.pick (K:=[(6,_),(7,_),(8,_)]) (Z:=[(101,_),(120,_),(121,_),(124,_),(128,_)]) ⟨rfl,rfl,rfl,trivial⟩ ⟨rfl,rfl,rfl,rfl,rfl,trivial⟩ ?_
               refine W.ret ?_
               refine E.freeze 128 rfl (F' := [(6, _)]) (⟨⟨_, rfl, rfl⟩, trivial⟩) ?_
               refine E.fin (rs := [_, _, _]) (rn []) (.inl rfl) rfl (.cons (ResOne.tmp rfl) (.cons (ResOne.tmp rfl) (.cons (ResOne.tmp rfl) .nil))) ?_ ?_ rfl (fixL_spec rfl)
               ·skip
                have hyes : posF n bar atm m s := ⟨hpre, by rw [← hit_eq hml hb]; exact hcl⟩
                rw [← hs, apN_y hyes, apG_y hyes, dec_t hyes, gnF, hfe, hth, show q = (partsL lk (g1L m atm s)).length by omega, List.take_length]; rfl
               · exact SubS.nil
         ·skip
          first | have hg23p := G.gA7 hg23 | have hg23p := G.gA8 hg23 | have hg23p := hg23
          refine WH.sk rfl rfl rfl hg23 (WH.sk rfl rfl rfl hg23 (WH.sk rfl rfl rfl hg23 (WH.sk rfl rfl rfl hg23 (WH.sk rfl rfl rfl hg23 ?_))))
          refine WH.val (O.pick_t rfl (G.ne_f hg23) rfl rfl Taken.no) rfl rfl ?_
          refine WH.nil (E.to ?_)
          refine W.pick (K:=[(0,_),(1,_),(6,_),(7,_),(8,_),(9,_),(10,_),(11,_),(12,_),(116,_)]) (Z:=[(101,_),(119,_),(120,_),(121,_)]) ⟨rfl,rfl,rfl,rfl,rfl,rfl,rfl,rfl,rfl,rfl,trivial⟩ ⟨rfl,rfl,rfl,rfl,trivial⟩ ?_
          refine W.cond_t rfl ?_
          refine W.rg (SL.an rfl rfl (SL.an rfl rfl (SL.an rfl rfl (E.fo (W.ret (E.thr (E.thr ?_)))))))
          refine E.nilsl 6 1 rfl ?_
          refine E.fin (rs := [_, _, _]) (rn []) (.inl rfl) rfl (.cons (ResOne.tmp rfl) (.cons (ResOne.tmp rfl) (.cons (ResOne.tmp rfl) .nil))) ?_ ?_ rfl (fixL_spec rfl)
          ·skip
           first | ((have hno : ¬ posF n bar atm m ⟨true, (f : Int), (t : Int)⟩ := fun q => by ((obtain ⟨⟨⟨q1, q2, q3, q4, q5⟩, q6, q7, q8⟩, q9⟩ := posF_iff.1 q); (try simp only [Int.toNat_natCast] at q6 q7 q8); (have q7 := q7 (by trivial); omega))); rw [apN_n hno, apG_n hno, dec_f hno]; rfl)
          · exact SubS.nil
        ·skip
         obtain rfl : u = false := by simp_all
         refine W.seq (W.seq ?_)
         refine W.draw [⟨[], [], [], []⟩, ⟨[], [], [], []⟩, ⟨[], [], [], []⟩, ⟨[], [], [], []⟩, ⟨[], [], [], [101]⟩, ⟨[101], [], [], []⟩, ⟨[], [], [], []⟩, ⟨[], [], [], []⟩, ⟨[], [], [], [101]⟩, ⟨[101], [], [], []⟩, ⟨[], [], [], []⟩] rfl (by kernel_rfl) (by kernel_rfl) rfl rfl ?_
         refine WH.mv rfl rfl rfl ?_
         refine WH.val (O.nilCheck rfl rfl rfl Taken.no) rfl rfl ?_
         refine WH.val (O.fld_fz rfl Try.underlying78 rfl (m := 0) (by kernel_rfl) rfl rfl Taken.no) rfl rfl ?_
         refine WH.val (O.ld1 (PtI.ofU (PtU.fz rfl)) rfl Try.underlying39 rfl rfl Taken.no) rfl rfl ?_
         refine WH.val (O.fld_ref (o' := 1) rfl Try.underlying55 rfl (m := 0) (by kernel_rfl) rfl rfl Taken.no) rfl rfl ?_
         refine WH.val (O.ld1 (PtI.ref rfl rfl) rfl Try.underlying3 rfl rfl Taken.no) rfl rfl ?_
         refine WH.val (O.idx_fz (i := f) rfl rfl (rfl) (row_get (by omega)) Try.underlying39 hi3 hs3 rfl Taken.no) rfl rfl ?_
         refine WH.val (O.ld1 (PtI.ofU (PtU.fz rfl)) rfl Try.underlying3 rfl rfl Taken.no) rfl rfl ?_
         refine WH.val (O.fld_ref (o' := 1) rfl Try.underlying55 rfl (m := 0) (by kernel_rfl) rfl rfl Taken.no) rfl rfl ?_
         refine WH.val (O.ld1 (PtI.ref rfl rfl) rfl Try.underlying3 rfl rfl Taken.no) rfl rfl ?_
         refine WH.val (O.det (fun _ => G.R.neq rfl rfl) rfl Taken.no) rfl rfl ?_
         refine WH.nil (E.to ?_)
         first | refine W.cond_d rfl (fun hc31 => ?_) (fun hc31 => ?_) | refine W.cond_nd rfl (fun hc31 => ?_) (fun hc31 => ?_) | refine W.cond rfl (fun hc31 => ?_) (fun hc31 => ?_)
         ·skip
          refine W.rg (SL.an rfl rfl (SL.an rfl rfl (SL.an rfl rfl (E.fo ?_))))
          refine W.pick (K:=[(0,_),(1,_),(5,_),(6,_),(7,_),(8,_),(9,_),(10,_),(11,_),(12,_)]) (Z:=[(101,_),(119,_),(120,_),(121,_)]) ⟨rfl,rfl,rfl,rfl,rfl,rfl,rfl,rfl,rfl,rfl,trivial⟩ ⟨rfl,rfl,rfl,rfl,trivial⟩ ?_
          refine W.ret (E.thr (E.thr ?_))
          refine E.nilsl 6 1 rfl ?_
          refine E.fin (rs := [_, _, _]) (rn []) (.inl rfl) rfl (.cons (ResOne.tmp rfl) (.cons (ResOne.tmp rfl) (.cons (ResOne.tmp rfl) .nil))) ?_ ?_ rfl (fixL_spec rfl)
          ·skip
           first | ((have hno : ¬ posF n bar atm m ⟨false, (f : Int), (t : Int)⟩ := fun q => by ((obtain ⟨⟨⟨q1, q2, q3, q4, q5⟩, q6, q7, q8⟩, q9⟩ := posF_iff.1 q); (try simp only [Int.toNat_natCast] at q6 q7 q8); (have q8 := (q8 (by trivial)).1; omega))); rw [apN_n hno, apG_n hno, dec_f hno]; rfl) | ((have hno : ¬ posF n bar atm m ⟨false, (f : Int), -1⟩ := fun q => by ((obtain ⟨⟨⟨q1, q2, q3, q4, q5⟩, q6, q7, q8⟩, q9⟩ := posF_iff.1 q); (try simp only [Int.toNat_natCast] at q6 q7 q8); (have q8 := (q8 (by trivial)).1; omega))); rw [apN_n hno, apG_n hno, dec_f hno]; rfl)
          · exact SubS.nil
         ·skip
          refine W.skip (E.to (W.rg (SL.mv rfl rfl ?_)))
          refine SL.val (O.idx_ref (i := 0) (m := 1) rfl rfl (rfl) (by decide) Try.underlying106 (by kernel_rfl) rfl rfl Taken.no) ?_
          refine SL.effS (O.st_ref (m := 1) rfl rfl rfl (js := [_]) rfl rfl (by kernel_rfl) (by simp) (Nat.le_of_ble_eq_true rfl) rfl (is' := [_, _]) rfl Taken.no) (S' := (121, _) :: _) rfl ?_
          refine E.fo (W.seq (W.rg (SL.mv rfl rfl ?_)))
          refine SL.val (O.lenE (SlOf.own rfl rfl) (by first | exact List.length_map _ | rfl) Try.underlying39 rfl Taken.no) ?_
          refine SL.mv rfl rfl (E.fo ?_)
          refine W.pick (K:=[(0,_),(1,_),(5,_),(6,_),(7,_),(8,_),(11,_),(12,_),(134,_),(135,_),(136,_)]) (Z:=[(101,_),(119,_),(120,_),(121,_)]) ⟨rfl,rfl,rfl,rfl,rfl,rfl,rfl,rfl,rfl,rfl,rfl,trivial⟩ ⟨rfl,rfl,rfl,rfl,trivial⟩ ?_
          refine W.block ?_
          refine W.adoptC 121 1 132 3 1 (is' := [_, _]) (by decide) rfl rfl rfl rfl rfl ?_
          refine W.loopx1 (fun (k : Nat) => [(136, vI (k : Int))]) (fun (k : Nat) => [(130, .data 3 1 (((thereL m (t : Int)) ++ ((unitsL m m[f]!).take k).filter (fun u => decide (atm[u]! = f))).map eN)), (131, .data 3 1 ((((unitsL m m[f]!).take k).filter (fun u => !decide (atm[u]! = f))).map eN)), (121, .cells 106 [.own 130, .own 131])]) (fun (k : Nat) => k ≤ (unitsL m m[f]!).length) (fun (k : Nat) => (unitsL m m[f]!).length - k) (0) (rn [(130, 120), (131, 132)]) (.cons (t := 0) rfl (.cons (t := 1) rfl (.cons (t := 5) rfl (.cons (t := 6) rfl (.cons (t := 7) rfl (.cons (t := 8) rfl (.cons (t := 11) rfl (.cons (t := 12) rfl (.cons (t := 134) rfl (.cons (t := 135) rfl .nil)))))))))) (.cons (t := 101) rfl (.cons (t := 119) rfl .nil)) rfl ?_ ?_ rfl rfl ?_ ?_
          · exact (SubF.cons rfl SubF.nil)
          · exact (SubS.val rfl (by exact sb_data (by rw [List.take_zero, List.filter_nil, List.append_nil, there_nat])) (SubS.val rfl (by exact sb_data (by rw [List.take_zero, List.filter_nil]; rfl)) (SubS.cons rfl SubS.nil)))
          ·skip
           omega
          intro k hinv
          have hk := hinv
          have hf0 := List.length_filter_le (fun u => decide (atm[u]! = f)) ((unitsL m m[f]!).take k)
          have hf1 := List.length_filter_le (fun u => !decide (atm[u]! = f)) ((unitsL m m[f]!).take k)
          rw [List.length_take] at hf0 hf1
          have hthl := there_len m (t : Int)
          refine W.rg ?_
          refine SL.val (O.det (fun _ => G.R.lss rfl rfl) rfl Taken.no) ?_
          refine E.fo (W.seq ?_)
          first | refine W.cond_d rfl (fun hc32 => ?_) (fun hc32 => ?_) | refine W.cond_nd rfl (fun hc32 => ?_) (fun hc32 => ?_) | refine W.cond rfl (fun hc32 => ?_) (fun hc32 => ?_)
          ·skip
           have hHk := hHn (unitsL m m[f]!)[k]! (mem_at (by omega))
           refine W.skip (E.to (W.seq (W.block (W.rg ?_))))
           refine SL.val (O.idx_own (i := k) rfl rfl rfl (rfl) (by rw [List.length_map]; omega) Try.underlying39 hi3 hs3 rfl Taken.no) ?_
           refine SL.val (O.ld1 (PtI.ofU (PtU.el rfl rfl (row_get (by omega)))) rfl Try.underlying3 rfl rfl Taken.no) ?_
           refine SL.an rfl rfl (E.fo (W.rg (SL.an rfl rfl (E.fo (W.seq (W.seq ?_))))))
           refine W.draw [⟨[], [], [], []⟩, ⟨[], [], [], []⟩, ⟨[], [], [], []⟩, ⟨[], [], [], []⟩, ⟨[], [], [], []⟩, ⟨[], [], [], []⟩, ⟨[], [], [], []⟩, ⟨[], [], [], [101]⟩, ⟨[101], [], [], []⟩, ⟨[], [], [], []⟩] rfl (by kernel_rfl) (by kernel_rfl) rfl rfl ?_
           refine WH.mv rfl rfl rfl ?_
           refine WH.val (O.nilCheck rfl rfl rfl Taken.no) rfl rfl ?_
           refine WH.val (O.fld_fz rfl Try.underlying78 rfl (m := 0) (by kernel_rfl) rfl rfl Taken.no) rfl rfl ?_
           refine WH.val (O.ld1 (PtI.ofU (PtU.fz rfl)) rfl Try.underlying39 rfl rfl Taken.no) rfl rfl ?_
           refine WH.mv rfl rfl rfl ?_
           refine WH.val (O.idx_fz (i := ((unitsL m m[f]!)[k]!)) rfl rfl (rfl) (row_get (by omega)) Try.underlying39 hi3 hs3 rfl Taken.no) rfl rfl ?_
           refine WH.val (O.ld1 (PtI.ofU (PtU.fz rfl)) rfl Try.underlying3 rfl rfl Taken.no) rfl rfl ?_
           refine WH.val (O.fld_ref (o' := 1) rfl Try.underlying55 rfl (m := 0) (by kernel_rfl) rfl rfl Taken.no) rfl rfl ?_
           refine WH.val (O.ld1 (PtI.ref rfl rfl) rfl Try.underlying3 rfl rfl Taken.no) rfl rfl ?_
           refine WH.val (O.det (fun _ => G.R.eql rfl rfl) rfl Taken.no) rfl rfl ?_
           refine WH.nil (E.to ?_)
           refine W.pick (K:=[(0,_),(1,_),(5,_),(6,_),(7,_),(8,_),(11,_),(12,_),(14,_),(15,_),(134,_),(135,_),(136,_),(149,_)]) (Z:=[(101,_),(119,_),(121,_),(130,_),(131,_)]) ⟨rfl,rfl,rfl,rfl,rfl,rfl,rfl,rfl,rfl,rfl,rfl,rfl,rfl,rfl,trivial⟩ ⟨rfl,rfl,rfl,rfl,rfl,trivial⟩ ?_
           first | refine W.cond_d rfl (fun hc33 => ?_) (fun hc33 => ?_) | refine W.cond_nd rfl (fun hc33 => ?_) (fun hc33 => ?_) | refine W.cond rfl (fun hc33 => ?_) (fun hc33 => ?_)
           ·skip
            have hp0 : (fun u => decide (atm[u]! = f)) (unitsL m m[f]!)[k]! = true := decide_eq_true (by omega)
            have hp1 : (fun u => !decide (atm[u]! = f)) (unitsL m m[f]!)[k]! = false := by show (!decide _) = false; rw [decide_eq_true (by omega)]; rfl
            refine W.region (SL.an rfl rfl (E.fo (W.region (SL.mv rfl rfl (SL.mv rfl rfl ?_)))))
            refine SL.val (O.idx_ref (i := 0) (m := 1) rfl rfl (rfl) (by decide) Try.underlying106 (by kernel_rfl) rfl rfl Taken.no) ?_
            refine SL.val (O.ld1 (PtI.ref rfl rfl) rfl Try.underlying39 rfl rfl Taken.no) ?_
            refine SL.mv rfl rfl ?_
            refine SL.memS (O.buildSlice 133 (rows := [(unitsL m m[f]!)[k]!].map eN) rfl rfl Try.underlying39 hi3 hz3 hs3 (by decide) rfl (by decide) rfl rfl rfl Taken.no) rfl rfl (S' := (133, .data 3 1 ([(unitsL m m[f]!)[k]!].map eN)) :: _) rfl ?_
            refine SL.memS (O.app (k' := 134) rfl rfl (SlOf.own rfl rfl) Try.underlying39 hi3 hz3 hs3 rfl rfl (by exact app_map) (by rw [hb3]; (simp only [List.length_map, List.length_singleton, List.length_append]; omega)) (by (simp only [List.length_map, List.length_singleton, List.length_append]; omega)) rfl Taken.no) rfl rfl (S' := (134, _) :: (130, .dead) :: _) rfl ?_
            refine SL.val (O.idx_ref (i := 0) (m := 1) rfl rfl (rfl) (by decide) Try.underlying106 (by kernel_rfl) rfl rfl Taken.no) ?_
            refine SL.effS (O.st_ref (m := 1) rfl rfl rfl (js := [_]) rfl rfl (by kernel_rfl) (by simp) (Nat.le_of_ble_eq_true rfl) rfl (is' := [_, _]) rfl Taken.no) (S' := (121, _) :: _) rfl ?_
            refine SL.nil (E.inn (E.to (W.region ?_)))
            refine SL.val (O.det (fun _ => by first | exact G.R.add64 rfl rfl (by omega) | exact G.R.add rfl rfl) rfl Taken.no) ?_
            refine SL.mv rfl rfl (SL.nil ?_)
            refine E.again ((k + 1)) (rn [(130, 134)]) ?_ ?_ rfl (fixL_spec rfl) ?_ ?_
            · exact (SubF.cons rfl (SubF.cons rfl (SubF.cons rfl (SubF.cons rfl (SubF.cons rfl (SubF.cons rfl (SubF.cons rfl (SubF.cons rfl (SubF.cons rfl (SubF.cons rfl (SubF.cons rfl SubF.nil)))))))))))
            · exact (SubS.val rfl (by (try dsimp only); first | exact sb_data (by rw [filt_y (by omega) hp0, ← List.append_assoc]) | exact sb_data (by rw [filt_n (by omega) hp0])) (SubS.val rfl (by (try dsimp only); first | exact sb_data (by rw [filt_n (by omega) hp1]) | exact sb_data (by rw [filt_y (by omega) hp1])) (SubS.cons rfl (SubS.cons rfl (SubS.cons rfl SubS.nil)))))
            ·try dsimp only
             omega
            · (try dsimp only); omega
           ·skip
            have hp0 : (fun u => decide (atm[u]! = f)) (unitsL m m[f]!)[k]! = false := decide_eq_false (by omega)
            have hp1 : (fun u => !decide (atm[u]! = f)) (unitsL m m[f]!)[k]! = true := by show (!decide _) = true; rw [decide_eq_false (by omega)]; rfl
            refine W.skip (E.to (W.region (SL.mv rfl rfl (SL.mv rfl rfl ?_))))
            refine SL.val (O.idx_ref (i := 1) (m := 1) rfl rfl (rfl) (by decide) Try.underlying106 (by kernel_rfl) rfl rfl Taken.no) ?_
            refine SL.val (O.ld1 (PtI.ref rfl rfl) rfl Try.underlying39 rfl rfl Taken.no) ?_
            refine SL.mv rfl rfl ?_
            refine SL.memS (O.buildSlice 135 (rows := [(unitsL m m[f]!)[k]!].map eN) rfl rfl Try.underlying39 hi3 hz3 hs3 (by decide) rfl (by decide) rfl rfl rfl Taken.no) rfl rfl (S' := (135, .data 3 1 ([(unitsL m m[f]!)[k]!].map eN)) :: _) rfl ?_
            refine SL.memS (O.app (k' := 136) rfl rfl (SlOf.own rfl rfl) Try.underlying39 hi3 hz3 hs3 rfl rfl (by exact app_map) (by rw [hb3]; (simp only [List.length_map, List.length_singleton]; omega)) (by (simp only [List.length_map, List.length_singleton]; omega)) rfl Taken.no) rfl rfl (S' := (136, _) :: (131, .dead) :: _) rfl ?_
            refine SL.val (O.idx_ref (i := 1) (m := 1) rfl rfl (rfl) (by decide) Try.underlying106 (by kernel_rfl) rfl rfl Taken.no) ?_
            refine SL.effS (O.st_ref (m := 1) rfl rfl rfl (js := [_]) rfl rfl (by kernel_rfl) (by simp) (Nat.le_of_ble_eq_true rfl) rfl (is' := [_, _]) rfl Taken.no) (S' := (121, _) :: _) rfl ?_
            refine SL.nil (E.inn (E.to (W.region ?_)))
            refine SL.val (O.det (fun _ => by first | exact G.R.add64 rfl rfl (by omega) | exact G.R.add rfl rfl) rfl Taken.no) ?_
            refine SL.mv rfl rfl (SL.nil ?_)
            refine E.again ((k + 1)) (rn [(131, 136)]) ?_ ?_ rfl (fixL_spec rfl) ?_ ?_
            · exact (SubF.cons rfl (SubF.cons rfl (SubF.cons rfl (SubF.cons rfl (SubF.cons rfl (SubF.cons rfl (SubF.cons rfl (SubF.cons rfl (SubF.cons rfl (SubF.cons rfl (SubF.cons rfl SubF.nil)))))))))))
            · exact (SubS.val rfl (by (try dsimp only); first | exact sb_data (by rw [filt_y (by omega) hp0, ← List.append_assoc]) | exact sb_data (by rw [filt_n (by omega) hp0])) (SubS.val rfl (by (try dsimp only); first | exact sb_data (by rw [filt_n (by omega) hp1]) | exact sb_data (by rw [filt_y (by omega) hp1])) (SubS.cons rfl (SubS.cons rfl (SubS.cons rfl SubS.nil)))))
            ·try dsimp only
             omega
            · (try dsimp only); omega
          ·skip
           refine W.exit (E.th (E.th (E.hit (E.to (W.rg ?_)))))
           refine SL.val (O.fld_ref (o' := 2) rfl Try.underlying55 rfl (m := 0) (by kernel_rfl) rfl rfl Taken.no) ?_
           refine SL.val (O.ld1 (PtI.ref rfl rfl) rfl Try.underlying3 rfl rfl Taken.no) ?_
           refine SL.val (O.det (fun _ => G.R.mv (G.R.eql rfl rfl) (congrArg Value.bool (decide_eq_false (by omega)))) rfl Taken.no) ?_
           refine SL.mv rfl rfl ?_
           have hg34 : false ≠ true := by decide
           refine SL.sk rfl rfl rfl hg34 (SL.sk rfl rfl rfl hg34 (SL.sk rfl rfl rfl hg34 (SL.sk rfl rfl rfl hg34 ?_)))
           refine SL.val (O.pick_f rfl rfl rfl rfl Taken.no) ?_
           refine E.fo ?_
           refine W.cond_f rfl ?_
           refine W.skip (E.to (W.seq ?_))
           refine W.freezeC 121 0 130 (is' := [_, _]) rfl rfl rfl rfl ?_
           refine W.freezeC 121 1 131 (is' := [_, _]) rfl rfl rfl rfl ?_
           refine W.region ?_
           have hkH : k = (unitsL m m[f]!).length := by omega
           obtain ⟨s, hs⟩ : ∃ s : Stp, s = ⟨false, (f : Int), (t : Int)⟩ := ⟨_, rfl⟩
           have hfe : s.f.toNat = f := by rw [hs]; rfl
           have hth : thereL m s.t = unitsL m t := by rw [hs]; exact there_nat m t
           have hg0 : ((thereL m (t : Int)) ++ ((unitsL m m[f]!).take k).filter (fun u => decide (atm[u]! = f))) = g0L m atm s := by rw [hkH, List.take_length, hs]; rfl
           have hg1 : (((unitsL m m[f]!).take k).filter (fun u => !decide (atm[u]! = f))) = g1L m atm s := by rw [hkH, List.take_length, hs]; rfl
           have hpre : preF n atm m s := by rw [hs]; exact ⟨⟨by show (0 : Int) ≤ f; omega, by show (f : Int) < n; omega, by show (t : Int) < (n : Int); omega, by show -1 ≤ (t : Int); omega, fun h => rfl⟩, fun h => ⟨by show m[t]! = t; omega, by show m[f]! ≠ t; omega⟩, fun h => (by cases h), fun h => ⟨by show atm[f]! = f; omega, fun h => by exfalso; have h2 : (t : Int) < 0 := h; omega⟩⟩
           have hgb := g_b (atm := atm) (s := s) hml
           have hl0 : (partsL lk (g0L m atm s)).length ≤ (g0L m atm s).length := partsN_len
           have hl1 : (partsL lk (g1L m atm s)).length ≤ (g1L m atm s).length := partsN_len
           rw [hg0]
           refine SL.mv rfl rfl ?_
           refine SL.memS (O.call (rn [(0, 137)]) [] rfl rfl rfl (clone_h (rows := m.map eN) (by rw [List.length_map]; omega)) (.cons (ArgOk.same rfl) .nil) SubS.nil rfl rfl rfl rfl rfl (.inl rfl) hcallOk39 (r' := .own 137) rfl rfl Taken.no) rfl rfl (S' := (137, .data _ _ _) :: _) rfl ?_
           refine SL.memS (O.alloc (z := .slice none 0 0) (is := [.u (.sc (.slice none 0 0))]) 138 (by kernel_rfl) rfl rfl rfl Taken.no) rfl rfl (S' := (138, _) :: _) rfl ?_
           refine SL.effS (O.st_ref (m := 1) rfl rfl rfl (js := [_]) rfl rfl (by kernel_rfl) (by simp) (Nat.le_of_ble_eq_true rfl) rfl (is' := [_]) rfl Taken.no) (S' := (138, _) :: _) rfl ?_
           refine E.fo (W.seq (W.rg ?_))
           refine SL.val (O.idx_ref (i := 0) (m := 1) rfl rfl (rfl) (by decide) Try.underlying106 (by kernel_rfl) rfl rfl Taken.no) ?_
           refine SL.val (O.ld1 (PtI.ref rfl rfl) rfl Try.underlying39 rfl rfl Taken.no) ?_
           refine SL.val (O.lenE (SlOf.fz rfl (by decide)) (by first | exact List.length_map _ | rfl) Try.underlying39 rfl Taken.no) ?_
           refine SL.mv rfl rfl (E.fo ?_)
           refine W.pick (K:=[(0,_),(6,_),(7,_),(8,_),(11,_),(12,_),(16,_),(171,_),(172,_),(173,_)]) (Z:=[(101,_),(119,_),(121,_),(137,_),(138,_)]) ⟨rfl,rfl,rfl,rfl,rfl,rfl,rfl,rfl,rfl,rfl,trivial⟩ ⟨rfl,rfl,rfl,rfl,rfl,trivial⟩ ?_
           refine W.block ?_
           refine W.loopx1 (fun (j : Nat) => [(173, vI (j : Int))]) (fun (j : Nat) => [(139, .data 3 1 ((setAll (m.map (fun x : Nat => (x : Int))) ((g0L m atm s).take j) (-1)).map eI)), (138, .cells 39 [.own 139])]) (fun (j : Nat) => j ≤ (g0L m atm s).length) (fun (j : Nat) => (g0L m atm s).length - j) (0) (rn [(139, 137)]) (.cons (t := 0) rfl (.cons (t := 6) rfl (.cons (t := 7) rfl (.cons (t := 8) rfl (.cons (t := 11) rfl (.cons (t := 12) rfl (.cons (t := 16) rfl (.cons (t := 171) rfl (.cons (t := 172) rfl .nil))))))))) (.cons (t := 101) rfl (.cons (t := 119) rfl (.cons (t := 121) rfl .nil))) rfl ?_ ?_ rfl rfl ?_ ?_
           · exact (SubF.cons rfl SubF.nil)
           · exact (SubS.val rfl (by exact sb_data (by rw [List.take_zero]; exact (eI_eN m).symm)) (SubS.cons rfl SubS.nil))
           ·skip
            omega
           intro j hinv
           have hj := hinv
           have hnl : (setAll (m.map (fun x : Nat => (x : Int))) ((g0L m atm s).take j) (-1)).length = n := by rw [setAll_len, List.length_map]; exact hml
           refine W.rg ?_
           refine SL.val (O.det (fun _ => G.R.lss rfl rfl) rfl Taken.no) ?_
           refine E.fo (W.seq ?_)
           first | refine W.cond_d rfl (fun hc35 => ?_) (fun hc35 => ?_) | refine W.cond_nd rfl (fun hc35 => ?_) (fun hc35 => ?_) | refine W.cond rfl (fun hc35 => ?_) (fun hc35 => ?_)
           ·skip
            have hGj := hgb.2.1 (g0L m atm s)[j]! (mem_at (by omega))
            refine W.skip (E.to (W.seq (W.block (W.rg ?_))))
            refine SL.val (O.idx_fz (i := j) rfl rfl (rfl) (row_get (by omega)) Try.underlying39 hi3 hs3 rfl Taken.no) ?_
            refine SL.val (O.ld1 (PtI.ofU (PtU.fz rfl)) rfl Try.underlying3 rfl rfl Taken.no) ?_
            refine SL.an rfl rfl (E.fo (W.region ?_))
            refine SL.val (O.ld1 (PtI.ref rfl rfl) rfl Try.underlying39 rfl rfl Taken.no) ?_
            refine SL.mv rfl rfl ?_
            refine SL.val (O.idx_own (i := ((g0L m atm s)[j]!)) rfl rfl rfl (rfl) (by rw [List.length_map]; omega) Try.underlying39 hi3 hs3 rfl Taken.no) ?_
            refine SL.effS (O.st_els (m := 1) rfl rfl rfl (us := [_]) rfl rfl (by kernel_rfl) (by simp) (row_get (by omega)) (by exact Nat.le_of_ble_eq_true rfl) rfl rfl (rows' := ((setAll (m.map (fun x : Nat => (x : Int))) ((g0L m atm s).take j) (-1)).set ((g0L m atm s)[j]!) (-1)).map eI) (by exact set_map rfl) Taken.no) (S' := (139, _) :: _) rfl ?_
            refine SL.nil (E.inn (E.to (W.region ?_)))
            refine SL.val (O.det (fun _ => by first | exact G.R.add64 rfl rfl (by omega) | exact G.R.add rfl rfl) rfl Taken.no) ?_
            refine SL.mv rfl rfl (SL.nil ?_)
            refine E.again ((j + 1)) (rn []) ?_ ?_ rfl (fixL_spec rfl) ?_ ?_
            · exact (SubF.cons rfl (SubF.cons rfl (SubF.cons rfl (SubF.cons rfl (SubF.cons rfl (SubF.cons rfl (SubF.cons rfl (SubF.cons rfl (SubF.cons rfl (SubF.cons rfl SubF.nil))))))))))
            · exact (SubS.val rfl (by (try dsimp only); exact sb_data (by rw [setAll_sG (by omega)])) (SubS.cons rfl (SubS.cons rfl (SubS.cons rfl (SubS.cons rfl SubS.nil)))))
            ·try dsimp only
             omega
            · (try dsimp only); omega
           ·skip
            refine W.exit (E.th (E.th (E.hit (E.to (W.seq (W.seq ?_))))))
            have hjG : j = (g0L m atm s).length := by omega
            rw [hjG, List.take_length]
            refine W.region (SL.mv rfl rfl ?_)
            refine SL.val (O.nilCheck rfl rfl rfl Taken.no) ?_
            refine SL.val (O.fld_fz rfl Try.underlying78 rfl (m := 0) (by kernel_rfl) rfl rfl Taken.no) ?_
            refine SL.val (O.ld1 (PtI.ofU (PtU.fz rfl)) rfl Try.underlying23 rfl rfl Taken.no) ?_
            refine SL.val (O.makeFunc rfl rfl rfl Taken.no) ?_
            refine SL.memS (O.call (rn [(0, 138), (1, 139)]) [] rfl rfl rfl (containsFuncN (nm := (nm0 m atm s)) (q := bar) (by rw [nm0_len, hml]; exact hb)) (.cons (ArgOk.same rfl) (.cons (ArgOk.same rfl) .nil)) (SubS.cons rfl (SubS.cons rfl SubS.nil)) rfl rfl rfl rfl rfl (.inl rfl) hcallOk63 (r' := .u _) rfl rfl Taken.no) rfl rfl (S' := (138, .cells _ [.own 139]) :: (139, .data _ _ _) :: _) rfl ?_
            refine E.fo ?_
            first | refine W.cond_d rfl (fun hc36 => ?_) (fun hc36 => ?_) | refine W.cond_nd rfl (fun hc36 => ?_) (fun hc36 => ?_) | refine W.cond rfl (fun hc36 => ?_) (fun hc36 => ?_)
            ·skip
             refine W.rg (SL.an rfl rfl (SL.an rfl rfl (SL.an rfl rfl (E.fo (W.ret (E.thr ?_))))))
             refine E.nilsl 6 1 rfl ?_
             refine E.fin (rs := [_, _, _]) (rn []) (.inl rfl) rfl (.cons (ResOne.tmp rfl) (.cons (ResOne.tmp rfl) (.cons (ResOne.tmp rfl) .nil))) ?_ ?_ rfl (fixL_spec rfl)
             ·skip
              have hcl : bar.any (nmHit (nm0 m atm s)) = true := by assumption
              have hno : ¬ posF n bar atm m s := fun q => by rw [hit_eq hml hb, q.2] at hcl; cases hcl
              rw [← hs, apN_n hno, apG_n hno, dec_f hno]; rfl
             · exact SubS.nil
            ·skip
             refine W.skip (E.to (W.rg (SL.an rfl rfl (E.fo (W.seq (W.rg ?_))))))
             have hcl : bar.any (nmHit (nm0 m atm s)) = false := by first | assumption | simp_all
             have hL : ∀ p ∈ gL lk m atm s, p.length ≤ 1000 := fun p hp => by rcases List.mem_append.1 hp with z | z <;> (have := (partsN_units z).2.1; omega)
             refine SL.val (O.ldN (m := 2) (PtI.ref rfl rfl) (js := [_, _]) rfl (Nat.le_of_ble_eq_true rfl) Try.underlying106 rfl (by kernel_rfl) rfl Taken.no) ?_
             refine SL.mv rfl rfl (E.fo (W.block ?_))
             refine W.unroll ?_
             refine W.rg ?_
             refine SL.val (O.det (fun _ => G.R.mv (G.R.lss rfl rfl) (congrArg Value.bool (decide_eq_true (by decide)))) rfl Taken.no) ?_
             refine E.fo (W.seq ?_)
             refine W.cond_t rfl ?_
             refine W.skip (E.to (W.seq (W.block (W.rg ?_))))
             refine SL.val (O.idxval (i := 0) rfl rfl (by rfl) (by decide) (by rfl) Try.underlying106 (by kernel_rfl) Try.underlying39 rfl rfl Taken.no) ?_
             refine SL.an rfl rfl (E.fo (W.rg (SL.mv rfl rfl (SL.mv rfl rfl ?_))))
             refine SL.val (O.nilCheck rfl rfl rfl Taken.no) ?_
             refine SL.val (O.fld_fz rfl Try.underlying78 rfl (m := 0) (by kernel_rfl) rfl rfl Taken.no) ?_
             refine SL.val (O.ld1 (PtI.ofU (PtU.fz rfl)) rfl Try.underlying76 rfl rfl Taken.no) ?_
             refine SL.val (O.callp rfl rfl rfl (parts_h (n := n) (us := (g0L m atm s)) (by omega) hgb.2.1) (.cons (ArgOk.same rfl) (.cons (ArgOk.same rfl) .nil)) hcallOk42 rfl Taken.no) ?_
             refine SL.val (O.lenE (SlOf.fz rfl (by decide)) (by first | exact List.length_map _ | rfl) Try.underlying75 rfl Taken.no) ?_
             refine SL.mv rfl rfl (E.fo ?_)
             refine W.pick (K:=[(0,_),(6,_),(7,_),(8,_),(11,_),(16,_),(19,_),(21,_),(187,_),(188,_),(189,_),(190,_),(191,_),(192,_),(193,_),(194,_),(195,_),(196,_),(197,_),(198,_)]) (Z:=[(101,_),(119,_),(121,_),(138,_),(139,_)]) ⟨rfl,rfl,rfl,rfl,rfl,rfl,rfl,rfl,rfl,rfl,rfl,rfl,rfl,rfl,rfl,rfl,rfl,rfl,rfl,rfl,trivial⟩ ⟨rfl,rfl,rfl,rfl,rfl,trivial⟩ ?_
             refine W.block ?_
             refine W.loopx1 (fun (p : Nat) => [(198, vI (p : Int)), (19, vI (sumV wt ((partsL lk (g0L m atm s)).take p)))]) (fun (p : Nat) => [(140, .data 3 1 ((nameF (fun x : Nat => (x : Int)) (nm0 m atm s) ((partsL lk (g0L m atm s)).take p)).map eI)), (138, .cells 39 [.own 140])]) (fun (p : Nat) => p ≤ (partsL lk (g0L m atm s)).length) (fun (p : Nat) => (partsL lk (g0L m atm s)).length - p) (0) (rn [(140, 139)]) (.cons (t := 0) rfl (.cons (t := 6) rfl (.cons (t := 7) rfl (.cons (t := 8) rfl (.cons (t := 11) rfl (.cons (t := 16) rfl (.cons (t := 21) rfl (.cons (t := 187) rfl (.cons (t := 188) rfl (.cons (t := 189) rfl (.cons (t := 190) rfl (.cons (t := 191) rfl (.cons (t := 192) rfl (.cons (t := 193) rfl (.cons (t := 194) rfl (.cons (t := 195) rfl (.cons (t := 196) rfl (.cons (t := 197) rfl .nil)))))))))))))))))) (.cons (t := 101) rfl (.cons (t := 119) rfl (.cons (t := 121) rfl .nil))) rfl ?_ ?_ rfl rfl ?_ ?_
             · exact (SubF.cons rfl (SubF.val rfl (by exact iv_int rfl) SubF.nil))
             · exact (SubS.val rfl (by exact sb_data (by rw [List.take_zero]; rfl)) (SubS.cons rfl SubS.nil))
             ·skip
              omega
             intro p hinv
             have hp := hinv
             have hpl : ((partsL lk (g0L m atm s)).take p).length ≤ 400 := by (try rw [List.length_append]); rw [List.length_take]; omega
             have hvb := sumV_b2 hw (L := ((partsL lk (g0L m atm s)).take p)) (fun p hp => hL p (List.mem_append_left _ (List.mem_of_mem_take hp)))
             refine W.rg ?_
             refine SL.val (O.det (fun _ => G.R.lss rfl rfl) rfl Taken.no) ?_
             refine E.fo (W.seq ?_)
             first | refine W.cond_d rfl (fun hc37 => ?_) (fun hc37 => ?_) | refine W.cond_nd rfl (fun hc37 => ?_) (fun hc37 => ?_) | refine W.cond rfl (fun hc37 => ?_) (fun hc37 => ?_)
             ·skip
              have hpu := partsN_units (mem_at (l := (partsL lk (g0L m atm s))) (i := p) (by omega))
              have hvp := valF_b hw (l := ((partsL lk (g0L m atm s))[p]!)) (by omega)
              refine W.skip (E.to (W.seq (W.block (W.rg ?_))))
              refine SL.val (O.idx_fz (i := p) rfl rfl (rfl) (row_get (by omega)) Try.underlying75 hi39 hs39 rfl Taken.no) ?_
              refine SL.val (O.ld1 (PtI.ofU (PtU.fz rfl)) rfl Try.underlying39 rfl rfl Taken.no) ?_
              refine SL.an rfl rfl (E.fo (W.rg (SL.mv rfl rfl (SL.mv rfl rfl (SL.mv rfl rfl ?_)))))
              refine SL.val (O.callp rfl rfl rfl (value_h (l := ((partsL lk (g0L m atm s))[p]!)) hw (by omega) (fun u hu => hgb.2.1 u (hpu.2.2 u hu))) (.cons (ArgOk.same rfl) (.cons (ArgOk.same rfl) .nil)) hcallOk45 rfl Taken.no) ?_
              refine SL.val (O.det (fun _ => by first | exact G.R.add64 rfl rfl (by omega) | exact G.R.add rfl rfl) rfl Taken.no) ?_
              refine SL.an rfl rfl (E.fo ?_)
              refine W.pick (K:=[(0,_),(6,_),(7,_),(8,_),(11,_),(16,_),(19,_),(21,_),(23,_),(187,_),(188,_),(189,_),(190,_),(191,_),(192,_),(193,_),(194,_),(195,_),(196,_),(197,_),(198,_),(199,_),(200,_),(201,_),(202,_),(203,_),(204,_),(205,_),(206,_)]) (Z:=[(101,_),(119,_),(121,_),(138,_),(140,_)]) ⟨rfl,rfl,rfl,rfl,rfl,rfl,rfl,rfl,rfl,rfl,rfl,rfl,rfl,rfl,rfl,rfl,rfl,rfl,rfl,rfl,rfl,rfl,rfl,rfl,rfl,rfl,rfl,rfl,rfl,trivial⟩ ⟨rfl,rfl,rfl,rfl,rfl,trivial⟩ ?_
              refine W.rg (SL.mv rfl rfl ?_)
              refine SL.val (O.lenE (SlOf.fz rfl (by decide)) (by first | exact List.length_map _ | rfl) Try.underlying39 rfl Taken.no) ?_
              refine SL.mv rfl rfl (E.fo ?_)
              refine W.pick (K:=[(0,_),(6,_),(7,_),(8,_),(11,_),(16,_),(19,_),(21,_),(23,_),(187,_),(188,_),(189,_),(190,_),(191,_),(192,_),(193,_),(194,_),(195,_),(196,_),(197,_),(198,_),(199,_),(200,_),(201,_),(202,_),(203,_),(204,_),(205,_),(206,_),(207,_),(208,_),(209,_)]) (Z:=[(101,_),(119,_),(121,_),(138,_),(140,_)]) ⟨rfl,rfl,rfl,rfl,rfl,rfl,rfl,rfl,rfl,rfl,rfl,rfl,rfl,rfl,rfl,rfl,rfl,rfl,rfl,rfl,rfl,rfl,rfl,rfl,rfl,rfl,rfl,rfl,rfl,rfl,rfl,rfl,trivial⟩ ⟨rfl,rfl,rfl,rfl,rfl,trivial⟩ ?_
              refine W.block ?_
              refine W.loopx1 (fun (j : Nat) => [(209, vI (j : Int))]) (fun (j : Nat) => [(141, .data 3 1 ((setAll (nameF (fun x : Nat => (x : Int)) (nm0 m atm s) ((partsL lk (g0L m atm s)).take p)) (((partsL lk (g0L m atm s))[p]!).take j) ((minL ((partsL lk (g0L m atm s))[p]!) : Nat) : Int)).map eI)), (138, .cells 39 [.own 141])]) (fun (j : Nat) => j ≤ ((partsL lk (g0L m atm s))[p]!).length) (fun (j : Nat) => ((partsL lk (g0L m atm s))[p]!).length - j) (0) (rn [(141, 140)]) (.cons (t := 0) rfl (.cons (t := 6) rfl (.cons (t := 7) rfl (.cons (t := 8) rfl (.cons (t := 11) rfl (.cons (t := 16) rfl (.cons (t := 19) rfl (.cons (t := 21) rfl (.cons (t := 23) rfl (.cons (t := 187) rfl (.cons (t := 188) rfl (.cons (t := 189) rfl (.cons (t := 190) rfl (.cons (t := 191) rfl (.cons (t := 192) rfl (.cons (t := 193) rfl (.cons (t := 194) rfl (.cons (t := 195) rfl (.cons (t := 196) rfl (.cons (t := 197) rfl (.cons (t := 198) rfl (.cons (t := 199) rfl (.cons (t := 200) rfl (.cons (t := 201) rfl (.cons (t := 202) rfl (.cons (t := 203) rfl (.cons (t := 204) rfl (.cons (t := 205) rfl (.cons (t := 206) rfl (.cons (t := 207) rfl (.cons (t := 208) rfl .nil))))))))))))))))))))))))))))))) (.cons (t := 101) rfl (.cons (t := 119) rfl (.cons (t := 121) rfl .nil))) rfl ?_ ?_ rfl rfl ?_ ?_
              · exact (SubF.cons rfl SubF.nil)
              · exact (SubS.val rfl (by exact sb_data (by rw [List.take_zero]; rfl)) (SubS.cons rfl SubS.nil))
              ·skip
               omega
              intro j hinv
              have hj := hinv
              have hnl : (setAll (nameF (fun x : Nat => (x : Int)) (nm0 m atm s) ((partsL lk (g0L m atm s)).take p)) (((partsL lk (g0L m atm s))[p]!).take j) ((minL ((partsL lk (g0L m atm s))[p]!) : Nat) : Int)).length = n := by rw [setAll_len, nameF_len, nm0_len]; exact hml
              refine W.rg ?_
              refine SL.val (O.det (fun _ => G.R.lss rfl rfl) rfl Taken.no) ?_
              refine E.fo ?_
              refine W.pick (K:=[(0,_),(6,_),(7,_),(8,_),(11,_),(16,_),(19,_),(21,_),(23,_),(187,_),(188,_),(189,_),(190,_),(191,_),(192,_),(193,_),(194,_),(195,_),(196,_),(197,_),(198,_),(199,_),(200,_),(201,_),(202,_),(203,_),(204,_),(205,_),(206,_),(207,_),(208,_),(209,_),(210,_)]) (Z:=[(101,_),(119,_),(121,_),(138,_),(141,_)]) ⟨rfl,rfl,rfl,rfl,rfl,rfl,rfl,rfl,rfl,rfl,rfl,rfl,rfl,rfl,rfl,rfl,rfl,rfl,rfl,rfl,rfl,rfl,rfl,rfl,rfl,rfl,rfl,rfl,rfl,rfl,rfl,rfl,rfl,trivial⟩ ⟨rfl,rfl,rfl,rfl,rfl,trivial⟩ ?_
              refine W.seq ?_
              first | refine W.cond_d rfl (fun hc38 => ?_) (fun hc38 => ?_) | refine W.cond_nd rfl (fun hc38 => ?_) (fun hc38 => ?_) | refine W.cond rfl (fun hc38 => ?_) (fun hc38 => ?_)
              ·skip
               have hun := hgb.2.1 _ (hpu.2.2 ((partsL lk (g0L m atm s))[p]!)[j]! (mem_at (by omega)))
               refine W.skip (E.to ?_)
               refine W.pick (K:=[(0,_),(6,_),(7,_),(8,_),(11,_),(16,_),(19,_),(21,_),(23,_),(187,_),(188,_),(189,_),(190,_),(191,_),(192,_),(193,_),(194,_),(195,_),(196,_),(197,_),(198,_),(199,_),(200,_),(201,_),(202,_),(203,_),(204,_),(205,_),(206,_),(207,_),(208,_),(209,_),(210,_)]) (Z:=[(101,_),(119,_),(121,_),(138,_),(141,_)]) ⟨rfl,rfl,rfl,rfl,rfl,rfl,rfl,rfl,rfl,rfl,rfl,rfl,rfl,rfl,rfl,rfl,rfl,rfl,rfl,rfl,rfl,rfl,rfl,rfl,rfl,rfl,rfl,rfl,rfl,rfl,rfl,rfl,rfl,trivial⟩ ⟨rfl,rfl,rfl,rfl,rfl,trivial⟩ ?_
               refine W.seq (W.block (W.rg ?_))
               refine SL.val (O.idx_fz (i := j) rfl rfl (rfl) (row_get (by omega)) Try.underlying39 hi3 hs3 rfl Taken.no) ?_
               refine SL.val (O.ld1 (PtI.ofU (PtU.fz rfl)) rfl Try.underlying3 rfl rfl Taken.no) ?_
               refine SL.an rfl rfl (E.fo ?_)
               refine W.pick (K:=[(0,_),(6,_),(7,_),(8,_),(11,_),(16,_),(19,_),(21,_),(23,_),(25,_),(187,_),(188,_),(189,_),(190,_),(191,_),(192,_),(193,_),(194,_),(195,_),(196,_),(197,_),(198,_),(199,_),(200,_),(201,_),(202,_),(203,_),(204,_),(205,_),(206,_),(207,_),(208,_),(209,_),(210,_),(211,_),(212,_)]) (Z:=[(101,_),(119,_),(121,_),(138,_),(141,_)]) ⟨rfl,rfl,rfl,rfl,rfl,rfl,rfl,rfl,rfl,rfl,rfl,rfl,rfl,rfl,rfl,rfl,rfl,rfl,rfl,rfl,rfl,rfl,rfl,rfl,rfl,rfl,rfl,rfl,rfl,rfl,rfl,rfl,rfl,rfl,rfl,rfl,trivial⟩ ⟨rfl,rfl,rfl,rfl,rfl,trivial⟩ ?_
               refine W.draw [⟨[138], [], [], [141]⟩, ⟨[], [], [], []⟩, ⟨[], [], [], []⟩, ⟨[], [], [], []⟩, ⟨[141], [], [], []⟩, ⟨[141], [141], [], []⟩] rfl (by kernel_rfl) (by kernel_rfl) rfl rfl ?_
               refine WH.val (O.ld1 (PtI.ref rfl rfl) rfl Try.underlying39 rfl rfl Taken.no) rfl rfl ?_
               refine WH.mv rfl rfl rfl (WH.mv rfl rfl rfl ?_)
               refine WH.val (O.callp rfl rfl rfl (min_h (l := ((partsL lk (g0L m atm s))[p]!)) (by omega)) (.cons (ArgOk.same rfl) .nil) hcallOk62 rfl Taken.no) rfl rfl ?_
               refine WH.val (O.idx_own (i := (((partsL lk (g0L m atm s))[p]!)[j]!)) rfl rfl rfl (rfl) (by rw [List.length_map]; omega) Try.underlying39 hi3 hs3 rfl Taken.no) rfl rfl ?_
               refine WH.effS (O.st_els (m := 1) rfl rfl rfl (us := [_]) rfl rfl (by kernel_rfl) (by simp) (row_get (by omega)) (by exact Nat.le_of_ble_eq_true rfl) rfl rfl (rows' := ((setAll (nameF (fun x : Nat => (x : Int)) (nm0 m atm s) ((partsL lk (g0L m atm s)).take p)) (((partsL lk (g0L m atm s))[p]!).take j) ((minL ((partsL lk (g0L m atm s))[p]!) : Nat) : Int)).set (((partsL lk (g0L m atm s))[p]!)[j]!) ((minL ((partsL lk (g0L m atm s))[p]!) : Nat) : Int)).map eI) (by exact set_map rfl) Taken.no) rfl rfl rfl (S' := (141, _) :: _) rfl ?_
               refine WH.nil (E.inn (E.to ?_))
               refine W.pick (K:=[(0,_),(6,_),(7,_),(8,_),(11,_),(16,_),(19,_),(21,_),(23,_),(25,_),(187,_),(188,_),(189,_),(190,_),(191,_),(192,_),(193,_),(194,_),(195,_),(196,_),(197,_),(198,_),(199,_),(200,_),(201,_),(202,_),(203,_),(204,_),(205,_),(206,_),(207,_),(208,_),(209,_),(210,_),(211,_),(212,_),(213,_),(214,_),(215,_),(216,_),(217,_)]) (Z:=[(101,_),(119,_),(121,_),(138,_),(141,_)]) ⟨rfl,rfl,rfl,rfl,rfl,rfl,rfl,rfl,rfl,rfl,rfl,rfl,rfl,rfl,rfl,rfl,rfl,rfl,rfl,rfl,rfl,rfl,rfl,rfl,rfl,rfl,rfl,rfl,rfl,rfl,rfl,rfl,rfl,rfl,rfl,rfl,rfl,rfl,rfl,rfl,rfl,trivial⟩ ⟨rfl,rfl,rfl,rfl,rfl,trivial⟩ ?_
               refine W.region ?_
               refine SL.val (O.det (fun _ => by first | exact G.R.add64 rfl rfl (by omega) | exact G.R.add rfl rfl) rfl Taken.no) ?_
               refine SL.mv rfl rfl (SL.nil ?_)
               refine E.again ((j + 1)) (rn []) ?_ ?_ rfl (fixL_spec rfl) ?_ ?_
               · exact (SubF.cons rfl (SubF.cons rfl (SubF.cons rfl (SubF.cons rfl (SubF.cons rfl (SubF.cons rfl (SubF.cons rfl (SubF.cons rfl (SubF.cons rfl (SubF.cons rfl (SubF.cons rfl (SubF.cons rfl (SubF.cons rfl (SubF.cons rfl (SubF.cons rfl (SubF.cons rfl (SubF.cons rfl (SubF.cons rfl (SubF.cons rfl (SubF.cons rfl (SubF.cons rfl (SubF.cons rfl (SubF.cons rfl (SubF.cons rfl (SubF.cons rfl (SubF.cons rfl (SubF.cons rfl (SubF.cons rfl (SubF.cons rfl (SubF.cons rfl (SubF.cons rfl (SubF.cons rfl SubF.nil))))))))))))))))))))))))))))))))
               · exact (SubS.val rfl (by (try dsimp only); exact sb_data (by rw [setAll_sG (by omega)])) (SubS.cons rfl (SubS.cons rfl (SubS.cons rfl (SubS.cons rfl SubS.nil)))))
               ·try dsimp only
                omega
               · (try dsimp only); omega
              ·skip
               refine W.exit (E.th (E.th (E.hit (E.inn (E.to ?_)))))
               refine W.pick (K:=[(0,_),(6,_),(7,_),(8,_),(11,_),(16,_),(19,_),(21,_),(23,_),(187,_),(188,_),(189,_),(190,_),(191,_),(192,_),(193,_),(194,_),(195,_),(196,_),(197,_),(198,_),(199,_),(200,_),(201,_),(202,_),(203,_),(204,_),(205,_),(206,_),(207,_),(208,_),(209,_),(210,_)]) (Z:=[(101,_),(119,_),(121,_),(138,_),(141,_)]) ⟨rfl,rfl,rfl,rfl,rfl,rfl,rfl,rfl,rfl,rfl,rfl,rfl,rfl,rfl,rfl,rfl,rfl,rfl,rfl,rfl,rfl,rfl,rfl,rfl,rfl,rfl,rfl,rfl,rfl,rfl,rfl,rfl,rfl,trivial⟩ ⟨rfl,rfl,rfl,rfl,rfl,trivial⟩ ?_
               refine W.region ?_
               refine SL.val (O.det (fun _ => by first | exact G.R.add64 rfl rfl (by omega) | exact G.R.add rfl rfl) rfl Taken.no) ?_
               refine SL.mv rfl rfl (SL.nil ?_)
               refine E.again ((p + 1)) (rn [(140, 141)]) ?_ ?_ rfl (fixL_spec rfl) ?_ ?_
               · exact (SubF.cons rfl (SubF.val rfl (by (try dsimp only); exact iv_int (by rw [snocP (l := (partsL lk (g0L m atm s))) (by omega), sumV_snoc])) (SubF.cons rfl (SubF.cons rfl (SubF.cons rfl (SubF.cons rfl (SubF.cons rfl (SubF.cons rfl (SubF.cons rfl (SubF.cons rfl (SubF.cons rfl (SubF.cons rfl (SubF.cons rfl (SubF.cons rfl (SubF.cons rfl (SubF.cons rfl (SubF.cons rfl (SubF.cons rfl (SubF.cons rfl (SubF.cons rfl SubF.nil))))))))))))))))))))
               · exact (SubS.val rfl (by (try dsimp only); exact sb_data (by rw [snocP (l := (partsL lk (g0L m atm s))) (by omega), nameF_snoc, show j = ((partsL lk (g0L m atm s))[p]!).length by omega, List.take_length])) (SubS.cons rfl (SubS.cons rfl (SubS.cons rfl (SubS.cons rfl SubS.nil)))))
               ·try dsimp only
                omega
               · (try dsimp only); omega
             ·skip
              refine W.exit (E.th (E.th (E.hit (E.inn (E.to (W.region ?_))))))
              refine SL.val (O.det (fun _ => by first | exact G.R.add64 rfl rfl (by omega) | exact G.R.add rfl rfl) rfl Taken.no) ?_
              refine SL.mv rfl rfl (SL.nil ?_)
              refine E.reround ?_
              refine W.pick (K:=[(0,_),(6,_),(7,_),(8,_),(11,_),(16,_),(19,_),(21,_),(187,_),(188,_),(189,_),(190,_),(191,_),(192,_),(193,_),(194,_),(195,_),(196,_),(197,_),(198,_),(199,_),(220,_)]) (Z:=[(101,_),(119,_),(121,_),(138,_),(140,_)]) ⟨rfl,rfl,rfl,rfl,rfl,rfl,rfl,rfl,rfl,rfl,rfl,rfl,rfl,rfl,rfl,rfl,rfl,rfl,rfl,rfl,rfl,rfl,trivial⟩ ⟨rfl,rfl,rfl,rfl,rfl,trivial⟩ ?_
              refine W.rg ?_
              refine SL.val (O.det (fun _ => G.R.mv (G.R.lss rfl rfl) (congrArg Value.bool (decide_eq_true (by decide)))) rfl Taken.no) ?_
              refine E.fo (W.seq ?_)
              refine W.cond_t rfl ?_
              refine W.skip (E.to (W.seq (W.block (W.rg ?_))))
              refine SL.val (O.idxval (i := 1) rfl rfl (by rfl) (by decide) (by rfl) Try.underlying106 (by kernel_rfl) Try.underlying39 rfl rfl Taken.no) ?_
              refine SL.an rfl rfl ?_
              refine SL.as (i' := vL 1 ((g1L m atm s).map eN)) 21 rfl (by (rw [← hg1]; try rfl)) ?_
              refine E.fo ?_
              refine W.pick (K:=[(0,_),(6,_),(7,_),(8,_),(11,_),(16,_),(19,_),(21,_),(187,_),(188,_),(189,_),(190,_),(191,_),(192,_),(193,_),(194,_),(195,_),(196,_),(197,_),(198,_),(199,_),(220,_)]) (Z:=[(101,_),(119,_),(121,_),(138,_),(140,_)]) ⟨rfl,rfl,rfl,rfl,rfl,rfl,rfl,rfl,rfl,rfl,rfl,rfl,rfl,rfl,rfl,rfl,rfl,rfl,rfl,rfl,rfl,rfl,trivial⟩ ⟨rfl,rfl,rfl,rfl,rfl,trivial⟩ ?_
              refine W.rg (SL.mv rfl rfl (SL.mv rfl rfl ?_))
              refine SL.val (O.nilCheck rfl rfl rfl Taken.no) ?_
              refine SL.val (O.fld_fz rfl Try.underlying78 rfl (m := 0) (by kernel_rfl) rfl rfl Taken.no) ?_
              refine SL.val (O.ld1 (PtI.ofU (PtU.fz rfl)) rfl Try.underlying76 rfl rfl Taken.no) ?_
              refine SL.val (O.callp rfl rfl rfl (parts_h (n := n) (us := (g1L m atm s)) (by omega) hgb.2.2) (.cons (ArgOk.same rfl) (.cons (ArgOk.same rfl) .nil)) hcallOk42 rfl Taken.no) ?_
              refine SL.val (O.lenE (SlOf.fz rfl (by decide)) (by first | exact List.length_map _ | rfl) Try.underlying75 rfl Taken.no) ?_
              refine SL.mv rfl rfl (E.fo ?_)
              refine W.pick (K:=[(0,_),(6,_),(7,_),(8,_),(11,_),(16,_),(19,_),(21,_),(187,_),(188,_),(189,_),(190,_),(191,_),(192,_),(193,_),(194,_),(195,_),(196,_),(197,_),(198,_),(199,_),(220,_)]) (Z:=[(101,_),(119,_),(121,_),(138,_),(140,_)]) ⟨rfl,rfl,rfl,rfl,rfl,rfl,rfl,rfl,rfl,rfl,rfl,rfl,rfl,rfl,rfl,rfl,rfl,rfl,rfl,rfl,rfl,rfl,trivial⟩ ⟨rfl,rfl,rfl,rfl,rfl,trivial⟩ ?_
              refine W.block ?_
              refine W.loopx1 (fun (q : Nat) => [(198, vI (q : Int)), (19, vI (sumV wt ((partsL lk (g0L m atm s)) ++ (partsL lk (g1L m atm s)).take q)))]) (fun (q : Nat) => [(142, .data 3 1 ((nameF (fun x : Nat => (x : Int)) (nm0 m atm s) ((partsL lk (g0L m atm s)) ++ (partsL lk (g1L m atm s)).take q)).map eI)), (138, .cells 39 [.own 142])]) (fun (q : Nat) => q ≤ (partsL lk (g1L m atm s)).length) (fun (q : Nat) => (partsL lk (g1L m atm s)).length - q) (0) (rn [(142, 140)]) (.cons (t := 0) rfl (.cons (t := 6) rfl (.cons (t := 7) rfl (.cons (t := 8) rfl (.cons (t := 11) rfl (.cons (t := 16) rfl (.cons (t := 21) rfl (.cons (t := 187) rfl (.cons (t := 188) rfl (.cons (t := 189) rfl (.cons (t := 190) rfl (.cons (t := 191) rfl (.cons (t := 192) rfl (.cons (t := 193) rfl (.cons (t := 194) rfl (.cons (t := 195) rfl (.cons (t := 196) rfl (.cons (t := 197) rfl (.cons (t := 220) rfl .nil))))))))))))))))))) (.cons (t := 101) rfl (.cons (t := 119) rfl (.cons (t := 121) rfl .nil))) rfl ?_ ?_ rfl rfl ?_ ?_
              · exact (SubF.cons rfl (SubF.val rfl (by exact iv_int (by rw [List.take_zero, List.append_nil, show p = (partsL lk (g0L m atm s)).length by omega, List.take_length])) SubF.nil))
              · exact (SubS.val rfl (by exact sb_data (by rw [List.take_zero, List.append_nil, show p = (partsL lk (g0L m atm s)).length by omega, List.take_length])) (SubS.cons rfl SubS.nil))
              ·skip
               omega
              intro q hinv
              have hq := hinv
              have hpl : ((partsL lk (g0L m atm s)) ++ (partsL lk (g1L m atm s)).take q).length ≤ 400 := by (try rw [List.length_append]); rw [List.length_take]; omega
              have hvb := sumV_b2 hw (L := ((partsL lk (g0L m atm s)) ++ (partsL lk (g1L m atm s)).take q)) (fun p hp => hL p ((List.mem_append.1 hp).elim (fun z => List.mem_append_left _ z) fun z => List.mem_append_right _ (List.mem_of_mem_take z)))
              refine W.rg ?_
              refine SL.val (O.det (fun _ => G.R.lss rfl rfl) rfl Taken.no) ?_
              refine E.fo (W.seq ?_)
              first | refine W.cond_d rfl (fun hc39 => ?_) (fun hc39 => ?_) | refine W.cond_nd rfl (fun hc39 => ?_) (fun hc39 => ?_) | refine W.cond rfl (fun hc39 => ?_) (fun hc39 => ?_)
              ·skip
               have hpu := partsN_units (mem_at (l := (partsL lk (g1L m atm s))) (i := q) (by omega))
               have hvp := valF_b hw (l := ((partsL lk (g1L m atm s))[q]!)) (by omega)
               refine W.skip (E.to (W.seq (W.block (W.rg ?_))))
               refine SL.val (O.idx_fz (i := q) rfl rfl (rfl) (row_get (by omega)) Try.underlying75 hi39 hs39 rfl Taken.no) ?_
               refine SL.val (O.ld1 (PtI.ofU (PtU.fz rfl)) rfl Try.underlying39 rfl rfl Taken.no) ?_
               refine SL.an rfl rfl (E.fo ?_)
               refine W.pick (K:=[(0,_),(6,_),(7,_),(8,_),(11,_),(16,_),(19,_),(21,_),(23,_),(187,_),(188,_),(189,_),(190,_),(191,_),(192,_),(193,_),(194,_),(195,_),(196,_),(197,_),(198,_),(199,_),(200,_),(201,_),(220,_)]) (Z:=[(101,_),(119,_),(121,_),(138,_),(142,_)]) ⟨rfl,rfl,rfl,rfl,rfl,rfl,rfl,rfl,rfl,rfl,rfl,rfl,rfl,rfl,rfl,rfl,rfl,rfl,rfl,rfl,rfl,rfl,rfl,rfl,rfl,trivial⟩ ⟨rfl,rfl,rfl,rfl,rfl,trivial⟩ ?_
               refine W.rg (SL.mv rfl rfl (SL.mv rfl rfl (SL.mv rfl rfl ?_)))
               refine SL.val (O.callp rfl rfl rfl (value_h (l := ((partsL lk (g1L m atm s))[q]!)) hw (by omega) (fun u hu => hgb.2.2 u (hpu.2.2 u hu))) (.cons (ArgOk.same rfl) (.cons (ArgOk.same rfl) .nil)) hcallOk45 rfl Taken.no) ?_
               refine SL.val (O.det (fun _ => by first | exact G.R.add64 rfl rfl (by omega) | exact G.R.add rfl rfl) rfl Taken.no) ?_
               refine SL.an rfl rfl (E.fo ?_)
               refine W.pick (K:=[(0,_),(6,_),(7,_),(8,_),(11,_),(16,_),(19,_),(21,_),(23,_),(187,_),(188,_),(189,_),(190,_),(191,_),(192,_),(193,_),(194,_),(195,_),(196,_),(197,_),(198,_),(199,_),(200,_),(201,_),(202,_),(203,_),(204,_),(205,_),(206,_),(220,_)]) (Z:=[(101,_),(119,_),(121,_),(138,_),(142,_)]) ⟨rfl,rfl,rfl,rfl,rfl,rfl,rfl,rfl,rfl,rfl,rfl,rfl,rfl,rfl,rfl,rfl,rfl,rfl,rfl,rfl,rfl,rfl,rfl,rfl,rfl,rfl,rfl,rfl,rfl,rfl,trivial⟩ ⟨rfl,rfl,rfl,rfl,rfl,trivial⟩ ?_
               refine W.rg (SL.mv rfl rfl ?_)
               refine SL.val (O.lenE (SlOf.fz rfl (by decide)) (by first | exact List.length_map _ | rfl) Try.underlying39 rfl Taken.no) ?_
               refine SL.mv rfl rfl (E.fo ?_)
               refine W.pick (K:=[(0,_),(6,_),(7,_),(8,_),(11,_),(16,_),(19,_),(21,_),(23,_),(187,_),(188,_),(189,_),(190,_),(191,_),(192,_),(193,_),(194,_),(195,_),(196,_),(197,_),(198,_),(199,_),(200,_),(201,_),(202,_),(203,_),(204,_),(205,_),(206,_),(207,_),(208,_),(209,_),(220,_)]) (Z:=[(101,_),(119,_),(121,_),(138,_),(142,_)]) ⟨rfl,rfl,rfl,rfl,rfl,rfl,rfl,rfl,rfl,rfl,rfl,rfl,rfl,rfl,rfl,rfl,rfl,rfl,rfl,rfl,rfl,rfl,rfl,rfl,rfl,rfl,rfl,rfl,rfl,rfl,rfl,rfl,rfl,trivial⟩ ⟨rfl,rfl,rfl,rfl,rfl,trivial⟩ ?_
               refine W.block ?_
               refine W.loopx1 (fun (j : Nat) => [(209, vI (j : Int))]) (fun (j : Nat) => [(143, .data 3 1 ((setAll (nameF (fun x : Nat => (x : Int)) (nm0 m atm s) ((partsL lk (g0L m atm s)) ++ (partsL lk (g1L m atm s)).take q)) (((partsL lk (g1L m atm s))[q]!).take j) ((minL ((partsL lk (g1L m atm s))[q]!) : Nat) : Int)).map eI)), (138, .cells 39 [.own 143])]) (fun (j : Nat) => j ≤ ((partsL lk (g1L m atm s))[q]!).length) (fun (j : Nat) => ((partsL lk (g1L m atm s))[q]!).length - j) (0) (rn [(143, 142)]) (.cons (t := 0) rfl (.cons (t := 6) rfl (.cons (t := 7) rfl (.cons (t := 8) rfl (.cons (t := 11) rfl (.cons (t := 16) rfl (.cons (t := 19) rfl (.cons (t := 21) rfl (.cons (t := 23) rfl (.cons (t := 187) rfl (.cons (t := 188) rfl (.cons (t := 189) rfl (.cons (t := 190) rfl (.cons (t := 191) rfl (.cons (t := 192) rfl (.cons (t := 193) rfl (.cons (t := 194) rfl (.cons (t := 195) rfl (.cons (t := 196) rfl (.cons (t := 197) rfl (.cons (t := 198) rfl (.cons (t := 199) rfl (.cons (t := 200) rfl (.cons (t := 201) rfl (.cons (t := 202) rfl (.cons (t := 203) rfl (.cons (t := 204) rfl (.cons (t := 205) rfl (.cons (t := 206) rfl (.cons (t := 207) rfl (.cons (t := 208) rfl (.cons (t := 220) rfl .nil)))))))))))))))))))))))))))))))) (.cons (t := 101) rfl (.cons (t := 119) rfl (.cons (t := 121) rfl .nil))) rfl ?_ ?_ rfl rfl ?_ ?_
               · exact (SubF.cons rfl SubF.nil)
               · exact (SubS.val rfl (by exact sb_data (by rw [List.take_zero]; rfl)) (SubS.cons rfl SubS.nil))
               ·skip
                omega
               intro j hinv
               have hj := hinv
               have hnl : (setAll (nameF (fun x : Nat => (x : Int)) (nm0 m atm s) ((partsL lk (g0L m atm s)) ++ (partsL lk (g1L m atm s)).take q)) (((partsL lk (g1L m atm s))[q]!).take j) ((minL ((partsL lk (g1L m atm s))[q]!) : Nat) : Int)).length = n := by rw [setAll_len, nameF_len, nm0_len]; exact hml
               refine W.rg ?_
               refine SL.val (O.det (fun _ => G.R.lss rfl rfl) rfl Taken.no) ?_
               refine E.fo ?_
               refine W.pick (K:=[(0,_),(6,_),(7,_),(8,_),(11,_),(16,_),(19,_),(21,_),(23,_),(187,_),(188,_),(189,_),(190,_),(191,_),(192,_),(193,_),(194,_),(195,_),(196,_),(197,_),(198,_),(199,_),(200,_),(201,_),(202,_),(203,_),(204,_),(205,_),(206,_),(207,_),(208,_),(209,_),(210,_),(220,_)]) (Z:=[(101,_),(119,_),(121,_),(138,_),(143,_)]) ⟨rfl,rfl,rfl,rfl,rfl,rfl,rfl,rfl,rfl,rfl,rfl,rfl,rfl,rfl,rfl,rfl,rfl,rfl,rfl,rfl,rfl,rfl,rfl,rfl,rfl,rfl,rfl,rfl,rfl,rfl,rfl,rfl,rfl,rfl,trivial⟩ ⟨rfl,rfl,rfl,rfl,rfl,trivial⟩ ?_
               refine W.seq ?_
               first | refine W.cond_d rfl (fun hc40 => ?_) (fun hc40 => ?_) | refine W.cond_nd rfl (fun hc40 => ?_) (fun hc40 => ?_) | refine W.cond rfl (fun hc40 => ?_) (fun hc40 => ?_)
               ·skip
                have hun := hgb.2.2 _ (hpu.2.2 ((partsL lk (g1L m atm s))[q]!)[j]! (mem_at (by omega)))
                refine W.skip (E.to ?_)
                refine W.pick (K:=[(0,_),(6,_),(7,_),(8,_),(11,_),(16,_),(19,_),(21,_),(23,_),(187,_),(188,_),(189,_),(190,_),(191,_),(192,_),(193,_),(194,_),(195,_),(196,_),(197,_),(198,_),(199,_),(200,_),(201,_),(202,_),(203,_),(204,_),(205,_),(206,_),(207,_),(208,_),(209,_),(210,_),(220,_)]) (Z:=[(101,_),(119,_),(121,_),(138,_),(143,_)]) ⟨rfl,rfl,rfl,rfl,rfl,rfl,rfl,rfl,rfl,rfl,rfl,rfl,rfl,rfl,rfl,rfl,rfl,rfl,rfl,rfl,rfl,rfl,rfl,rfl,rfl,rfl,rfl,rfl,rfl,rfl,rfl,rfl,rfl,rfl,trivial⟩ ⟨rfl,rfl,rfl,rfl,rfl,trivial⟩ ?_
                refine W.seq (W.block (W.rg ?_))
                refine SL.val (O.idx_fz (i := j) rfl rfl (rfl) (row_get (by omega)) Try.underlying39 hi3 hs3 rfl Taken.no) ?_
                refine SL.val (O.ld1 (PtI.ofU (PtU.fz rfl)) rfl Try.underlying3 rfl rfl Taken.no) ?_
                refine SL.an rfl rfl (E.fo ?_)
                refine W.pick (K:=[(0,_),(6,_),(7,_),(8,_),(11,_),(16,_),(19,_),(21,_),(23,_),(25,_),(187,_),(188,_),(189,_),(190,_),(191,_),(192,_),(193,_),(194,_),(195,_),(196,_),(197,_),(198,_),(199,_),(200,_),(201,_),(202,_),(203,_),(204,_),(205,_),(206,_),(207,_),(208,_),(209,_),(210,_),(211,_),(212,_),(220,_)]) (Z:=[(101,_),(119,_),(121,_),(138,_),(143,_)]) ⟨rfl,rfl,rfl,rfl,rfl,rfl,rfl,rfl,rfl,rfl,rfl,rfl,rfl,rfl,rfl,rfl,rfl,rfl,rfl,rfl,rfl,rfl,rfl,rfl,rfl,rfl,rfl,rfl,rfl,rfl,rfl,rfl,rfl,rfl,rfl,rfl,rfl,trivial⟩ ⟨rfl,rfl,rfl,rfl,rfl,trivial⟩ ?_
                refine W.draw [⟨[138], [], [], [143]⟩, ⟨[], [], [], []⟩, ⟨[], [], [], []⟩, ⟨[], [], [], []⟩, ⟨[143], [], [], []⟩, ⟨[143], [143], [], []⟩] rfl (by kernel_rfl) (by kernel_rfl) rfl rfl ?_
                refine WH.val (O.ld1 (PtI.ref rfl rfl) rfl Try.underlying39 rfl rfl Taken.no) rfl rfl ?_
                refine WH.mv rfl rfl rfl (WH.mv rfl rfl rfl ?_)
                refine WH.val (O.callp rfl rfl rfl (min_h (l := ((partsL lk (g1L m atm s))[q]!)) (by omega)) (.cons (ArgOk.same rfl) .nil) hcallOk62 rfl Taken.no) rfl rfl ?_
                refine WH.val (O.idx_own (i := (((partsL lk (g1L m atm s))[q]!)[j]!)) rfl rfl rfl (rfl) (by rw [List.length_map]; omega) Try.underlying39 hi3 hs3 rfl Taken.no) rfl rfl ?_
                refine WH.effS (O.st_els (m := 1) rfl rfl rfl (us := [_]) rfl rfl (by kernel_rfl) (by simp) (row_get (by omega)) (by exact Nat.le_of_ble_eq_true rfl) rfl rfl (rows' := ((setAll (nameF (fun x : Nat => (x : Int)) (nm0 m atm s) ((partsL lk (g0L m atm s)) ++ (partsL lk (g1L m atm s)).take q)) (((partsL lk (g1L m atm s))[q]!).take j) ((minL ((partsL lk (g1L m atm s))[q]!) : Nat) : Int)).set (((partsL lk (g1L m atm s))[q]!)[j]!) ((minL ((partsL lk (g1L m atm s))[q]!) : Nat) : Int)).map eI) (by exact set_map rfl) Taken.no) rfl rfl rfl (S' := (143, _) :: _) rfl ?_
                refine WH.nil (E.inn (E.to ?_))
                refine W.pick (K:=[(0,_),(6,_),(7,_),(8,_),(11,_),(16,_),(19,_),(21,_),(23,_),(25,_),(187,_),(188,_),(189,_),(190,_),(191,_),(192,_),(193,_),(194,_),(195,_),(196,_),(197,_),(198,_),(199,_),(200,_),(201,_),(202,_),(203,_),(204,_),(205,_),(206,_),(207,_),(208,_),(209,_),(210,_),(211,_),(212,_),(213,_),(214,_),(215,_),(216,_),(217,_),(220,_)]) (Z:=[(101,_),(119,_),(121,_),(138,_),(143,_)]) ⟨rfl,rfl,rfl,rfl,rfl,rfl,rfl,rfl,rfl,rfl,rfl,rfl,rfl,rfl,rfl,rfl,rfl,rfl,rfl,rfl,rfl,rfl,rfl,rfl,rfl,rfl,rfl,rfl,rfl,rfl,rfl,rfl,rfl,rfl,rfl,rfl,rfl,rfl,rfl,rfl,rfl,rfl,trivial⟩ ⟨rfl,rfl,rfl,rfl,rfl,trivial⟩ ?_
                refine W.region ?_
                refine SL.val (O.det (fun _ => by first | exact G.R.add64 rfl rfl (by omega) | exact G.R.add rfl rfl) rfl Taken.no) ?_
                refine SL.mv rfl rfl (SL.nil ?_)
                refine E.again ((j + 1)) (rn []) ?_ ?_ rfl (fixL_spec rfl) ?_ ?_
                · exact (SubF.cons rfl (SubF.cons rfl (SubF.cons rfl (SubF.cons rfl (SubF.cons rfl (SubF.cons rfl (SubF.cons rfl (SubF.cons rfl (SubF.cons rfl (SubF.cons rfl (SubF.cons rfl (SubF.cons rfl (SubF.cons rfl (SubF.cons rfl (SubF.cons rfl (SubF.cons rfl (SubF.cons rfl (SubF.cons rfl (SubF.cons rfl (SubF.cons rfl (SubF.cons rfl (SubF.cons rfl (SubF.cons rfl (SubF.cons rfl (SubF.cons rfl (SubF.cons rfl (SubF.cons rfl (SubF.cons rfl (SubF.cons rfl (SubF.cons rfl (SubF.cons rfl (SubF.cons rfl (SubF.cons rfl SubF.nil)))))))))))))))))))))))))))))))))
                · exact (SubS.val rfl (by (try dsimp only); exact sb_data (by rw [setAll_sG (by omega)])) (SubS.cons rfl (SubS.cons rfl (SubS.cons rfl (SubS.cons rfl SubS.nil)))))
                ·try dsimp only
                 omega
                · (try dsimp only); omega
               ·skip
                refine W.exit (E.th (E.th (E.hit (E.inn (E.to ?_)))))
                refine W.pick (K:=[(0,_),(6,_),(7,_),(8,_),(11,_),(16,_),(19,_),(21,_),(23,_),(187,_),(188,_),(189,_),(190,_),(191,_),(192,_),(193,_),(194,_),(195,_),(196,_),(197,_),(198,_),(199,_),(200,_),(201,_),(202,_),(203,_),(204,_),(205,_),(206,_),(207,_),(208,_),(209,_),(210,_),(220,_)]) (Z:=[(101,_),(119,_),(121,_),(138,_),(143,_)]) ⟨rfl,rfl,rfl,rfl,rfl,rfl,rfl,rfl,rfl,rfl,rfl,rfl,rfl,rfl,rfl,rfl,rfl,rfl,rfl,rfl,rfl,rfl,rfl,rfl,rfl,rfl,rfl,rfl,rfl,rfl,rfl,rfl,rfl,rfl,trivial⟩ ⟨rfl,rfl,rfl,rfl,rfl,trivial⟩ ?_
                refine W.region ?_
                refine SL.val (O.det (fun _ => by first | exact G.R.add64 rfl rfl (by omega) | exact G.R.add rfl rfl) rfl Taken.no) ?_
                refine SL.mv rfl rfl (SL.nil ?_)
                refine E.again ((q + 1)) (rn [(142, 143)]) ?_ ?_ rfl (fixL_spec rfl) ?_ ?_
                · exact (SubF.cons rfl (SubF.val rfl (by (try dsimp only); exact iv_int (by rw [snocP (l := (partsL lk (g1L m atm s))) (by omega), ← List.append_assoc, sumV_snoc])) (SubF.cons rfl (SubF.cons rfl (SubF.cons rfl (SubF.cons rfl (SubF.cons rfl (SubF.cons rfl (SubF.cons rfl (SubF.cons rfl (SubF.cons rfl (SubF.cons rfl (SubF.cons rfl (SubF.cons rfl (SubF.cons rfl (SubF.cons rfl (SubF.cons rfl (SubF.cons rfl (SubF.cons rfl (SubF.cons rfl (SubF.cons rfl SubF.nil)))))))))))))))))))))
                · exact (SubS.val rfl (by (try dsimp only); exact sb_data (by rw [snocP (l := (partsL lk (g1L m atm s))) (by omega), ← List.append_assoc, nameF_snoc, show j = ((partsL lk (g1L m atm s))[q]!).length by omega, List.take_length])) (SubS.cons rfl (SubS.cons rfl (SubS.cons rfl (SubS.cons rfl SubS.nil)))))
                ·try dsimp only
                 omega
                · (try dsimp only); omega
              ·skip
               refine W.exit (E.th (E.th (E.hit (E.inn (E.to (W.region ?_))))))
               refine SL.val (O.det (fun _ => by first | exact G.R.add64 rfl rfl (by omega) | exact G.R.add rfl rfl) rfl Taken.no) ?_
               refine SL.mv rfl rfl (SL.nil ?_)
               refine E.reround ?_
               refine W.pick (K:=[(0,_),(6,_),(7,_),(8,_),(11,_),(16,_),(19,_),(21,_),(187,_),(188,_),(189,_),(190,_),(191,_),(192,_),(193,_),(194,_),(195,_),(196,_),(197,_),(198,_),(199,_),(220,_)]) (Z:=[(101,_),(119,_),(121,_),(138,_),(142,_)]) ⟨rfl,rfl,rfl,rfl,rfl,rfl,rfl,rfl,rfl,rfl,rfl,rfl,rfl,rfl,rfl,rfl,rfl,rfl,rfl,rfl,rfl,rfl,trivial⟩ ⟨rfl,rfl,rfl,rfl,rfl,trivial⟩ ?_
               refine W.rg ?_
               refine SL.val (O.det (fun _ => G.R.mv (G.R.lss rfl rfl) (congrArg Value.bool (decide_eq_false (by decide)))) rfl Taken.no) ?_
               refine E.fo (W.seq ?_)
               refine W.cond_f rfl ?_
               refine W.exit (E.th (E.th (E.hit (E.to (W.rg ?_)))))
               refine SL.val (O.ld1 (PtI.ref rfl rfl) rfl Try.underlying39 rfl rfl Taken.no) ?_
               refine SL.mv rfl rfl (SL.mv rfl rfl ?_)
               refine SL.val (O.det (fun _ => by first | exact G.R.sub64 rfl rfl (by omega) | exact G.R.sub rfl rfl) rfl Taken.no) ?_
               refine SL.an rfl rfl (SL.an rfl rfl (SL.an rfl rfl (E.fo ?_)))
               refine W.pick (K:=[(6,_),(7,_),(8,_)]) (Z:=[(101,_),(119,_),(121,_),(138,_),(142,_)]) ⟨rfl,rfl,rfl,trivial⟩ ⟨rfl,rfl,rfl,rfl,rfl,trivial⟩ ?_
               refine W.ret ?_
               refine E.freeze 142 rfl (F' := [(6, _)]) (⟨⟨_, rfl, rfl⟩, trivial⟩) ?_
               refine E.fin (rs := [_, _, _]) (rn []) (.inl rfl) rfl (.cons (ResOne.tmp rfl) (.cons (ResOne.tmp rfl) (.cons (ResOne.tmp rfl) .nil))) ?_ ?_ rfl (fixL_spec rfl)
               ·skip
                have hyes : posF n bar atm m s := ⟨hpre, by rw [← hit_eq hml hb]; exact hcl⟩
                rw [← hs, apN_y hyes, apG_y hyes, dec_t hyes, gnF, hfe, hth, show q = (partsL lk (g1L m atm s)).length by omega, List.take_length]; rfl
               · exact SubS.nil
      ·skip
       first | have hg20p := G.gA7 hg20 | have hg20p := G.gA8 hg20 | have hg20p := hg20
       refine WH.sk rfl rfl rfl hg20 (WH.sk rfl rfl rfl hg20 (WH.sk rfl rfl rfl hg20 (WH.sk rfl rfl rfl hg20 (WH.sk rfl rfl rfl hg20 (WH.sk rfl rfl rfl hg20 (WH.sk rfl rfl rfl hg20 (WH.sk rfl rfl rfl hg20 ?_)))))))
       refine WH.val (O.pick_t rfl (G.ne_f hg20) rfl rfl Taken.no) rfl rfl ?_
       refine WH.nil (E.to ?_)
       refine W.pick (K:=[(0,_),(1,_),(5,_),(6,_),(7,_),(8,_),(9,_),(10,_),(88,_)]) (Z:=[(101,_),(119,_)]) ⟨rfl,rfl,rfl,rfl,rfl,rfl,rfl,rfl,rfl,trivial⟩ ⟨rfl,rfl,trivial⟩ ?_
       refine W.cond_t rfl ?_
       refine W.rg (SL.an rfl rfl (SL.an rfl rfl (SL.an rfl rfl (E.fo (W.ret (E.thr (E.thr ?_)))))))
       refine E.nilsl 6 1 rfl ?_
       refine E.fin (rs := [_, _, _]) (rn []) (.inl rfl) rfl (.cons (ResOne.tmp rfl) (.cons (ResOne.tmp rfl) (.cons (ResOne.tmp rfl) .nil))) ?_ ?_ rfl (fixL_spec rfl)
       ·skip
        first | ((have hno : ¬ posF n bar atm m ⟨u, (f : Int), (t : Int)⟩ := fun q => by ((obtain ⟨⟨⟨q1, q2, q3, q4, q5⟩, q6, q7, q8⟩, q9⟩ := posF_iff.1 q); (try simp only [Int.toNat_natCast] at q6 q7 q8); (have q6 := q6 (by omega); omega))); rw [apN_n hno, apG_n hno, dec_f hno]; rfl)
       · exact SubS.nil
     ·skip
      omega
   ·skip
    first | have hg3p := G.gA7 hg3 | have hg3p := G.gA8 hg3 | have hg3p := hg3
    refine WH.sk rfl rfl rfl hg3 (WH.sk rfl rfl rfl hg3 (WH.sk rfl rfl rfl hg3 (WH.sk rfl rfl rfl hg3 ?_)))
    refine WH.skip (OpOk.not2 rfl rfl rfl) ?_
    refine WH.skip (OpOk.not2 rfl rfl rfl) ?_
    refine WH.skip (OpOk.not2 rfl rfl rfl) ?_
    refine WH.skip (OpOk.not2 rfl rfl rfl) ?_
    refine WH.skip (OpOk.not2 rfl rfl rfl) ?_
    refine WH.skip (OpOk.not2 rfl rfl rfl) ?_
    refine WH.skip (OpOk.not2 rfl rfl rfl) ?_
    refine WH.sk rfl rfl rfl hg3 ?_
    refine WH.val (O.pick_t rfl (G.ne_f hg3) rfl rfl Taken.no) rfl rfl ?_
    refine WH.nil (E.to ?_)
    refine W.pick (K:=[(0,_),(1,_),(5,_),(6,_),(7,_),(8,_),(60,_)]) (Z:=[(101,_)]) ⟨rfl,rfl,rfl,rfl,rfl,rfl,rfl,trivial⟩ ⟨rfl,trivial⟩ ?_
    refine W.cond_t rfl ?_
    refine W.rg (SL.an rfl rfl (SL.an rfl rfl (SL.an rfl rfl (E.fo (W.ret (E.thr ?_))))))
    refine E.nilsl 6 1 rfl ?_
    refine E.fin (rs := [_, _, _]) (rn []) (.inl rfl) rfl (.cons (ResOne.tmp rfl) (.cons (ResOne.tmp rfl) (.cons (ResOne.tmp rfl) .nil))) ?_ ?_ rfl (fixL_spec rfl)
    ·skip
     first | ((have hno : ¬ posF n bar atm m ⟨u, f, t⟩ := fun q => by ((obtain ⟨⟨⟨q1, q2, q3, q4, q5⟩, q6, q7, q8⟩, q9⟩ := posF_iff.1 q); (try simp only [Int.toNat_natCast] at q6 q7 q8); (first | omega | (have q5 := q5 (by omega); simp_all)))); rw [apN_n hno, apG_n hno, dec_f hno]; rfl)
    · exact SubS.nil
  ·skip
   first | have hg2p := G.gA7 hg2 | have hg2p := G.gA8 hg2 | have hg2p := hg2
   refine WH.sk rfl rfl rfl hg2 (WH.sk rfl rfl rfl hg2 (WH.sk rfl rfl rfl hg2 (WH.sk rfl rfl rfl hg2 (WH.sk rfl rfl rfl hg2 (WH.sk rfl rfl rfl hg2 (WH.sk rfl rfl rfl hg2 ?_))))))
   refine WH.val (O.pick_t rfl (G.ne_f hg2) rfl rfl Taken.no) rfl rfl ?_
   refine WH.mv rfl rfl rfl ?_
   have hg41 : true ≠ false := by decide
   refine WH.sk rfl rfl rfl hg41 (WH.sk rfl rfl rfl hg41 (WH.sk rfl rfl rfl hg41 (WH.sk rfl rfl rfl hg41 ?_)))
   refine WH.skip (OpOk.not2 rfl rfl rfl) ?_
   refine WH.skip (OpOk.not2 rfl rfl rfl) ?_
   refine WH.skip (OpOk.not2 rfl rfl rfl) ?_
   refine WH.skip (OpOk.not2 rfl rfl rfl) ?_
   refine WH.skip (OpOk.not2 rfl rfl rfl) ?_
   refine WH.skip (OpOk.not2 rfl rfl rfl) ?_
   refine WH.skip (OpOk.not2 rfl rfl rfl) ?_
   refine WH.sk rfl rfl rfl hg41 ?_
   refine WH.val (O.pick_t rfl rfl rfl rfl Taken.no) rfl rfl ?_
   refine WH.nil (E.to ?_)
   refine W.pick (K:=[(0,_),(1,_),(5,_),(6,_),(7,_),(8,_),(60,_)]) (Z:=[(101,_)]) ⟨rfl,rfl,rfl,rfl,rfl,rfl,rfl,trivial⟩ ⟨rfl,trivial⟩ ?_
   refine W.cond_t rfl ?_
   refine W.rg (SL.an rfl rfl (SL.an rfl rfl (SL.an rfl rfl (E.fo (W.ret (E.thr ?_))))))
   refine E.nilsl 6 1 rfl ?_
   refine E.fin (rs := [_, _, _]) (rn []) (.inl rfl) rfl (.cons (ResOne.tmp rfl) (.cons (ResOne.tmp rfl) (.cons (ResOne.tmp rfl) .nil))) ?_ ?_ rfl (fixL_spec rfl)
   ·skip
    first | ((have hno : ¬ posF n bar atm m ⟨u, f, t⟩ := fun q => by ((obtain ⟨⟨⟨q1, q2, q3, q4, q5⟩, q6, q7, q8⟩, q9⟩ := posF_iff.1 q); (try simp only [Int.toNat_natCast] at q6 q7 q8); (first | omega | (have q5 := q5 (by omega); simp_all)))); rw [apN_n hno, apG_n hno, dec_f hno]; rfl)
   · exact SubS.nil
 ·skip
  first | have hg1p := G.gA7 hg1 | have hg1p := G.gA8 hg1 | have hg1p := hg1
  refine WH.sk rfl rfl rfl hg1 (WH.sk rfl rfl rfl hg1 (WH.sk rfl rfl rfl hg1 (WH.sk rfl rfl rfl hg1 (WH.sk rfl rfl rfl hg1 (WH.sk rfl rfl rfl hg1 (WH.sk rfl rfl rfl hg1 ?_))))))
  refine WH.val (O.pick_t rfl (G.ne_f hg1) rfl rfl Taken.no) rfl rfl ?_
  refine WH.mv rfl rfl rfl ?_
  have hg42 : true ≠ false := by decide
  refine WH.sk rfl rfl rfl hg42 (WH.sk rfl rfl rfl hg42 (WH.sk rfl rfl rfl hg42 (WH.sk rfl rfl rfl hg42 (WH.sk rfl rfl rfl hg42 (WH.sk rfl rfl rfl hg42 (WH.sk rfl rfl rfl hg42 ?_))))))
  refine WH.val (O.pick_t rfl rfl rfl rfl Taken.no) rfl rfl ?_
  refine WH.mv rfl rfl rfl ?_
  have hg43 : true ≠ false := by decide
  refine WH.sk rfl rfl rfl hg43 (WH.sk rfl rfl rfl hg43 (WH.sk rfl rfl rfl hg43 (WH.sk rfl rfl rfl hg43 ?_)))
  refine WH.skip (OpOk.not2 rfl rfl rfl) ?_
  refine WH.skip (OpOk.not2 rfl rfl rfl) ?_
  refine WH.skip (OpOk.not2 rfl rfl rfl) ?_
  refine WH.skip (OpOk.not2 rfl rfl rfl) ?_
  refine WH.skip (OpOk.not2 rfl rfl rfl) ?_
  refine WH.skip (OpOk.not2 rfl rfl rfl) ?_
  refine WH.skip (OpOk.not2 rfl rfl rfl) ?_
  refine WH.sk rfl rfl rfl hg43 ?_
  refine WH.val (O.pick_t rfl rfl rfl rfl Taken.no) rfl rfl ?_
  refine WH.nil (E.to ?_)
  refine W.pick (K:=[(0,_),(1,_),(5,_),(6,_),(7,_),(8,_),(60,_)]) (Z:=[(101,_)]) ⟨rfl,rfl,rfl,rfl,rfl,rfl,rfl,trivial⟩ ⟨rfl,trivial⟩ ?_
  refine W.cond_t rfl ?_
  refine W.rg (SL.an rfl rfl (SL.an rfl rfl (SL.an rfl rfl (E.fo (W.ret (E.thr ?_))))))
  refine E.nilsl 6 1 rfl ?_
  refine E.fin (rs := [_, _, _]) (rn []) (.inl rfl) rfl (.cons (ResOne.tmp rfl) (.cons (ResOne.tmp rfl) (.cons (ResOne.tmp rfl) .nil))) ?_ ?_ rfl (fixL_spec rfl)
  ·skip
   first | ((have hno : ¬ posF n bar atm m ⟨u, f, t⟩ := fun q => by ((obtain ⟨⟨⟨q1, q2, q3, q4, q5⟩, q6, q7, q8⟩, q9⟩ := posF_iff.1 q); (try simp only [Int.toNat_natCast] at q6 q7 q8); (first | omega | (have q5 := q5 (by omega); simp_all)))); rw [apN_n hno, apG_n hno, dec_f hno]; rfl)
  · exact SubS.nil

end Go.Proofs.Ytppamigboeaefaa
end
section
namespace Go.Proofs.Ytppamigboeaefaa
open Go Go.RowKit Go.H Go.D33

theorem hcallOk50 : G.callOk Try.prog 50 = true := by kernel_rfl
theorem hcallOk61 : G.callOk Try.prog 61 = true := by kernel_rfl

set_option maxRecDepth 8000 in
set_option maxHeartbeats 3200000 in
/-- (*bookplate/cluster.field).next. -/
theorem next_h {n : Nat} {wt : Nat → Nat → Int} {lk : Nat → Nat → Bool} {bar : List Ru} {atm : List Nat} {m : List Nat} (hn : n ≤ 200) (hw : ∀ i j, -1000 ≤ wt i j ∧ wt i j ≤ 1000) (ha : atm.length = n ∧ ∀ i, i < n → atm[i]! < n) (hb : ∀ x ∈ bar, 0 ≤ x.a ∧ x.a < (n : Int) ∧ 0 ≤ x.b ∧ x.b < (n : Int)) (hml : m.length = n) :
    Con Try.prog 40 [.u (.ptr [uI (n : Int), .sl 1 (gridU (gridF n fun i j => uI (wt i j))), .sl 1 (gridU (gridF n fun i j => uB (lk i j))), .sl 3 (bar.map eRu), .sl 1 (atm.map eN), .sl 1 ((List.range n).map eN)]), vL 1 (m.map eN)] [] (.tup [.agg [vB (bestF (posF n bar atm m) (gnF wt lk m atm) (stepsL (selfs n m) (selfs n atm))).1.u, vI (bestF (posF n bar atm m) (gnF wt lk m atm) (stepsL (selfs n m) (selfs n atm))).1.f, vI (bestF (posF n bar atm m) (gnF wt lk m atm) (stepsL (selfs n m) (selfs n atm))).1.t], vI (bestF (posF n bar atm m) (gnF wt lk m atm) (stepsL (selfs n m) (selfs n atm))).2, vL 1 ((outF lk m atm (bestF (posF n bar atm m) (gnF wt lk m atm) (stepsL (selfs n m) (selfs n atm)))).map eI)]) [] := by
 have hal := ha.1
 have hsb := steps_b n hn m atm
 obtain ⟨i55, hi55, hz55, hs55, hb55⟩ := hinf55
 refine Con.enterL (n := 41) Try.func40 rfl rfl rfl (fun τ w ok vs hin => ?_)
 have hl1 := hin.len (i := 1) rfl
 try rw [List.length_map] at hl1
 clear hin
 refine W.rg ?_
 refine SL.memS (O.alloc (z := .agg #[.bool false, .int .i64 0, .int .i64 0]) (is := [.u (.sc (.bool false)), .u (.sc (.int .i64 0)), .u (.sc (.int .i64 0))]) 101 (by kernel_rfl) rfl rfl rfl Taken.no) rfl rfl (S' := (101, _) :: _) rfl ?_
 refine SL.an rfl rfl (SL.an rfl rfl (E.fo (W.seq (W.rg (SL.mv rfl rfl (SL.mv rfl rfl ?_))))))
 refine SL.val (O.callp rfl rfl rfl (steps_h (m := m) (by omega) (by omega) (by omega)) (.cons (ArgOk.same rfl) (.cons (ArgOk.same rfl) .nil)) hcallOk61 rfl Taken.no) ?_
 refine SL.val (O.lenE (SlOf.fz rfl (by decide)) (by first | exact List.length_map _ | rfl) Try.underlying103 rfl Taken.no) ?_
 refine SL.mv rfl rfl (E.fo (W.block ?_))
 refine W.nilsl 6 1 rfl ?_
 refine W.loopx1 (fun (k : Nat) => [(16, vI (k : Int)), (5, vI (bestF (posF n bar atm m) (gnF wt lk m atm) ((stepsL (selfs n m) (selfs n atm)).take k)).2), (6, vL 1 ((outF lk m atm (bestF (posF n bar atm m) (gnF wt lk m atm) ((stepsL (selfs n m) (selfs n atm)).take k))).map eI))]) (fun (k : Nat) => [(101, .cells 55 [vB (bestF (posF n bar atm m) (gnF wt lk m atm) ((stepsL (selfs n m) (selfs n atm)).take k)).1.u, vI (bestF (posF n bar atm m) (gnF wt lk m atm) ((stepsL (selfs n m) (selfs n atm)).take k)).1.f, vI (bestF (posF n bar atm m) (gnF wt lk m atm) ((stepsL (selfs n m) (selfs n atm)).take k)).1.t])]) (fun (k : Nat) => k ≤ (stepsL (selfs n m) (selfs n atm)).length) (fun (k : Nat) => (stepsL (selfs n m) (selfs n atm)).length - k) (0) (rn []) (.cons (t := 0) rfl (.cons (t := 1) rfl (.cons (t := 4) rfl (.cons (t := 14) rfl (.cons (t := 15) rfl .nil))))) .nil rfl ?_ ?_ rfl rfl ?_ ?_
 · exact (SubF.cons rfl (SubF.cons rfl (SubF.cons rfl SubF.nil)))
 · exact (SubS.cons rfl SubS.nil)
 ·skip
  omega
 intro k hinv
 have hk := hinv
 have hb0 := best_ge (ok := posF n bar atm m) (g := gnF wt lk m atm) (stepsL (selfs n m) (selfs n atm)) hk
 refine W.rg ?_
 refine SL.val (O.det (fun _ => G.R.lss rfl rfl) rfl Taken.no) ?_
 refine E.fo (W.seq ?_)
 first | refine W.cond_d rfl (fun hc1 => ?_) (fun hc1 => ?_) | refine W.cond_nd rfl (fun hc1 => ?_) (fun hc1 => ?_) | refine W.cond rfl (fun hc1 => ?_) (fun hc1 => ?_)
 ·skip
  refine W.skip (E.to (W.seq (W.block (W.rg ?_))))
  refine SL.val (O.idx_fz (i := k) rfl rfl (rfl) (row_get (by omega)) Try.underlying103 hi55 hs55 rfl Taken.no) ?_
  refine SL.val (O.ldU (m := 3) (PtU.fz rfl) rfl Try.underlying55 rfl (by kernel_rfl) rfl Taken.no) ?_
  refine SL.memS (O.alloc (z := .agg #[.bool false, .int .i64 0, .int .i64 0]) (is := [.u (.sc (.bool false)), .u (.sc (.int .i64 0)), .u (.sc (.int .i64 0))]) 102 (by kernel_rfl) rfl rfl rfl Taken.no) rfl rfl (S' := (102, _) :: _) rfl ?_
  refine SL.effS (O.st_ref (m := 3) rfl rfl rfl (js := [_, _, _]) rfl rfl (by kernel_rfl) (by simp) (Nat.le_of_ble_eq_true rfl) rfl (is' := [_, _, _]) rfl Taken.no) (S' := (102, _) :: _) rfl ?_
  refine E.fo (W.rg (SL.mv rfl rfl (SL.mv rfl rfl ?_)))
  refine SL.val (O.ldN (m := 3) (PtI.ref rfl rfl) (js := [_, _, _]) rfl (Nat.le_of_ble_eq_true rfl) Try.underlying55 rfl (by kernel_rfl) rfl Taken.no) ?_
  refine SL.memS (O.call (rn []) [] rfl rfl rfl (apply_h (u := (stepsL (selfs n m) (selfs n atm))[k]!.u) (f := (stepsL (selfs n m) (selfs n atm))[k]!.f) (t := (stepsL (selfs n m) (selfs n atm))[k]!.t) (by omega) hw ha hb hml) (.cons (ArgOk.same rfl) (.cons (ArgOk.same rfl) (.cons (ArgOk.aggU (.cons (ArgOk.same rfl) (.cons (ArgOk.same rfl) (.cons (ArgOk.same rfl) .nil)))) .nil))) SubS.nil rfl rfl rfl rfl rfl (.inl rfl) hcallOk50 (r' := .tup [.u _, .u _, .u _]) rfl rfl Taken.no) rfl rfl (S' := _) rfl ?_
  refine SL.mv rfl rfl ?_
  refine SL.val (O.extract rfl rfl rfl Taken.no) ?_
  refine SL.val (O.extract rfl rfl rfl Taken.no) ?_
  refine SL.val (O.extract rfl rfl rfl Taken.no) ?_
  refine SL.an rfl rfl (SL.an rfl rfl (SL.an rfl rfl (E.fo (W.rg (SL.mv rfl rfl (SL.mv rfl rfl ?_))))))
  refine SL.case (j := 1) (g := 29) (want := true) rfl rfl (fun hg2 => ?_) (fun hg2 => ?_)
  ·skip
   first | have hg2p := G.gA1 hg2 | have hg2p := G.gA2 hg2 | have hg2p := hg2
   refine SL.val (O.move rfl rfl (Taken.yes rfl rfl hg2)) ?_
   refine SL.val (O.move rfl rfl (Taken.yes rfl rfl hg2)) ?_
   refine SL.val (O.det (fun _ => G.R.gtr rfl rfl) rfl (Taken.yes rfl rfl hg2)) ?_
   refine SL.val (O.pick_t rfl hg2 rfl rfl Taken.no) ?_
   refine E.fo ?_
   refine W.pick (K:=[(0,_),(1,_),(4,_),(5,_),(6,_),(8,_),(9,_),(10,_),(14,_),(15,_),(16,_),(33,_)]) (Z:=[(101,_),(102,_)]) ⟨rfl,rfl,rfl,rfl,rfl,rfl,rfl,rfl,rfl,rfl,rfl,rfl,trivial⟩ ⟨rfl,rfl,trivial⟩ ?_
   first | refine W.cond_d rfl (fun hc3 => ?_) (fun hc3 => ?_) | refine W.cond_nd rfl (fun hc3 => ?_) (fun hc3 => ?_) | refine W.cond rfl (fun hc3 => ?_) (fun hc3 => ?_)
   ·skip
    have hp1 : posF n bar atm m (stepsL (selfs n m) (selfs n atm))[k]! := by simp_all
    have hp2 : (bestF (posF n bar atm m) (gnF wt lk m atm) ((stepsL (selfs n m) (selfs n atm)).take k)).2 < gnF wt lk m atm (stepsL (selfs n m) (selfs n atm))[k]! := by rw [← apG_y (w := wt) (lk := lk) hp1]; assumption
    refine W.region ?_
    refine SL.val (O.ldN (m := 3) (PtI.ref rfl rfl) (js := [_, _, _]) rfl (Nat.le_of_ble_eq_true rfl) Try.underlying55 rfl (by kernel_rfl) rfl Taken.no) ?_
    refine SL.mv rfl rfl (SL.mv rfl rfl ?_)
    refine SL.effS (O.st_ref (m := 3) rfl rfl rfl (js := [_, _, _]) rfl rfl (by kernel_rfl) (by simp) (Nat.le_of_ble_eq_true rfl) rfl (is' := [_, _, _]) rfl Taken.no) (S' := (101, _) :: _) rfl ?_
    refine SL.an rfl rfl (SL.an rfl rfl (SL.nil (E.inn (E.to (W.region ?_)))))
    refine SL.val (O.det (fun _ => by first | exact G.R.add64 rfl rfl (by omega) | exact G.R.add rfl rfl) rfl Taken.no) ?_
    refine SL.mv rfl rfl (SL.nil ?_)
    refine E.again ((k + 1)) (rn []) ?_ ?_ rfl (fixL_spec rfl) ?_ ?_
    · exact (SubF.cons rfl (SubF.val rfl (by (try dsimp only); first | exact iv_int (by rw [best_s (by omega), pick_y hp1 hp2]; exact apG_y hp1) | exact iv_int (by rw [best_s (by omega), pick_n hp])) (SubF.val rfl (by (try dsimp only); first | exact iv_sl (by rw [best_s (by omega), pick_y hp1 hp2, outF_y hb0 hp2]; exact congrArg (List.map eI) (apN_y hp1)) | exact iv_sl (by rw [best_s (by omega), pick_n hp])) (SubF.cons rfl (SubF.cons rfl (SubF.cons rfl (SubF.cons rfl (SubF.cons rfl SubF.nil))))))))
    · exact (SubS.val rfl (by (try dsimp only); first | (rw [best_s (by omega), pick_y hp1 hp2]; rfl) | (rw [best_s (by omega), pick_n hp]; rfl)) SubS.nil)
    ·try dsimp only
     omega
    · (try dsimp only); omega
   ·skip
    have hp : ¬ (posF n bar atm m (stepsL (selfs n m) (selfs n atm))[k]! ∧ (bestF (posF n bar atm m) (gnF wt lk m atm) ((stepsL (selfs n m) (selfs n atm)).take k)).2 < gnF wt lk m atm (stepsL (selfs n m) (selfs n atm))[k]!) := fun q => by have q2 := q.2; rw [← apG_y (w := wt) (lk := lk) q.1] at q2; first | exact (show ¬ posF n bar atm m (stepsL (selfs n m) (selfs n atm))[k]! by assumption) q.1 | exact (show ¬ (bestF (posF n bar atm m) (gnF wt lk m atm) ((stepsL (selfs n m) (selfs n atm)).take k)).2 < apG n wt lk bar atm m (stepsL (selfs n m) (selfs n atm))[k]! by assumption) q2
    refine W.skip (E.inn (E.to (W.region ?_)))
    refine SL.val (O.det (fun _ => by first | exact G.R.add64 rfl rfl (by omega) | exact G.R.add rfl rfl) rfl Taken.no) ?_
    refine SL.mv rfl rfl (SL.nil ?_)
    refine E.again ((k + 1)) (rn []) ?_ ?_ rfl (fixL_spec rfl) ?_ ?_
    · exact (SubF.cons rfl (SubF.val rfl (by (try dsimp only); first | exact iv_int (by rw [best_s (by omega), pick_y hp1 hp2]; exact apG_y hp1) | exact iv_int (by rw [best_s (by omega), pick_n hp])) (SubF.val rfl (by (try dsimp only); first | exact iv_sl (by rw [best_s (by omega), pick_y hp1 hp2, outF_y hb0 hp2]; exact congrArg (List.map eI) (apN_y hp1)) | exact iv_sl (by rw [best_s (by omega), pick_n hp])) (SubF.cons rfl (SubF.cons rfl (SubF.cons rfl (SubF.cons rfl (SubF.cons rfl SubF.nil))))))))
    · exact (SubS.val rfl (by (try dsimp only); first | (rw [best_s (by omega), pick_y hp1 hp2]; rfl) | (rw [best_s (by omega), pick_n hp]; rfl)) SubS.nil)
    ·try dsimp only
     omega
    · (try dsimp only); omega
  ·skip
   first | have hg2p := G.gA5 hg2 | have hg2p := G.gA6 hg2 | have hg2p := hg2
   have hp : ¬ (posF n bar atm m (stepsL (selfs n m) (selfs n atm))[k]! ∧ (bestF (posF n bar atm m) (gnF wt lk m atm) ((stepsL (selfs n m) (selfs n atm)).take k)).2 < gnF wt lk m atm (stepsL (selfs n m) (selfs n atm))[k]!) := fun q => (show ¬ posF n bar atm m (stepsL (selfs n m) (selfs n atm))[k]! by assumption) q.1
   refine SL.sk rfl rfl rfl hg2 (SL.sk rfl rfl rfl hg2 (SL.sk rfl rfl rfl hg2 ?_))
   refine SL.val (O.pick_f rfl (G.ne_t hg2) rfl rfl Taken.no) ?_
   refine E.fo ?_
   refine W.pick (K:=[(0,_),(1,_),(4,_),(5,_),(6,_),(8,_),(9,_),(10,_),(14,_),(15,_),(16,_),(33,_)]) (Z:=[(101,_),(102,_)]) ⟨rfl,rfl,rfl,rfl,rfl,rfl,rfl,rfl,rfl,rfl,rfl,rfl,trivial⟩ ⟨rfl,rfl,trivial⟩ ?_
   refine W.cond_f rfl ?_
   refine W.skip (E.inn (E.to (W.region ?_)))
   refine SL.val (O.det (fun _ => by first | exact G.R.add64 rfl rfl (by omega) | exact G.R.add rfl rfl) rfl Taken.no) ?_
   refine SL.mv rfl rfl (SL.nil ?_)
   refine E.again ((k + 1)) (rn []) ?_ ?_ rfl (fixL_spec rfl) ?_ ?_
   · exact (SubF.cons rfl (SubF.val rfl (by (try dsimp only); first | exact iv_int (by rw [best_s (by omega), pick_y hp1 hp2]; exact apG_y hp1) | exact iv_int (by rw [best_s (by omega), pick_n hp])) (SubF.val rfl (by (try dsimp only); first | exact iv_sl (by rw [best_s (by omega), pick_y hp1 hp2, outF_y hb0 hp2]; exact congrArg (List.map eI) (apN_y hp1)) | exact iv_sl (by rw [best_s (by omega), pick_n hp])) (SubF.cons rfl (SubF.cons rfl (SubF.cons rfl (SubF.cons rfl (SubF.cons rfl SubF.nil))))))))
   · exact (SubS.val rfl (by (try dsimp only); first | (rw [best_s (by omega), pick_y hp1 hp2]; rfl) | (rw [best_s (by omega), pick_n hp]; rfl)) SubS.nil)
   ·try dsimp only
    omega
   · (try dsimp only); omega
 ·skip
  refine W.exit (E.th (E.th (E.hit (E.to (W.rg ?_)))))
  refine SL.val (O.ldN (m := 3) (PtI.ref rfl rfl) (js := [_, _, _]) rfl (Nat.le_of_ble_eq_true rfl) Try.underlying55 rfl (by kernel_rfl) rfl Taken.no) ?_
  refine SL.mv rfl rfl (SL.mv rfl rfl ?_)
  refine SL.effS (O.st_ref (m := 3) rfl rfl rfl (js := [_, _, _]) rfl rfl (by kernel_rfl) (by simp) (Nat.le_of_ble_eq_true rfl) rfl (is' := [_, _, _]) rfl Taken.no) (S' := (101, _) :: _) rfl ?_
  refine SL.an rfl rfl (SL.an rfl rfl (E.fo (W.ret ?_)))
  refine E.fin (rs := [_, _, _]) (rn []) (.inl rfl) rfl (.cons (ResOne.cellN (m := 3) (PtI.ref rfl rfl) (js := [_, _, _]) rfl (Nat.le_of_ble_eq_true rfl) Try.underlying55 rfl (by kernel_rfl)) (.cons (ResOne.tmp rfl) (.cons (ResOne.tmp rfl) .nil))) ?_ ?_ rfl (fixL_spec rfl)
  ·skip
   (rw [show k = (stepsL (selfs n m) (selfs n atm)).length by omega, List.take_length]; rfl)
  · exact SubS.nil

end Go.Proofs.Ytppamigboeaefaa
end
section
namespace Go.D33
open Go Go.RowKit Go.H
section
variable {n : Nat} {ps : List Pr} {rs : List Ru} {m : List Nat} {s : Stp} {l : List Int}
theorem ap_eq (hf : (Prob.mk (n : Int) ps rs).formed) (hm : isP n m) (hp : permR n ps rs m) (s : Stp) :
    (posF n (barL rs) (namedL n (partsL (mu rs) (List.range n))) m s ↔ posR n (barL rs) (atomsL n rs) m s) ∧
    (posR n (barL rs) (atomsL n rs) m s → nmF (mF (lF ps) rs) m (namedL n (partsL (mu rs) (List.range n))) s = (resR n ps rs m s).map (fun x : Nat => (x : Int)) ∧ gnF (wF ps) (mF (lF ps) rs) m (namedL n (partsL (mu rs) (List.range n))) s = gnR n ps rs m s) := by
  rw [← atoms_eq hf]
  refine ⟨pos_iff hf hm hp, fun h => ?_⟩
  have := (pos_iff hf hm hp).2 h
  exact apply_eq hf hm hp this.1
def apL (n : Nat) (ps : List Pr) (rs : List Ru) (l : List Int) (s : Stp) : List Nat := if permS n ps rs l ∧ posR n (barL rs) (atomsL n rs) (l.map Int.toNat) s then resR n ps rs (l.map Int.toNat) s else []
def apV (n : Nat) (ps : List Pr) (rs : List Ru) (l : List Int) (s : Stp) : Int := if permS n ps rs l ∧ posR n (barL rs) (atomsL n rs) (l.map Int.toNat) s then gnR n ps rs (l.map Int.toNat) s else 0
def apE (n : Nat) (ps : List Pr) (rs : List Ru) (l : List Int) (s : Stp) : Int := if permS n ps rs l then (if posR n (barL rs) (atomsL n rs) (l.map Int.toNat) s then 0 else 1) else 11
theorem ap_np (h : ¬ permS n ps rs l) (s : Stp) : apL n ps rs l s = [] ∧ apV n ps rs l s = 0 ∧ apE n ps rs l s = 11 := ⟨if_neg fun q => h q.1, if_neg fun q => h q.1, if_neg h⟩
theorem ap_no (h : permS n ps rs (m.map fun x : Nat => (x : Int))) (h2 : ¬ posR n (barL rs) (atomsL n rs) m s) : apL n ps rs (m.map fun x : Nat => (x : Int)) s = [] ∧ apV n ps rs (m.map fun x : Nat => (x : Int)) s = 0 ∧ apE n ps rs (m.map fun x : Nat => (x : Int)) s = 1 := by
  unfold apL apV apE
  rw [cast_back]
  exact ⟨if_neg fun q => h2 q.2, if_neg fun q => h2 q.2, by rw [if_pos h, if_neg h2]⟩
theorem ap_yes (h : permS n ps rs (m.map fun x : Nat => (x : Int))) (h2 : posR n (barL rs) (atomsL n rs) m s) : apL n ps rs (m.map fun x : Nat => (x : Int)) s = resR n ps rs m s ∧ apV n ps rs (m.map fun x : Nat => (x : Int)) s = gnR n ps rs m s ∧ apE n ps rs (m.map fun x : Nat => (x : Int)) s = 0 := by
  unfold apL apV apE
  rw [cast_back]
  exact ⟨if_pos ⟨h, h2⟩, if_pos ⟨h, h2⟩, by rw [if_pos h, if_pos h2]⟩
def nxI (n : Nat) (ps : List Pr) (rs : List Ru) (l : List Int) : Stp × Int := if permS n ps rs l then nextR n ps rs (l.map Int.toNat) else (⟨false, 0, 0⟩, 0)
def nxE (n : Nat) (ps : List Pr) (rs : List Ru) (l : List Int) : Int := if permS n ps rs l then 0 else 11
/-- The best step's partition, or none. -/
def outR (n : Nat) (ps : List Pr) (rs : List Ru) (m : List Nat) : List Nat := if (nextR n ps rs m).2 = 0 then [] else resR n ps rs m (nextR n ps rs m).1
theorem next_all (hf : (Prob.mk (n : Int) ps rs).formed) (hm : isP n m) (hp : permR n ps rs m) :
    bestF (posF n (barL rs) (namedL n (partsL (mu rs) (List.range n))) m) (gnF (wF ps) (mF (lF ps) rs) m (namedL n (partsL (mu rs) (List.range n)))) (stepsL (selfs n m) (selfs n (namedL n (partsL (mu rs) (List.range n))))) = nextR n ps rs m := by
  have := next_eq hf hm hp
  unfold nextF at this
  rw [atoms_eq hf] at this
  exact this
theorem out_eq (hf : (Prob.mk (n : Int) ps rs).formed) (hm : isP n m) (hp : permR n ps rs m) : outF (mF (lF ps) rs) m (namedL n (partsL (mu rs) (List.range n))) (nextR n ps rs m) = (outR n ps rs m).map fun x : Nat => (x : Int) := by
  unfold outF outR
  by_cases e : (nextR n ps rs m).2 = 0
  · rw [if_pos e, if_pos e]; rfl
  · rw [if_neg e, if_neg e]
    obtain ⟨h1, h2, _, _⟩ := next_spec n ps rs m
    exact ((ap_eq hf hm hp _).2 (h2 (by omega)).2.1).1
end
end Go.D33
end
section
namespace Go.Proofs.Ytppamigboeaefaa
open Go Go.RowKit Go.H Go.D33

theorem hcallOk40 : G.callOk Try.prog 40 = true := by kernel_rfl

set_option maxRecDepth 8000 in
/-- bookplate/cluster.Apply. -/
theorem applyC_ok {n : Nat} {ps : List Pr} {rs : List Ru} {l : List Int} {u : Bool} {f t : Int} (hok : (Prob.mk (n : Int) ps rs).ok) :
    Con Try.prog 26 [vA [uI (n : Int), .sl 3 (ps.map ePr), .sl 3 (rs.map eRu)], vL 1 (l.map eI), vA [uB u, uI f, uI t]] [] (.tup [vL 1 ((apL n ps rs l ⟨u, f, t⟩).map eN), vI (apV n ps rs l ⟨u, f, t⟩), vI (apE n ps rs l ⟨u, f, t⟩)]) [] := by
 have hf := hok.1
 have hn2 : (n : Int) ≤ 200 := hf.2.1
 refine Con.enterL (n := 40) Try.func26 rfl rfl rfl (fun τ w ok vs hin => ?_)
 have hl0_1 := hin.lenA (i := 0) (j := 1) rfl rfl
 try rw [List.length_map] at hl0_1
 have hl0_2 := hin.lenA (i := 0) (j := 2) rfl rfl
 try rw [List.length_map] at hl0_2
 have hl1 := hin.len (i := 1) rfl
 try rw [List.length_map] at hl1
 clear hin
 refine W.rg ?_
 refine SL.memS (O.box (is := [_, _, _]) 101 rfl rfl (by simp) rfl rfl Taken.no) rfl rfl (S' := (101, _) :: _) rfl ?_
 refine SL.memS (O.box (is := [_, _, _]) 102 rfl rfl (by simp) rfl rfl Taken.no) rfl rfl (S' := (102, _) :: _) rfl ?_
 refine SL.an rfl rfl (SL.an rfl rfl (SL.an rfl rfl (E.fo (W.rg ?_))))
 refine SL.val (O.ldN (m := 3) (PtI.ref rfl rfl) (js := [_, _, _]) rfl (Nat.le_of_ble_eq_true rfl) Try.underlying32 rfl (by kernel_rfl) rfl Taken.no) ?_
 refine SL.memS (O.call (rn []) [] rfl rfl rfl (check_ok hok) (.cons (ArgOk.aggU (.cons (ArgOk.same rfl) (.cons (ArgOk.same rfl) (.cons (ArgOk.same rfl) .nil)))) .nil) SubS.nil rfl rfl rfl rfl rfl (.inl rfl) hcallOk38 (r' := .tup [.u _, .u _]) rfl rfl Taken.no) rfl rfl (S' := _) rfl ?_
 refine SL.mv rfl rfl ?_
 refine SL.val (O.extract rfl rfl rfl Taken.no) ?_
 refine SL.val (O.extract rfl rfl rfl Taken.no) ?_
 refine SL.an rfl rfl (SL.an rfl rfl (E.fo (W.seq (W.block (W.rg (SL.mv rfl rfl ?_))))))
 refine SL.val (O.det (fun _ => G.R.mv (G.R.neq rfl rfl) (congrArg Value.bool (decide_eq_false (by decide)))) rfl Taken.no) ?_
 refine SL.an rfl rfl (E.fo ?_)
 refine W.cond_f rfl ?_
 refine W.rg (SL.mv rfl rfl (SL.mv rfl rfl ?_))
 refine SL.val (O.callp rfl rfl rfl (permitted_h (l := l) (by omega) (atm_ok n rs) (bar_rng hf)) (.cons (ArgOk.same rfl) (.cons (ArgOk.same rfl) .nil)) hcallOk49 rfl Taken.no) ?_
 refine SL.val (O.det (fun _ => G.R.not rfl) rfl Taken.no) ?_
 refine SL.an rfl rfl (E.fo ?_)
 first | refine W.cond_d rfl (fun hc1 => ?_) (fun hc1 => ?_) | refine W.cond_nd rfl (fun hc1 => ?_) (fun hc1 => ?_) | refine W.cond rfl (fun hc1 => ?_) (fun hc1 => ?_)
 ·skip
  refine W.rg (SL.an rfl rfl (SL.an rfl rfl (SL.an rfl rfl (E.fo ?_))))
  refine W.pick (K:=[(1,_),(5,_),(6,_),(7,_),(8,_),(9,_)]) (Z:=[(101,_),(102,_)]) ⟨rfl,rfl,rfl,rfl,rfl,rfl,trivial⟩ ⟨rfl,rfl,trivial⟩ ?_
  refine W.ret ?_
  refine E.inr ?_
  refine E.thr ?_
  refine E.nilsl 6 1 rfl ?_
  refine E.fin (rs := [_, _, _]) (rn []) (.inl rfl) rfl (.cons (ResOne.tmp rfl) (.cons (ResOne.tmp rfl) (.cons (ResOne.tmp rfl) .nil))) ?_ ?_ rfl (fixL_spec rfl)
  ·skip
   have hnp : ¬ permS n ps rs l := fun q => by have q2 := (permIS hf).2 q; simp_all
   rw [(ap_np hnp _).1, (ap_np hnp _).2.1, (ap_np hnp _).2.2]; rfl
  · exact SubS.nil
 ·skip
  have hpm : permI n (mF (lF ps) rs) (barL rs) (namedL n (partsL (mu rs) (List.range n))) l := by first | assumption | simp_all
  have hps := (permIS hf).1 hpm
  obtain ⟨m, rfl⟩ := cast_of fun i hi => (hps.1.2 i hi).1
  obtain ⟨hQ, hpr⟩ := permS_cast.1 hps
  rw [eI_eN]
  have hml := hQ.1
  have hal := atm_ok n rs
  have hae := ap_eq hf hQ hpr ⟨u, f, t⟩
  refine W.skip (E.inn (E.to (W.rg (SL.mv rfl rfl (SL.mv rfl rfl ?_)))))
  refine SL.val (O.ldN (m := 3) (PtI.ref rfl rfl) (js := [_, _, _]) rfl (Nat.le_of_ble_eq_true rfl) Try.underlying55 rfl (by kernel_rfl) rfl Taken.no) ?_
  refine SL.memS (O.call (rn []) [] rfl rfl rfl (apply_h (u := u) (f := f) (t := t) (by omega) (w_b hf) (atm_ok n rs) (bar_rng hf) hml) (.cons (ArgOk.same rfl) (.cons (ArgOk.same rfl) (.cons (ArgOk.aggU (.cons (ArgOk.same rfl) (.cons (ArgOk.same rfl) (.cons (ArgOk.same rfl) .nil)))) .nil))) SubS.nil rfl rfl rfl rfl rfl (.inl rfl) hcallOk50 (r' := .tup [.u _, .u _, .u _]) rfl rfl Taken.no) rfl rfl (S' := _) rfl ?_
  refine SL.mv rfl rfl ?_
  refine SL.val (O.extract rfl rfl rfl Taken.no) ?_
  refine SL.val (O.extract rfl rfl rfl Taken.no) ?_
  refine SL.val (O.extract rfl rfl rfl Taken.no) ?_
  refine SL.an rfl rfl (SL.an rfl rfl (SL.an rfl rfl (E.fo ?_)))
  refine W.pick (K:=[(6,_),(7,_),(8,_),(11,_),(12,_),(13,_)]) (Z:=[(101,_),(102,_)]) ⟨rfl,rfl,rfl,rfl,rfl,rfl,trivial⟩ ⟨rfl,rfl,trivial⟩ ?_
  refine W.seq (W.rg (SL.mv rfl rfl ?_))
  refine SL.val (O.det (fun _ => G.R.not rfl) rfl Taken.no) ?_
  refine E.fo ?_
  first | refine W.cond_d rfl (fun hc2 => ?_) (fun hc2 => ?_) | refine W.cond_nd rfl (fun hc2 => ?_) (fun hc2 => ?_) | refine W.cond rfl (fun hc2 => ?_) (fun hc2 => ?_)
  ·skip
   refine W.rg (SL.an rfl rfl (SL.an rfl rfl (SL.an rfl rfl (E.fo (W.ret (E.thr ?_))))))
   refine E.nilsl 6 1 rfl ?_
   refine E.fin (rs := [_, _, _]) (rn []) (.inl rfl) rfl (.cons (ResOne.tmp rfl) (.cons (ResOne.tmp rfl) (.cons (ResOne.tmp rfl) .nil))) ?_ ?_ rfl (fixL_spec rfl)
   ·skip
    have hno : ¬ posR n (barL rs) (atomsL n rs) m ⟨u, f, t⟩ := fun q => by have q2 := hae.1.2 q; simp_all
    rw [(ap_no hps hno).1, (ap_no hps hno).2.1, (ap_no hps hno).2.2]; rfl
   · exact SubS.nil
  ·skip
   refine W.skip (E.to (W.rg (SL.mv rfl rfl (SL.mv rfl rfl (SL.an rfl rfl (SL.an rfl rfl (SL.an rfl rfl (E.fo (W.ret ?_)))))))))
   refine E.fin (rs := [_, _, _]) (rn []) (.inl rfl) rfl (.cons (ResOne.tmp rfl) (.cons (ResOne.tmp rfl) (.cons (ResOne.tmp rfl) .nil))) ?_ ?_ rfl (fixL_spec rfl)
   ·skip
    have hpf : posF n (barL rs) (namedL n (partsL (mu rs) (List.range n))) m ⟨u, f, t⟩ := by first | assumption | simp_all
    have hyes := hae.1.1 hpf
    rw [(ap_yes hps hyes).1, (ap_yes hps hyes).2.1, (ap_yes hps hyes).2.2, apN_y hpf, apG_y hpf, (hae.2 hyes).1, (hae.2 hyes).2, eI_eN]; rfl
   · exact SubS.nil




set_option maxRecDepth 8000 in
/-- bookplate/cluster.Solve. -/
theorem solveC_ok {n : Nat} {ps : List Pr} {rs : List Ru} (hok : (Prob.mk (n : Int) ps rs).ok) :
    Con Try.prog 15 [vA [uI (n : Int), .sl 3 (ps.map ePr), .sl 3 (rs.map eRu)]] [] (.tup [vL 1 ((solveR n ps rs).map eN), vI 0]) [] := by
 have hf := hok.1
 have hn2 : (n : Int) ≤ 200 := hf.2.1
 refine Con.enterL (n := 34) Try.func15 rfl rfl rfl (fun τ w ok vs hin => ?_)
 have hl0_1 := hin.lenA (i := 0) (j := 1) rfl rfl
 try rw [List.length_map] at hl0_1
 have hl0_2 := hin.lenA (i := 0) (j := 2) rfl rfl
 try rw [List.length_map] at hl0_2
 clear hin
 refine W.rg ?_
 refine SL.memS (O.box (is := [_, _, _]) 101 rfl rfl (by simp) rfl rfl Taken.no) rfl rfl (S' := (101, _) :: _) rfl ?_
 refine SL.an rfl rfl (SL.an rfl rfl (E.fo (W.rg ?_)))
 refine SL.val (O.ldN (m := 3) (PtI.ref rfl rfl) (js := [_, _, _]) rfl (Nat.le_of_ble_eq_true rfl) Try.underlying32 rfl (by kernel_rfl) rfl Taken.no) ?_
 refine SL.memS (O.call (rn []) [] rfl rfl rfl (check_ok hok) (.cons (ArgOk.aggU (.cons (ArgOk.same rfl) (.cons (ArgOk.same rfl) (.cons (ArgOk.same rfl) .nil)))) .nil) SubS.nil rfl rfl rfl rfl rfl (.inl rfl) hcallOk38 (r' := .tup [.u _, .u _]) rfl rfl Taken.no) rfl rfl (S' := _) rfl ?_
 refine SL.mv rfl rfl ?_
 refine SL.val (O.extract rfl rfl rfl Taken.no) ?_
 refine SL.val (O.extract rfl rfl rfl Taken.no) ?_
 refine SL.an rfl rfl (SL.an rfl rfl (E.fo (W.seq (W.rg (SL.mv rfl rfl ?_)))))
 refine SL.val (O.det (fun _ => G.R.mv (G.R.neq rfl rfl) (congrArg Value.bool (decide_eq_false (by decide)))) rfl Taken.no) ?_
 refine E.fo ?_
 refine W.cond_f rfl ?_
 refine W.skip (E.to (W.rg (SL.mv rfl rfl ?_)))
 refine SL.val (O.nilCheck rfl rfl rfl Taken.no) ?_
 refine SL.val (O.fld_fz rfl Try.underlying78 rfl (m := 0) (by kernel_rfl) rfl rfl Taken.no) ?_
 refine SL.val (O.ld1 (PtI.ofU (PtU.fz rfl)) rfl Try.underlying39 rfl rfl Taken.no) ?_
 refine SL.val (O.callp rfl rfl rfl (Con.fz (clone_h (rows := (namedL n (partsL (mu rs) (List.range n))).map eN) (by rw [List.length_map, (atm_ok n rs).1]; omega)) rfl rfl) (.cons (ArgOk.same rfl) .nil) hcallOk39 rfl Taken.no) ?_
 refine SL.an rfl rfl (E.fo (W.block ?_))
 refine W.loopx1 (fun (m : List Nat) => [(6, vL 1 (m.map eN))]) (fun (m : List Nat) => []) (fun (m : List Nat) => isP n m ∧ permR n ps rs m ∧ solveN n ps rs (muS ps m + 1) m = solveR n ps rs) (fun (m : List Nat) => muS ps m) (atomsL n rs) (rn []) (.cons (t := 4) rfl .nil) (.cons (t := 101) rfl .nil) rfl ?_ ?_ rfl rfl ?_ ?_
 · exact (SubF.val rfl (by exact iv_sl (by rw [atoms_eq hf])) SubF.nil)
 · exact SubS.nil
 ·skip
  exact ⟨(atoms_perm hok).1, (atoms_perm hok).2, rfl⟩
 intro m hinv
 obtain ⟨hQ, hpr, hsv⟩ := hinv
 have hml := hQ.1
 have hna := next_all hf hQ hpr
 have hne := out_eq hf hQ hpr
 refine W.block (W.rg (SL.mv rfl rfl (SL.mv rfl rfl ?_)))
 refine SL.memS (O.call (rn []) [] rfl rfl rfl (next_h (m := m) (by omega) (w_b hf) (atm_ok n rs) (bar_rng hf) hml) (.cons (ArgOk.same rfl) (.cons (ArgOk.same rfl) .nil)) SubS.nil rfl rfl rfl rfl rfl (.inl rfl) hcallOk40 (r' := .tup [.agg [.u _, .u _, .u _], .u _, .u _]) rfl rfl Taken.no) rfl rfl (S' := _) rfl ?_
 refine SL.mv rfl rfl ?_
 refine SL.val (O.extract rfl rfl rfl Taken.no) ?_
 refine SL.val (O.extract rfl rfl rfl Taken.no) ?_
 refine SL.val (O.extract rfl rfl rfl Taken.no) ?_
 refine SL.memS (O.alloc (z := .agg #[.bool false, .int .i64 0, .int .i64 0]) (is := [.u (.sc (.bool false)), .u (.sc (.int .i64 0)), .u (.sc (.int .i64 0))]) 102 (by kernel_rfl) rfl rfl rfl Taken.no) rfl rfl (S' := (102, _) :: _) rfl ?_
 refine SL.effS (O.st_ref (m := 3) rfl rfl rfl (js := [_, _, _]) rfl rfl (by kernel_rfl) (by simp) (Nat.le_of_ble_eq_true rfl) rfl (is' := [_, _, _]) rfl Taken.no) (S' := (102, _) :: _) rfl ?_
 refine SL.an rfl rfl (SL.an rfl rfl (E.fo (W.seq (W.rg (SL.mv rfl rfl ?_)))))
 refine SL.val (O.det (fun _ => G.R.eql rfl rfl) rfl Taken.no) ?_
 refine E.fo ?_
 first | refine W.cond_d rfl (fun hc1 => ?_) (fun hc1 => ?_) | refine W.cond_nd rfl (fun hc1 => ?_) (fun hc1 => ?_) | refine W.cond rfl (fun hc1 => ?_) (fun hc1 => ?_)
 ·skip
  refine W.rg (SL.mv rfl rfl (SL.an rfl rfl (SL.an rfl rfl (E.fo (W.ret (E.thr ?_))))))
  refine E.inr ?_
  refine E.thr ?_
  refine E.inr ?_
  refine E.fin (rs := [_, _]) (rn []) (.inl rfl) rfl (.cons (ResOne.tmp rfl) (.cons (ResOne.tmp rfl) .nil)) ?_ ?_ rfl (fixL_spec rfl)
  ·skip
   have hz : (nextR n ps rs m).2 = 0 := by rw [← hna]; assumption
   rw [← hsv, solve_end hz]; rfl
  · exact SubS.nil
 ·skip
  have hnz : ¬ (nextR n ps rs m).2 = 0 := by rw [← hna]; assumption
  refine W.skip (E.to (W.region (SL.mv rfl rfl (SL.an rfl rfl (SL.nil (E.inn ?_))))))
  refine E.again ((outR n ps rs m)) (rn []) ?_ ?_ rfl (fixL_spec rfl) ?_ ?_
  · exact (SubF.val rfl (by (try dsimp only); exact iv_sl (by rw [hna, hne, eI_eN])) (SubF.cons rfl SubF.nil))
  · exact (SubS.cons rfl SubS.nil)
  ·try dsimp only
   have hns := next_step hf hQ hpr hnz
   have hor : outR n ps rs m = resR n ps rs m (nextR n ps rs m).1 := if_neg hnz
   exact ⟨by rw [hor]; exact hns.1, by rw [hor]; exact hns.2.1, by rw [hor, solve_step hf hQ hpr hnz]; exact hsv⟩
  · (try dsimp only); (have hns := next_step hf hQ hpr hnz; have hor : outR n ps rs m = resR n ps rs m (nextR n ps rs m).1 := if_neg hnz; rw [hor]; exact hns.2.2.2)


end Go.Proofs.Ytppamigboeaefaa
end
section
namespace Go.D33
open Go Go.RowKit Go.H
/-! ### Problems of some units -/
def atF (us : List Int) (x : Int) : Int := idxF (fun y => decide (y = x)) us
def pl (us : List Int) : Nat → List (Int × Int)
  | 0 => []
  | k + 1 => mset (pl us k) us[k]! k
def ascU (us : List Int) : Prop := ∀ i, i < us.length → 0 < i → us[i - 1]! < us[i]!
instance (us : List Int) : Decidable (ascU us) := by unfold ascU; infer_instance
def rngU (N : Int) (us : List Int) : Prop := ∀ i, i < us.length → 0 ≤ us[i]! ∧ us[i]! < N
instance (N : Int) (us : List Int) : Decidable (rngU N us) := by unfold rngU; infer_instance
def okU (N : Int) (us : List Int) : Prop := ascU us ∧ rngU N us
instance (N : Int) (us : List Int) : Decidable (okU N us) := by unfold okU; infer_instance
def subE (N : Int) (us : List Int) : Int := if ¬ ascU us then 19 else if ¬ rngU N us then 2 else 0
def subPr (us : List Int) (x : Pr) : Option Pr := if 0 ≤ atF us x.a ∧ 0 ≤ atF us x.b then some ⟨atF us x.a, atF us x.b, x.w⟩ else none
def subRu (us : List Int) (x : Ru) : Option Ru := if 0 ≤ atF us x.a ∧ 0 ≤ atF us x.b then some ⟨x.k, atF us x.a, atF us x.b⟩ else none
def subP (us : List Int) (ps : List Pr) : List Pr := ps.filterMap (subPr us)
def subR (us : List Int) (rs : List Ru) : List Ru := rs.filterMap (subRu us)
theorem asc_ltU {us : List Int} (h : ascU us) : ∀ {i j : Nat}, i < j → j < us.length → us[i]! < us[j]! := by
  intro i j hij hj
  induction j with
  | zero => omega
  | succ j ih =>
    have h1 := h (j + 1) hj (by omega)
    rw [Nat.add_sub_cancel] at h1
    rcases Nat.lt_succ_iff_lt_or_eq.1 hij with q | q
    · have := ih q (by omega); omega
    · rw [q]; exact h1
def sbN (N : Int) (us : List Int) : Int := if okU N us then us.length else 0
def sbP (N : Int) (us : List Int) (ps : List Pr) : List Pr := if okU N us then subP us ps else []
def sbR (N : Int) (us : List Int) (rs : List Ru) : List Ru := if okU N us then subR us rs else []
/-! ### Names of labels -/
def nmK (l : List Nat) (i j : Nat) : Nat := if (List.range i).any (fun k => decide (j ≤ k ∧ l[k]! = l[i]!)) = true then l.idxOf l[i]! else i
def nmX (l : List Nat) (i : Nat) : List Nat := (nmL l).take i ++ List.replicate (l.length - i) 0
/-! ### Labels behind a move, place by place -/
def mvK (n k : Nat) (atm m : List Nat) (s : Stp) : List Nat := (List.range n).map fun i => if i < k ∧ atm[i]! = s.f.toNat then (if s.t < 0 then n else s.t.toNat) else m[i]!
def apRL (n : Nat) (ps : List Pr) (rs : List Ru) (m : List Nat) (s : Stp) : List Nat := if posR n (barL rs) (atomsL n rs) m s then resR n ps rs m s else []
def apRV (n : Nat) (ps : List Pr) (rs : List Ru) (m : List Nat) (s : Stp) : Int := if posR n (barL rs) (atomsL n rs) m s then gnR n ps rs m s else 0
end Go.D33
end
section
namespace Go.Proofs.Ytppamigboeaefaa
open Go Go.RowKit Go.H Go.D33





end Go.Proofs.Ytppamigboeaefaa
end
section
namespace Go.Proofs.Ytppamigboeaefaa
open Go Go.RowKit Go.H Go.D33






end Go.Proofs.Ytppamigboeaefaa
end
section
namespace Go.Proofs.Ytppamigboeaefaa
open Go Go.RowKit Go.H Go.D33

theorem hcallOk25 : G.callOk Try.prog 25 = true := by kernel_rfl










end Go.Proofs.Ytppamigboeaefaa
end
section
namespace Go.D33
open Go Go.RowKit Go.H
def exP : List Pr := [⟨0, 1, 5⟩, ⟨0, 2, -6⟩, ⟨1, 2, 4⟩]
def exR : List Ru := [⟨1, 2, 1⟩]
theorem ex_ok : (Prob.mk ((3 : Nat) : Int) exP []).ok := ⟨by decide +kernel, by decide +kernel⟩
theorem ex_ok2 : (Prob.mk ((3 : Nat) : Int) exP exR).ok := ⟨by decide +kernel, by decide +kernel⟩
theorem ex_s1 : solveR 3 exP [] = [0, 0, 2] := by decide +kernel
theorem ex_s2 : solveR 3 exP exR = [0, 1, 1] := by decide +kernel
theorem ex_v : valI 3 (wF exP) ([0, 0, 2] : List Int) = 5 ∧ valE 3 ([0, 0, 2] : List Int) = 0 := by decide +kernel
theorem ex_p : permI 3 (mF (lF exP) exR) (barL exR) (namedL 3 (partsL (mu exR) (List.range 3))) ([0, 1, 1] : List Int) := by decide +kernel
/-! ### '==' of pairs, rules and steps -/
def prV (x : Pr) : List Value := [.int .i64 x.a, .int .i64 x.b, .int .i64 x.w]
def ruV (x : Ru) : List Value := [.int .i64 x.k, .int .i64 x.a, .int .i64 x.b]
def stV (x : Stp) : List Value := [.bool x.u, .int .i64 x.f, .int .i64 x.t]
theorem Pr.ext {a b : Pr} (h1 : a.a = b.a) (h2 : a.b = b.b) (h3 : a.w = b.w) : a = b := by cases a; cases b; simp_all
instance : DecidableEq Pr := fun a b => if h : a.a = b.a ∧ a.b = b.b ∧ a.w = b.w then .isTrue (Pr.ext h.1 h.2.1 h.2.2) else .isFalse fun e => h (by subst e; exact ⟨rfl, rfl, rfl⟩)
theorem Ru.ext {a b : Ru} (h1 : a.k = b.k) (h2 : a.a = b.a) (h3 : a.b = b.b) : a = b := by cases a; cases b; simp_all
instance : DecidableEq Ru := fun a b => if h : a.k = b.k ∧ a.a = b.a ∧ a.b = b.b then .isTrue (Ru.ext h.1 h.2.1 h.2.2) else .isFalse fun e => h (by subst e; exact ⟨rfl, rfl, rfl⟩)
theorem valI_eq {n : Nat} {ps : List Pr} {rs : List Ru} (hf : (Prob.mk (n : Int) ps rs).formed) (l : List Int) : valI n (wF ps) l = valSI n ps l := by
  by_cases h : isPart n l
  · obtain ⟨m, rfl⟩ := cast_of fun i hi => (h.2 i hi).1
    have hp := isPart_cast.1 h
    rw [(valI_y (w := wF ps) hp).1, (valSI_y (ps := ps) hp).1, val_eq hf hp]
  · rw [(valI_n h).1, (valSI_n h).1]
end Go.D33
end
