/-
  What the proof rests on: part 13 of 14.
-/
import Derived.Test.YtmekkjehkcjpdaaGreatCirculateRunP12
section
namespace Go.D58
open Go Go.RowKit Go.H Go.D57
def holdsC (cs : List Cp) : List Int := (cs.filter fun c => decide (c.place = 3)).map (·.hold)
def holdsQ (ls : List Ln) : List Int := ls.flatMap fun l => l.q.map (·.id)
def holdsL (s : St) : List Int := holdsC s.cps ++ holdsQ s.lns
def hasC (cs : List Cp) (w p : Int) : Bool := decide (0 ≤ ownI ⟨0, cs, []⟩ p w)
theorem has_iff {cs : List Cp} {w p : Int} : hasC cs w p = true ↔ ∃ c ∈ cs, c.place ≠ 1 ∧ c.work = w ∧ c.pat = p := by
  unfold hasC
  rw [decide_eq_true_eq]
  unfold ownI
  rw [← any_iff]
  constructor
  · rintro ⟨c, h1, h2⟩; exact ⟨c, h1, of_decide_eq_true h2⟩
  · rintro ⟨c, h1, h2⟩; exact ⟨c, h1, decide_eq_true h2⟩
def vCpR (s : St) (k : Nat) : Prop := cpOk s.cps[k]! s.now ∧ (0 < k → s.cps[k - 1]!.id < s.cps[k]!.id) ∧ ¬ (s.cps[k]!.place ≠ 1 ∧ hasC (s.cps.take k) s.cps[k]!.work s.cps[k]!.pat = true) ∧ ¬ 5 < (idsF (fun c => decide (c.place = 2 ∧ c.pat = s.cps[k]!.pat)) s.cps).length
def lnR (s : St) (i : Nat) : Prop := idB s.lns[i]!.work ∧ (0 < i → s.lns[i - 1]!.work < s.lns[i]!.work) ∧ ¬ s.lns[i]!.q.length = 0 ∧ validQ s.lns[i]!.q ∧ cntP s.cps s.lns[i]!.work 1 = 0 ∧ ¬ cntP s.cps s.lns[i]!.work 2 + cntP s.cps s.lns[i]!.work 3 = 0 ∧
  ∀ k, k < s.lns[i]!.q.length → ¬ (s.lns[i]!.q[k]!.tim > s.now ∨ hasC s.cps s.lns[i]!.work s.lns[i]!.q[k]!.pat = true)
def linesR (s : St) : Prop := (∀ i, i < s.lns.length → lnR s i) ∧ s.lns.length ≤ 60
def ndI (l : List Int) : Prop := ∀ i, i < l.length → ¬ l[i]! ∈ l.take i
def validR (s : St) : Prop := inB s.now 0 1000000 ∧ s.cps.length ≤ 60 ∧ (∀ k, k < s.cps.length → vCpR s k) ∧ ndI (holdsL s) ∧ linesR s
theorem hs_C {cs : List Cp} {n : Int} (h : ∀ c ∈ cs, cpOk c n) : hsE (evC cs) = holdsC cs := by
  induction cs with
  | nil => rfl
  | cons c cs ih =>
    have ih := ih fun c hc => h c (List.mem_cons_of_mem _ hc)
    have hc := (h c List.mem_cons_self).2.2.2
    unfold holdsC at ih ⊢
    rw [show evC (c :: cs) = evC [c] ++ evC cs from evC_app [c] cs, hs_app, ih, List.filter_cons]
    rcases hc with q | q | q
    · rw [evC_one q.1, if_neg (by rw [decide_eq_false (show ¬ c.place = 3 by omega)]; decide)]; rfl
    · rw [evC_two xA, hsE_cons, if_neg (by rw [show (c.pat, c.work, c.hold).2.2 = 0 from q.2.2.2]; simp), if_neg (by rw [decide_eq_false (show ¬ c.place = 3 by omega)]; decide)]; rfl
    · have h0 : c.hold ≠ 0 := by have := q.2.2.1; unfold idB inB at this; omega
      rw [evC_two xA, hsE_cons, if_pos h0, if_pos (decide_eq_true q.1)]; rfl
theorem hs_Q {ls : List Ln} (h : okV ls) : hsE (evL ls) = holdsQ ls := by
  induction ls with
  | nil => rfl
  | cons l ls ih =>
    have ih := ih fun c hc => h c (List.mem_cons_of_mem _ hc)
    have hv := h l List.mem_cons_self
    unfold holdsQ at ih ⊢
    rw [evL_cons, hs_app, ih, List.flatMap_cons]
    congr 1
    unfold hsE evQ
    rw [List.map_map]
    refine List.filter_eq_self.2 fun a ha => ?_
    obtain ⟨x, hx, rfl⟩ := List.mem_map.1 ha
    obtain ⟨i, hi, rfl⟩ := mem_at hx
    have := (hv.1 i hi).1.1
    exact decide_eq_true (show l.q[i]!.id ≠ 0 by omega)
theorem nd_iff {l : List Int} : ndI l ↔ l.Nodup := by
  unfold ndI
  rw [List.nodup_iff_pairwise_ne, List.pairwise_iff_getElem]
  constructor
  · intro h i j hi hj hij e
    refine h j hj ?_
    rw [getElem!_pos l j hj, ← e]
    exact List.mem_take_iff_getElem.2 ⟨i, xA, rfl⟩
  · intro h j hj hm
    obtain ⟨i, hi, e⟩ := List.mem_take_iff_getElem.1 hm
    rw [getElem!_pos l j hj] at e
    exact h i j xA hj xA e
theorem take_s {α : Type} [Inhabited α] {l : List α} {n : Nat} (h : n < l.length) : l.take (n + 1) = l.take n ++ [l[n]!] := by
  rw [List.take_add_one, List.getElem?_eq_getElem h, getElem!_pos l n h]; rfl
theorem nodup_snoc {α : Type} {l : List α} {a : α} : (l ++ [a]).Nodup ↔ l.Nodup ∧ a ∉ l := by
  rw [List.nodup_append]
  constructor
  · rintro ⟨h1, _, h3⟩; exact ⟨h1, fun m => h3 a m a (List.mem_singleton.2 rfl) rfl⟩
  · rintro ⟨h1, h2⟩; exact ⟨h1, List.nodup_cons.2 ⟨by simp, List.nodup_nil⟩, fun x hx y hy e => by rw [List.mem_singleton.1 hy] at e; exact h2 (e ▸ hx)⟩
theorem evC_nd (cs : List Cp) : ((evC cs).map pw).Nodup ↔ ∀ k, k < cs.length → ¬ (cs[k]!.place ≠ 1 ∧ hasC (cs.take k) cs[k]!.work cs[k]!.pat = true) := by
  have key : ∀ n, n ≤ cs.length → (((evC (cs.take n)).map pw).Nodup ↔ ∀ k, k < n → ¬ (cs[k]!.place ≠ 1 ∧ hasC (cs.take k) cs[k]!.work cs[k]!.pat = true)) := by
    intro n
    induction n with
    | zero => intro _; exact ⟨fun _ k hk => xA, fun _ => List.nodup_nil⟩
    | succ n ih =>
      intro hn
      have ih := ih xA
      rw [take_s xA, evC_app, List.map_append]
      by_cases e : cs[n]!.place = 1
      · rw [evC_one e, List.map_nil, List.append_nil, ih]
        constructor
        · intro h k hk
          rcases Nat.lt_succ_iff_lt_or_eq.1 hk with q | q
          · exact h k q
          · subst q; exact fun z => z.1 e
        · intro h k hk; exact h k xA
      · rw [evC_two e, List.map_singleton, nodup_snoc, ih]
        have hm : pw (cs[n]!.pat, cs[n]!.work, cs[n]!.hold) ∈ (evC (cs.take n)).map pw ↔ hasC (cs.take n) cs[n]!.work cs[n]!.pat = true := by
          rw [has_iff]
          refine pw_evC.trans ?_
          constructor
          · rintro ⟨c, h1, h2, h3, h4⟩; exact ⟨c, h1, h2, h4, h3⟩
          · rintro ⟨c, h1, h2, h3, h4⟩; exact ⟨c, h1, h2, h4, h3⟩
        rw [hm]
        constructor
        · rintro ⟨h1, h2⟩ k hk
          rcases Nat.lt_succ_iff_lt_or_eq.1 hk with q | q
          · exact h1 k q
          · subst q; exact fun z => h2 z.2
        · intro h; exact ⟨fun k hk => h k xA, fun z => h n xA ⟨e, z⟩⟩
  have := key cs.length (Nat.le_refl _)
  rwa [List.take_length] at this
theorem evQ_nd {w : Int} {q : List Hd} (h : validQ q) : ((evQ w q).map pw).Nodup := by
  rw [List.nodup_iff_pairwise_ne, List.pairwise_iff_getElem]
  intro i j hi hj hij e
  unfold evQ at hi hj
  simp only [List.length_map] at hi hj
  have := (h.1 j hj).2.2 i hij
  refine this (.inr ?_)
  simp only [evQ, List.getElem_map, pw, Prod.mk.injEq] at e
  rw [getElem!_pos q i hi, getElem!_pos q j hj]
  exact e.1
theorem evL_nd {ls : List Ln} (ha : asc (·.work) ls) (hV : okV ls) : ((evL ls).map pw).Nodup := by
  have key : ∀ n, n ≤ ls.length → ((evL (ls.take n)).map pw).Nodup := by
    intro n
    induction n with
    | zero => intro _; exact List.nodup_nil
    | succ n ih =>
      intro hn
      have ih := ih xA
      rw [take_s xA, evL_app, List.map_append, List.nodup_append]
      refine ⟨ih, ?_, fun a hx b hy e => ?_⟩
      · rw [show evL [ls[n]!] = evQ ls[n]!.work ls[n]!.q from by rw [evL_cons]; exact List.append_nil _]
        exact evQ_nd (hV _ (at_mem xA))
      · subst e
        obtain ⟨l, l1, l2, _⟩ := pw_evL.1 (show (a.1, a.2) ∈ _ from hx)
        obtain ⟨l', l1', l2', _⟩ := pw_evL.1 (show (a.1, a.2) ∈ _ from hy)
        rw [List.mem_singleton.1 l1'] at l2'
        obtain ⟨i, hi, rfl⟩ := List.getElem_of_mem l1
        rw [List.length_take] at hi
        have : ls[i]!.work < ls[n]!.work := ha i n xA xA
        rw [getElem!_pos ls i xA] at this
        rw [List.getElem_take] at l2
        omega
  have := key ls.length (Nat.le_refl _)
  rwa [List.take_length] at this
theorem lnC_ids (cs : List Cp) (p : Int) : (idsF (fun c => decide (c.place = 2 ∧ c.pat = p)) cs).length = lnC cs p := by unfold idsF lnC; rw [List.length_map]
theorem validR_iff (s : St) : validR s ↔ validS s := by
  constructor
  · rintro ⟨h1, h2, h3, h4, h5, h6⟩
    have hcp : ∀ c ∈ s.cps, cpOk c s.now := fun c hc => by obtain ⟨i, hi, rfl⟩ := mem_at hc; exact (h3 i hi).1
    have hla : asc (·.work) s.lns := asc_of fun k hk k0 => (h5 k hk).2.1 k0
    have hV : okV s.lns := fun l hl => by obtain ⟨i, hi, rfl⟩ := mem_at hl; exact (h5 i hi).2.2.2.1
    refine ⟨h1, h2, h6, fun k hk => ⟨(h3 k hk).1, (h3 k hk).2.1⟩, fun i hi => ?_, (apart_iff s).2 ⟨?_, ?_, fun p => ?_⟩⟩
    · obtain ⟨q1, q2, q3, q4, q5, q6, q7⟩ := h5 i hi
      refine ⟨⟨q1, q4, xA, fun x hx => ?_⟩, q2, q5, q6⟩
      obtain ⟨k, hk, rfl⟩ := mem_at hx
      exact Int.not_lt.1 fun z => q7 k hk (.inl z)
    · unfold evA
      rw [List.map_append, List.nodup_append]
      refine ⟨(evC_nd _).2 fun k hk => (h3 k hk).2.2.1, evL_nd hla hV, fun a hx b hy e => ?_⟩
      subst e
      obtain ⟨c, c1, c2, c3, c4⟩ := pw_evC.1 (show (a.1, a.2) ∈ _ from hx)
      obtain ⟨l, l1, l2, x, l3, l4⟩ := pw_evL.1 (show (a.1, a.2) ∈ _ from hy)
      obtain ⟨i, hi, rfl⟩ := mem_at l1
      obtain ⟨k, hk, rfl⟩ := mem_at l3
      exact (h5 i hi).2.2.2.2.2.2 k hk (.inr (has_iff.2 ⟨c, c1, c2, c4.trans l2.symm, c3.trans l4.symm⟩))
    · unfold evA
      rw [hs_app, hs_C hcp, hs_Q hV]
      exact nd_iff.1 h4
    · rcases Nat.eq_zero_or_pos (lnC s.cps p) with z | z
      · omega
      · obtain ⟨c, hc⟩ := List.exists_mem_of_length_pos z
        obtain ⟨m1, m2⟩ := List.mem_filter.1 hc
        obtain ⟨k, hk, rfl⟩ := mem_at m1
        have m3 := (of_decide_eq_true m2).2
        have := (h3 k hk).2.2.2
        rw [lnC_ids, m3] at this
        omega
  · intro h
    have v := valid_vld.1 h
    have ap := v.ap
    have hn : ((evC s.cps).map pw).Nodup ∧ ((evL s.lns).map pw).Nodup ∧ ∀ a ∈ (evC s.cps).map pw, ∀ b ∈ (evL s.lns).map pw, a ≠ b := by
      have := ap.1
      unfold evA at this
      rwa [List.map_append, List.nodup_append] at this
    have hh := ap.2.1
    unfold evA at hh
    rw [hs_app, hs_C v.cp, hs_Q v.okV] at hh
    refine ⟨h.1, h.2.1, fun k hk => ⟨(h.2.2.2.1 k hk).1, (h.2.2.2.1 k hk).2, (evC_nd _).1 hn.1 k hk, ?_⟩, nd_iff.2 hh, fun i hi => ?_, h.2.2.1⟩
    · rw [lnC_ids]
      have := ap.2.2 s.cps[k]!.pat
      omega
    · obtain ⟨q1, q2, q3, q4⟩ := h.2.2.2.2.1 i hi
      refine ⟨q1.1, q2, by have := q1.2.2.1; omega, q1.2.1, q3, q4, fun k hk => ?_⟩
      rintro (z | z)
      · have := q1.2.2.2 _ (at_mem hk); omega
      · obtain ⟨c, c1, c2, c3, c4⟩ := has_iff.1 z
        exact hn.2.2 (s.lns[i]!.q[k]!.pat, s.lns[i]!.work) (pw_evC.2 ⟨c, c1, c2, c4, c3⟩) _ (pw_evL.2 ⟨_, at_mem hi, rfl, _, at_mem hk, rfl⟩) rfl
def wS (ls : List Ln) (w : Int) (q : List Hd) : Nat → List Ln × Bool
  | 0 => ([], decide (q.length = 0))
  | k + 1 => ((if (wS ls w q k).2 = false ∧ w ≤ ls[k]!.work then (wS ls w q k).1 ++ [⟨w, q⟩] else (wS ls w q k).1) ++ (if ls[k]!.work ≠ w then [ls[k]!] else []), (wS ls w q k).2 || decide (w ≤ ls[k]!.work))
def wE (ls : List Ln) (w : Int) (q : List Hd) : List Ln := if (wS ls w q ls.length).2 = true then (wS ls w q ls.length).1 else (wS ls w q ls.length).1 ++ [⟨w, q⟩]
theorem wS_len (ls : List Ln) (w : Int) (q : List Hd) : ∀ k, (wS ls w q k).1.length ≤ 2 * k
  | 0 => Nat.le_refl _
  | k + 1 => by
    have := wS_len ls w q k
    rw [wS]
    simp only [List.length_append]
    split <;> split <;> simp <;> omega
def newL (w : Int) (q : List Hd) : List Ln := if q.length = 0 then [] else [⟨w, q⟩]
theorem wS_lo {ls : List Ln} (ha : asc (·.work) ls) (w : Int) (q : List Hd) : ∀ k, k ≤ kpos (·.work) ls w → wS ls w q k = (ls.take k, decide (q.length = 0))
  | 0, _ => by rw [wS, List.take_zero]
  | k + 1, hk => by
    have hp := kpos_le (key := fun l : Ln => l.work) ls w
    have h1 : ls[k]!.work < w := kpos_lo ha (show k < kpos (·.work) ls w by omega)
    rw [wS, wS_lo ha w q k xA, if_neg (show ¬ (decide (q.length = 0) = false ∧ w ≤ ls[k]!.work) from fun z => by omega), if_pos (show ls[k]!.work ≠ w by omega), take_s xA, decide_eq_false (show ¬ w ≤ ls[k]!.work by omega), Bool.or_false]
theorem wS_hi {ls : List Ln} (ha : asc (·.work) ls) (w : Int) (q : List Hd) : ∀ k, kpos (·.work) ls w < k → k ≤ ls.length → wS ls w q k = (ls.take (kpos (·.work) ls w) ++ newL w q ++ ((ls.take k).drop (kpos (·.work) ls w)).filter (fun l => decide (l.work ≠ w)), true)
  | 0, h, _ => by omega
  | k + 1, h, hk => by
    have h1 : ¬ ls[k]!.work < w := kpos_hi ha (show kpos (·.work) ls w ≤ k by omega) xA
    have hd : (ls.take (k + 1)).drop (kpos (·.work) ls w) = (ls.take k).drop (kpos (·.work) ls w) ++ [ls[k]!] := by
      rw [take_s xA, List.drop_append_of_le_length (by rw [List.length_take]; omega)]
    have hf : ((ls.take (k + 1)).drop (kpos (·.work) ls w)).filter (fun l => decide (l.work ≠ w)) = ((ls.take k).drop (kpos (·.work) ls w)).filter (fun l => decide (l.work ≠ w)) ++ (if ls[k]!.work ≠ w then [ls[k]!] else []) := by
      rw [hd, List.filter_append, List.filter_cons]
      by_cases e : ls[k]!.work ≠ w
      · rw [if_pos (decide_eq_true e), if_pos e]; rfl
      · rw [if_neg wU, if_neg e]; rfl
    rw [wS, hf]
    rcases Nat.lt_or_eq_of_le (show kpos (·.work) ls w ≤ k by omega) with z | z
    · rw [wS_hi ha w q k z xA, if_neg (fun y => absurd (show true = false from y.1) xI)]
      simp only [Bool.true_or, List.append_assoc]
    · have h1' : w ≤ ls[kpos (·.work) ls w]!.work := by rw [z]; omega
      rw [wS_lo ha w q k xA, decide_eq_true (show w ≤ ls[k]!.work by omega), Bool.or_true]
      have h0 : (ls.take k).drop (kpos (·.work) ls w) = [] := List.drop_eq_nil_of_le (by rw [List.length_take]; omega)
      rw [h0, List.filter_nil, List.nil_append, ← z]
      congr 1
      unfold newL
      by_cases e : q.length = 0
      · rw [decide_eq_true e, if_neg (fun y => absurd (show true = false from y.1) xI), if_pos e, List.append_nil]
      · rw [decide_eq_false e, if_pos ⟨rfl, h1'⟩, if_neg e]
theorem wE_set {ls : List Ln} (ha : asc (·.work) ls) (w : Int) (q : List Hd) : wE ls w q = setQ ls w q := by
  have hp := kpos_le (key := fun l : Ln => l.work) ls w
  have hno : ∀ {l : List Ln}, (∀ x ∈ l, x.work ≠ w) → l.filter (fun l => decide (l.work ≠ w)) = l := fun h => List.filter_eq_self.2 fun x hx => decide_eq_true (h x hx)
  unfold wE
  rcases Nat.lt_or_eq_of_le hp with z | z
  · rw [wS_hi ha w q _ z (Nat.le_refl _), if_pos rfl, List.take_length]
    have hrest : ∀ x ∈ ls.drop (kpos (·.work) ls w + 1), x.work ≠ w := fun x hx => by
      obtain ⟨j, hj, rfl⟩ := List.getElem_of_mem hx
      rw [List.length_drop] at hj
      have h1 : ls[kpos (·.work) ls w]!.work < ls[kpos (·.work) ls w + 1 + j]!.work := ha _ _ xA xA
      have h2 : ¬ ls[kpos (·.work) ls w]!.work < w := kpos_hi ha (Nat.le_refl _) z
      rw [List.getElem_drop]
      rw [getElem!_pos ls (kpos (·.work) ls w + 1 + j) xA] at h1
      omega
    cases hf : kfnd (·.work) ls w with
    | true =>
      have hw : ls[kpos (·.work) ls w]!.work = w := ((kfnd_iff ha).1 hf).2
      rw [drop_at z, List.filter_cons, if_neg (by rw [decide_eq_false (fun y => y hw)]; decide), hno hrest]
      unfold newL
      by_cases e : q.length = 0
      · rw [setQ_del hf e, if_pos e, List.append_nil]
      · rw [setQ_set hf e, if_neg e, set_split z, hw]
    | false =>
      have hw : ls[kpos (·.work) ls w]!.work ≠ w := kfnd_no ha hf z
      rw [hno (l := ls.drop (kpos (·.work) ls w)) (fun x hx => by
        rw [drop_at z] at hx
        rcases List.mem_cons.1 hx with m | m
        · rw [m]; exact hw
        · exact hrest x m)]
      unfold newL
      by_cases e : q.length = 0
      · rw [setQ_no hf e, if_pos e, List.append_nil, List.take_append_drop]
      · rw [setQ_ins hf e, if_neg e, List.append_assoc]; rfl
  · rw [wS_lo ha w q _ xA, List.take_length]
    have hf : kfnd (·.work) ls w = false := by
      cases hf : kfnd (·.work) ls w with
      | false => rfl
      | true => have := ((kfnd_iff ha).1 hf).1; omega
    by_cases e : q.length = 0
    · rw [decide_eq_true e, if_pos rfl, setQ_no hf e]
    · rw [decide_eq_false e, if_neg (fun y => absurd (show false = true from y) xI), setQ_ins hf e, z, List.take_length, List.drop_length]
theorem setQ_undo {ls : List Ln} (ha : asc (·.work) ls) {w : Int} (hf : kfnd (·.work) ls w = false) {q : List Hd} (hq : q.length ≠ 0) : setQ (setQ ls w q) w [] = ls := by
  have hp := kpos_le (key := fun l : Ln => l.work) ls w
  rw [setQ_ins hf hq]
  have ha2 : asc (·.work) (ls.take (kpos (·.work) ls w) ++ ⟨w, q⟩ :: ls.drop (kpos (·.work) ls w)) := asc_ins (x := (⟨w, q⟩ : Ln)) ha hf
  have hlen : (ls.take (kpos (·.work) ls w) ++ (⟨w, q⟩ : Ln) :: ls.drop (kpos (·.work) ls w)).length = ls.length + 1 := by simp; omega
  have hg := fun i (hi : i < ls.length + 1) => get_ins (x := (⟨w, q⟩ : Ln)) hp hi
  have e : kpos (·.work) ls w = kpos (·.work) (ls.take (kpos (·.work) ls w) ++ ⟨w, q⟩ :: ls.drop (kpos (·.work) ls w)) w := by
    refine kpos_eq ha2 xA (fun j hj => ?_) (fun j hj hl => ?_)
    · show (ls.take (kpos (·.work) ls w) ++ (⟨w, q⟩ : Ln) :: ls.drop (kpos (·.work) ls w))[j]!.work < w
      rw [hg j xA, if_pos hj]; exact kpos_lo ha hj
    · show ¬ (ls.take (kpos (·.work) ls w) ++ (⟨w, q⟩ : Ln) :: ls.drop (kpos (·.work) ls w))[j]!.work < w
      rw [hlen] at hl
      rw [hg j hl, if_neg xA]
      split
      · exact Int.lt_irrefl _
      · exact kpos_hi ha xA xA
  have hf2 : kfnd (·.work) (ls.take (kpos (·.work) ls w) ++ ⟨w, q⟩ :: ls.drop (kpos (·.work) ls w)) w = true := by
    rw [kfnd_iff ha2, ← e]
    refine ⟨xA, ?_⟩
    show (ls.take (kpos (·.work) ls w) ++ (⟨w, q⟩ : Ln) :: ls.drop (kpos (·.work) ls w))[kpos (·.work) ls w]!.work = w
    rw [hg _ xA, if_neg xA, if_pos rfl]
  rw [setQ_del hf2 rfl, ← e]
  have ht : (ls.take (kpos (·.work) ls w)).length = kpos (·.work) ls w := by rw [List.length_take]; omega
  rw [List.take_left' ht, List.drop_append, ht, Nat.add_sub_cancel_left, List.drop_eq_nil_of_le xA, List.nil_append, List.drop_succ_cons, List.drop_zero, List.take_append_drop]
theorem shelf_put {s : St} {x : Sp} (hv : validS s) (he : askE s x = 0) (hs : 0 ≤ shlI s x.work) : freeS (putS s x) (shlI s x.work).toNat = ⟨s.now, s.cps.set (shlI s x.work).toNat (wtC s.cps[(shlI s x.work).toNat]! (hldX s x) s.now), s.lns⟩ := by
  have h := valid_vld.1 hv
  have hpe := ask_put hv he
  obtain ⟨hi, hd⟩ := idxF_lt hs
  have hd := of_decide_eq_true hd
  change (shlI s x.work).toNat < s.cps.length at hi
  change s.cps[(shlI s x.work).toNat]!.work = x.work ∧ s.cps[(shlI s x.work).toNat]!.place = 1 at hd
  have hno := not_line h (at_mem hi) hd.2
  rw [hd.1] at hno
  have hq : queS s x.work = [] := que_no hno
  have hp : putQ (queS s x.work) (hldX s x) = [hldX s x] := by rw [(put_ok hpe).2.2.2.2, hq]; rfl
  have hf : kfnd (·.work) s.lns x.work = false := by
    cases hf : kfnd (·.work) s.lns x.work with
    | false => rfl
    | true =>
      obtain ⟨h1, h2⟩ := (kfnd_iff h.la).1 hf
      exact absurd h2 (hno _ (at_mem h1))
  have hv1 : validQ [hldX s x] := by rw [← hp]; exact put_okV
  have hqp : queS (putS s x) (putS s x).cps[(shlI s x.work).toNat]!.work = [hldX s x] := by
    show queS (putS s x) s.cps[(shlI s x.work).toNat]!.work = _
    rw [hd.1, putS, que_setQ h.la, hp]
  rw [free_1 (by rw [hqp]; exact Nat.one_ne_zero), hqp]
  have hn0 : nextI [hldX s x] = 0 := by have := nextI_lt (q := [hldX s x]) Nat.one_pos; simp at this; omega
  rw [nextH_yes ⟨hv1, Nat.one_pos⟩, (srv_0 hv1 Nat.one_pos).2.1, hn0]
  show (⟨s.now, s.cps.set _ (wtC s.cps[_]! _ s.now), setQ (setQ s.lns x.work (putQ (queS s x.work) (hldX s x))) s.cps[(shlI s x.work).toNat]!.work []⟩ : St) = _
  rw [hd.1, hp, setQ_undo h.la hf (show ([hldX s x] : List Hd).length ≠ 0 from Nat.one_ne_zero)]; rfl
end Go.D58
end
section
namespace Go.Proofs.YtmekkjehkcjpdaaGreat
open Go Go.RowKit Go.H Go.D57 Go.D58

theorem hinf65 : ∃ i, Tryz.prog.info? 65 = some i ∧ i.zero = some (.agg #[.int .i64 0, .int .i64 0, .string ByteArray.empty, .int .i64 0, .int .i64 0, .int .i64 0, .int .i64 0, .bool false]) ∧ i.size = 8 ∧ i.bytes = 72 := G.info_of xG
theorem hinf69 : ∃ i, Tryz.prog.info? 69 = some i ∧ i.zero = some (.agg #[.int .i64 0, .slice none 0 0]) ∧ i.size = 2 ∧ i.bytes = 32 := G.info_of xG

theorem lowB_i {b : UInt8} : lowB b = true ↔ 97 ≤ b.toNat ∧ b.toNat ≤ 122 := by unfold lowB; rw [decide_eq_true_eq]
theorem nmB_i {b : UInt8} : nmB b = true ↔ (97 ≤ b.toNat ∧ b.toNat ≤ 122) ∨ (48 ≤ b.toNat ∧ b.toNat ≤ 57) ∨ b.toNat = 45 := by
  unfold nmB lowB
  simp only [Bool.or_eq_true, decide_eq_true_eq, or_assoc]
theorem nm_mk {l : List UInt8} (h1 : 1 ≤ l.length) (h2 : l.length ≤ 40) (h : ∀ j, j < l.length → nmB l[j]! = true ∧ (j = 0 → lowB l[j]! = true)) : nmOk l :=
  ⟨List.length_pos_iff.1 h1, h2, (h 0 h1).2 rfl, fun b hb => by obtain ⟨i, hi, rfl⟩ := List.getElem_of_mem hb; have := (h i hi).1; rwa [getElem!_pos l i hi] at this⟩
theorem has_y {cs : List Cp} {w p : Int} {k : Nat} (hk : k < cs.length) (hp : ∀ j, j < k → (fun c : Cp => decide (c.place ≠ 1 ∧ c.work = w ∧ c.pat = p)) cs[j]! = false) (e : cs[k]!.place ≠ 1 ∧ cs[k]!.work = w ∧ cs[k]!.pat = p) : hasC cs w p = true := by
  have z := idxF_here (p := fun c : Cp => decide (c.place ≠ 1 ∧ c.work = w ∧ c.pat = p)) hk hp (decide_eq_true e)
  exact decide_eq_true (show (0 : Int) ≤ idxF _ cs by rw [z]; omega)
theorem has_n {cs : List Cp} {w p : Int} {k : Nat} (hk : cs.length ≤ k) (hp : ∀ j, j < k → (fun c : Cp => decide (c.place ≠ 1 ∧ c.work = w ∧ c.pat = p)) cs[j]! = false) : hasC cs w p = false := by
  have z := idxF_none (p := fun c : Cp => decide (c.place ≠ 1 ∧ c.work = w ∧ c.pat = p)) hk hp
  exact decide_eq_false (show ¬ (0 : Int) ≤ idxF _ cs by rw [z]; omega)
theorem que_hit {s : St} {i : Int} {k : Nat} (hk : k < s.lns.length) (hp : ∀ j, j < k → (fun l : Ln => decide (l.work = i)) s.lns[j]! = false) (e : s.lns[k]!.work = i) : queS s i = s.lns[k]!.q := by
  have z := idxF_here (p := fun l : Ln => decide (l.work = i)) hk hp (decide_eq_true e)
  rw [queS_y xA, z]; rfl
theorem que_none {s : St} {i : Int} {k : Nat} (hk : s.lns.length ≤ k) (hp : ∀ j, j < k → (fun l : Ln => decide (l.work = i)) s.lns[j]! = false) : queS s i = [] := by
  have z := idxF_none (p := fun l : Ln => decide (l.work = i)) hk hp
  exact queS_no xA

set_option maxRecDepth 8000 in
theorem refName_h {l : List UInt8} (hl : l.length ≤ 1000) :
    Con Tryz.prog 84 [vT l] [] (vB (decide (nmOk l))) [] := by
 refine Con.en 53 Tryz.func84 fun τ w ok vs hin => ?_
 clear hin
 refine W.rg (SL.a (E.fo (W.seq (W.rg (SL.a (E.fo (W.block ?_)))))))
 refine W.lq (fun (k : Nat) => [(3, vI (k : Int))]) (fun (k : Nat) => []) (fun (k : Nat) => k ≤ l.length ∧ ∀ j, j < k → nmB l[j]! = true ∧ (j = 0 → lowB l[j]! = true)) (fun (k : Nat) => l.length - k) (0) [] [(0, _)] [] ?_ ?_
 ·exact yG
 intro k hinv
 obtain ⟨hk, hp⟩ := hinv
 refine W.seq (W.rg (SL.o (SL.o ?_)))
 refine SL.v (O.det (fun _ => G.R.lenL rfl u9) rfl Taken.no) ?_
 refine SL.v (O.lss) ?_
 refine E.fo ?_
 refine W.cc rfl (fun hc1 => ?_) fun hc1 => ?_
 ·refine W.skip (E.to (W.seq (W.block (W.rg (SL.o (SL.o ?_))))))
  refine SL.v (O.det (fun _ => G.R.stridxL (i := k) rfl rfl u9 xA) rfl Taken.no) ?_
  refine SL.v (O.geq) ?_
  refine SL.o ?_
  refine SL.cs 4 true (fun hg2 => ?_) fun hg2 => ?_
  ·have hg2p := gP hg2
   refine SL.v (O.mo (tY hg2)) ?_
   refine SL.v (O.mo (tY hg2)) ?_
   refine SL.v (O.det (fun _ => G.R.stridxL (i := k) rfl rfl u9 xA) rfl (Taken.yes rfl rfl hg2)) ?_
   refine SL.v (O.leq (tY hg2)) ?_
   refine SL.v (O.pt hg2) ?_
   refine SL.a (E.fo (W.rg (SL.o ?_)))
   refine SL.v (O.nt) ?_
   refine SL.o ?_
   refine SL.cs 2 true (fun hg3 => ?_) fun hg3 => ?_
   ·have hg3p := gP hg3
    refine SL.v (O.mo (tY hg3)) ?_
    refine SL.v (O.eql (tY hg3)) ?_
    refine SL.v (O.mo (tY hg3)) ?_
    refine SL.cs 5 false (fun hg4 => ?_) fun hg4 => ?_
    ·have hg4p := gP hg4
     refine SL.v (O.mo (tY hg4)) ?_
     refine SL.v (O.mo (tY hg4)) ?_
     refine SL.v (O.det (fun _ => G.R.stridxL (i := k) rfl rfl u9 xA) rfl (Taken.yes rfl rfl hg4)) ?_
     refine SL.v (O.neq (tY hg4)) ?_
     refine SL.v (O.mo (tY hg4)) ?_
     refine SL.cs 10 true (fun hg5 => ?_) fun hg5 => ?_
     ·have hg5p := gP hg5
      refine SL.v (O.mo (tY hg5)) ?_
      refine SL.v (O.mo (tY hg5)) ?_
      refine SL.v (O.det (fun _ => G.R.stridxL (i := k) rfl rfl u9 xA) rfl (Taken.yes rfl rfl hg5)) ?_
      refine SL.v (O.lss (tY hg5)) ?_
      refine SL.v (O.mo (tY hg5)) ?_
      refine SL.cs 15 false (fun hg6 => ?_) fun hg6 => ?_
      ·have hg6p := gP hg6
       refine SL.v (O.mo (tY hg6)) ?_
       refine SL.v (O.mo (tY hg6)) ?_
       refine SL.v (O.det (fun _ => G.R.stridxL (i := k) rfl rfl u9 xA) rfl (Taken.yes rfl rfl hg6)) ?_
       refine SL.v (O.gtr (tY hg6)) ?_
       refine SL.v (O.pf hg6 (tY hg5)) ?_
       refine SL.v (O.pt hg5 (tY hg4)) ?_
       refine SL.v (O.pf hg4 (tY hg3)) ?_
       refine SL.v (O.pt hg3) ?_
       refine E.fo ?_
       refine W.pk [(0,_),(3,_),(44,_)] [] ?_
       refine W.cc rfl (fun hc7 => ?_) fun hc7 => ?_
       ·refine W.rg (SL.a (E.fo (W.ret ?_)))
        refine E.inr ?_
        refine E.thr (E.thr ?_)
        refine E.inr ?_
        refine E.thr ?_
        refine E.h1 [] ?_
        ·exact yA
       refine W.skip (E.inn (E.to (W.region (SL.o ?_))))
       refine SL.v (O.ad) ?_
       refine SL.a (SL.nil ?_)
       refine E.ai (k + 1) [] ?_
       ·try dsimp only
        exact zR
      have hg6p := gP hg6
      refine SL.k hg6 (SL.k hg6 (SL.k hg6 (SL.k hg6 ?_)))
      refine SL.v (O.pt (G.ne_f hg6) (tY hg5)) ?_
      refine SL.v (O.pt hg5 (tY hg4)) ?_
      refine SL.v (O.pf hg4 (tY hg3)) ?_
      refine SL.v (O.pt hg3) ?_
      refine E.fo ?_
      refine W.pk [(0,_),(3,_),(44,_)] [] ?_
      refine W.cond_t rfl ?_
      refine W.rg (SL.a (E.fo (W.ret ?_)))
      refine E.inr ?_
      refine E.thr (E.thr ?_)
      refine E.inr ?_
      refine E.thr ?_
      refine E.h1 [] ?_
      ·exact yA
     have hg5p := gP hg5
     refine SL.k hg5 (SL.k hg5 (SL.k hg5 (SL.k hg5 (SL.k hg5 ?_))))
     refine SL.s2 ?_
     refine SL.s2 ?_
     refine SL.s2 ?_
     refine SL.s2 ?_
     refine SL.k hg5 ?_
     refine SL.v (O.pf (G.ne_t hg5) (tY hg4)) ?_
     refine SL.v (O.pf hg4 (tY hg3)) ?_
     refine SL.v (O.pt hg3) ?_
     refine E.fo ?_
     refine W.pk [(0,_),(3,_),(44,_)] [] ?_
     refine W.cond_f rfl ?_
     refine W.skip (E.inn (E.to (W.region (SL.o ?_))))
     refine SL.v (O.ad) ?_
     refine SL.a (SL.nil ?_)
     refine E.ai (k + 1) [] ?_
     ·try dsimp only
      exact zR
    have hg4p := gP hg4
    refine SL.k hg4 (SL.k hg4 (SL.k hg4 (SL.k hg4 (SL.k hg4 ?_))))
    refine SL.s2 ?_
    refine SL.s2 ?_
    refine SL.s2 ?_
    refine SL.s2 ?_
    refine SL.s2 ?_
    refine SL.s2 ?_
    refine SL.s2 ?_
    refine SL.s2 ?_
    refine SL.s2 ?_
    refine SL.s2 ?_
    refine SL.k hg4 ?_
    refine SL.v (O.pt (G.ne_f hg4) (tY hg3)) ?_
    refine SL.v (O.pt hg3) ?_
    refine E.fo ?_
    refine W.pk [(0,_),(3,_),(44,_)] [] ?_
    refine W.cond_t rfl ?_
    refine W.rg (SL.a (E.fo (W.ret ?_)))
    refine E.inr ?_
    refine E.thr (E.thr ?_)
    refine E.inr ?_
    refine E.thr ?_
    refine E.h1 [] ?_
    ·exact yA
   have hg3p := gP hg3
   refine SL.k hg3 (SL.k hg3 (SL.k hg3 ?_))
   refine SL.s2 ?_
   refine SL.s2 ?_
   refine SL.s2 ?_
   refine SL.s2 ?_
   refine SL.s2 ?_
   refine SL.s2 ?_
   refine SL.s2 ?_
   refine SL.s2 ?_
   refine SL.s2 ?_
   refine SL.s2 ?_
   refine SL.s2 ?_
   refine SL.s2 ?_
   refine SL.s2 ?_
   refine SL.s2 ?_
   refine SL.s2 ?_
   refine SL.s2 ?_
   refine SL.k hg3 ?_
   refine SL.v (O.pf (G.ne_t hg3)) ?_
   refine E.fo ?_
   refine W.pk [(0,_),(3,_),(44,_)] [] ?_
   refine W.cond_f rfl ?_
   refine W.skip (E.inn (E.to (W.region (SL.o ?_))))
   refine SL.v (O.ad) ?_
   refine SL.a (SL.nil ?_)
   refine E.ai (k + 1) [] ?_
   ·try dsimp only
    exact zR
  have hg2p := gP hg2
  refine SL.k hg2 (SL.k hg2 (SL.k hg2 (SL.k hg2 ?_)))
  refine SL.v (O.pf (G.ne_t hg2)) ?_
  refine SL.a (E.fo (W.rg (SL.o ?_)))
  refine SL.v (O.det (fun _ => G.R.mv (G.R.not rfl) rfl) rfl Taken.no) ?_
  refine SL.o ?_
  have hg8 : true = true := by decide
  refine SL.v (O.mo (tY hg8)) ?_
  refine SL.v (O.eql (tY hg8)) ?_
  refine SL.v (O.mo (tY hg8)) ?_
  refine SL.cs 5 false (fun hg9 => ?_) fun hg9 => ?_
  ·have hg9p := gP hg9
   refine SL.v (O.mo (tY hg9)) ?_
   refine SL.v (O.mo (tY hg9)) ?_
   refine SL.v (O.det (fun _ => G.R.stridxL (i := k) rfl rfl u9 xA) rfl (Taken.yes rfl rfl hg9)) ?_
   refine SL.v (O.neq (tY hg9)) ?_
   refine SL.v (O.mo (tY hg9)) ?_
   refine SL.cs 10 true (fun hg10 => ?_) fun hg10 => ?_
   ·have hg10p := gP hg10
    refine SL.v (O.mo (tY hg10)) ?_
    refine SL.v (O.mo (tY hg10)) ?_
    refine SL.v (O.det (fun _ => G.R.stridxL (i := k) rfl rfl u9 xA) rfl (Taken.yes rfl rfl hg10)) ?_
    refine SL.v (O.lss (tY hg10)) ?_
    refine SL.v (O.mo (tY hg10)) ?_
    refine SL.cs 15 false (fun hg11 => ?_) fun hg11 => ?_
    ·have hg11p := gP hg11
     refine SL.v (O.mo (tY hg11)) ?_
     refine SL.v (O.mo (tY hg11)) ?_
     refine SL.v (O.det (fun _ => G.R.stridxL (i := k) rfl rfl u9 xA) rfl (Taken.yes rfl rfl hg11)) ?_
     refine SL.v (O.gtr (tY hg11)) ?_
     refine SL.v (O.pf hg11 (tY hg10)) ?_
     refine SL.v (O.pt hg10 (tY hg9)) ?_
     refine SL.v (O.pf hg9 (tY hg8)) ?_
     refine SL.v (O.pt rfl) ?_
     refine E.fo ?_
     refine W.pk [(0,_),(3,_),(44,_)] [] ?_
     refine W.cc rfl (fun hc12 => ?_) fun hc12 => ?_
     ·refine W.rg (SL.a (E.fo (W.ret ?_)))
      refine E.inr ?_
      refine E.thr (E.thr ?_)
      refine E.inr ?_
      refine E.thr ?_
      refine E.h1 [] ?_
      ·exact yA
     refine W.skip (E.inn (E.to (W.region (SL.o ?_))))
     refine SL.v (O.ad) ?_
     refine SL.a (SL.nil ?_)
     refine E.ai (k + 1) [] ?_
     ·try dsimp only
      exact zR
    have hg11p := gP hg11
    refine SL.k hg11 (SL.k hg11 (SL.k hg11 (SL.k hg11 ?_)))
    refine SL.v (O.pt (G.ne_f hg11) (tY hg10)) ?_
    refine SL.v (O.pt hg10 (tY hg9)) ?_
    refine SL.v (O.pf hg9 (tY hg8)) ?_
    refine SL.v (O.pt rfl) ?_
    refine E.fo ?_
    refine W.pk [(0,_),(3,_),(44,_)] [] ?_
    refine W.cond_t rfl ?_
    refine W.rg (SL.a (E.fo (W.ret ?_)))
    refine E.inr ?_
    refine E.thr (E.thr ?_)
    refine E.inr ?_
    refine E.thr ?_
    refine E.h1 [] ?_
    ·exact yA
   have hg10p := gP hg10
   refine SL.k hg10 (SL.k hg10 (SL.k hg10 (SL.k hg10 (SL.k hg10 ?_))))
   refine SL.s2 ?_
   refine SL.s2 ?_
   refine SL.s2 ?_
   refine SL.s2 ?_
   refine SL.k hg10 ?_
   refine SL.v (O.pf (G.ne_t hg10) (tY hg9)) ?_
   refine SL.v (O.pf hg9 (tY hg8)) ?_
   refine SL.v (O.pt rfl) ?_
   refine E.fo ?_
   refine W.pk [(0,_),(3,_),(44,_)] [] ?_
   refine W.cond_f rfl ?_
   refine W.skip (E.inn (E.to (W.region (SL.o ?_))))
   refine SL.v (O.ad) ?_
   refine SL.a (SL.nil ?_)
   refine E.ai (k + 1) [] ?_
   ·try dsimp only
    exact zR
  have hg9p := gP hg9
  refine SL.k hg9 (SL.k hg9 (SL.k hg9 (SL.k hg9 (SL.k hg9 ?_))))
  refine SL.s2 ?_
  refine SL.s2 ?_
  refine SL.s2 ?_
  refine SL.s2 ?_
  refine SL.s2 ?_
  refine SL.s2 ?_
  refine SL.s2 ?_
  refine SL.s2 ?_
  refine SL.s2 ?_
  refine SL.s2 ?_
  refine SL.k hg9 ?_
  refine SL.v (O.pt (G.ne_f hg9) (tY hg8)) ?_
  refine SL.v (O.pt rfl) ?_
  refine E.fo ?_
  refine W.pk [(0,_),(3,_),(44,_)] [] ?_
  refine W.cond_t rfl ?_
  refine W.rg (SL.a (E.fo (W.ret ?_)))
  refine E.inr ?_
  refine E.thr (E.thr ?_)
  refine E.inr ?_
  refine E.thr ?_
  refine E.h1 [] ?_
  ·exact yA
 refine W.exit (E.th (E.th (E.hit (E.to (W.rg (SL.o ?_))))))
 refine SL.v (O.det (fun _ => G.R.lenL rfl u9) rfl Taken.no) ?_
 refine SL.v (O.geq) ?_
 refine SL.o ?_
 refine SL.cs 3 true (fun hg13 => ?_) fun hg13 => ?_
 ·have hg13p := gP hg13
  refine SL.v (O.mo (tY hg13)) ?_
  refine SL.v (O.det (fun _ => G.R.lenL rfl u9) rfl (Taken.yes rfl rfl hg13)) ?_
  refine SL.v (O.leq (tY hg13)) ?_
  refine SL.v (O.pt hg13) ?_
  refine SL.a (E.fo (W.ret ?_))
  refine E.h1 [] ?_
  ·exact zZ
 have hg13p := gP hg13
 refine SL.k hg13 (SL.k hg13 (SL.k hg13 ?_))
 refine SL.v (O.pf (G.ne_t hg13)) ?_
 refine SL.a (E.fo (W.ret ?_))
 refine E.h1 [] ?_
 ·exact zZ

set_option maxRecDepth 8000 in
theorem refid_h {n : Int} :
    Con Tryz.prog 83 [vI n] [] (vB (decide (idB n))) [] := by
 refine Con.en 9 Tryz.func83 fun τ w ok vs hin => ?_
 clear hin
 refine W.rg (SL.a (E.fo (W.rg (SL.o ?_))))
 refine SL.v (O.geq) ?_
 refine SL.o ?_
 refine SL.cs 2 true (fun hg1 => ?_) fun hg1 => ?_
 ·have hg1p := gP hg1
  refine SL.v (O.mo (tY hg1)) ?_
  refine SL.v (O.leq (tY hg1)) ?_
  refine SL.v (O.pt hg1) ?_
  refine SL.a (E.fo (W.ret ?_))
  refine E.h1 [] ?_
  ·unfold idB inB; first | exact iv_bool (dec_iff xA) | exact iv_bool (dec_t xA) | exact iv_bool (dec_f xA)
 have hg1p := gP hg1
 refine SL.k hg1 (SL.k hg1 ?_)
 refine SL.v (O.pf (G.ne_t hg1)) ?_
 refine SL.a (E.fo (W.ret ?_))
 refine E.h1 [] ?_
 ·unfold idB inB; first | exact iv_bool (dec_iff xA) | exact iv_bool (dec_t xA) | exact iv_bool (dec_f xA)

set_option maxRecDepth 8000 in
theorem refday_h {n : Int} :
    Con Tryz.prog 45 [vI n] [] (vB (decide (inB n 0 1000000))) [] := by
 refine Con.en 9 Tryz.func45 fun τ w ok vs hin => ?_
 clear hin
 refine W.rg (SL.a (E.fo (W.rg (SL.o ?_))))
 refine SL.v (O.geq) ?_
 refine SL.o ?_
 refine SL.cs 2 true (fun hg1 => ?_) fun hg1 => ?_
 ·have hg1p := gP hg1
  refine SL.v (O.mo (tY hg1)) ?_
  refine SL.v (O.leq (tY hg1)) ?_
  refine SL.v (O.pt hg1) ?_
  refine SL.a (E.fo (W.ret ?_))
  refine E.h1 [] ?_
  ·unfold inB; first | exact iv_bool (dec_iff xA) | exact iv_bool (dec_t xA) | exact iv_bool (dec_f xA)
 have hg1p := gP hg1
 refine SL.k hg1 (SL.k hg1 ?_)
 refine SL.v (O.pf (G.ne_t hg1)) ?_
 refine SL.a (E.fo (W.ret ?_))
 refine E.h1 [] ?_
 ·unfold inB; first | exact iv_bool (dec_iff xA) | exact iv_bool (dec_t xA) | exact iv_bool (dec_f xA)

set_option maxRecDepth 8000 in
theorem has_h {s : St} {wk p : Int} :
    Con Tryz.prog 47 [vA [uI s.now, .sl 8 (s.cps.map eCp), .sl 2 (s.lns.map eLn)], vI wk, vI p] [] (vB (hasC s.cps wk p)) [] := by
 obtain ⟨i65, hi65, hz65, hs65, hb65⟩ := hinf65
 refine Con.en 42 Tryz.func47 fun τ w ok vs hin => ?_
 have hl0_1 := hin.lenA (i := 0) (j := 1) rfl rfl
 try rw [List.length_map] at hl0_1
 have hl0_2 := hin.lenA (i := 0) (j := 2) rfl rfl
 try rw [List.length_map] at hl0_2
 clear hin
 refine W.rg ?_
 refine SL.bx3 101 ?_
 refine SL.a (E.fo (W.seq (W.rg (SL.a (E.fo (W.block ?_))))))
 refine W.lq (fun (k : Nat) => [(7, vI (k : Int))]) (fun (k : Nat) => []) (fun (k : Nat) => k ≤ s.cps.length ∧ ∀ j, j < k → (fun c : Cp => decide (c.place ≠ 1 ∧ c.work = wk ∧ c.pat = p)) s.cps[j]! = false) (fun (k : Nat) => s.cps.length - k) (0) [] [(1, _), (2, _), (3, _)] [(101, _)] ?_ ?_
 ·exact yG
 intro k hinv
 obtain ⟨hk, hp⟩ := hinv
 refine W.seq (W.rg (SL.o ?_))
 refine SL.v (O.fr 1 0 u25) ?_
 refine SL.v (O.l1 u22) ?_
 refine SL.v (O.le u22) ?_
 refine SL.v (O.lss) ?_
 refine E.fo ?_
 refine W.cc rfl (fun hc1 => ?_) fun hc1 => ?_
 ·refine W.skip (E.to (W.seq (W.block (W.rg ?_))))
  refine SL.v (O.fr 1 0 u25) ?_
  refine SL.v (O.l1 u22) ?_
  refine SL.o ?_
  refine SL.v (O.ix u22 hi65 hs65) ?_
  refine SL.v (O.ff 0 u65) ?_
  refine SL.v (O.l1f u3) ?_
  refine SL.o ?_
  refine SL.v (O.eql) ?_
  refine SL.o ?_
  refine SL.cs 8 true (fun hg2 => ?_) fun hg2 => ?_
  ·have hg2p := gP hg2
   refine SL.v (O.fr 1 0 u25 (tY hg2)) ?_
   refine SL.v (O.l1 u22 (tY hg2)) ?_
   refine SL.v (O.mo (tY hg2)) ?_
   refine SL.v (O.ix u22 hi65 hs65 (tY hg2)) ?_
   refine SL.v (O.ff 0 u65 (tY hg2)) ?_
   refine SL.v (O.l1f u3 (tY hg2)) ?_
   refine SL.v (O.neq (tY hg2)) ?_
   refine SL.v (O.pt hg2) ?_
   refine SL.o ?_
   refine SL.cs 17 true (fun hg3 => ?_) fun hg3 => ?_
   ·have hg3p := gP hg3
    refine SL.v (O.fr 1 0 u25 (tY hg3)) ?_
    refine SL.v (O.l1 u22 (tY hg3)) ?_
    refine SL.v (O.mo (tY hg3)) ?_
    refine SL.v (O.ix u22 hi65 hs65 (tY hg3)) ?_
    refine SL.v (O.ff 0 u65 (tY hg3)) ?_
    refine SL.v (O.l1f u3 (tY hg3)) ?_
    refine SL.v (O.mo (tY hg3)) ?_
    refine SL.v (O.eql (tY hg3)) ?_
    refine SL.v (O.pt hg3) ?_
    refine E.fo ?_
    refine W.pk [(1,_),(2,_),(3,_),(7,_),(41,_)] [(101,_)] ?_
    refine W.cc rfl (fun hc4 => ?_) fun hc4 => ?_
    ·refine W.rg (SL.a (E.fo (W.ret ?_)))
     refine E.inr ?_
     refine E.thr (E.thr ?_)
     refine E.inr ?_
     refine E.thr ?_
     refine E.h1 [] ?_
     ·exact iv_bool (has_y xA hp ⟨xA, xA, xA⟩)
    refine W.skip (E.inn (E.to (W.region (SL.o ?_))))
    refine SL.v (O.ad) ?_
    refine SL.a (SL.nil ?_)
    refine E.ai (k + 1) [] ?_
    ·try dsimp only
     exact zJ
   have hg3p := gP hg3
   refine SL.k hg3 (SL.k hg3 (SL.k hg3 (SL.k hg3 (SL.k hg3 (SL.k hg3 (SL.k hg3 (SL.k hg3 ?_)))))))
   refine SL.v (O.pf (G.ne_t hg3)) ?_
   refine E.fo ?_
   refine W.pk [(1,_),(2,_),(3,_),(7,_),(41,_)] [(101,_)] ?_
   refine W.cond_f rfl ?_
   refine W.skip (E.inn (E.to (W.region (SL.o ?_))))
   refine SL.v (O.ad) ?_
   refine SL.a (SL.nil ?_)
   refine E.ai (k + 1) [] ?_
   ·try dsimp only
    exact zJ
  have hg2p := gP hg2
  refine SL.k hg2 (SL.k hg2 (SL.k hg2 (SL.k hg2 (SL.k hg2 (SL.k hg2 (SL.k hg2 ?_))))))
  refine SL.v (O.pf (G.ne_t hg2)) ?_
  refine SL.o ?_
  have hg5 := G.nft
  refine SL.k hg5 (SL.k hg5 (SL.k hg5 (SL.k hg5 (SL.k hg5 (SL.k hg5 (SL.k hg5 (SL.k hg5 ?_)))))))
  refine SL.v (O.pf rfl) ?_
  refine E.fo ?_
  refine W.pk [(1,_),(2,_),(3,_),(7,_),(41,_)] [(101,_)] ?_
  refine W.cond_f rfl ?_
  refine W.skip (E.inn (E.to (W.region (SL.o ?_))))
  refine SL.v (O.ad) ?_
  refine SL.a (SL.nil ?_)
  refine E.ai (k + 1) [] ?_
  ·try dsimp only
   exact zJ
 refine W.exit (E.th (E.th (E.hit (E.to (W.rg (SL.a (E.fo (W.ret ?_))))))))
 refine E.h1 [] ?_
 ·exact iv_bool (has_n xA hp)

set_option maxRecDepth 8000 in
theorem refQueue_h {s : St} {i : Int} :
    Con Tryz.prog 87 [vA [uI s.now, .sl 8 (s.cps.map eCp), .sl 2 (s.lns.map eLn)], vI i] [] (vL 5 ((queS s i).map eH)) [] := by
 obtain ⟨i69, hi69, hz69, hs69, hb69⟩ := hinf69
 refine Con.en 27 Tryz.func87 fun τ w ok vs hin => ?_
 have hl0_1 := hin.lenA (i := 0) (j := 1) rfl rfl
 try rw [List.length_map] at hl0_1
 have hl0_2 := hin.lenA (i := 0) (j := 2) rfl rfl
 try rw [List.length_map] at hl0_2
 clear hin
 refine W.rg ?_
 refine SL.bx3 101 ?_
 refine SL.a (E.fo (W.seq (W.rg (SL.a (E.fo (W.block ?_))))))
 refine W.lq (fun (k : Nat) => [(5, vI (k : Int))]) (fun (k : Nat) => []) (fun (k : Nat) => k ≤ s.lns.length ∧ ∀ j, j < k → (fun l : Ln => decide (l.work = i)) s.lns[j]! = false) (fun (k : Nat) => s.lns.length - k) (0) [] [(1, _), (2, _)] [(101, _)] ?_ ?_
 ·exact yG
 intro k hinv
 obtain ⟨hk, hp⟩ := hinv
 refine W.seq (W.rg (SL.o ?_))
 refine SL.v (O.fr 2 0 u25) ?_
 refine SL.v (O.l1 u23) ?_
 refine SL.v (O.le u23) ?_
 refine SL.v (O.lss) ?_
 refine E.fo ?_
 refine W.cc rfl (fun hc1 => ?_) fun hc1 => ?_
 ·refine W.skip (E.to (W.seq (W.block (W.rg ?_))))
  refine SL.v (O.fr 2 0 u25) ?_
  refine SL.v (O.l1 u23) ?_
  refine SL.o ?_
  refine SL.v (O.ix u23 hi69 hs69) ?_
  refine SL.v (O.ff 0 u69) ?_
  refine SL.v (O.l1f u3) ?_
  refine SL.o ?_
  refine SL.v (O.eql) ?_
  refine E.fo ?_
  refine W.cc rfl (fun hc2 => ?_) fun hc2 => ?_
  ·refine W.rg ?_
   refine SL.v (O.fr 2 0 u25) ?_
   refine SL.v (O.l1 u23) ?_
   refine SL.o ?_
   refine SL.v (O.ix u23 hi69 hs69) ?_
   refine SL.v (O.ff 0 u69) ?_
   refine SL.v (O.l1f u67) ?_
   refine SL.a (E.fo (W.ret ?_))
   refine E.inr ?_
   refine E.thr (E.thr ?_)
   refine E.inr ?_
   refine E.thr ?_
   refine E.h1 [] ?_
   ·rw [que_hit xA hp xA]; rfl
  refine W.skip (E.inn (E.to (W.region (SL.o ?_))))
  refine SL.v (O.ad) ?_
  refine SL.a (SL.nil ?_)
  refine E.ai (k + 1) [] ?_
  ·try dsimp only
   exact zJ
 refine W.exit (E.th (E.th (E.hit (E.to (W.rg (SL.a (E.fo (W.ret ?_))))))))
 refine E.nilsl 4 5 rfl ?_
 refine E.h1 [] ?_
 ·rw [que_none xA hp]; rfl

set_option maxRecDepth 8000 in
theorem refCount_h {s : St} {work : Int} :
    Con Tryz.prog 88 [vA [uI s.now, .sl 8 (s.cps.map eCp), .sl 2 (s.lns.map eLn)], vI work] [] (.agg [vI ((cntP s.cps work 1 : Nat) : Int), vI ((cntP s.cps work 2 : Nat) : Int), vI ((cntP s.cps work 3 : Nat) : Int)]) [] := by
 obtain ⟨i65, hi65, hz65, hs65, hb65⟩ := hinf65
 refine Con.en 42 Tryz.func88 fun τ w ok vs hin => ?_
 have hl0_1 := hin.lenA (i := 0) (j := 1) rfl rfl
 try rw [List.length_map] at hl0_1
 have hl0_2 := hin.lenA (i := 0) (j := 2) rfl rfl
 try rw [List.length_map] at hl0_2
 clear hin
 refine W.rg ?_
 refine SL.bx3 101 ?_
 refine SL.al4 102 ?_
 refine E.fo (W.rg ?_)
 refine SL.al4 103 ?_
 refine E.fo (W.seq (W.rg (SL.a (E.fo (W.block ?_)))))
 refine W.lq (fun (k : Nat) => [(6, vI (k : Int))]) (fun (k : Nat) => [(103, .cells 56 [.u (uI ((cntP (s.cps.take k) work 1 : Nat) : Int)), .u (uI ((cntP (s.cps.take k) work 2 : Nat) : Int)), .u (uI ((cntP (s.cps.take k) work 3 : Nat) : Int))])]) (fun (k : Nat) => k ≤ s.cps.length) (fun (k : Nat) => s.cps.length - k) (0) [] [(1, _), (2, _), (4, _), (5, _)] [(101, _), (102, _)] ?_ ?_
 ·omega
 intro k hinv
 have hk := hinv
 have hc1_ := cnt_le s.cps work 1 k
 have hc2_ := cnt_le s.cps work 2 k
 have hc3_ := cnt_le s.cps work 3 k
 refine W.seq (W.rg (SL.o ?_))
 refine SL.v (O.fr 1 0 u25) ?_
 refine SL.v (O.l1 u22) ?_
 refine SL.v (O.le u22) ?_
 refine SL.v (O.lss) ?_
 refine E.fo ?_
 refine W.cc rfl (fun hc1 => ?_) fun hc1 => ?_
 ·refine W.skip (E.to (W.seq (W.block (W.rg ?_))))
  refine SL.v (O.fr 1 0 u25) ?_
  refine SL.v (O.l1 u22) ?_
  refine SL.o ?_
  refine SL.v (O.ix u22 hi65 hs65) ?_
  refine SL.v (O.lU 8 u65) ?_
  refine SL.al3 104 ?_
  refine SL.st8_8 104 ?_
  refine E.fo (W.rg ?_)
  refine SL.v (O.fr 1 0 u65) ?_
  refine SL.v (O.l1 u3) ?_
  refine SL.o ?_
  refine SL.v (O.eql) ?_
  refine SL.o ?_
  refine SL.cs 4 true (fun hg2 => ?_) fun hg2 => ?_
  ·have hg2p := gP hg2
   refine SL.v (O.fr 3 0 u65 (tY hg2)) ?_
   refine SL.v (O.l1 u3 (tY hg2)) ?_
   refine SL.v (O.geq (tY hg2)) ?_
   refine SL.v (O.pt hg2) ?_
   refine SL.o ?_
   refine SL.cs 9 true (fun hg3 => ?_) fun hg3 => ?_
   ·have hg3p := gP hg3
    refine SL.v (O.fr 3 0 u65 (tY hg3)) ?_
    refine SL.v (O.l1 u3 (tY hg3)) ?_
    refine SL.v (O.leq (tY hg3)) ?_
    refine SL.v (O.pt hg3) ?_
    refine E.fo ?_
    refine W.pk [(1,_),(2,_),(4,_),(5,_),(6,_),(7,_),(33,_)] [(101,_),(102,_),(103,_),(104,_)] ?_
    refine W.cc rfl (fun hc4 => ?_) fun hc4 => ?_
    ·have hpl : s.cps[k]!.place = 1 ∨ s.cps[k]!.place = 2 ∨ s.cps[k]!.place = 3 := by omega
     rcases hpl with hpl | hpl | hpl
     ·refine W.region ?_
      refine SL.v (O.fr 3 0 u65) ?_
      refine SL.v (O.l1 u3) ?_
      refine SL.v (O.sb) ?_
      refine SL.v (O.idx_ref (i := 0) (m := 1) rfl rfl xA xI u56 xG rfl rfl Taken.no) ?_
      refine SL.v (O.l1 u3) ?_
      refine SL.v (O.ad) ?_
      refine SL.v (O.idx_ref (i := 0) (m := 1) rfl rfl xA xI u56 xG rfl rfl Taken.no) ?_
      refine SL.st1_3 103 ?_
      refine SL.nil (E.inn (E.to (W.region (SL.o ?_))))
      refine SL.v (O.ad) ?_
      refine SL.a (SL.nil ?_)
      refine E.ag (k + 1) [] ?_ ?_ ?_ ?_
      · exact zH
      · exact xC
      ·try dsimp only
       omega
      · exact xT
     ·refine W.region ?_
      refine SL.v (O.fr 3 0 u65) ?_
      refine SL.v (O.l1 u3) ?_
      refine SL.v (O.sb) ?_
      refine SL.v (O.idx_ref (i := 1) (m := 1) rfl rfl xA xI u56 xG rfl rfl Taken.no) ?_
      refine SL.v (O.l1 u3) ?_
      refine SL.v (O.ad) ?_
      refine SL.v (O.idx_ref (i := 1) (m := 1) rfl rfl xA xI u56 xG rfl rfl Taken.no) ?_
      refine SL.st1_3 103 ?_
      refine SL.nil (E.inn (E.to (W.region (SL.o ?_))))
      refine SL.v (O.ad) ?_
      refine SL.a (SL.nil ?_)
      refine E.ag (k + 1) [] ?_ ?_ ?_ ?_
      · exact zH
      · exact xC
      ·try dsimp only
       omega
      · exact xT
     refine W.region ?_
     refine SL.v (O.fr 3 0 u65) ?_
     refine SL.v (O.l1 u3) ?_
     refine SL.v (O.sb) ?_
     refine SL.v (O.idx_ref (i := 2) (m := 1) rfl rfl xA xI u56 xG rfl rfl Taken.no) ?_
     refine SL.v (O.l1 u3) ?_
     refine SL.v (O.ad) ?_
     refine SL.v (O.idx_ref (i := 2) (m := 1) rfl rfl xA xI u56 xG rfl rfl Taken.no) ?_
     refine SL.st1_3 103 ?_
     refine SL.nil (E.inn (E.to (W.region (SL.o ?_))))
     refine SL.v (O.ad) ?_
     refine SL.a (SL.nil ?_)
     refine E.ag (k + 1) [] ?_ ?_ ?_ ?_
     · exact zH
     · exact xC
     ·try dsimp only
      omega
     · exact xT
    refine W.skip (E.inn (E.to (W.region (SL.o ?_))))
    refine SL.v (O.ad) ?_
    refine SL.a (SL.nil ?_)
    refine E.ag (k + 1) [] ?_ ?_ ?_ ?_
    · exact zH
    · exact xC
    ·try dsimp only
     omega
    · exact xT
   have hg3p := gP hg3
   refine SL.k hg3 (SL.k hg3 (SL.k hg3 ?_))
   refine SL.v (O.pf (G.ne_t hg3)) ?_
   refine E.fo ?_
   refine W.pk [(1,_),(2,_),(4,_),(5,_),(6,_),(7,_),(33,_)] [(101,_),(102,_),(103,_),(104,_)] ?_
   refine W.cond_f rfl ?_
   refine W.skip (E.inn (E.to (W.region (SL.o ?_))))
   refine SL.v (O.ad) ?_
   refine SL.a (SL.nil ?_)
   refine E.ag (k + 1) [] ?_ ?_ ?_ ?_
   · exact zH
   · exact xC
   ·try dsimp only
    omega
   · exact xT
  have hg2p := gP hg2
  refine SL.k hg2 (SL.k hg2 (SL.k hg2 ?_))
  refine SL.v (O.pf (G.ne_t hg2)) ?_
  refine SL.o ?_
  have hg5 := G.nft
  refine SL.k hg5 (SL.k hg5 (SL.k hg5 ?_))
  refine SL.v (O.pf rfl) ?_
  refine E.fo ?_
  refine W.pk [(1,_),(2,_),(4,_),(5,_),(6,_),(7,_),(33,_)] [(101,_),(102,_),(103,_),(104,_)] ?_
  refine W.cond_f rfl ?_
  refine W.skip (E.inn (E.to (W.region (SL.o ?_))))
  refine SL.v (O.ad) ?_
  refine SL.a (SL.nil ?_)
  refine E.ag (k + 1) [] ?_ ?_ ?_ ?_
  · exact zH
  · exact xC
  ·try dsimp only
   omega
  · exact xT
 refine W.exit (E.th (E.th (E.hit (E.to (W.rg ?_)))))
 refine SL.v (O.n3 u56) ?_
 refine SL.st3_3 102 ?_
 refine E.fo (W.ret ?_)
 refine E.j1 [] rfl (ResOne.c3 u56) ?_
 ·rw [show k = s.cps.length by omega, List.take_length]; rfl

set_option maxRecDepth 8000 in
theorem refin_h {l : List Int} {n : Int} :
    Con Tryz.prog 50 [vL 1 (l.map eI), vI n] [] (vB (decide (n ∈ l))) [] := by
 obtain ⟨i3, hi3, hz3, hs3, hb3⟩ := hinf3
 refine Con.en 18 Tryz.func50 fun τ w ok vs hin => ?_
 have hl0 := hin.len (i := 0) rfl
 try rw [List.length_map] at hl0
 clear hin
 refine W.rg (SL.a (E.fo (W.seq (W.rg (SL.a (E.fo (W.block ?_)))))))
 refine W.lq (fun (k : Nat) => [(5, vI (k : Int))]) (fun (k : Nat) => []) (fun (k : Nat) => k ≤ l.length ∧ ∀ j, j < k → (fun x : Int => decide (x = n)) l[j]! = false) (fun (k : Nat) => l.length - k) (0) [] [(0, _), (1, _)] [] ?_ ?_
 ·exact yG
 intro k hinv
 obtain ⟨hk, hp⟩ := hinv
 refine W.seq (W.rg (SL.o (SL.o ?_)))
 refine SL.v (O.le u61) ?_
 refine SL.v (O.lss) ?_
 refine E.fo ?_
 refine W.cc rfl (fun hc1 => ?_) fun hc1 => ?_
 ·refine W.skip (E.to (W.seq (W.block (W.rg (SL.o (SL.o ?_))))))
  refine SL.v (O.ix u61 hi3 hs3) ?_
  refine SL.v (O.l1f u3) ?_
  refine SL.o ?_
  refine SL.v (O.eql) ?_
  refine E.fo ?_
  refine W.cc rfl (fun hc2 => ?_) fun hc2 => ?_
  ·refine W.rg (SL.a (E.fo (W.ret ?_)))
   refine E.inr ?_
   refine E.thr (E.thr ?_)
   refine E.inr ?_
   refine E.thr ?_
   refine E.h1 [] ?_
   ·exact iv_bool (dec_t (by have z : l[k]! = n := xA; rw [← z]; exact at_mem xA))
  refine W.skip (E.inn (E.to (W.region (SL.o ?_))))
  refine SL.v (O.ad) ?_
  refine SL.a (SL.nil ?_)
  refine E.ai (k + 1) [] ?_
  ·try dsimp only
   exact zJ
 refine W.exit (E.th (E.th (E.hit (E.to (W.rg (SL.a (E.fo (W.ret ?_))))))))
 refine E.h1 [] ?_
 ·exact iv_bool (dec_f fun z => by obtain ⟨j, hj, e⟩ := mem_at z; exact of_decide_eq_false (hp j xA) e)

set_option maxRecDepth 8000 in
theorem reffind_h {s : St} {i : Int} :
    Con Tryz.prog 85 [vA [uI s.now, .sl 8 (s.cps.map eCp), .sl 2 (s.lns.map eLn)], vI i] [] (vI (cpI s i)) [] := by
 obtain ⟨i65, hi65, hz65, hs65, hb65⟩ := hinf65
 refine Con.en 22 Tryz.func85 fun τ w ok vs hin => ?_
 have hl0_1 := hin.lenA (i := 0) (j := 1) rfl rfl
 try rw [List.length_map] at hl0_1
 have hl0_2 := hin.lenA (i := 0) (j := 2) rfl rfl
 try rw [List.length_map] at hl0_2
 clear hin
 refine W.rg ?_
 refine SL.bx3 101 ?_
 refine SL.a (E.fo (W.seq (W.rg (SL.a (E.fo (W.block ?_))))))
 refine W.lq (fun (k : Nat) => [(5, vI (k : Int))]) (fun (k : Nat) => []) (fun (k : Nat) => k ≤ s.cps.length ∧ ∀ j, j < k → (fun c : Cp => decide (c.id = i)) s.cps[j]! = false) (fun (k : Nat) => s.cps.length - k) (0) [] [(1, _), (2, _)] [(101, _)] ?_ ?_
 ·exact yG
 intro k hinv
 obtain ⟨hk, hp⟩ := hinv
 refine W.seq (W.rg (SL.o ?_))
 refine SL.v (O.fr 1 0 u25) ?_
 refine SL.v (O.l1 u22) ?_
 refine SL.v (O.le u22) ?_
 refine SL.v (O.lss) ?_
 refine E.fo ?_
 refine W.cc rfl (fun hc1 => ?_) fun hc1 => ?_
 ·refine W.skip (E.to (W.seq (W.block (W.rg ?_))))
  refine SL.v (O.fr 1 0 u25) ?_
  refine SL.v (O.l1 u22) ?_
  refine SL.o ?_
  refine SL.v (O.ix u22 hi65 hs65) ?_
  refine SL.v (O.ff 0 u65) ?_
  refine SL.v (O.l1f u3) ?_
  refine SL.o ?_
  refine SL.v (O.eql) ?_
  refine E.fo ?_
  refine W.cc rfl (fun hc2 => ?_) fun hc2 => ?_
  ·refine W.rg (SL.o (SL.a (E.fo (W.ret ?_))))
   refine E.inr ?_
   refine E.thr (E.thr ?_)
   refine E.inr ?_
   refine E.thr ?_
   refine E.h1 [] ?_
   ·exact iv_int (idxF_here (p := fun c : Cp => decide (c.id = i)) xA hp (decide_eq_true xA))
  refine W.skip (E.inn (E.to (W.region (SL.o ?_))))
  refine SL.v (O.ad) ?_
  refine SL.a (SL.nil ?_)
  refine E.ai (k + 1) [] ?_
  ·try dsimp only
   exact zJ
 refine W.exit (E.th (E.th (E.hit (E.to (W.rg (SL.a (E.fo (W.ret ?_))))))))
 refine E.h1 [] ?_
 ·exact iv_int (idxF_none (p := fun c : Cp => decide (c.id = i)) xA hp)

set_option maxRecDepth 8000 in
theorem refLoans_h {s : St} {i : Int} (hl : s.cps.length ≤ 1000) :
    Con Tryz.prog 48 [vA [uI s.now, .sl 8 (s.cps.map eCp), .sl 2 (s.lns.map eLn)], vI i] [] (.own 0) [(0, .data 3 1 ((idsF (fun c => decide (c.place = 2 ∧ c.pat = i)) s.cps).map eI))] := by
 obtain ⟨i3, hi3, hz3, hs3, hb3⟩ := hinf3
 obtain ⟨i65, hi65, hz65, hs65, hb65⟩ := hinf65
 refine Con.en 41 Tryz.func48 fun τ w ok vs hin => ?_
 have hl0_1 := hin.lenA (i := 0) (j := 1) rfl rfl
 try rw [List.length_map] at hl0_1
 have hl0_2 := hin.lenA (i := 0) (j := 2) rfl rfl
 try rw [List.length_map] at hl0_2
 clear hin
 refine W.rg ?_
 refine SL.bx3 101 ?_
 refine SL.a (E.fo (W.rg (SL.a (E.fo (W.seq (W.rg (SL.a (E.fo (W.block ?_)))))))))
 refine W.adopt 5 103 3 1 xI rfl rfl rfl ?_
 refine W.lp (fun (k : Nat) => [(6, vI (k : Int)), (5, .own 102)]) (fun (k : Nat) => [(102, .data 3 1 ((idsF (fun c => decide (c.place = 2 ∧ c.pat = i)) (s.cps.take k)).map eI))]) (fun (k : Nat) => k ≤ s.cps.length) (fun (k : Nat) => s.cps.length - k) (0) [(102, 103)] [(1, _), (2, _), (4, _)] [(101, _)] ?_ ?_ ?_ ?_
 · exact zH
 · exact wX
 ·omega
 intro k hinv
 have hk := hinv
 have hil := ids_le (fun c => decide (c.place = 2 ∧ c.pat = i)) s.cps k
 refine W.seq (W.rg (SL.o ?_))
 refine SL.v (O.fr 1 0 u25) ?_
 refine SL.v (O.l1 u22) ?_
 refine SL.v (O.le u22) ?_
 refine SL.v (O.lss) ?_
 refine E.fo ?_
 refine W.cc rfl (fun hc1 => ?_) fun hc1 => ?_
 ·refine W.skip (E.to (W.seq (W.block (W.rg ?_))))
  refine SL.v (O.fr 1 0 u25) ?_
  refine SL.v (O.l1 u22) ?_
  refine SL.o ?_
  refine SL.v (O.ix u22 hi65 hs65) ?_
  refine SL.v (O.ff 0 u65) ?_
  refine SL.v (O.l1f u3) ?_
  refine SL.v (O.eql) ?_
  refine SL.o ?_
  refine SL.cs 7 true (fun hg2 => ?_) fun hg2 => ?_
  ·have hg2p := gP hg2
   refine SL.v (O.fr 1 0 u25 (tY hg2)) ?_
   refine SL.v (O.l1 u22 (tY hg2)) ?_
   refine SL.v (O.mo (tY hg2)) ?_
   refine SL.v (O.ix u22 hi65 hs65 (tY hg2)) ?_
   refine SL.v (O.ff 0 u65 (tY hg2)) ?_
   refine SL.v (O.l1f u3 (tY hg2)) ?_
   refine SL.v (O.mo (tY hg2)) ?_
   refine SL.v (O.eql (tY hg2)) ?_
   refine SL.v (O.pt hg2) ?_
   refine E.fo ?_
   refine W.pk [(1,_),(2,_),(4,_),(5,_),(6,_),(30,_)] [(101,_),(102,_)] ?_
   refine W.cc rfl (fun hc3 => ?_) fun hc3 => ?_
   ·have hye : (fun c => decide (c.place = 2 ∧ c.pat = i)) s.cps[k]! = true := decide_eq_true ⟨xA, xA⟩
    refine W.region (SL.o ?_)
    refine SL.v (O.fr 1 0 u25) ?_
    refine SL.v (O.l1 u22) ?_
    refine SL.o ?_
    refine SL.v (O.ix u22 hi65 hs65) ?_
    refine SL.v (O.ff 0 u65) ?_
    refine SL.v (O.l1f u3) ?_
    refine SL.memS (O.buildSlice 104 (rows := [s.cps[k]!.id].map eI) rfl rfl u61 hi3 hz3 hs3 xI rfl xI rfl rfl rfl Taken.no) rfl rfl (S' := (104, .data 3 1 ([s.cps[k]!.id].map eI)) :: _) rfl ?_
    refine SL.memS (O.app (k' := 105) rfl rfl (SlOf.own rfl rfl) u61 hi3 hz3 hs3 rfl rfl zT wP yI rfl Taken.no) rfl rfl (S' := (105, _) :: (102, .dead) :: _) rfl ?_
    refine SL.a (SL.nil (E.inn (E.to (W.region (SL.o ?_)))))
    refine SL.v (O.ad) ?_
    refine SL.a (SL.nil ?_)
    refine E.ag (k + 1) [(102, 105)] ?_ ?_ ?_ ?_
    · exact zH
    · exact zG
    ·try dsimp only
     omega
    · exact xT
   have hno : (fun c => decide (c.place = 2 ∧ c.pat = i)) s.cps[k]! = false := decide_eq_false (by rintro ⟨z1, z2⟩; omega)
   refine W.skip (E.inn (E.to (W.region (SL.o ?_))))
   refine SL.v (O.ad) ?_
   refine SL.a (SL.nil ?_)
   refine E.ag (k + 1) [] ?_ ?_ ?_ ?_
   · exact zH
   · exact zG
   ·try dsimp only
    omega
   · exact xT
  have hg2p := gP hg2
  have hno : (fun c => decide (c.place = 2 ∧ c.pat = i)) s.cps[k]! = false := decide_eq_false (by rintro ⟨z1, z2⟩; omega)
  refine SL.k hg2 (SL.k hg2 (SL.k hg2 (SL.k hg2 (SL.k hg2 (SL.k hg2 (SL.k hg2 (SL.k hg2 ?_)))))))
  refine SL.v (O.pf (G.ne_t hg2)) ?_
  refine E.fo ?_
  refine W.pk [(1,_),(2,_),(4,_),(5,_),(6,_),(30,_)] [(101,_),(102,_)] ?_
  refine W.cond_f rfl ?_
  refine W.skip (E.inn (E.to (W.region (SL.o ?_))))
  refine SL.v (O.ad) ?_
  refine SL.a (SL.nil ?_)
  refine E.ag (k + 1) [] ?_ ?_ ?_ ?_
  · exact zH
  · exact zG
  ·try dsimp only
   omega
  · exact xT
 refine W.exit (E.th (E.th (E.hit (E.to (W.rg (SL.o (SL.a (E.fo (W.ret ?_)))))))))
 refine E.f1 [(0, 102)] ?_ ?_
 ·rfl
 · exact (SubS.val rfl zP SubS.nil)

end Go.Proofs.YtmekkjehkcjpdaaGreat
end
section
namespace Go.G
open Go Go.RowKit
section
variable {n : Nat} {P : Program} {F : Frm} {w : World} {ty : TypeId}
end
end Go.G
namespace Go.H
open Go Go.RowKit
section
variable {c : Ctx} {P : Program} {F : Frm} {S : Sto} {ops : Array Oper} {d : Nat} {ty : TypeId} {pos : String} {af : Array Edge} {gd : Option (Nat × Bool)}
end
end Go.H
end
section
namespace Go.Proofs.YtmekkjehkcjpdaaGreat
open Go Go.RowKit Go.H Go.D57 Go.D58

theorem hcallOk47 : G.callOk Tryz.prog 47 = true := by kernel_rfl
theorem hcallOk50 : G.callOk Tryz.prog 50 = true := by kernel_rfl

theorem hC_y {cs : List Cp} {k : Nat} (h : k < cs.length) (e : cs[k]!.place = 3) : holdsC (cs.take (k + 1)) = holdsC (cs.take k) ++ [cs[k]!.hold] := by unfold holdsC; rw [filt_y h (decide_eq_true e), List.map_append]; rfl
theorem hC_n {cs : List Cp} {k : Nat} (h : k < cs.length) (e : ¬ cs[k]!.place = 3) : holdsC (cs.take (k + 1)) = holdsC (cs.take k) := by unfold holdsC; rw [filt_n h wU]
theorem hC_le (cs : List Cp) (k : Nat) : (holdsC (cs.take k)).length ≤ k := by
  unfold holdsC
  have := List.length_filter_le (fun c : Cp => decide (c.place = 3)) (cs.take k)
  rw [List.length_take] at this
  rw [List.length_map]; omega
theorem hQ_s {ls : List Ln} {i : Nat} (h : i < ls.length) : holdsQ (ls.take (i + 1)) = holdsQ (ls.take i) ++ ls[i]!.q.map (·.id) := by
  unfold holdsQ
  rw [take_s h, List.flatMap_append]
  simp
theorem hQ_le {ls : List Ln} (hq : ∀ l ∈ ls, l.q.length ≤ 100) : ∀ i, i ≤ ls.length → (holdsQ (ls.take i)).length ≤ 100 * i
  | 0, _ => by simp [holdsQ]
  | i + 1, h => by
    have h1 := hQ_le hq i xA
    have h2 := hq ls[i]! (at_mem xA)
    rw [hQ_s xA, List.length_append, List.length_map]; omega
instance (s : St) (i : Nat) : Decidable (lnR s i) := by unfold lnR; infer_instance
instance (s : St) : Decidable (linesR s) := by unfold linesR; infer_instance

set_option maxRecDepth 8000 in
theorem holds_h {s : St} (hc : s.cps.length ≤ 1000) (hl : s.lns.length ≤ 1000) (hq : ∀ l ∈ s.lns, l.q.length ≤ 100) :
    Con Tryz.prog 49 [vA [uI s.now, .sl 8 (s.cps.map eCp), .sl 2 (s.lns.map eLn)]] [] (.own 0) [(0, .data 3 1 ((holdsL s).map eI))] := by
 obtain ⟨i3, hi3, hz3, hs3, hb3⟩ := hinf3
 obtain ⟨i65, hi65, hz65, hs65, hb65⟩ := hinf65
 obtain ⟨i69, hi69, hz69, hs69, hb69⟩ := hinf69
 obtain ⟨i121, hi121, hz121, hs121, hb121⟩ := hinf121
 refine Con.en 62 Tryz.func49 fun τ w ok vs hin => ?_
 have hl0_1 := hin.lenA (i := 0) (j := 1) rfl rfl
 try rw [List.length_map] at hl0_1
 have hl0_2 := hin.lenA (i := 0) (j := 2) rfl rfl
 try rw [List.length_map] at hl0_2
 clear hin
 refine W.rg ?_
 refine SL.bx3 101 ?_
 refine SL.a (E.fo (W.rg (SL.a (E.fo (W.seq (W.rg (SL.a (E.fo (W.block ?_)))))))))
 refine W.adopt 3 103 3 1 xI rfl rfl rfl ?_
 refine W.lp (fun (k : Nat) => [(4, vI (k : Int)), (3, .own 102)]) (fun (k : Nat) => [(102, .data 3 1 ((holdsC (s.cps.take k)).map eI))]) (fun (k : Nat) => k ≤ s.cps.length) (fun (k : Nat) => s.cps.length - k) (0) [(102, 103)] [(1, _), (2, _)] [(101, _)] ?_ ?_ ?_ ?_
 · exact zH
 · exact wX
 ·omega
 intro k hinv
 have hk := hinv
 have hil := hC_le s.cps k
 refine W.seq (W.rg (SL.o ?_))
 refine SL.v (O.fr 1 0 u25) ?_
 refine SL.v (O.l1 u22) ?_
 refine SL.v (O.le u22) ?_
 refine SL.v (O.lss) ?_
 refine E.fo ?_
 refine W.cc rfl (fun hc1 => ?_) fun hc1 => ?_
 ·refine W.skip (E.to (W.seq (W.block (W.rg ?_))))
  refine SL.v (O.fr 1 0 u25) ?_
  refine SL.v (O.l1 u22) ?_
  refine SL.o ?_
  refine SL.v (O.ix u22 hi65 hs65) ?_
  refine SL.v (O.ff 0 u65) ?_
  refine SL.v (O.l1f u3) ?_
  refine SL.v (O.eql) ?_
  refine E.fo ?_
  refine W.cc rfl (fun hc2 => ?_) fun hc2 => ?_
  ·refine W.region (SL.o ?_)
   refine SL.v (O.fr 1 0 u25) ?_
   refine SL.v (O.l1 u22) ?_
   refine SL.o ?_
   refine SL.v (O.ix u22 hi65 hs65) ?_
   refine SL.v (O.ff 0 u65) ?_
   refine SL.v (O.l1f u3) ?_
   refine SL.memS (O.buildSlice 104 (rows := [s.cps[k]!.hold].map eI) rfl rfl u61 hi3 hz3 hs3 xI rfl xI rfl rfl rfl Taken.no) rfl rfl (S' := (104, .data 3 1 ([s.cps[k]!.hold].map eI)) :: _) rfl ?_
   refine SL.memS (O.app (k' := 105) rfl rfl (SlOf.own rfl rfl) u61 hi3 hz3 hs3 rfl rfl zT wP yI rfl Taken.no) rfl rfl (S' := (105, _) :: (102, .dead) :: _) rfl ?_
   refine SL.a (SL.nil (E.inn (E.to ?_)))
   refine W.pk [(1,_),(2,_),(3,_),(4,_)] [(101,_),(104,_),(105,_)] ?_
   refine W.region (SL.o ?_)
   refine SL.v (O.ad) ?_
   refine SL.a (SL.nil ?_)
   refine E.ag (k + 1) [(102, 105)] ?_ ?_ ?_ ?_
   · exact zH
   · exact wY
   ·try dsimp only
    omega
   · exact xT
  refine W.skip (E.inn (E.to (W.region (SL.o ?_))))
  refine SL.v (O.ad) ?_
  refine SL.a (SL.nil ?_)
  refine E.ag (k + 1) [] ?_ ?_ ?_ ?_
  · exact zH
  · exact wY
  ·try dsimp only
   omega
  · exact xT
 refine W.exit (E.th (E.th (E.hit (E.to (W.seq (W.rg (SL.a (E.fo (W.block ?_)))))))))
 have hcl := hC_le s.cps s.cps.length
 rw [List.take_length] at hcl
 refine W.lp (fun (i : Nat) => [(5, vI (i : Int)), (3, .own 106)]) (fun (i : Nat) => [(106, .data 3 1 ((holdsC s.cps ++ holdsQ (s.lns.take i)).map eI))]) (fun (i : Nat) => i ≤ s.lns.length) (fun (i : Nat) => s.lns.length - i) (0) [(106, 102)] [(1, _), (2, _)] [(101, _)] ?_ ?_ ?_ ?_
 · exact zH
 · exact (SubS.val rfl (by exact sb_data (by rw [show k = s.cps.length by omega, List.take_length, List.take_zero, show holdsQ [] = [] from rfl, List.append_nil])) SubS.nil)
 ·omega
 intro i hinv
 have hi := hinv
 have hil := hQ_le hq i xA
 refine W.seq (W.rg (SL.o ?_))
 refine SL.v (O.fr 2 0 u25) ?_
 refine SL.v (O.l1 u23) ?_
 refine SL.v (O.le u23) ?_
 refine SL.v (O.lss) ?_
 refine E.fo ?_
 refine W.cc rfl (fun hc3 => ?_) fun hc3 => ?_
 ·have hqi := hq s.lns[i]! (at_mem xA)
  refine W.skip (E.to (W.seq (W.block (W.rg (SL.a (E.fo (W.block ?_)))))))
  refine W.lp (fun (j : Nat) => [(6, vI (j : Int)), (3, .own 107)]) (fun (j : Nat) => [(107, .data 3 1 ((holdsC s.cps ++ holdsQ (s.lns.take i) ++ (s.lns[i]!.q.take j).map (·.id)).map eI))]) (fun (j : Nat) => j ≤ s.lns[i]!.q.length) (fun (j : Nat) => s.lns[i]!.q.length - j) (0) [(107, 106)] [(1, _), (2, _), (5, _)] [(101, _)] ?_ ?_ ?_ ?_
  · exact zH
  · exact (SubS.val rfl (by exact sb_data (by rw [List.take_zero, List.map_nil, List.append_nil])) SubS.nil)
  ·omega
  intro j hinv
  have hj := hinv
  refine W.seq (W.rg (SL.o ?_))
  refine SL.v (O.fr 2 0 u25) ?_
  refine SL.v (O.l1 u23) ?_
  refine SL.o ?_
  refine SL.v (O.ix (i := i) u23 hi69 hs69) ?_
  refine SL.v (O.ff 0 u69) ?_
  refine SL.v (O.l1f u67) ?_
  refine SL.v (O.le u67) ?_
  refine SL.v (O.lss) ?_
  refine E.fo ?_
  refine W.cc rfl (fun hc4 => ?_) fun hc4 => ?_
  ·refine W.skip (E.to (W.seq (W.block (W.region (SL.o ?_)))))
   refine SL.v (O.fr 2 0 u25) ?_
   refine SL.v (O.l1 u23) ?_
   refine SL.o ?_
   refine SL.v (O.ix (i := i) u23 hi69 hs69) ?_
   refine SL.v (O.ff 0 u69) ?_
   refine SL.v (O.l1f u67) ?_
   refine SL.o ?_
   refine SL.v (O.ix (i := j) u67 hi121 hs121) ?_
   refine SL.v (O.ff 0 u121) ?_
   refine SL.v (O.l1f u3) ?_
   refine SL.memS (O.buildSlice 108 (rows := [s.lns[i]!.q[j]!.id].map eI) rfl rfl u61 hi3 hz3 hs3 xI rfl xI rfl rfl rfl Taken.no) rfl rfl (S' := (108, .data 3 1 ([s.lns[i]!.q[j]!.id].map eI)) :: _) rfl ?_
   refine SL.memS (O.app (k' := 109) rfl rfl (SlOf.own rfl rfl) u61 hi3 hz3 hs3 rfl rfl zT (by rw [hb3]; (simp only [List.length_map, List.length_append, List.length_take, List.length_singleton]; omega)) (by (simp only [List.length_map, List.length_append, List.length_take, List.length_singleton]; omega)) rfl Taken.no) rfl rfl (S' := (109, _) :: (107, .dead) :: _) rfl ?_
   refine SL.a (SL.nil (E.inn (E.to ?_)))
   refine W.pk [(1,_),(2,_),(3,_),(5,_),(6,_)] [(101,_),(108,_),(109,_)] ?_
   refine W.region (SL.o ?_)
   refine SL.v (O.ad) ?_
   refine SL.a (SL.nil ?_)
   refine E.ag (j + 1) [(107, 109)] ?_ ?_ ?_ ?_
   · exact zH
   · exact (SubS.val rfl (by (try dsimp only); exact sb_data (by rw [take_s xA]; simp)) (SubS.cons rfl SubS.nil))
   ·try dsimp only
    omega
   · exact xT
  refine W.exit (E.th (E.th (E.hit (E.inn (E.to (W.region (SL.o ?_)))))))
  refine SL.v (O.ad) ?_
  refine SL.a (SL.nil ?_)
  refine E.ag (i + 1) [(106, 107)] ?_ ?_ ?_ ?_
  · exact zH
  · exact (SubS.val rfl (by (try dsimp only); exact sb_data (by rw [show j = s.lns[i]!.q.length by omega, List.take_length, hQ_s xA, List.append_assoc])) (SubS.cons rfl SubS.nil))
  ·try dsimp only
   omega
  · exact xT
 refine W.exit (E.th (E.th (E.hit (E.to (W.rg (SL.o (SL.a (E.fo (W.ret ?_)))))))))
 refine E.f1 [(0, 106)] ?_ ?_
 ·rfl
 · exact (SubS.val rfl (by exact sb_data (by rw [show i = s.lns.length by omega, List.take_length]; rfl)) SubS.nil)

set_option maxRecDepth 8000 in
theorem placed_h {c : Cp} {now : Int} (hn : 0 ≤ now ∧ now ≤ 1000000) (hlb : c.lib.length ≤ 1000) :
    Con Tryz.prog 46 [vA (eCp c), vI now] [] (vB (decide (cpOk c now))) [] := by
 refine Con.en 89 Tryz.func46 fun τ w ok vs hin => ?_
 clear hin
 refine W.rg ?_
 refine SL.bx8 101 ?_
 refine SL.a (E.fo (W.seq (W.rg ?_)))
 refine SL.v (O.fr 0 0 u65) ?_
 refine SL.v (O.l1 u3) ?_
 refine SL.v (O.cp (q := refid_h (n := c.id))) ?_
 refine SL.v (O.nt) ?_
 refine SL.o ?_
 refine SL.cs 4 false (fun hg1 => ?_) fun hg1 => ?_
 ·have hg1p := gP hg1
  refine SL.v (O.fr 1 0 u65 (tY hg1)) ?_
  refine SL.v (O.l1 u3 (tY hg1)) ?_
  refine SL.v (O.cp (q := refid_h (n := c.work)) (hg := (tY hg1))) ?_
  refine SL.v (O.nt (tY hg1)) ?_
  refine SL.v (O.pf hg1) ?_
  refine SL.o ?_
  refine SL.cs 10 false (fun hg2 => ?_) fun hg2 => ?_
  ·have hg2p := gP hg2
   refine SL.v (O.fr 2 0 u65 (tY hg2)) ?_
   refine SL.v (O.l1 u9 (tY hg2)) ?_
   refine SL.v (O.cp (q := refName_h (l := c.lib) hlb) (hg := (tY hg2))) ?_
   refine SL.v (O.nt (tY hg2)) ?_
   refine SL.v (O.pf hg2) ?_
   refine E.fo ?_
   refine W.cc rfl (fun hc3 => ?_) fun hc3 => ?_
   ·refine W.rg (SL.a (E.fo (W.ret (E.thr ?_))))
    refine E.h1 [] ?_
    ·exact wD
   have hb : idB c.id ∧ idB c.work ∧ nmOk c.lib := ⟨by first | assumption | simp_all, by first | assumption | simp_all, by first | assumption | simp_all⟩
   refine W.skip (E.to (W.seq (W.rg ?_)))
   refine SL.v (O.fr 3 0 u65) ?_
   refine SL.v (O.l1 u3) ?_
   refine E.fo (W.block (W.rg ?_))
   refine SL.v (O.eql) ?_
   refine SL.a (E.fo ?_)
   refine W.cc rfl (fun hc4 => ?_) fun hc4 => ?_
   ·refine W.rg ?_
    refine SL.v (O.fr 4 0 u65) ?_
    refine SL.v (O.l1 u3) ?_
    refine SL.v (O.eql) ?_
    refine SL.o ?_
    refine SL.cs 3 true (fun hg5 => ?_) fun hg5 => ?_
    ·have hg5p := gP hg5
     refine SL.v (O.fr 5 0 u65 (tY hg5)) ?_
     refine SL.v (O.l1 u3 (tY hg5)) ?_
     refine SL.v (O.eql (tY hg5)) ?_
     refine SL.v (O.pt hg5) ?_
     refine SL.o ?_
     refine SL.cs 8 true (fun hg6 => ?_) fun hg6 => ?_
     ·have hg6p := gP hg6
      refine SL.v (O.fr 6 0 u65 (tY hg6)) ?_
      refine SL.v (O.l1 u3 (tY hg6)) ?_
      refine SL.v (O.eql (tY hg6)) ?_
      refine SL.v (O.pt hg6) ?_
      refine SL.o ?_
      refine SL.cs 13 true (fun hg7 => ?_) fun hg7 => ?_
      ·have hg7p := gP hg7
       refine SL.v (O.fr 7 0 u65 (tY hg7)) ?_
       refine SL.v (O.l1 u4 (tY hg7)) ?_
       refine SL.v (O.nt (tY hg7)) ?_
       refine SL.v (O.pt hg7) ?_
       refine SL.a (E.fo ?_)
       refine W.pk [(4,_)] [(101,_)] ?_
       refine W.ret ?_
       refine E.inr ?_
       refine E.thr ?_
       refine E.h1 [] ?_
       ·exact yD
      have hg7p := gP hg7
      refine SL.k hg7 (SL.k hg7 (SL.k hg7 ?_))
      refine SL.v (O.pf (G.ne_t hg7)) ?_
      refine SL.a (E.fo ?_)
      refine W.pk [(4,_)] [(101,_)] ?_
      refine W.ret ?_
      refine E.inr ?_
      refine E.thr ?_
      refine E.h1 [] ?_
      ·exact yD
     have hg6p := gP hg6
     refine SL.k hg6 (SL.k hg6 (SL.k hg6 ?_))
     refine SL.v (O.pf (G.ne_t hg6)) ?_
     refine SL.o ?_
     have hg8 := G.nft
     refine SL.k hg8 (SL.k hg8 (SL.k hg8 ?_))
     refine SL.v (O.pf rfl) ?_
     refine SL.a (E.fo ?_)
     refine W.pk [(4,_)] [(101,_)] ?_
     refine W.ret ?_
     refine E.inr ?_
     refine E.thr ?_
     refine E.h1 [] ?_
     ·exact yD
    have hg5p := gP hg5
    refine SL.k hg5 (SL.k hg5 (SL.k hg5 ?_))
    refine SL.v (O.pf (G.ne_t hg5)) ?_
    refine SL.o ?_
    have hg9 := G.nft
    refine SL.k hg9 (SL.k hg9 (SL.k hg9 ?_))
    refine SL.v (O.pf rfl) ?_
    refine SL.o ?_
    have hg10 := G.nft
    refine SL.k hg10 (SL.k hg10 (SL.k hg10 ?_))
    refine SL.v (O.pf rfl) ?_
    refine SL.a (E.fo ?_)
    refine W.pk [(4,_)] [(101,_)] ?_
    refine W.ret ?_
    refine E.inr ?_
    refine E.thr ?_
    refine E.h1 [] ?_
    ·exact yD
   refine W.rg ?_
   refine SL.v (O.eql) ?_
   refine SL.a (E.fo ?_)
   refine W.pk [(1,_),(2,_),(4,_),(22,_),(43,_)] [(101,_)] ?_
   refine W.cc rfl (fun hc11 => ?_) fun hc11 => ?_
   ·refine W.rg ?_
    refine SL.v (O.fr 4 0 u65) ?_
    refine SL.v (O.l1 u3) ?_
    refine SL.v (O.cp (q := refid_h (n := c.pat))) ?_
    refine SL.o ?_
    refine SL.cs 3 true (fun hg12 => ?_) fun hg12 => ?_
    ·have hg12p := gP hg12
     refine SL.v (O.fr 5 0 u65 (tY hg12)) ?_
     refine SL.v (O.l1 u3 (tY hg12)) ?_
     refine SL.v (O.cp (q := refday_h (n := c.due)) (hg := (tY hg12))) ?_
     refine SL.v (O.pt hg12) ?_
     refine SL.o ?_
     refine SL.cs 8 true (fun hg13 => ?_) fun hg13 => ?_
     ·have hg13p := gP hg13
      refine SL.v (O.fr 5 0 u65 (tY hg13)) ?_
      refine SL.v (O.l1 u3 (tY hg13)) ?_
      refine SL.v (O.geq (tY hg13)) ?_
      refine SL.v (O.pt hg13) ?_
      refine SL.o ?_
      refine SL.cs 13 true (fun hg14 => ?_) fun hg14 => ?_
      ·have hg14p := gP hg14
       refine SL.v (O.fr 6 0 u65 (tY hg14)) ?_
       refine SL.v (O.l1 u3 (tY hg14)) ?_
       refine SL.v (O.eql (tY hg14)) ?_
       refine SL.v (O.pt hg14) ?_
       refine SL.a (E.fo (W.ret ?_))
       refine E.inr ?_
       refine E.thr ?_
       refine E.h1 [] ?_
       ·exact xU
      have hg14p := gP hg14
      refine SL.k hg14 (SL.k hg14 (SL.k hg14 ?_))
      refine SL.v (O.pf (G.ne_t hg14)) ?_
      refine SL.a (E.fo (W.ret ?_))
      refine E.inr ?_
      refine E.thr ?_
      refine E.h1 [] ?_
      ·exact xU
     have hg13p := gP hg13
     refine SL.k hg13 (SL.k hg13 (SL.k hg13 ?_))
     refine SL.v (O.pf (G.ne_t hg13)) ?_
     refine SL.o ?_
     have hg15 := G.nft
     refine SL.k hg15 (SL.k hg15 (SL.k hg15 ?_))
     refine SL.v (O.pf rfl) ?_
     refine SL.a (E.fo (W.ret ?_))
     refine E.inr ?_
     refine E.thr ?_
     refine E.h1 [] ?_
     ·exact xU
    have hg12p := gP hg12
    refine SL.k hg12 (SL.k hg12 (SL.k hg12 ?_))
    refine SL.v (O.pf (G.ne_t hg12)) ?_
    refine SL.o ?_
    have hg16 := G.nft
    refine SL.k hg16 (SL.k hg16 (SL.k hg16 ?_))
    refine SL.v (O.pf rfl) ?_
    refine SL.o ?_
    have hg17 := G.nft
    refine SL.k hg17 (SL.k hg17 (SL.k hg17 ?_))
    refine SL.v (O.pf rfl) ?_
    refine SL.a (E.fo (W.ret ?_))
    refine E.inr ?_
    refine E.thr ?_
    refine E.h1 [] ?_
    ·exact xU
   refine W.rg ?_
   refine SL.v (O.eql) ?_
   refine SL.a (E.fo ?_)
   refine W.cc rfl (fun hc18 => ?_) fun hc18 => ?_
   ·refine W.rg ?_
    refine SL.v (O.fr 4 0 u65) ?_
    refine SL.v (O.l1 u3) ?_
    refine SL.v (O.cp (q := refid_h (n := c.pat))) ?_
    refine SL.o ?_
    refine SL.cs 3 true (fun hg19 => ?_) fun hg19 => ?_
    ·have hg19p := gP hg19
     refine SL.v (O.fr 5 0 u65 (tY hg19)) ?_
     refine SL.v (O.l1 u3 (tY hg19)) ?_
     refine SL.v (O.cp (q := refday_h (n := c.due)) (hg := (tY hg19))) ?_
     refine SL.v (O.pt hg19) ?_
     refine SL.o ?_
     refine SL.cs 8 true (fun hg20 => ?_) fun hg20 => ?_
     ·have hg20p := gP hg20
      refine SL.v (O.fr 5 0 u65 (tY hg20)) ?_
      refine SL.v (O.l1 u3 (tY hg20)) ?_
      refine SL.v (O.mo (tY hg20)) ?_
      refine SL.v (O.geq (tY hg20)) ?_
      refine SL.v (O.pt hg20) ?_
      refine SL.o ?_
      refine SL.cs 14 true (fun hg21 => ?_) fun hg21 => ?_
      ·have hg21p := gP hg21
       refine SL.v (O.fr 6 0 u65 (tY hg21)) ?_
       refine SL.v (O.l1 u3 (tY hg21)) ?_
       refine SL.v (O.cp (q := refid_h (n := c.hold)) (hg := (tY hg21))) ?_
       refine SL.v (O.pt hg21) ?_
       refine SL.o ?_
       refine SL.cs 19 true (fun hg22 => ?_) fun hg22 => ?_
       ·have hg22p := gP hg22
        refine SL.v (O.fr 7 0 u65 (tY hg22)) ?_
        refine SL.v (O.l1 u4 (tY hg22)) ?_
        refine SL.v (O.nt (tY hg22)) ?_
        refine SL.v (O.pt hg22) ?_
        refine SL.a (E.fo ?_)
        refine W.pk [(4,_)] [(101,_)] ?_
        refine W.ret ?_
        refine E.inr ?_
        refine E.thr ?_
        refine E.h1 [] ?_
        ·exact xL
       have hg22p := gP hg22
       refine SL.k hg22 (SL.k hg22 (SL.k hg22 ?_))
       refine SL.v (O.pf (G.ne_t hg22)) ?_
       refine SL.a (E.fo ?_)
       refine W.pk [(4,_)] [(101,_)] ?_
       refine W.ret ?_
       refine E.inr ?_
       refine E.thr ?_
       refine E.h1 [] ?_
       ·exact xL
      have hg21p := gP hg21
      refine SL.k hg21 (SL.k hg21 (SL.k hg21 ?_))
      refine SL.v (O.pf (G.ne_t hg21)) ?_
      refine SL.o ?_
      have hg23 := G.nft
      refine SL.k hg23 (SL.k hg23 (SL.k hg23 ?_))
      refine SL.v (O.pf rfl) ?_
      refine SL.a (E.fo ?_)
      refine W.pk [(4,_)] [(101,_)] ?_
      refine W.ret ?_
      refine E.inr ?_
      refine E.thr ?_
      refine E.h1 [] ?_
      ·exact xL
     have hg20p := gP hg20
     refine SL.k hg20 (SL.k hg20 (SL.k hg20 (SL.k hg20 ?_)))
     refine SL.v (O.pf (G.ne_t hg20)) ?_
     refine SL.o ?_
     have hg24 := G.nft
     refine SL.k hg24 (SL.k hg24 (SL.k hg24 ?_))
     refine SL.v (O.pf rfl) ?_
     refine SL.o ?_
     have hg25 := G.nft
     refine SL.k hg25 (SL.k hg25 (SL.k hg25 ?_))
     refine SL.v (O.pf rfl) ?_
     refine SL.a (E.fo ?_)
     refine W.pk [(4,_)] [(101,_)] ?_
     refine W.ret ?_
     refine E.inr ?_
     refine E.thr ?_
     refine E.h1 [] ?_
     ·exact xL
    have hg19p := gP hg19
    refine SL.k hg19 (SL.k hg19 (SL.k hg19 ?_))
    refine SL.v (O.pf (G.ne_t hg19)) ?_
    refine SL.o ?_
    have hg26 := G.nft
    refine SL.k hg26 (SL.k hg26 (SL.k hg26 (SL.k hg26 ?_)))
    refine SL.v (O.pf rfl) ?_
    refine SL.o ?_
    have hg27 := G.nft
    refine SL.k hg27 (SL.k hg27 (SL.k hg27 ?_))
    refine SL.v (O.pf rfl) ?_
    refine SL.o ?_
    have hg28 := G.nft
    refine SL.k hg28 (SL.k hg28 (SL.k hg28 ?_))
    refine SL.v (O.pf rfl) ?_
    refine SL.a (E.fo ?_)
    refine W.pk [(4,_)] [(101,_)] ?_
    refine W.ret ?_
    refine E.inr ?_
    refine E.thr ?_
    refine E.h1 [] ?_
    ·exact xL
   refine W.skip (E.inn (E.to (W.rg (SL.a (E.fo (W.ret ?_))))))
   refine E.h1 [] ?_
   ·exact iv_bool (dec_f fun q => by rcases q.2.2.2 with q | q | q <;> omega)
  have hg2p := gP hg2
  refine SL.k hg2 (SL.k hg2 (SL.k hg2 (SL.k hg2 ?_)))
  refine SL.v (O.pt (G.ne_f hg2)) ?_
  refine E.fo ?_
  refine W.cond_t rfl ?_
  refine W.rg (SL.a (E.fo (W.ret (E.thr ?_))))
  refine E.h1 [] ?_
  ·exact wD
 have hg1p := gP hg1
 refine SL.k hg1 (SL.k hg1 (SL.k hg1 (SL.k hg1 ?_)))
 refine SL.v (O.pt (G.ne_f hg1)) ?_
 refine SL.o ?_
 have hg29 := G.ntf
 refine SL.k hg29 (SL.k hg29 (SL.k hg29 (SL.k hg29 ?_)))
 refine SL.v (O.pt rfl) ?_
 refine E.fo ?_
 refine W.cond_t rfl ?_
 refine W.rg (SL.a (E.fo (W.ret (E.thr ?_))))
 refine E.h1 [] ?_
 ·exact wD

set_option maxRecDepth 8000 in
set_option maxHeartbeats 3200000 in
theorem lines_h {s : St} (hc : s.cps.length ≤ 1000) (hl : s.lns.length ≤ 1000) (hq : ∀ l ∈ s.lns, l.q.length ≤ 100) :
    Con Tryz.prog 51 [vA [uI s.now, .sl 8 (s.cps.map eCp), .sl 2 (s.lns.map eLn)]] [] (vB (decide (linesR s))) [] := by
 obtain ⟨i69, hi69, hz69, hs69, hb69⟩ := hinf69
 obtain ⟨i121, hi121, hz121, hs121, hb121⟩ := hinf121
 refine Con.en 100 Tryz.func51 fun τ w ok vs hin => ?_
 have hl0_1 := hin.lenA (i := 0) (j := 1) rfl rfl
 try rw [List.length_map] at hl0_1
 have hl0_2 := hin.lenA (i := 0) (j := 2) rfl rfl
 try rw [List.length_map] at hl0_2
 clear hin
 refine W.rg ?_
 refine SL.bx3 101 ?_
 refine SL.a (E.fo (W.seq (W.rg (SL.a (E.fo (W.block ?_))))))
 refine W.lq (fun (i : Nat) => [(3, vI (i : Int))]) (fun (i : Nat) => []) (fun (i : Nat) => i ≤ s.lns.length ∧ ∀ j, j < i → lnR s j) (fun (i : Nat) => s.lns.length - i) (0) [] [(1, _)] [(101, _)] ?_ ?_
 ·exact yG
 intro i hinv
 obtain ⟨hi, hqs⟩ := hinv
 refine W.seq (W.rg (SL.o ?_))
 refine SL.v (O.fr 2 0 u25) ?_
 refine SL.v (O.l1 u23) ?_
 refine SL.v (O.le u23) ?_
 refine SL.v (O.lss) ?_
 refine E.fo ?_
 refine W.cc rfl (fun hc1 => ?_) fun hc1 => ?_
 ·have hqi := hq s.lns[i]! (at_mem xA)
  have hc2_ := cnt_len s.cps s.lns[i]!.work 2
  have hc3_ := cnt_len s.cps s.lns[i]!.work 3
  refine W.skip (E.to (W.seq (W.block (W.rg ?_))))
  refine SL.v (O.fr 2 0 u25) ?_
  refine SL.v (O.l1 u23) ?_
  refine SL.o ?_
  refine SL.v (O.ix (i := i) u23 hi69 hs69) ?_
  refine SL.v (O.lU 2 u69) ?_
  refine SL.al7 102 ?_
  refine SL.st2_2 102 ?_
  refine E.fo (W.rg ?_)
  refine SL.v (O.n3 u25) ?_
  refine SL.v (O.fr 0 0 u69) ?_
  refine SL.v (O.l1 u3) ?_
  refine SL.cl [] [] (.agg [.u _, .u _, .u _]) _ (q := refCount_h (s := s) (work := s.lns[i]!.work))  (h := ?_)
  refine SL.al4 103 ?_
  refine SL.st3_3 103 ?_
  refine E.fo (W.seq (W.seq ?_))
  refine W.dr [pW 102, pX 102, pO, pO, pO, pO, pO, pO, pW 101, pX 101, pO, pO, pO, pO, pO, pW 102, pX 102, pO, pO, pO, pO, pW 102, pX 102, pO, pO, pO, pO, pW 102, pX 102, pO, pO, pO, pO, pW 103, pX 103, pO, pO, pO, pW 103, pX 103, pW 103, pX 103, pO, pO, pO] ?_
  refine WH.v (O.fr 0 0 u69) ?_
  refine WH.v (O.l1 u3) ?_
  refine WH.v (O.cp (q := refid_h (n := s.lns[i]!.work))) ?_
  refine WH.v (O.nt) ?_
  refine WH.o rfl ?_
  refine WH.cs 4 false (fun hg2 => ?_) fun hg2 => ?_
  ·have hg2p := gP hg2
   refine WH.v (O.mo (tY hg2)) ?_
   refine WH.v (O.gtr (tY hg2)) ?_
   refine WH.v (O.mo (tY hg2)) ?_
   refine WH.cs 7 true (fun hg3 => ?_) fun hg3 => ?_
   ·have hg3p := gP hg3
    refine WH.v (O.fr 2 0 u25 (tY hg3)) ?_
    refine WH.v (O.l1 u23 (tY hg3)) ?_
    refine WH.v (O.mo (tY hg3)) ?_
    refine WH.v (O.sb (tY hg3)) ?_
    refine WH.v (O.idx_fz (i := (i - 1)) rfl rfl xA (row_get xA) u23 hi69 hs69 rfl (Taken.yes rfl rfl hg3)) ?_
    refine WH.v (O.ff 0 u69 (tY hg3)) ?_
    refine WH.v (O.l1f u3 (tY hg3)) ?_
    refine WH.v (O.fr 0 0 u69 (tY hg3)) ?_
    refine WH.v (O.l1 u3 (tY hg3)) ?_
    refine WH.v (O.geq (tY hg3)) ?_
    refine WH.v (O.pt hg3 (tY hg2)) ?_
    refine WH.v (O.pf hg2) ?_
    refine WH.o rfl ?_
    refine WH.cs 20 false (fun hg4 => ?_) fun hg4 => ?_
    ·have hg4p := gP hg4
     refine WH.v (O.fr 1 0 u69 (tY hg4)) ?_
     refine WH.v (O.l1 u67 (tY hg4)) ?_
     refine WH.v (O.le u67 (tY hg4)) ?_
     refine WH.v (O.eql (tY hg4)) ?_
     refine WH.v (O.pf hg4) ?_
     refine WH.o rfl ?_
     refine WH.cs 26 false (fun hg5 => ?_) fun hg5 => ?_
     ·have hg5p := gP hg5
      refine WH.v (O.fr 1 0 u69 (tY hg5)) ?_
      refine WH.v (O.l1 u67 (tY hg5)) ?_
      refine WH.v (O.cp (q := refvalid_h (q := s.lns[i]!.q)) (hg := (tY hg5))) ?_
      refine WH.v (O.nt (tY hg5)) ?_
      refine WH.v (O.pf hg5) ?_
      refine WH.o rfl ?_
      refine WH.cs 32 false (fun hg6 => ?_) fun hg6 => ?_
      ·have hg6p := gP hg6
       refine WH.v (O.idx_ref (i := 0) (m := 1) rfl rfl yT xI u56 xG rfl rfl (Taken.yes rfl rfl hg6)) ?_
       refine WH.v (O.l1 u3 (tY hg6)) ?_
       refine WH.v (O.gtr (tY hg6)) ?_
       refine WH.v (O.pf hg6) ?_
       refine WH.o rfl ?_
       refine WH.cs 37 false (fun hg7 => ?_) fun hg7 => ?_
       ·have hg7p := gP hg7
        refine WH.v (O.idx_ref (i := 1) (m := 1) rfl rfl yT xI u56 xG rfl rfl (Taken.yes rfl rfl hg7)) ?_
        refine WH.v (O.l1 u3 (tY hg7)) ?_
        refine WH.v (O.idx_ref (i := 2) (m := 1) rfl rfl yT xI u56 xG rfl rfl (Taken.yes rfl rfl hg7)) ?_
        refine WH.v (O.l1 u3 (tY hg7)) ?_
        refine WH.v (O.ad (tY hg7)) ?_
        refine WH.v (O.eql (tY hg7)) ?_
        refine WH.v (O.pf hg7) ?_
        refine WH.nil (E.to ?_)
        refine W.pk [(1,_),(3,_),(4,_),(67,_)] [(101,_),(102,_),(103,_)] ?_
        refine W.cc rfl (fun hc8 => ?_) fun hc8 => ?_
        ·refine W.rg (SL.a (E.fo (W.ret (E.thr ?_))))
         refine E.inr ?_
         refine E.thr (E.thr ?_)
         refine E.inr ?_
         refine E.thr ?_
         refine E.h1 [] ?_
         ·exact xJ
        refine W.skip (E.to (W.rg (SL.a (E.fo (W.block ?_)))))
        refine W.lq (fun (k : Nat) => [(6, vI (k : Int))]) (fun (k : Nat) => []) (fun (k : Nat) => k ≤ s.lns[i]!.q.length ∧ ∀ m, m < k → ¬ (s.lns[i]!.q[m]!.tim > s.now ∨ hasC s.cps s.lns[i]!.work s.lns[i]!.q[m]!.pat = true)) (fun (k : Nat) => s.lns[i]!.q.length - k) (0) [] [(1, _), (3, _), (4, _)] [(101, _), (102, _), (103, _)] ?_ ?_
        ·exact yG
        intro k hinv
        obtain ⟨hk, hp⟩ := hinv
        refine W.seq (W.rg (SL.o ?_))
        refine SL.v (O.fr 1 0 u69) ?_
        refine SL.v (O.l1 u67) ?_
        refine SL.v (O.le u67) ?_
        refine SL.v (O.lss) ?_
        refine E.fo ?_
        refine W.cc rfl (fun hc9 => ?_) fun hc9 => ?_
        ·refine W.skip (E.to (W.seq (W.block (W.seq ?_))))
         refine W.dr [pW 102, pX 102, pO, pO, pO, pO, pW 101, pX 101, pO, pO, pX 101, pW 102, pX 102, pW 102, pX 102, pO, pO, pO, pO, pO, pO] ?_
         refine WH.v (O.fr 1 0 u69) ?_
         refine WH.v (O.l1 u67) ?_
         refine WH.o rfl ?_
         refine WH.v (O.ix (i := k) u67 hi121 hs121) ?_
         refine WH.v (O.ff 0 u121) ?_
         refine WH.v (O.l1f u3) ?_
         refine WH.v (O.fr 0 0 u25) ?_
         refine WH.v (O.l1 u3) ?_
         refine WH.v (O.gtr) ?_
         refine WH.o rfl ?_
         refine WH.cs 9 false (fun hg10 => ?_) fun hg10 => ?_
         ·have hg10p := gP hg10
          refine WH.v (O.n3 u25 (tY hg10)) ?_
          refine WH.v (O.fr 0 0 u69 (tY hg10)) ?_
          refine WH.v (O.l1 u3 (tY hg10)) ?_
          refine WH.v (O.fr 1 0 u69 (tY hg10)) ?_
          refine WH.v (O.l1 u67 (tY hg10)) ?_
          refine WH.v (O.mo (tY hg10)) ?_
          refine WH.v (O.ix (i := k) u67 hi121 hs121 (tY hg10)) ?_
          refine WH.v (O.ff 0 u121 (tY hg10)) ?_
          refine WH.v (O.l1f u3 (tY hg10)) ?_
          refine WH.v (O.cp (q := has_h (s := s) (wk := s.lns[i]!.work) (p := s.lns[i]!.q[k]!.pat)) (hg := (tY hg10))) ?_
          refine WH.v (O.pf hg10) ?_
          refine WH.nil (E.to ?_)
          refine W.pk [(1,_),(3,_),(4,_),(6,_),(95,_)] [(101,_),(102,_),(103,_)] ?_
          refine W.cc rfl (fun hc11 => ?_) fun hc11 => ?_
          ·refine W.rg (SL.a (E.fo (W.ret ?_)))
           refine E.inr ?_
           refine E.thr (E.thr ?_)
           refine E.inr ?_
           refine E.inr ?_
           refine E.thr (E.thr ?_)
           refine E.inr ?_
           refine E.thr ?_
           refine E.h1 [] ?_
           ·exact yS
          refine W.skip (E.inn (E.to (W.region (SL.o ?_))))
          refine SL.v (O.ad) ?_
          refine SL.a (SL.nil ?_)
          refine E.ai (k + 1) [] ?_
          ·try dsimp only
           exact vD
         have hg10p := gP hg10
         refine WH.k hg10 (WH.k hg10 (WH.k hg10 (WH.k hg10 (WH.k hg10 (WH.k hg10 (WH.k hg10 (WH.k hg10 (WH.k hg10 (WH.k hg10 ?_)))))))))
         refine WH.v (O.pt (G.ne_f hg10)) ?_
         refine WH.nil (E.to ?_)
         refine W.pk [(1,_),(3,_),(4,_),(6,_),(95,_)] [(101,_),(102,_),(103,_)] ?_
         refine W.cond_t rfl ?_
         refine W.rg (SL.a (E.fo (W.ret ?_)))
         refine E.inr ?_
         refine E.thr (E.thr ?_)
         refine E.inr ?_
         refine E.inr ?_
         refine E.thr (E.thr ?_)
         refine E.inr ?_
         refine E.thr ?_
         refine E.h1 [] ?_
         ·exact yS
        refine W.exit (E.th (E.th (E.hit (E.inn (E.to (W.region (SL.o ?_)))))))
        refine SL.v (O.ad) ?_
        refine SL.a (SL.nil ?_)
        refine E.ai (i + 1) [] ?_
        ·try dsimp only
         exact wG
       have hg7p := gP hg7
       refine WH.k hg7 (WH.k hg7 (WH.k hg7 (WH.k hg7 (WH.k hg7 (WH.k hg7 ?_)))))
       refine WH.v (O.pt (G.ne_f hg7)) ?_
       refine WH.nil (E.to ?_)
       refine W.pk [(1,_),(3,_),(4,_),(67,_)] [(101,_),(102,_),(103,_)] ?_
       refine W.cond_t rfl ?_
       refine W.rg (SL.a (E.fo (W.ret (E.thr ?_))))
       refine E.inr ?_
       refine E.thr (E.thr ?_)
       refine E.inr ?_
       refine E.thr ?_
       refine E.h1 [] ?_
       ·exact xJ
      have hg6p := gP hg6
      refine WH.k hg6 (WH.k hg6 (WH.k hg6 ?_))
      refine WH.v (O.pt (G.ne_f hg6)) ?_
      refine WH.o rfl ?_
      have hg12 := G.ntf
      refine WH.k hg12 (WH.k hg12 (WH.k hg12 (WH.k hg12 (WH.k hg12 (WH.k hg12 ?_)))))
      refine WH.v (O.pt rfl) ?_
      refine WH.nil (E.to ?_)
      refine W.pk [(1,_),(3,_),(4,_),(67,_)] [(101,_),(102,_),(103,_)] ?_
      refine W.cond_t rfl ?_
      refine W.rg (SL.a (E.fo (W.ret (E.thr ?_))))
      refine E.inr ?_
      refine E.thr (E.thr ?_)
      refine E.inr ?_
      refine E.thr ?_
      refine E.h1 [] ?_
      ·exact xJ
     have hg5p := gP hg5
     refine WH.k hg5 (WH.k hg5 (WH.k hg5 (WH.k hg5 ?_)))
     refine WH.v (O.pt (G.ne_f hg5)) ?_
     refine WH.o rfl ?_
     have hg13 := G.ntf
     refine WH.k hg13 (WH.k hg13 (WH.k hg13 ?_))
     refine WH.v (O.pt rfl) ?_
     refine WH.o rfl ?_
     have hg14 := G.ntf
     refine WH.k hg14 (WH.k hg14 (WH.k hg14 (WH.k hg14 (WH.k hg14 (WH.k hg14 ?_)))))
     refine WH.v (O.pt rfl) ?_
     refine WH.nil (E.to ?_)
     refine W.pk [(1,_),(3,_),(4,_),(67,_)] [(101,_),(102,_),(103,_)] ?_
     refine W.cond_t rfl ?_
     refine W.rg (SL.a (E.fo (W.ret (E.thr ?_))))
     refine E.inr ?_
     refine E.thr (E.thr ?_)
     refine E.inr ?_
     refine E.thr ?_
     refine E.h1 [] ?_
     ·exact xJ
    have hg4p := gP hg4
    refine WH.k hg4 (WH.k hg4 (WH.k hg4 (WH.k hg4 ?_)))
    refine WH.v (O.pt (G.ne_f hg4)) ?_
    refine WH.o rfl ?_
    have hg15 := G.ntf
    refine WH.k hg15 (WH.k hg15 (WH.k hg15 (WH.k hg15 ?_)))
    refine WH.v (O.pt rfl) ?_
    refine WH.o rfl ?_
    have hg16 := G.ntf
    refine WH.k hg16 (WH.k hg16 (WH.k hg16 ?_))
    refine WH.v (O.pt rfl) ?_
    refine WH.o rfl ?_
    have hg17 := G.ntf
    refine WH.k hg17 (WH.k hg17 (WH.k hg17 (WH.k hg17 (WH.k hg17 (WH.k hg17 ?_)))))
    refine WH.v (O.pt rfl) ?_
    refine WH.nil (E.to ?_)
    refine W.pk [(1,_),(3,_),(4,_),(67,_)] [(101,_),(102,_),(103,_)] ?_
    refine W.cond_t rfl ?_
    refine W.rg (SL.a (E.fo (W.ret (E.thr ?_))))
    refine E.inr ?_
    refine E.thr (E.thr ?_)
    refine E.inr ?_
    refine E.thr ?_
    refine E.h1 [] ?_
    ·exact xJ
   have hg3p := gP hg3
   refine WH.k hg3 (WH.k hg3 (WH.k hg3 (WH.k hg3 (WH.k hg3 (WH.k hg3 (WH.k hg3 (WH.k hg3 (WH.k hg3 (WH.k hg3 ?_)))))))))
   refine WH.v (O.pf (G.ne_t hg3) (tY hg2)) ?_
   refine WH.v (O.pf hg2) ?_
   refine WH.o rfl ?_
   have hg18 : false = false := by decide
   refine WH.v (O.fr 1 0 u69 (tY hg18)) ?_
   refine WH.v (O.l1 u67 (tY hg18)) ?_
   refine WH.v (O.le u67 (tY hg18)) ?_
   refine WH.v (O.eql (tY hg18)) ?_
   refine WH.v (O.pf rfl) ?_
   refine WH.o rfl ?_
   refine WH.cs 26 false (fun hg19 => ?_) fun hg19 => ?_
   ·have hg19p := gP hg19
    refine WH.v (O.fr 1 0 u69 (tY hg19)) ?_
    refine WH.v (O.l1 u67 (tY hg19)) ?_
    refine WH.v (O.cp (q := refvalid_h (q := s.lns[i]!.q)) (hg := (tY hg19))) ?_
    refine WH.v (O.nt (tY hg19)) ?_
    refine WH.v (O.pf hg19) ?_
    refine WH.o rfl ?_
    refine WH.cs 32 false (fun hg20 => ?_) fun hg20 => ?_
    ·have hg20p := gP hg20
     refine WH.v (O.idx_ref (i := 0) (m := 1) rfl rfl yT xI u56 xG rfl rfl (Taken.yes rfl rfl hg20)) ?_
     refine WH.v (O.l1 u3 (tY hg20)) ?_
     refine WH.v (O.gtr (tY hg20)) ?_
     refine WH.v (O.pf hg20) ?_
     refine WH.o rfl ?_
     refine WH.cs 37 false (fun hg21 => ?_) fun hg21 => ?_
     ·have hg21p := gP hg21
      refine WH.v (O.idx_ref (i := 1) (m := 1) rfl rfl yT xI u56 xG rfl rfl (Taken.yes rfl rfl hg21)) ?_
      refine WH.v (O.l1 u3 (tY hg21)) ?_
      refine WH.v (O.idx_ref (i := 2) (m := 1) rfl rfl yT xI u56 xG rfl rfl (Taken.yes rfl rfl hg21)) ?_
      refine WH.v (O.l1 u3 (tY hg21)) ?_
      refine WH.v (O.ad (tY hg21)) ?_
      refine WH.v (O.eql (tY hg21)) ?_
      refine WH.v (O.pf hg21) ?_
      refine WH.nil (E.to ?_)
      refine W.pk [(1,_),(3,_),(4,_),(67,_)] [(101,_),(102,_),(103,_)] ?_
      refine W.cc rfl (fun hc22 => ?_) fun hc22 => ?_
      ·refine W.rg (SL.a (E.fo (W.ret (E.thr ?_))))
       refine E.inr ?_
       refine E.thr (E.thr ?_)
       refine E.inr ?_
       refine E.thr ?_
       refine E.h1 [] ?_
       ·exact xJ
      refine W.skip (E.to (W.rg (SL.a (E.fo (W.block ?_)))))
      refine W.lq (fun (k : Nat) => [(6, vI (k : Int))]) (fun (k : Nat) => []) (fun (k : Nat) => k ≤ s.lns[i]!.q.length ∧ ∀ m, m < k → ¬ (s.lns[i]!.q[m]!.tim > s.now ∨ hasC s.cps s.lns[i]!.work s.lns[i]!.q[m]!.pat = true)) (fun (k : Nat) => s.lns[i]!.q.length - k) (0) [] [(1, _), (3, _), (4, _)] [(101, _), (102, _), (103, _)] ?_ ?_
      ·exact yG
      intro k hinv
      obtain ⟨hk, hp⟩ := hinv
      refine W.seq (W.rg (SL.o ?_))
      refine SL.v (O.fr 1 0 u69) ?_
      refine SL.v (O.l1 u67) ?_
      refine SL.v (O.le u67) ?_
      refine SL.v (O.lss) ?_
      refine E.fo ?_
      refine W.cc rfl (fun hc23 => ?_) fun hc23 => ?_
      ·refine W.skip (E.to (W.seq (W.block (W.seq ?_))))
       refine W.dr [pW 102, pX 102, pO, pO, pO, pO, pW 101, pX 101, pO, pO, pX 101, pW 102, pX 102, pW 102, pX 102, pO, pO, pO, pO, pO, pO] ?_
       refine WH.v (O.fr 1 0 u69) ?_
       refine WH.v (O.l1 u67) ?_
       refine WH.o rfl ?_
       refine WH.v (O.ix (i := k) u67 hi121 hs121) ?_
       refine WH.v (O.ff 0 u121) ?_
       refine WH.v (O.l1f u3) ?_
       refine WH.v (O.fr 0 0 u25) ?_
       refine WH.v (O.l1 u3) ?_
       refine WH.v (O.gtr) ?_
       refine WH.o rfl ?_
       refine WH.cs 9 false (fun hg24 => ?_) fun hg24 => ?_
       ·have hg24p := gP hg24
        refine WH.v (O.n3 u25 (tY hg24)) ?_
        refine WH.v (O.fr 0 0 u69 (tY hg24)) ?_
        refine WH.v (O.l1 u3 (tY hg24)) ?_
        refine WH.v (O.fr 1 0 u69 (tY hg24)) ?_
        refine WH.v (O.l1 u67 (tY hg24)) ?_
        refine WH.v (O.mo (tY hg24)) ?_
        refine WH.v (O.ix (i := k) u67 hi121 hs121 (tY hg24)) ?_
        refine WH.v (O.ff 0 u121 (tY hg24)) ?_
        refine WH.v (O.l1f u3 (tY hg24)) ?_
        refine WH.v (O.cp (q := has_h (s := s) (wk := s.lns[i]!.work) (p := s.lns[i]!.q[k]!.pat)) (hg := (tY hg24))) ?_
        refine WH.v (O.pf hg24) ?_
        refine WH.nil (E.to ?_)
        refine W.pk [(1,_),(3,_),(4,_),(6,_),(95,_)] [(101,_),(102,_),(103,_)] ?_
        refine W.cc rfl (fun hc25 => ?_) fun hc25 => ?_
        ·refine W.rg (SL.a (E.fo (W.ret ?_)))
         refine E.inr ?_
         refine E.thr (E.thr ?_)
         refine E.inr ?_
         refine E.inr ?_
         refine E.thr (E.thr ?_)
         refine E.inr ?_
         refine E.thr ?_
         refine E.h1 [] ?_
         ·exact yS
        refine W.skip (E.inn (E.to (W.region (SL.o ?_))))
        refine SL.v (O.ad) ?_
        refine SL.a (SL.nil ?_)
        refine E.ai (k + 1) [] ?_
        ·try dsimp only
         exact vD
       have hg24p := gP hg24
       refine WH.k hg24 (WH.k hg24 (WH.k hg24 (WH.k hg24 (WH.k hg24 (WH.k hg24 (WH.k hg24 (WH.k hg24 (WH.k hg24 (WH.k hg24 ?_)))))))))
       refine WH.v (O.pt (G.ne_f hg24)) ?_
       refine WH.nil (E.to ?_)
       refine W.pk [(1,_),(3,_),(4,_),(6,_),(95,_)] [(101,_),(102,_),(103,_)] ?_
       refine W.cond_t rfl ?_
       refine W.rg (SL.a (E.fo (W.ret ?_)))
       refine E.inr ?_
       refine E.thr (E.thr ?_)
       refine E.inr ?_
       refine E.inr ?_
       refine E.thr (E.thr ?_)
       refine E.inr ?_
       refine E.thr ?_
       refine E.h1 [] ?_
       ·exact yS
      refine W.exit (E.th (E.th (E.hit (E.inn (E.to (W.region (SL.o ?_)))))))
      refine SL.v (O.ad) ?_
      refine SL.a (SL.nil ?_)
      refine E.ai (i + 1) [] ?_
      ·try dsimp only
       exact wG
     have hg21p := gP hg21
     refine WH.k hg21 (WH.k hg21 (WH.k hg21 (WH.k hg21 (WH.k hg21 (WH.k hg21 ?_)))))
     refine WH.v (O.pt (G.ne_f hg21)) ?_
     refine WH.nil (E.to ?_)
     refine W.pk [(1,_),(3,_),(4,_),(67,_)] [(101,_),(102,_),(103,_)] ?_
     refine W.cond_t rfl ?_
     refine W.rg (SL.a (E.fo (W.ret (E.thr ?_))))
     refine E.inr ?_
     refine E.thr (E.thr ?_)
     refine E.inr ?_
     refine E.thr ?_
     refine E.h1 [] ?_
     ·exact xJ
    have hg20p := gP hg20
    refine WH.k hg20 (WH.k hg20 (WH.k hg20 ?_))
    refine WH.v (O.pt (G.ne_f hg20)) ?_
    refine WH.o rfl ?_
    have hg26 := G.ntf
    refine WH.k hg26 (WH.k hg26 (WH.k hg26 (WH.k hg26 (WH.k hg26 (WH.k hg26 ?_)))))
    refine WH.v (O.pt rfl) ?_
    refine WH.nil (E.to ?_)
    refine W.pk [(1,_),(3,_),(4,_),(67,_)] [(101,_),(102,_),(103,_)] ?_
    refine W.cond_t rfl ?_
    refine W.rg (SL.a (E.fo (W.ret (E.thr ?_))))
    refine E.inr ?_
    refine E.thr (E.thr ?_)
    refine E.inr ?_
    refine E.thr ?_
    refine E.h1 [] ?_
    ·exact xJ
   have hg19p := gP hg19
   refine WH.k hg19 (WH.k hg19 (WH.k hg19 (WH.k hg19 ?_)))
   refine WH.v (O.pt (G.ne_f hg19)) ?_
   refine WH.o rfl ?_
   have hg27 := G.ntf
   refine WH.k hg27 (WH.k hg27 (WH.k hg27 ?_))
   refine WH.v (O.pt rfl) ?_
   refine WH.o rfl ?_
   have hg28 := G.ntf
   refine WH.k hg28 (WH.k hg28 (WH.k hg28 (WH.k hg28 (WH.k hg28 (WH.k hg28 ?_)))))
   refine WH.v (O.pt rfl) ?_
   refine WH.nil (E.to ?_)
   refine W.pk [(1,_),(3,_),(4,_),(67,_)] [(101,_),(102,_),(103,_)] ?_
   refine W.cond_t rfl ?_
   refine W.rg (SL.a (E.fo (W.ret (E.thr ?_))))
   refine E.inr ?_
   refine E.thr (E.thr ?_)
   refine E.inr ?_
   refine E.thr ?_
   refine E.h1 [] ?_
   ·exact xJ
  have hg2p := gP hg2
  refine WH.k hg2 (WH.k hg2 (WH.k hg2 ?_))
  refine WH.s2 ?_
  refine WH.s2 ?_
  refine WH.s2 ?_
  refine WH.s2 ?_
  refine WH.s2 ?_
  refine WH.s2 ?_
  refine WH.s2 ?_
  refine WH.s2 ?_
  refine WH.s2 ?_
  refine WH.s2 ?_
  refine WH.k hg2 ?_
  refine WH.v (O.pt (G.ne_f hg2)) ?_
  refine WH.o rfl ?_
  have hg29 := G.ntf
  refine WH.k hg29 (WH.k hg29 (WH.k hg29 (WH.k hg29 ?_)))
  refine WH.v (O.pt rfl) ?_
  refine WH.o rfl ?_
  have hg30 := G.ntf
  refine WH.k hg30 (WH.k hg30 (WH.k hg30 (WH.k hg30 ?_)))
  refine WH.v (O.pt rfl) ?_
  refine WH.o rfl ?_
  have hg31 := G.ntf
  refine WH.k hg31 (WH.k hg31 (WH.k hg31 ?_))
  refine WH.v (O.pt rfl) ?_
  refine WH.o rfl ?_
  have hg32 := G.ntf
  refine WH.k hg32 (WH.k hg32 (WH.k hg32 (WH.k hg32 (WH.k hg32 (WH.k hg32 ?_)))))
  refine WH.v (O.pt rfl) ?_
  refine WH.nil (E.to ?_)
  refine W.pk [(1,_),(3,_),(4,_),(67,_)] [(101,_),(102,_),(103,_)] ?_
  refine W.cond_t rfl ?_
  refine W.rg (SL.a (E.fo (W.ret (E.thr ?_))))
  refine E.inr ?_
  refine E.thr (E.thr ?_)
  refine E.inr ?_
  refine E.thr ?_
  refine E.h1 [] ?_
  ·exact xJ
 refine W.exit (E.th (E.th (E.hit (E.to (W.rg ?_)))))
 refine SL.v (O.fr 2 0 u25) ?_
 refine SL.v (O.l1 u23) ?_
 refine SL.v (O.le u23) ?_
 refine SL.v (O.leq) ?_
 refine SL.a (E.fo (W.ret ?_))
 refine E.h1 [] ?_
 ·exact iv_bool (dec_iff ⟨fun z => by have := z.2; omega, fun z => ⟨fun j hj => hqs j xA, xA⟩⟩)

set_option maxRecDepth 8000 in
set_option maxHeartbeats 3200000 in
theorem refvalidS_h {s : St} (hc : s.cps.length ≤ 1000) (hl : s.lns.length ≤ 1000) (hq : ∀ l ∈ s.lns, l.q.length ≤ 100) (hlb : ∀ c ∈ s.cps, c.lib.length ≤ 1000) :
    Con Tryz.prog 17 [vA [uI s.now, .sl 8 (s.cps.map eCp), .sl 2 (s.lns.map eLn)]] [] (vB (decide (validS s))) [] := by
 obtain ⟨i3, hi3, hz3, hs3, hb3⟩ := hinf3
 obtain ⟨i65, hi65, hz65, hs65, hb65⟩ := hinf65
 refine Con.en 94 Tryz.func17 fun τ w ok vs hin => ?_
 have hl0_1 := hin.lenA (i := 0) (j := 1) rfl rfl
 try rw [List.length_map] at hl0_1
 have hl0_2 := hin.lenA (i := 0) (j := 2) rfl rfl
 try rw [List.length_map] at hl0_2
 clear hin
 refine W.rg ?_
 refine SL.bx3 101 ?_
 refine SL.a (E.fo (W.seq (W.rg ?_)))
 refine SL.v (O.fr 0 0 u25) ?_
 refine SL.v (O.l1 u3) ?_
 refine SL.v (O.cp (q := refday_h (n := s.now))) ?_
 refine SL.v (O.nt) ?_
 refine SL.o ?_
 refine SL.cs 4 false (fun hg1 => ?_) fun hg1 => ?_
 ·have hg1p := gP hg1
  refine SL.v (O.fr 1 0 u25 (tY hg1)) ?_
  refine SL.v (O.l1 u22 (tY hg1)) ?_
  refine SL.v (O.le u22 (tY hg1)) ?_
  refine SL.v (O.gtr (tY hg1)) ?_
  refine SL.v (O.pf hg1) ?_
  refine E.fo ?_
  refine W.cc rfl (fun hc2 => ?_) fun hc2 => ?_
  ·refine W.rg (SL.a (E.fo (W.ret (E.thr ?_))))
   refine E.h1 [] ?_
   ·exact iv_bool (dec_f fun q => by have q1 := q.1; have q2 := q.2.1; first | omega | (simp_all; done) | (simp_all; omega))
  have h0 : inB s.now 0 1000000 ∧ s.cps.length ≤ 60 := ⟨by first | assumption | simp_all, xA⟩
  have hn : 0 ≤ s.now ∧ s.now ≤ 1000000 := h0.1
  refine W.skip (E.to (W.seq (W.rg (SL.a (E.fo (W.block ?_))))))
  refine W.lq (fun (k : Nat) => [(3, vI (k : Int))]) (fun (k : Nat) => []) (fun (k : Nat) => k ≤ s.cps.length ∧ ∀ j, j < k → vCpR s j) (fun (k : Nat) => s.cps.length - k) (0) [] [(1, _)] [(101, _)] ?_ ?_
  ·exact yG
  intro k hinv
  obtain ⟨hk, hp⟩ := hinv
  refine W.seq (W.rg (SL.o ?_))
  refine SL.v (O.fr 1 0 u25) ?_
  refine SL.v (O.l1 u22) ?_
  refine SL.v (O.le u22) ?_
  refine SL.v (O.lss) ?_
  refine E.fo ?_
  refine W.cc rfl (fun hc3 => ?_) fun hc3 => ?_
  ·have hil := ids_le (fun c => decide (c.place = 2 ∧ c.pat = s.cps[k]!.pat)) s.cps s.cps.length
   refine W.skip (E.to (W.seq (W.block (W.rg ?_))))
   refine SL.v (O.fr 1 0 u25) ?_
   refine SL.v (O.l1 u22) ?_
   refine SL.o ?_
   refine SL.v (O.ix (i := k) u22 hi65 hs65) ?_
   refine SL.v (O.lU 8 u65) ?_
   refine SL.al3 102 ?_
   refine SL.st8_8 102 ?_
   refine E.fo (W.seq (W.seq ?_))
   refine W.dr [pX 102, pW 101, pX 101, pO, pO, pO, pO, pO, pO, pW 101, pX 101, pO, pO, pO, pO, pO, pW 102, pX 102, pO, pO, pO] ?_
   refine WH.v (O.n8 u65) ?_
   refine WH.v (O.fr 0 0 u25) ?_
   refine WH.v (O.l1 u3) ?_
   refine WH.v (O.cp (q := placed_h (c := s.cps[k]!) (now := s.now) hn (hlb _ (at_mem xA)))) ?_
   refine WH.v (O.nt) ?_
   refine WH.o rfl ?_
   refine WH.cs 5 false (fun hg4 => ?_) fun hg4 => ?_
   ·have hg4p := gP hg4
    refine WH.v (O.mo (tY hg4)) ?_
    refine WH.v (O.gtr (tY hg4)) ?_
    refine WH.v (O.mo (tY hg4)) ?_
    refine WH.cs 8 true (fun hg5 => ?_) fun hg5 => ?_
    ·have hg5p := gP hg5
     refine WH.v (O.fr 1 0 u25 (tY hg5)) ?_
     refine WH.v (O.l1 u22 (tY hg5)) ?_
     refine WH.v (O.mo (tY hg5)) ?_
     refine WH.v (O.sb (tY hg5)) ?_
     refine WH.v (O.idx_fz (i := (k - 1)) rfl rfl xA (row_get xA) u22 hi65 hs65 rfl (Taken.yes rfl rfl hg5)) ?_
     refine WH.v (O.ff 0 u65 (tY hg5)) ?_
     refine WH.v (O.l1f u3 (tY hg5)) ?_
     refine WH.v (O.fr 0 0 u65 (tY hg5)) ?_
     refine WH.v (O.l1 u3 (tY hg5)) ?_
     refine WH.v (O.geq (tY hg5)) ?_
     refine WH.v (O.pt hg5 (tY hg4)) ?_
     refine WH.v (O.pf hg4) ?_
     refine WH.nil (E.to ?_)
     refine W.pk [(1,_),(3,_),(4,_),(50,_)] [(101,_),(102,_)] ?_
     refine W.cc rfl (fun hc6 => ?_) fun hc6 => ?_
     ·refine W.rg (SL.a (E.fo (W.ret (E.thr ?_))))
      refine E.inr ?_
      refine E.thr (E.thr ?_)
      refine E.inr ?_
      refine E.thr ?_
      refine E.h1 [] ?_
      ·exact xO
     refine W.skip (E.to (W.rg ?_))
     refine SL.v (O.n3 u25) ?_
     refine SL.al9 103 ?_
     refine SL.st3_3 103 ?_
     refine E.fo (W.rg ?_)
     refine SL.v (O.fr 1 0 u25) ?_
     refine SL.v (O.l1 u22) ?_
     refine SL.o ?_
     refine SL.v (O.sub_fz (j := k) rfl Bnd.no (Bnd.at rfl yC) xN xS sub_hi u22 hi65 hs65 rfl Taken.no) ?_
     refine SL.v (O.fr 1 0 u25) ?_
     refine SL.st1_3 103 ?_
     refine E.fo (W.rg ?_)
     refine SL.v (O.fr 3 0 u65) ?_
     refine SL.v (O.l1 u3) ?_
     refine SL.v (O.neq) ?_
     refine SL.o ?_
     refine SL.cs 3 true (fun hg7 => ?_) fun hg7 => ?_
     ·have hg7p := gP hg7
      refine SL.v (O.n3 u25 (tY hg7)) ?_
      refine SL.v (O.fr 1 0 u65 (tY hg7)) ?_
      refine SL.v (O.l1 u3 (tY hg7)) ?_
      refine SL.v (O.fr 4 0 u65 (tY hg7)) ?_
      refine SL.v (O.l1 u3 (tY hg7)) ?_
      refine SL.v (O.cp (q := has_h (s := (⟨s.now, s.cps.take k, s.lns⟩ : St)) (wk := s.cps[k]!.work) (p := s.cps[k]!.pat)) (hg := (tY hg7))) ?_
      refine SL.v (O.pt hg7) ?_
      refine SL.o ?_
      refine SL.cs 11 false (fun hg8 => ?_) fun hg8 => ?_
      ·have hg8p := gP hg8
       refine SL.v (O.n3 u25 (tY hg8)) ?_
       refine SL.v (O.fr 4 0 u65 (tY hg8)) ?_
       refine SL.v (O.l1 u3 (tY hg8)) ?_
       refine SL.v (O.cp (q := Con.fz (refLoans_h (s := s) (i := s.cps[k]!.pat) xA) rfl rfl) (hg := (tY hg8))) ?_
       refine SL.v (O.le u61 (tY hg8)) ?_
       refine SL.v (O.gtr (tY hg8)) ?_
       refine SL.v (O.pf hg8) ?_
       refine E.fo ?_
       refine W.pk [(1,_),(3,_),(75,_)] [(101,_),(102,_),(103,_)] ?_
       refine W.cc rfl (fun hc9 => ?_) fun hc9 => ?_
       ·refine W.rg (SL.a (E.fo (W.ret ?_)))
        refine E.inr ?_
        refine E.thr (E.thr ?_)
        refine E.inr ?_
        refine E.thr ?_
        refine E.h1 [] ?_
        ·exact xO
       refine W.skip (E.inn (E.to (W.region (SL.o ?_))))
       refine SL.v (O.ad) ?_
       refine SL.a (SL.nil ?_)
       refine E.ai (k + 1) [] ?_
       ·try dsimp only
        exact yL
      have hg8p := gP hg8
      refine SL.k hg8 (SL.k hg8 (SL.k hg8 (SL.k hg8 (SL.k hg8 (SL.k hg8 ?_)))))
      refine SL.v (O.pt (G.ne_f hg8)) ?_
      refine E.fo ?_
      refine W.pk [(1,_),(3,_),(75,_)] [(101,_),(102,_),(103,_)] ?_
      refine W.cond_t rfl ?_
      refine W.rg (SL.a (E.fo (W.ret ?_)))
      refine E.inr ?_
      refine E.thr (E.thr ?_)
      refine E.inr ?_
      refine E.thr ?_
      refine E.h1 [] ?_
      ·exact xO
     have hg7p := gP hg7
     refine SL.k hg7 (SL.k hg7 (SL.k hg7 (SL.k hg7 (SL.k hg7 (SL.k hg7 ?_)))))
     refine SL.v (O.pf (G.ne_t hg7)) ?_
     refine SL.o ?_
     have hg10 : false = false := by decide
     refine SL.v (O.n3 u25 (tY hg10)) ?_
     refine SL.v (O.fr 4 0 u65 (tY hg10)) ?_
     refine SL.v (O.l1 u3 (tY hg10)) ?_
     refine SL.v (O.cp (q := Con.fz (refLoans_h (s := s) (i := s.cps[k]!.pat) xA) rfl rfl) (hg := (tY hg10))) ?_
     refine SL.v (O.le u61 (tY hg10)) ?_
     refine SL.v (O.gtr (tY hg10)) ?_
     refine SL.v (O.pf rfl) ?_
     refine E.fo ?_
     refine W.pk [(1,_),(3,_),(75,_)] [(101,_),(102,_),(103,_)] ?_
     refine W.cc rfl (fun hc11 => ?_) fun hc11 => ?_
     ·refine W.rg (SL.a (E.fo (W.ret ?_)))
      refine E.inr ?_
      refine E.thr (E.thr ?_)
      refine E.inr ?_
      refine E.thr ?_
      refine E.h1 [] ?_
      ·exact xO
     refine W.skip (E.inn (E.to (W.region (SL.o ?_))))
     refine SL.v (O.ad) ?_
     refine SL.a (SL.nil ?_)
     refine E.ai (k + 1) [] ?_
     ·try dsimp only
      exact yL
    have hg5p := gP hg5
    refine WH.k hg5 (WH.k hg5 (WH.k hg5 (WH.k hg5 (WH.k hg5 (WH.k hg5 (WH.k hg5 (WH.k hg5 (WH.k hg5 (WH.k hg5 ?_)))))))))
    refine WH.v (O.pf (G.ne_t hg5) (tY hg4)) ?_
    refine WH.v (O.pf hg4) ?_
    refine WH.nil (E.to ?_)
    refine W.pk [(1,_),(3,_),(4,_),(50,_)] [(101,_),(102,_)] ?_
    refine W.cond_f rfl ?_
    refine W.skip (E.to (W.rg ?_))
    refine SL.v (O.n3 u25) ?_
    refine SL.al9 104 ?_
    refine SL.st3_3 104 ?_
    refine E.fo (W.rg ?_)
    refine SL.v (O.fr 1 0 u25) ?_
    refine SL.v (O.l1 u22) ?_
    refine SL.o ?_
    refine SL.v (O.sub_fz (j := k) rfl Bnd.no (Bnd.at rfl yC) xN xS sub_hi u22 hi65 hs65 rfl Taken.no) ?_
    refine SL.v (O.fr 1 0 u25) ?_
    refine SL.st1_3 104 ?_
    refine E.fo (W.rg ?_)
    refine SL.v (O.fr 3 0 u65) ?_
    refine SL.v (O.l1 u3) ?_
    refine SL.v (O.neq) ?_
    refine SL.o ?_
    refine SL.cs 3 true (fun hg12 => ?_) fun hg12 => ?_
    ·have hg12p := gP hg12
     refine SL.v (O.n3 u25 (tY hg12)) ?_
     refine SL.v (O.fr 1 0 u65 (tY hg12)) ?_
     refine SL.v (O.l1 u3 (tY hg12)) ?_
     refine SL.v (O.fr 4 0 u65 (tY hg12)) ?_
     refine SL.v (O.l1 u3 (tY hg12)) ?_
     refine SL.v (O.cp (q := has_h (s := (⟨s.now, s.cps.take k, s.lns⟩ : St)) (wk := s.cps[k]!.work) (p := s.cps[k]!.pat)) (hg := (tY hg12))) ?_
     refine SL.v (O.pt hg12) ?_
     refine SL.o ?_
     refine SL.cs 11 false (fun hg13 => ?_) fun hg13 => ?_
     ·have hg13p := gP hg13
      refine SL.v (O.n3 u25 (tY hg13)) ?_
      refine SL.v (O.fr 4 0 u65 (tY hg13)) ?_
      refine SL.v (O.l1 u3 (tY hg13)) ?_
      refine SL.v (O.cp (q := Con.fz (refLoans_h (s := s) (i := s.cps[k]!.pat) xA) rfl rfl) (hg := (tY hg13))) ?_
      refine SL.v (O.le u61 (tY hg13)) ?_
      refine SL.v (O.gtr (tY hg13)) ?_
      refine SL.v (O.pf hg13) ?_
      refine E.fo ?_
      refine W.pk [(1,_),(3,_),(75,_)] [(101,_),(102,_),(104,_)] ?_
      refine W.cc rfl (fun hc14 => ?_) fun hc14 => ?_
      ·refine W.rg (SL.a (E.fo (W.ret ?_)))
       refine E.inr ?_
       refine E.thr (E.thr ?_)
       refine E.inr ?_
       refine E.thr ?_
       refine E.h1 [] ?_
       ·exact xO
      refine W.skip (E.inn (E.to (W.region (SL.o ?_))))
      refine SL.v (O.ad) ?_
      refine SL.a (SL.nil ?_)
      refine E.ai (k + 1) [] ?_
      ·try dsimp only
       exact yL
     have hg13p := gP hg13
     refine SL.k hg13 (SL.k hg13 (SL.k hg13 (SL.k hg13 (SL.k hg13 (SL.k hg13 ?_)))))
     refine SL.v (O.pt (G.ne_f hg13)) ?_
     refine E.fo ?_
     refine W.pk [(1,_),(3,_),(75,_)] [(101,_),(102,_),(104,_)] ?_
     refine W.cond_t rfl ?_
     refine W.rg (SL.a (E.fo (W.ret ?_)))
     refine E.inr ?_
     refine E.thr (E.thr ?_)
     refine E.inr ?_
     refine E.thr ?_
     refine E.h1 [] ?_
     ·exact xO
    have hg12p := gP hg12
    refine SL.k hg12 (SL.k hg12 (SL.k hg12 (SL.k hg12 (SL.k hg12 (SL.k hg12 ?_)))))
    refine SL.v (O.pf (G.ne_t hg12)) ?_
    refine SL.o ?_
    have hg15 : false = false := by decide
    refine SL.v (O.n3 u25 (tY hg15)) ?_
    refine SL.v (O.fr 4 0 u65 (tY hg15)) ?_
    refine SL.v (O.l1 u3 (tY hg15)) ?_
    refine SL.v (O.cp (q := Con.fz (refLoans_h (s := s) (i := s.cps[k]!.pat) xA) rfl rfl) (hg := (tY hg15))) ?_
    refine SL.v (O.le u61 (tY hg15)) ?_
    refine SL.v (O.gtr (tY hg15)) ?_
    refine SL.v (O.pf rfl) ?_
    refine E.fo ?_
    refine W.pk [(1,_),(3,_),(75,_)] [(101,_),(102,_),(104,_)] ?_
    refine W.cc rfl (fun hc16 => ?_) fun hc16 => ?_
    ·refine W.rg (SL.a (E.fo (W.ret ?_)))
     refine E.inr ?_
     refine E.thr (E.thr ?_)
     refine E.inr ?_
     refine E.thr ?_
     refine E.h1 [] ?_
     ·exact xO
    refine W.skip (E.inn (E.to (W.region (SL.o ?_))))
    refine SL.v (O.ad) ?_
    refine SL.a (SL.nil ?_)
    refine E.ai (k + 1) [] ?_
    ·try dsimp only
     exact yL
   have hg4p := gP hg4
   refine WH.k hg4 (WH.k hg4 (WH.k hg4 ?_))
   refine WH.s2 ?_
   refine WH.s2 ?_
   refine WH.s2 ?_
   refine WH.s2 ?_
   refine WH.s2 ?_
   refine WH.s2 ?_
   refine WH.s2 ?_
   refine WH.s2 ?_
   refine WH.s2 ?_
   refine WH.s2 ?_
   refine WH.k hg4 ?_
   refine WH.v (O.pt (G.ne_f hg4)) ?_
   refine WH.nil (E.to ?_)
   refine W.pk [(1,_),(3,_),(4,_),(50,_)] [(101,_),(102,_)] ?_
   refine W.cond_t rfl ?_
   refine W.rg (SL.a (E.fo (W.ret (E.thr ?_))))
   refine E.inr ?_
   refine E.thr (E.thr ?_)
   refine E.inr ?_
   refine E.thr ?_
   refine E.h1 [] ?_
   ·exact xO
  refine W.exit (E.th (E.th (E.hit (E.to (W.rg ?_)))))
  refine SL.v (O.n3 u25) ?_
  refine SL.v (O.cp (q := Con.fz (holds_h (s := s) hc hl hq) rfl rfl)) ?_
  refine SL.a (E.fo (W.seq (W.rg (SL.a (E.fo (W.block ?_))))))
  have hhl : (holdsL s).length ≤ 1000 + 100 * 1000 := by have z1 := hC_le s.cps s.cps.length; have z2 := hQ_le hq s.lns.length (Nat.le_refl _); rw [List.take_length] at z1 z2; rw [holdsL, List.length_append]; omega
  refine W.lq (fun (i : Nat) => [(7, vI (i : Int))]) (fun (i : Nat) => []) (fun (i : Nat) => i ≤ (holdsL s).length ∧ ∀ j, j < i → ¬ (holdsL s)[j]! ∈ (holdsL s).take j) (fun (i : Nat) => (holdsL s).length - i) (0) [] [(1, _), (6, _)] [(101, _)] ?_ ?_
  ·exact yG
  intro i hinv
  obtain ⟨hi, hd⟩ := hinv
  refine W.seq (W.rg (SL.o (SL.o ?_)))
  refine SL.v (O.le u61) ?_
  refine SL.v (O.lss) ?_
  refine E.fo ?_
  refine W.cc rfl (fun hc17 => ?_) fun hc17 => ?_
  ·refine W.skip (E.to (W.seq (W.block (W.seq ?_))))
   refine W.dr [pO, pO, pO, pO, pO, pO, pO, pO] ?_
   refine WH.o rfl (WH.o rfl ?_)
   refine WH.v (O.sub_fz (j := i) rfl Bnd.no (Bnd.at rfl yC) xN xS sub_hi u61 hi3 hs3 rfl Taken.no) ?_
   refine WH.o rfl (WH.o rfl ?_)
   refine WH.v (O.ix (i := i) u61 hi3 hs3) ?_
   refine WH.v (O.l1f u3) ?_
   refine WH.v (O.cp (q := refin_h (l := (holdsL s).take i) (n := (holdsL s)[i]!))) ?_
   refine WH.nil (E.to ?_)
   refine W.cc rfl (fun hc18 => ?_) fun hc18 => ?_
   ·refine W.rg (SL.a (E.fo (W.ret ?_)))
    refine E.inr ?_
    refine E.thr (E.thr ?_)
    refine E.inr ?_
    refine E.thr ?_
    refine E.h1 [] ?_
    ·exact iv_bool (dec_f fun q => ((validR_iff s).2 q).2.2.2.1 i xA xV)
   refine W.skip (E.inn (E.to (W.region (SL.o ?_))))
   refine SL.v (O.ad) ?_
   refine SL.a (SL.nil ?_)
   refine E.ai (i + 1) [] ?_
   ·try dsimp only
    exact ⟨xA, upto_s hd xV⟩
  refine W.exit (E.th (E.th (E.hit (E.to (W.rg ?_)))))
  refine SL.v (O.n3 u25) ?_
  refine SL.v (O.cp (q := lines_h (s := s) hc hl hq)) ?_
  refine SL.a (E.fo (W.ret ?_))
  refine E.h1 [] ?_
  ·exact iv_bool (dec_iff ⟨fun q => ((validR_iff s).2 q).2.2.2.2, fun z => (validR_iff s).1 ⟨h0.1, h0.2, fun j hj => hp j xA, fun j hj => hd j xA, z⟩⟩)
 have hg1p := gP hg1
 refine SL.k hg1 (SL.k hg1 (SL.k hg1 (SL.k hg1 ?_)))
 refine SL.v (O.pt (G.ne_f hg1)) ?_
 refine E.fo ?_
 refine W.cond_t rfl ?_
 refine W.rg (SL.a (E.fo (W.ret (E.thr ?_))))
 refine E.h1 [] ?_
 ·exact iv_bool (dec_f fun q => by have q1 := q.1; have q2 := q.2.1; first | omega | (simp_all; done) | (simp_all; omega))

end Go.Proofs.YtmekkjehkcjpdaaGreat
end
section
namespace Go.Proofs.YtmekkjehkcjpdaaGreat
open Go Go.RowKit Go.H Go.D57 Go.D58


def bI : Option Nat → Int
  | none => -1
  | some i => (i : Int)
theorem wS_b {ls : List Ln} {w : Int} {q : List Hd} {k : Nat} (h : ¬ ((wS ls w q k).2 = false ∧ w ≤ ls[k]!.work)) : (wS ls w q (k + 1)).2 = (wS ls w q k).2 := by
  rw [wS]
  show ((wS ls w q k).2 || decide (w ≤ ls[k]!.work)) = _
  cases e : (wS ls w q k).2 with
  | true => rfl
  | false => rw [decide_eq_false (fun z => h ⟨e, z⟩)]; rfl
theorem wS_t {ls : List Ln} {w : Int} {q : List Hd} {k : Nat} (h : (wS ls w q k).2 = false ∧ w ≤ ls[k]!.work) : (wS ls w q (k + 1)).2 = true := by
  rw [wS]
  show ((wS ls w q k).2 || decide (w ≤ ls[k]!.work)) = _
  rw [decide_eq_true h.2, Bool.or_true]
theorem wS_1 {ls : List Ln} {w : Int} {q : List Hd} {k : Nat} (hA : (wS ls w q k).2 = false ∧ w ≤ ls[k]!.work) (hB : ls[k]!.work ≠ w) : (wS ls w q (k + 1)).1 = (wS ls w q k).1 ++ [⟨w, q⟩] ++ [ls[k]!] := by rw [wS, if_pos hA, if_pos hB]
theorem wS_2 {ls : List Ln} {w : Int} {q : List Hd} {k : Nat} (hA : (wS ls w q k).2 = false ∧ w ≤ ls[k]!.work) (hB : ¬ ls[k]!.work ≠ w) : (wS ls w q (k + 1)).1 = (wS ls w q k).1 ++ [⟨w, q⟩] := by rw [wS, if_pos hA, if_neg hB, List.append_nil]
theorem wS_3 {ls : List Ln} {w : Int} {q : List Hd} {k : Nat} (hA : ¬ ((wS ls w q k).2 = false ∧ w ≤ ls[k]!.work)) (hB : ls[k]!.work ≠ w) : (wS ls w q (k + 1)).1 = (wS ls w q k).1 ++ [ls[k]!] := by rw [wS, if_neg hA, if_pos hB]
theorem wS_4 {ls : List Ln} {w : Int} {q : List Hd} {k : Nat} (hA : ¬ ((wS ls w q k).2 = false ∧ w ≤ ls[k]!.work)) (hB : ¬ ls[k]!.work ≠ w) : (wS ls w q (k + 1)).1 = (wS ls w q k).1 := by rw [wS, if_neg hA, if_neg hB, List.append_nil]
theorem wE_t {ls : List Ln} {w : Int} {q : List Hd} {k : Nat} (ha : asc (·.work) ls) (hk : k = ls.length) (h : (wS ls w q k).2 = true) : setQ ls w q = (wS ls w q k).1 := by subst hk; rw [← wE_set ha, wE, if_pos h]
theorem wE_f {ls : List Ln} {w : Int} {q : List Hd} {k : Nat} (ha : asc (·.work) ls) (hk : k = ls.length) (h : (wS ls w q k).2 = false) : setQ ls w q = (wS ls w q k).1 ++ [⟨w, q⟩] := by subst hk; rw [← wE_set ha, wE, if_neg (by rw [h]; decide)]

set_option maxRecDepth 8000 in
theorem with_h {s : St} {wk : Int} {q : List Hd} (ha : asc (fun l : Ln => l.work) s.lns) (hb : s.lns.length ≤ 1000) :
    Con Tryz.prog 90 [vA [uI s.now, .sl 8 (s.cps.map eCp), .sl 2 (s.lns.map eLn)], vI wk, vL 5 (q.map eH)] [] (.agg [vI ((⟨s.now, s.cps, setQ s.lns wk q⟩ : St)).now, vL 8 (((⟨s.now, s.cps, setQ s.lns wk q⟩ : St)).cps.map eCp), vL 2 (((⟨s.now, s.cps, setQ s.lns wk q⟩ : St)).lns.map eLn)]) [] := by
 obtain ⟨i69, hi69, hz69, hs69, hb69⟩ := hinf69
 refine Con.en 59 Tryz.func90 fun τ w ok vs hin => ?_
 have hl0_1 := hin.lenA (i := 0) (j := 1) rfl rfl
 try rw [List.length_map] at hl0_1
 have hl0_2 := hin.lenA (i := 0) (j := 2) rfl rfl
 try rw [List.length_map] at hl0_2
 have hl2 := hin.len (i := 2) rfl
 try rw [List.length_map] at hl2
 clear hin
 refine W.rg ?_
 refine SL.bx3 101 ?_
 refine SL.al9 102 ?_
 refine E.fo (W.rg (SL.a (E.fo (W.rg (SL.o ?_)))))
 refine SL.v (O.le u67) ?_
 refine SL.v (O.eql) ?_
 refine SL.a (E.fo (W.seq (W.rg (SL.a (E.fo (W.block ?_))))))
 refine W.adopt 7 104 69 2 xI rfl rfl rfl ?_
 refine W.lp (fun (k : Nat) => [(9, vI (k : Int)), (8, vB (wS s.lns wk q k).2), (7, .own 103)]) (fun (k : Nat) => [(103, .data 69 2 (((wS s.lns wk q k).1).map eLn))]) (fun (k : Nat) => k ≤ s.lns.length) (fun (k : Nat) => s.lns.length - k) (0) [(103, 104)] [(1, _), (2, _), (3, _), (6, _)] [(101, _), (102, _)] ?_ ?_ ?_ ?_
 · exact (SubF.cons rfl (SubF.val rfl (by exact iv_bool (dec_iff xA)) (SubF.cons rfl SubF.nil)))
 · exact wW
 ·omega
 intro k hinv
 have hk := hinv
 have hwl := wS_len s.lns wk q k
 refine W.seq (W.rg (SL.o ?_))
 refine SL.v (O.fr 2 0 u25) ?_
 refine SL.v (O.l1 u23) ?_
 refine SL.v (O.le u23) ?_
 refine SL.v (O.lss) ?_
 refine E.fo ?_
 refine W.cc rfl (fun hc1 => ?_) fun hc1 => ?_
 ·refine W.skip (E.to (W.seq (W.block (W.rg ?_))))
  refine SL.v (O.fr 2 0 u25) ?_
  refine SL.v (O.l1 u23) ?_
  refine SL.o ?_
  refine SL.v (O.ix (i := k) u23 hi69 hs69) ?_
  refine SL.v (O.lU 2 u69) ?_
  refine SL.al7 105 ?_
  refine SL.st2_2 105 ?_
  refine E.fo (W.seq (W.rg (SL.o ?_)))
  refine SL.v (O.nt) ?_
  refine SL.o ?_
  refine SL.cs 2 true (fun hg2 => ?_) fun hg2 => ?_
  ·have hg2p := gP hg2
   refine SL.v (O.fr 0 0 u69 (tY hg2)) ?_
   refine SL.v (O.l1 u3 (tY hg2)) ?_
   refine SL.v (O.mo (tY hg2)) ?_
   refine SL.v (O.geq (tY hg2)) ?_
   refine SL.v (O.pt hg2) ?_
   refine E.fo ?_
   refine W.pk [(1,_),(2,_),(3,_),(6,_),(7,_),(8,_),(9,_),(10,_),(33,_)] [(101,_),(102,_),(103,_),(105,_)] ?_
   refine W.cc rfl (fun hc3 => ?_) fun hc3 => ?_
   ·have hA : (wS s.lns wk q k).2 = false ∧ wk ≤ s.lns[k]!.work := ⟨by first | assumption | simp_all, xA⟩
    refine W.rg (SL.o (SL.o (SL.o ?_)))
    refine SL.v (O.bd5 u69) ?_
    refine SL.memS (O.buildSlice 106 (rows := [(⟨wk, q⟩ : Ln)].map eLn) rfl rfl u23 hi69 hz69 hs69 xI rfl xI rfl rfl rfl Taken.no) rfl rfl (S' := (106, .data 69 2 ([(⟨wk, q⟩ : Ln)].map eLn)) :: _) rfl ?_
    refine SL.memS (O.app (k' := 107) rfl rfl (SlOf.own rfl rfl) u23 hi69 hz69 hs69 rfl rfl zT zE yI rfl Taken.no) rfl rfl (S' := (107, _) :: (103, .dead) :: _) rfl ?_
    refine SL.a (E.fo (W.region (SL.a (E.fo (W.rg ?_)))))
    refine SL.v (O.fr 0 0 u69) ?_
    refine SL.v (O.l1 u3) ?_
    refine SL.o ?_
    refine SL.v (O.neq) ?_
    refine E.fo ?_
    refine W.cc rfl (fun hc4 => ?_) fun hc4 => ?_
    ·have hB : s.lns[k]!.work ≠ wk := by first | assumption | omega
     refine W.region (SL.o ?_)
     refine SL.v (O.n2 u69) ?_
     refine SL.memS (O.buildSlice 108 (rows := [s.lns[k]!].map eLn) rfl rfl u23 hi69 hz69 hs69 xI rfl xI rfl rfl rfl Taken.no) rfl rfl (S' := (108, .data 69 2 ([s.lns[k]!].map eLn)) :: _) rfl ?_
     refine SL.memS (O.app (k' := 109) rfl rfl (SlOf.own rfl rfl) u23 hi69 hz69 hs69 rfl rfl zT (by rw [hb69]; (simp only [List.length_map, List.length_append, List.length_singleton]; omega)) (by (simp only [List.length_map, List.length_append, List.length_singleton]; omega)) rfl Taken.no) rfl rfl (S' := (109, _) :: (107, .dead) :: _) rfl ?_
     refine SL.a (SL.nil (E.inn (E.to ?_)))
     refine W.pk [(1,_),(2,_),(3,_),(6,_),(7,_),(8,_),(9,_)] [(101,_),(102,_),(105,_),(106,_),(108,_),(109,_)] ?_
     refine W.region (SL.o ?_)
     refine SL.v (O.ad) ?_
     refine SL.a (SL.nil ?_)
     refine E.ag (k + 1) [(103, 109)] ?_ ?_ ?_ ?_
     · exact xQ
     · exact xR
     ·try dsimp only
      omega
     · exact xT
    have hB : ¬ s.lns[k]!.work ≠ wk := by first | assumption | omega
    refine W.skip (E.inn (E.to (W.region (SL.o ?_))))
    refine SL.v (O.ad) ?_
    refine SL.a (SL.nil ?_)
    refine E.ag (k + 1) [(103, 107)] ?_ ?_ ?_ ?_
    · exact xQ
    · exact xR
    ·try dsimp only
     omega
    · exact xT
   have hA : ¬ ((wS s.lns wk q k).2 = false ∧ wk ≤ s.lns[k]!.work) := fun z => by first | omega | simp_all
   refine W.skip (E.to (W.rg ?_))
   refine SL.v (O.fr 0 0 u69) ?_
   refine SL.v (O.l1 u3) ?_
   refine SL.o ?_
   refine SL.v (O.neq) ?_
   refine E.fo ?_
   refine W.cc rfl (fun hc5 => ?_) fun hc5 => ?_
   ·have hB : s.lns[k]!.work ≠ wk := by first | assumption | omega
    refine W.region (SL.o ?_)
    refine SL.v (O.n2 u69) ?_
    refine SL.memS (O.buildSlice 110 (rows := [s.lns[k]!].map eLn) rfl rfl u23 hi69 hz69 hs69 xI rfl xI rfl rfl rfl Taken.no) rfl rfl (S' := (110, .data 69 2 ([s.lns[k]!].map eLn)) :: _) rfl ?_
    refine SL.memS (O.app (k' := 111) rfl rfl (SlOf.own rfl rfl) u23 hi69 hz69 hs69 rfl rfl zT zE yI rfl Taken.no) rfl rfl (S' := (111, _) :: (103, .dead) :: _) rfl ?_
    refine SL.a (SL.nil (E.inn (E.to (W.region (SL.o ?_)))))
    refine SL.v (O.ad) ?_
    refine SL.a (SL.nil ?_)
    refine E.ag (k + 1) [(103, 111)] ?_ ?_ ?_ ?_
    · exact xQ
    · exact xR
    ·try dsimp only
     omega
    · exact xT
   have hB : ¬ s.lns[k]!.work ≠ wk := by first | assumption | omega
   refine W.skip (E.inn (E.to (W.region (SL.o ?_))))
   refine SL.v (O.ad) ?_
   refine SL.a (SL.nil ?_)
   refine E.ag (k + 1) [] ?_ ?_ ?_ ?_
   · exact xQ
   · exact xR
   ·try dsimp only
    omega
   · exact xT
  have hg2p := gP hg2
  have hA : ¬ ((wS s.lns wk q k).2 = false ∧ wk ≤ s.lns[k]!.work) := fun z => by have := z.1; simp_all
  refine SL.k hg2 (SL.k hg2 (SL.k hg2 (SL.k hg2 ?_)))
  refine SL.v (O.pf (G.ne_t hg2)) ?_
  refine E.fo ?_
  refine W.pk [(1,_),(2,_),(3,_),(6,_),(7,_),(8,_),(9,_),(10,_),(33,_)] [(101,_),(102,_),(103,_),(105,_)] ?_
  refine W.cond_f rfl ?_
  refine W.skip (E.to (W.rg ?_))
  refine SL.v (O.fr 0 0 u69) ?_
  refine SL.v (O.l1 u3) ?_
  refine SL.o ?_
  refine SL.v (O.neq) ?_
  refine E.fo ?_
  refine W.cc rfl (fun hc6 => ?_) fun hc6 => ?_
  ·have hB : s.lns[k]!.work ≠ wk := by first | assumption | omega
   refine W.region (SL.o ?_)
   refine SL.v (O.n2 u69) ?_
   refine SL.memS (O.buildSlice 112 (rows := [s.lns[k]!].map eLn) rfl rfl u23 hi69 hz69 hs69 xI rfl xI rfl rfl rfl Taken.no) rfl rfl (S' := (112, .data 69 2 ([s.lns[k]!].map eLn)) :: _) rfl ?_
   refine SL.memS (O.app (k' := 113) rfl rfl (SlOf.own rfl rfl) u23 hi69 hz69 hs69 rfl rfl zT zE yI rfl Taken.no) rfl rfl (S' := (113, _) :: (103, .dead) :: _) rfl ?_
   refine SL.a (SL.nil (E.inn (E.to (W.region (SL.o ?_)))))
   refine SL.v (O.ad) ?_
   refine SL.a (SL.nil ?_)
   refine E.ag (k + 1) [(103, 113)] ?_ ?_ ?_ ?_
   · exact xQ
   · exact xR
   ·try dsimp only
    omega
   · exact xT
  have hB : ¬ s.lns[k]!.work ≠ wk := by first | assumption | omega
  refine W.skip (E.inn (E.to (W.region (SL.o ?_))))
  refine SL.v (O.ad) ?_
  refine SL.a (SL.nil ?_)
  refine E.ag (k + 1) [] ?_ ?_ ?_ ?_
  · exact xQ
  · exact xR
  ·try dsimp only
   omega
  · exact xT
 refine W.exit (E.th (E.th (E.hit (E.to (W.seq (W.rg (SL.o ?_)))))))
 refine SL.v (O.nt) ?_
 refine E.fo ?_
 refine W.cc rfl (fun hc7 => ?_) fun hc7 => ?_
 ·have hd : (wS s.lns wk q k).2 = false := by first | assumption | simp_all
  refine W.region (SL.o (SL.o (SL.o ?_)))
  refine SL.v (O.bd5 u69) ?_
  refine SL.memS (O.buildSlice 114 (rows := [(⟨wk, q⟩ : Ln)].map eLn) rfl rfl u23 hi69 hz69 hs69 xI rfl xI rfl rfl rfl Taken.no) rfl rfl (S' := (114, .data 69 2 ([(⟨wk, q⟩ : Ln)].map eLn)) :: _) rfl ?_
  refine SL.memS (O.app (k' := 115) rfl rfl (SlOf.own rfl rfl) u23 hi69 hz69 hs69 rfl rfl zT zE yI rfl Taken.no) rfl rfl (S' := (115, _) :: (103, .dead) :: _) rfl ?_
  refine SL.a (E.fo (W.rg (SL.o ?_)))
  refine SL.v (O.fr 2 0 u25) ?_
  refine SL.st1_3 101 ?_
  refine E.fo (W.rg ?_)
  refine SL.v (O.n3 u25) ?_
  refine SL.st3_3 102 ?_
  refine E.fo (W.ret ?_)
  refine E.freezeC 102 2 115 (is' := [_, _, _]) rfl rfl rfl rfl ?_
  refine E.j1 [] rfl (ResOne.c3 u25) ?_
  ·first | (rw [wE_t ha xA hd]; rfl) | (rw [wE_f ha xA hd]; rfl)
 have hd : (wS s.lns wk q k).2 = true := by first | assumption | simp_all
 refine W.skip (E.to (W.rg (SL.o ?_)))
 refine SL.v (O.fr 2 0 u25) ?_
 refine SL.st1_3 101 ?_
 refine E.fo (W.rg ?_)
 refine SL.v (O.n3 u25) ?_
 refine SL.st3_3 102 ?_
 refine E.fo (W.ret ?_)
 refine E.freezeC 102 2 103 (is' := [_, _, _]) rfl rfl rfl rfl ?_
 refine E.j1 [] rfl (ResOne.c3 u25) ?_
 ·first | (rw [wE_t ha xA hd]; rfl) | (rw [wE_f ha xA hd]; rfl)

set_option maxRecDepth 8000 in
theorem refset_h {s : St} {i : Nat} {c : Cp} (hi : i < s.cps.length) (hl : s.cps.length ≤ 1000) :
    Con Tryz.prog 93 [vA [uI s.now, .sl 8 (s.cps.map eCp), .sl 2 (s.lns.map eLn)], vI (i : Int), vA (eCp c)] [] (.agg [vI ((⟨s.now, s.cps.set i c, s.lns⟩ : St)).now, vL 8 (((⟨s.now, s.cps.set i c, s.lns⟩ : St)).cps.map eCp), vL 2 (((⟨s.now, s.cps.set i c, s.lns⟩ : St)).lns.map eLn)]) [] := by
 obtain ⟨i65, hi65, hz65, hs65, hb65⟩ := hinf65
 refine Con.en 18 Tryz.func93 fun τ w ok vs hin => ?_
 have hl0_1 := hin.lenA (i := 0) (j := 1) rfl rfl
 try rw [List.length_map] at hl0_1
 have hl0_2 := hin.lenA (i := 0) (j := 2) rfl rfl
 try rw [List.length_map] at hl0_2
 clear hin
 refine W.rg ?_
 refine SL.bx3 101 ?_
 refine SL.bx8 102 ?_
 refine SL.al9 103 ?_
 refine E.fo (W.rg ?_)
 refine SL.memS (O.buildSlice 104 rfl rfl u22 hi65 hz65 hs65 xI rfl xI rfl rfl rfl Taken.no) rfl rfl (S' := (104, _) :: _) rfl ?_
 refine SL.v (O.fr 1 0 u25) ?_
 refine SL.v (O.l1 u22) ?_
 refine SL.memS (O.app (k' := 105) rfl rfl (SlOf.fz rfl xI) u22 hi65 hz65 hs65 rfl rfl (by exact List.nil_append _) (by rw [hb65]; first | omega | (simp only [List.length_map]; omega) | (simp <;> omega)) xX rfl Taken.no) rfl rfl (S' := (105, _) :: (104, .dead) :: _) rfl ?_
 refine SL.v (O.fr 1 0 u25) ?_
 refine SL.st1_3 101 ?_
 refine E.fo (W.rg ?_)
 refine SL.v (O.fr 1 0 u25) ?_
 refine SL.v (O.l1 u22) ?_
 refine SL.o ?_
 refine SL.v (O.n8 u65) ?_
 refine SL.v (O.idx_own (i := i) rfl rfl rfl (rfl) xS u22 hi65 hs65 rfl Taken.no) ?_
 refine SL.effS (O.st_els (m := 8) rfl rfl rfl (us := [_, _, _, _, _, _, _, _]) rfl rfl xG yE (row_get xA) xP rfl rfl (rows' := (s.cps.set i c).map eCp) (by exact set_map rfl) Taken.no) (S' := (105, _) :: _) rfl ?_
 refine E.fo (W.rg ?_)
 refine SL.v (O.n3 u25) ?_
 refine SL.st3_3 103 ?_
 refine E.fo (W.ret ?_)
 refine E.freezeC 103 1 105 (is' := [_, _, _]) rfl rfl rfl rfl ?_
 refine E.j1 [] rfl (ResOne.c3 u25) ?_
 ·rfl

set_option maxRecDepth 8000 in
theorem reffree_h {s : St} {i : Nat} {n : Nat} (hi : i < s.cps.length) (hcl : s.cps.length ≤ 1000) (hn : 0 ≤ s.now ∧ s.now ≤ 1000000) (hk : okL s.lns n) (hn2 : n ≤ 1000) :
    Con Tryz.prog 86 [vA [uI s.now, .sl 8 (s.cps.map eCp), .sl 2 (s.lns.map eLn)], vI (i : Int)] [] (.agg [vI (freeS s i).now, vL 8 ((freeS s i).cps.map eCp), vL 2 ((freeS s i).lns.map eLn)]) [] := by
 have hq60 := queS_len hk s.cps[i]!.work
 have hkl := hk.2.1
 obtain ⟨i65, hi65, hz65, hs65, hb65⟩ := hinf65
 refine Con.en 56 Tryz.func86 fun τ w ok vs hin => ?_
 have hl0_1 := hin.lenA (i := 0) (j := 1) rfl rfl
 try rw [List.length_map] at hl0_1
 have hl0_2 := hin.lenA (i := 0) (j := 2) rfl rfl
 try rw [List.length_map] at hl0_2
 clear hin
 refine W.rg ?_
 refine SL.bx3 101 ?_
 refine SL.al9 102 ?_
 refine E.fo (W.rg ?_)
 refine SL.v (O.fr 1 0 u25) ?_
 refine SL.v (O.l1 u22) ?_
 refine SL.o ?_
 refine SL.v (O.ix (i := i) u22 hi65 hs65) ?_
 refine SL.v (O.lU 8 u65) ?_
 refine SL.al3 103 ?_
 refine SL.st8_8 103 ?_
 refine E.fo (W.rg ?_)
 refine SL.v (O.fr 0 0 u65) ?_
 refine SL.v (O.l1 u3) ?_
 refine SL.v (O.fr 1 0 u65) ?_
 refine SL.v (O.l1 u3) ?_
 refine SL.v (O.fr 2 0 u65) ?_
 refine SL.v (O.l1 u9) ?_
 refine SL.v (O.bd2 u65) ?_
 refine SL.st8_8 103 ?_
 refine E.fo (W.rg ?_)
 refine SL.v (O.n3 u25) ?_
 refine SL.v (O.fr 1 0 u65) ?_
 refine SL.v (O.l1 u3) ?_
 refine SL.v (O.cp (q := refQueue_h (s := s) (i := s.cps[i]!.work))) ?_
 refine SL.a (E.fo (W.seq (W.rg (SL.o ?_))))
 refine SL.v (O.le u67) ?_
 refine SL.v (O.gtr) ?_
 refine E.fo ?_
 refine W.pk [(1,_),(2,_),(4,_),(5,_),(6,_),(28,_)] [(101,_),(102,_),(103,_)] ?_
 refine W.cc rfl (fun hc1 => ?_) fun hc1 => ?_
 ·have hq1 : ¬ (queS s s.cps[i]!.work).length = 0 := by omega
  refine W.rg (SL.o ?_)
  refine SL.cl [] [] (.tup [.agg [.u _, .u _, .u _, .u _, .u _], .u _, .u _]) _ (q := refServe_h (q := (queS s s.cps[i]!.work)))  (h := ?_)
  refine SL.o ?_
  refine SL.v (O.ex) ?_
  refine SL.v (O.ex) ?_
  refine SL.v (O.ex) ?_
  refine SL.al1 104 ?_
  refine SL.st5_5 104 ?_
  refine SL.a (SL.a (E.fo (W.seq ?_)))
  refine W.dr [pW 104, pX 104, pW 104, pX 104, pW 101, pX 101, pO, pO, pW 103, ⟨[103], [103], [], []⟩, pW 103, ⟨[103], [103], [], []⟩, pW 103, ⟨[103], [103], [], []⟩, pW 103, ⟨[103], [103], [], []⟩] ?_
  refine WH.v (O.fr 1 0 u121) ?_
  refine WH.v (O.l1 u3) ?_
  refine WH.v (O.fr 0 0 u121) ?_
  refine WH.v (O.l1 u3) ?_
  refine WH.v (O.fr 0 0 u25) ?_
  refine WH.v (O.l1 u3) ?_
  refine WH.v (O.ad) ?_
  refine WH.v (O.det (fun _ => G.R.mv (G.R.min2 rfl rfl) (congrArg (Value.int .i64) (show _ = (if s.now + 7 ≤ 1000000 then s.now + 7 else 1000000) by omega))) rfl Taken.no) ?_
  refine WH.v (O.fr 3 0 u65) ?_
  refine WH.st1_8 103 ?_
  refine WH.v (O.fr 4 0 u65) ?_
  refine WH.st1_8 103 ?_
  refine WH.v (O.fr 6 0 u65) ?_
  refine WH.st1_8 103 ?_
  refine WH.v (O.fr 5 0 u65) ?_
  refine WH.st1_8 103 ?_
  refine WH.nil (E.to ?_)
  refine W.pk [(1,_),(2,_),(4,_),(5,_),(8,_)] [(101,_),(102,_),(103,_),(104,_)] ?_
  refine W.region ?_
  refine SL.v (O.n3 u25) ?_
  refine SL.v (O.fr 1 0 u65) ?_
  refine SL.v (O.l1 u3) ?_
  refine SL.o ?_
  refine SL.cl [] [] (.agg [.u _, .u _, .u _]) _ (q := with_h (s := s) (wk := s.cps[i]!.work) (q := srvQ (queS s s.cps[i]!.work)) hk.1 xA)  (h := ?_)
  refine SL.st3_3 101 ?_
  refine E.fo (W.rg ?_)
  refine SL.v (O.n3 u25) ?_
  refine SL.o ?_
  refine SL.v (O.n8 u65) ?_
  refine SL.cl [] [] (.agg [.u _, .u _, .u _]) _ (q := refset_h (s := ⟨s.now, s.cps, setQ s.lns s.cps[i]!.work (srvQ (queS s s.cps[i]!.work))⟩) (i := i) (c := (wtC s.cps[i]! (nextH (queS s s.cps[i]!.work)) s.now)) hi hcl)  (h := ?_)
  refine SL.st3_3 102 ?_
  refine E.fo (W.ret ?_)
  refine E.j1 [] rfl (ResOne.c3 u25) ?_
  ·rw [free_1 hq1]; rfl
 have hq0 : (queS s s.cps[i]!.work).length = 0 := by omega
 refine W.skip (E.to (W.rg ?_))
 refine SL.v (O.n3 u25) ?_
 refine SL.o ?_
 refine SL.v (O.n8 u65) ?_
 refine SL.cl [] [] (.agg [.u _, .u _, .u _]) _ (q := refset_h (s := s) (i := i) (c := shC s.cps[i]!) hi hcl)  (h := ?_)
 refine SL.st3_3 102 ?_
 refine E.fo (W.ret ?_)
 refine E.j1 [] rfl (ResOne.c3 u25) ?_
 ·rw [free_0 hq0]; rfl

set_option maxRecDepth 8000 in
theorem refrecall_h {s : St} {wk : Int} (hn : 0 ≤ s.now ∧ s.now ≤ 1000000) (hcl : s.cps.length ≤ 1000) :
    Con Tryz.prog 91 [vA [uI s.now, .sl 8 (s.cps.map eCp), .sl 2 (s.lns.map eLn)], vI wk] [] (.agg [vI (recS s wk).now, vL 8 ((recS s wk).cps.map eCp), vL 2 ((recS s wk).lns.map eLn)]) [] := by
 obtain ⟨i65, hi65, hz65, hs65, hb65⟩ := hinf65
 refine Con.en 71 Tryz.func91 fun τ w ok vs hin => ?_
 have hl0_1 := hin.lenA (i := 0) (j := 1) rfl rfl
 try rw [List.length_map] at hl0_1
 have hl0_2 := hin.lenA (i := 0) (j := 2) rfl rfl
 try rw [List.length_map] at hl0_2
 clear hin
 refine W.rg ?_
 refine SL.bx3 101 ?_
 refine SL.al9 102 ?_
 refine E.fo (W.rg (SL.a (E.fo (W.seq (W.rg (SL.a (E.fo (W.block ?_))))))))
 refine W.lq (fun (k : Nat) => [(6, vI (k : Int)), (5, vI (bI (recB s.cps wk k)))]) (fun (k : Nat) => []) (fun (k : Nat) => k ≤ s.cps.length) (fun (k : Nat) => s.cps.length - k) (0) [] [(1, _), (2, _), (4, _)] [(101, _), (102, _)] ?_ ?_
 ·omega
 intro k hinv
 have hk := hinv
 refine W.seq (W.rg (SL.o ?_))
 refine SL.v (O.fr 1 0 u25) ?_
 refine SL.v (O.l1 u22) ?_
 refine SL.v (O.le u22) ?_
 refine SL.v (O.lss) ?_
 refine E.fo ?_
 refine W.cc rfl (fun hc1 => ?_) fun hc1 => ?_
 ·refine W.skip (E.to (W.seq (W.block (W.rg ?_))))
  refine SL.v (O.fr 1 0 u25) ?_
  refine SL.v (O.l1 u22) ?_
  refine SL.o ?_
  refine SL.v (O.ix (i := k) u22 hi65 hs65) ?_
  refine SL.v (O.lU 8 u65) ?_
  refine SL.al3 103 ?_
  refine SL.st8_8 103 ?_
  refine E.fo (W.seq ?_)
  rcases hb : recB s.cps wk k with _ | b
  ·refine W.dr [pW 103, pX 103, pO, pO, pO, pW 103, pX 103, pO, pO, pO, pW 103, pX 103, pO, pO, pO, pO, pO, pO, pO, pO, pO, pO, pO, pO, pO, pO, pO, pO, pO] ?_
   refine WH.v (O.fr 1 0 u65) ?_
   refine WH.v (O.l1 u3) ?_
   refine WH.o rfl ?_
   refine WH.v (O.eql) ?_
   refine WH.o rfl ?_
   refine WH.cs 4 true (fun hg2 => ?_) fun hg2 => ?_
   ·have hg2p := gP hg2
    refine WH.v (O.fr 3 0 u65 (tY hg2)) ?_
    refine WH.v (O.l1 u3 (tY hg2)) ?_
    refine WH.v (O.eql (tY hg2)) ?_
    refine WH.v (O.pt hg2) ?_
    refine WH.o rfl ?_
    refine WH.cs 9 true (fun hg3 => ?_) fun hg3 => ?_
    ·have hg3p := gP hg3
     refine WH.v (O.fr 7 0 u65 (tY hg3)) ?_
     refine WH.v (O.l1 u4 (tY hg3)) ?_
     refine WH.v (O.nt (tY hg3)) ?_
     refine WH.v (O.pt hg3) ?_
     refine WH.o rfl ?_
     refine WH.cs 14 true (fun hg4 => ?_) fun hg4 => ?_
     ·have hg4p := gP hg4
      refine WH.v (O.mo (tY hg4)) ?_
      refine WH.v (O.det (fun _ => G.R.mv (G.R.lss rfl rfl) (congrArg Value.bool (decide_eq_true xI))) rfl (Taken.yes rfl rfl hg4)) ?_
      refine WH.v (O.mo (tY hg4)) ?_
      have hg5 := G.ntf
      refine WH.k hg5 (WH.k hg5 (WH.k hg5 (WH.k hg5 (WH.k hg5 (WH.k hg5 (WH.k hg5 (WH.k hg5 (WH.k hg5 ?_))))))))
      refine WH.v (O.pt rfl (tY hg4)) ?_
      refine WH.v (O.pt hg4) ?_
      refine WH.nil (E.to ?_)
      refine W.pk [(1,_),(2,_),(4,_),(5,_),(6,_),(49,_)] [(101,_),(102,_),(103,_)] ?_
      refine W.cond_t rfl ?_
      refine W.region (SL.o (SL.a (SL.nil (E.inn (E.to (W.region (SL.o ?_)))))))
      refine SL.v (O.ad) ?_
      refine SL.a (SL.nil ?_)
      refine E.ag (k + 1) [] ?_ ?_ ?_ ?_
      · exact xD
      · exact wW
      ·try dsimp only
       omega
      · exact xT
     have hg4p := gP hg4
     refine WH.k hg4 (WH.k hg4 (WH.k hg4 ?_))
     refine WH.s2 ?_
     refine WH.s2 ?_
     refine WH.s2 ?_
     refine WH.s2 ?_
     refine WH.s2 ?_
     refine WH.s2 ?_
     refine WH.s2 ?_
     refine WH.s2 ?_
     refine WH.s2 ?_
     refine WH.k hg4 ?_
     refine WH.v (O.pf (G.ne_t hg4)) ?_
     refine WH.nil (E.to ?_)
     refine W.pk [(1,_),(2,_),(4,_),(5,_),(6,_),(49,_)] [(101,_),(102,_),(103,_)] ?_
     refine W.cond_f rfl ?_
     refine W.skip (E.inn (E.to (W.region (SL.o ?_))))
     refine SL.v (O.ad) ?_
     refine SL.a (SL.nil ?_)
     refine E.ag (k + 1) [] ?_ ?_ ?_ ?_
     · exact xD
     · exact wW
     ·try dsimp only
      omega
     · exact xT
    have hg3p := gP hg3
    refine WH.k hg3 (WH.k hg3 (WH.k hg3 ?_))
    refine WH.v (O.pf (G.ne_t hg3)) ?_
    refine WH.o rfl ?_
    have hg6 := G.nft
    refine WH.k hg6 (WH.k hg6 (WH.k hg6 ?_))
    refine WH.s2 ?_
    refine WH.s2 ?_
    refine WH.s2 ?_
    refine WH.s2 ?_
    refine WH.s2 ?_
    refine WH.s2 ?_
    refine WH.s2 ?_
    refine WH.s2 ?_
    refine WH.s2 ?_
    refine WH.k hg6 ?_
    refine WH.v (O.pf rfl) ?_
    refine WH.nil (E.to ?_)
    refine W.pk [(1,_),(2,_),(4,_),(5,_),(6,_),(49,_)] [(101,_),(102,_),(103,_)] ?_
    refine W.cond_f rfl ?_
    refine W.skip (E.inn (E.to (W.region (SL.o ?_))))
    refine SL.v (O.ad) ?_
    refine SL.a (SL.nil ?_)
    refine E.ag (k + 1) [] ?_ ?_ ?_ ?_
    · exact xD
    · exact wW
    ·try dsimp only
     omega
    · exact xT
   have hg2p := gP hg2
   refine WH.k hg2 (WH.k hg2 (WH.k hg2 ?_))
   refine WH.v (O.pf (G.ne_t hg2)) ?_
   refine WH.o rfl ?_
   have hg7 := G.nft
   refine WH.k hg7 (WH.k hg7 (WH.k hg7 ?_))
   refine WH.v (O.pf rfl) ?_
   refine WH.o rfl ?_
   have hg8 := G.nft
   refine WH.k hg8 (WH.k hg8 (WH.k hg8 ?_))
   refine WH.s2 ?_
   refine WH.s2 ?_
   refine WH.s2 ?_
   refine WH.s2 ?_
   refine WH.s2 ?_
   refine WH.s2 ?_
   refine WH.s2 ?_
   refine WH.s2 ?_
   refine WH.s2 ?_
   refine WH.k hg8 ?_
   refine WH.v (O.pf rfl) ?_
   refine WH.nil (E.to ?_)
   refine W.pk [(1,_),(2,_),(4,_),(5,_),(6,_),(49,_)] [(101,_),(102,_),(103,_)] ?_
   refine W.cond_f rfl ?_
   refine W.skip (E.inn (E.to (W.region (SL.o ?_))))
   refine SL.v (O.ad) ?_
   refine SL.a (SL.nil ?_)
   refine E.ag (k + 1) [] ?_ ?_ ?_ ?_
   · exact xD
   · exact wW
   ·try dsimp only
    omega
   · exact xT
  have hbl := rec_lt hb
  refine W.dr [pW 103, pX 103, pO, pO, pO, pW 103, pX 103, pO, pO, pO, pW 103, pX 103, pO, pO, pO, pO, pO, pO, pW 103, pX 103, pW 101, pX 101, pO, pO, pO, pO, pO, pO, pO] ?_
  refine WH.v (O.fr 1 0 u65) ?_
  refine WH.v (O.l1 u3) ?_
  refine WH.o rfl ?_
  refine WH.v (O.eql) ?_
  refine WH.o rfl ?_
  refine WH.cs 4 true (fun hg9 => ?_) fun hg9 => ?_
  ·have hg9p := gP hg9
   refine WH.v (O.fr 3 0 u65 (tY hg9)) ?_
   refine WH.v (O.l1 u3 (tY hg9)) ?_
   refine WH.v (O.eql (tY hg9)) ?_
   refine WH.v (O.pt hg9) ?_
   refine WH.o rfl ?_
   refine WH.cs 9 true (fun hg10 => ?_) fun hg10 => ?_
   ·have hg10p := gP hg10
    refine WH.v (O.fr 7 0 u65 (tY hg10)) ?_
    refine WH.v (O.l1 u4 (tY hg10)) ?_
    refine WH.v (O.nt (tY hg10)) ?_
    refine WH.v (O.pt hg10) ?_
    refine WH.o rfl ?_
    refine WH.cs 14 true (fun hg11 => ?_) fun hg11 => ?_
    ·have hg11p := gP hg11
     refine WH.v (O.mo (tY hg11)) ?_
     refine WH.v (O.det (fun _ => G.R.mv (G.R.lss rfl rfl) (congrArg Value.bool (decide_eq_false (by (show ¬ ((b : Nat) : Int) < 0; omega))))) rfl (Taken.yes rfl rfl hg11)) ?_
     refine WH.v (O.mo (tY hg11)) ?_
     have hg12 : false = false := by decide
     refine WH.v (O.fr 5 0 u65 (tY hg12)) ?_
     refine WH.v (O.l1 u3 (tY hg12)) ?_
     refine WH.v (O.fr 1 0 u25 (tY hg12)) ?_
     refine WH.v (O.l1 u22 (tY hg12)) ?_
     refine WH.v (O.mo (tY hg12)) ?_
     refine WH.v (O.ix (i := b) u22 hi65 hs65 (tY hg12)) ?_
     refine WH.v (O.ff 0 u65 (tY hg12)) ?_
     refine WH.v (O.l1f u3 (tY hg12)) ?_
     refine WH.v (O.lss (tY hg12)) ?_
     refine WH.v (O.pf rfl (tY hg11)) ?_
     refine WH.v (O.pt hg11) ?_
     refine WH.nil (E.to ?_)
     refine W.pk [(1,_),(2,_),(4,_),(5,_),(6,_),(49,_)] [(101,_),(102,_),(103,_)] ?_
     refine W.cc rfl (fun hc13 => ?_) fun hc13 => ?_
     ·refine W.region (SL.o (SL.a (SL.nil (E.inn (E.to (W.region (SL.o ?_)))))))
      refine SL.v (O.ad) ?_
      refine SL.a (SL.nil ?_)
      refine E.ag (k + 1) [] ?_ ?_ ?_ ?_
      · exact xD
      · exact wW
      ·try dsimp only
       omega
      · exact xT
     refine W.skip (E.inn (E.to (W.region (SL.o ?_))))
     refine SL.v (O.ad) ?_
     refine SL.a (SL.nil ?_)
     refine E.ag (k + 1) [] ?_ ?_ ?_ ?_
     · exact xD
     · exact wW
     ·try dsimp only
      omega
     · exact xT
    have hg11p := gP hg11
    refine WH.k hg11 (WH.k hg11 (WH.k hg11 ?_))
    refine WH.s2 ?_
    refine WH.s2 ?_
    refine WH.s2 ?_
    refine WH.s2 ?_
    refine WH.s2 ?_
    refine WH.s2 ?_
    refine WH.s2 ?_
    refine WH.s2 ?_
    refine WH.s2 ?_
    refine WH.k hg11 ?_
    refine WH.v (O.pf (G.ne_t hg11)) ?_
    refine WH.nil (E.to ?_)
    refine W.pk [(1,_),(2,_),(4,_),(5,_),(6,_),(49,_)] [(101,_),(102,_),(103,_)] ?_
    refine W.cond_f rfl ?_
    refine W.skip (E.inn (E.to (W.region (SL.o ?_))))
    refine SL.v (O.ad) ?_
    refine SL.a (SL.nil ?_)
    refine E.ag (k + 1) [] ?_ ?_ ?_ ?_
    · exact xD
    · exact wW
    ·try dsimp only
     omega
    · exact xT
   have hg10p := gP hg10
   refine WH.k hg10 (WH.k hg10 (WH.k hg10 ?_))
   refine WH.v (O.pf (G.ne_t hg10)) ?_
   refine WH.o rfl ?_
   have hg14 := G.nft
   refine WH.k hg14 (WH.k hg14 (WH.k hg14 ?_))
   refine WH.s2 ?_
   refine WH.s2 ?_
   refine WH.s2 ?_
   refine WH.s2 ?_
   refine WH.s2 ?_
   refine WH.s2 ?_
   refine WH.s2 ?_
   refine WH.s2 ?_
   refine WH.s2 ?_
   refine WH.k hg14 ?_
   refine WH.v (O.pf rfl) ?_
   refine WH.nil (E.to ?_)
   refine W.pk [(1,_),(2,_),(4,_),(5,_),(6,_),(49,_)] [(101,_),(102,_),(103,_)] ?_
   refine W.cond_f rfl ?_
   refine W.skip (E.inn (E.to (W.region (SL.o ?_))))
   refine SL.v (O.ad) ?_
   refine SL.a (SL.nil ?_)
   refine E.ag (k + 1) [] ?_ ?_ ?_ ?_
   · exact xD
   · exact wW
   ·try dsimp only
    omega
   · exact xT
  have hg9p := gP hg9
  refine WH.k hg9 (WH.k hg9 (WH.k hg9 ?_))
  refine WH.v (O.pf (G.ne_t hg9)) ?_
  refine WH.o rfl ?_
  have hg15 := G.nft
  refine WH.k hg15 (WH.k hg15 (WH.k hg15 ?_))
  refine WH.v (O.pf rfl) ?_
  refine WH.o rfl ?_
  have hg16 := G.nft
  refine WH.k hg16 (WH.k hg16 (WH.k hg16 ?_))
  refine WH.s2 ?_
  refine WH.s2 ?_
  refine WH.s2 ?_
  refine WH.s2 ?_
  refine WH.s2 ?_
  refine WH.s2 ?_
  refine WH.s2 ?_
  refine WH.s2 ?_
  refine WH.s2 ?_
  refine WH.k hg16 ?_
  refine WH.v (O.pf rfl) ?_
  refine WH.nil (E.to ?_)
  refine W.pk [(1,_),(2,_),(4,_),(5,_),(6,_),(49,_)] [(101,_),(102,_),(103,_)] ?_
  refine W.cond_f rfl ?_
  refine W.skip (E.inn (E.to (W.region (SL.o ?_))))
  refine SL.v (O.ad) ?_
  refine SL.a (SL.nil ?_)
  refine E.ag (k + 1) [] ?_ ?_ ?_ ?_
  · exact xD
  · exact wW
  ·try dsimp only
   omega
  · exact xT
 refine W.exit (E.th (E.th (E.hit (E.to (W.seq (W.seq ?_))))))
 obtain rfl : k = s.cps.length := by omega
 rcases hb : recB s.cps wk s.cps.length with _ | b
 ·refine W.region (SL.o ?_)
  refine SL.v (O.det (fun _ => G.R.mv (G.R.lss rfl rfl) (congrArg Value.bool (decide_eq_true xI))) rfl Taken.no) ?_
  refine E.fo ?_
  refine W.cond_t rfl ?_
  refine W.rg ?_
  refine SL.v (O.n3 u25) ?_
  refine SL.st3_3 102 ?_
  refine E.fo (W.ret (E.thr ?_))
  refine E.j1 [] rfl (ResOne.c3 u25) ?_
  ·rw [recS_n hb]; rfl
 have hbl := rec_lt hb
 refine W.region (SL.o ?_)
 refine SL.v (O.det (fun _ => G.R.mv (G.R.lss rfl rfl) (congrArg Value.bool (decide_eq_false (by (show ¬ ((b : Nat) : Int) < 0; omega))))) rfl Taken.no) ?_
 refine E.fo ?_
 refine W.cond_f rfl ?_
 refine W.skip (E.to (W.rg ?_))
 refine SL.v (O.fr 1 0 u25) ?_
 refine SL.v (O.l1 u22) ?_
 refine SL.o ?_
 refine SL.v (O.ix (i := b) u22 hi65 hs65) ?_
 refine SL.v (O.lU 8 u65) ?_
 refine SL.al3 104 ?_
 refine SL.st8_8 104 ?_
 refine E.fo (W.seq ?_)
 refine W.dr [pW 104, pX 104, pW 101, pX 101, pO, pO, pW 104, ⟨[104], [104], [], []⟩, pW 104, ⟨[104], [104], [], []⟩] ?_
 refine WH.v (O.fr 5 0 u65) ?_
 refine WH.v (O.l1 u3) ?_
 refine WH.v (O.fr 0 0 u25) ?_
 refine WH.v (O.l1 u3) ?_
 refine WH.v (O.ad) ?_
 refine WH.v (O.det (fun _ => G.R.min3 rfl rfl rfl) rfl Taken.no) ?_
 refine WH.v (O.fr 7 0 u65) ?_
 refine WH.st1_8 104 ?_
 refine WH.v (O.fr 5 0 u65) ?_
 refine WH.st1_8 104 ?_
 refine WH.nil (E.to ?_)
 refine W.pk [(2,_),(4,_),(5,_),(8,_)] [(101,_),(102,_),(104,_)] ?_
 refine W.rg ?_
 refine SL.v (O.n3 u25) ?_
 refine SL.o ?_
 refine SL.v (O.n8 u65) ?_
 refine SL.cl [] [] (.agg [.u _, .u _, .u _]) _ (q := refset_h (s := s) (i := b) (c := rclC s.cps[b]! s.now) xA hcl)  (h := ?_)
 refine SL.st3_3 102 ?_
 refine E.fo (W.ret ?_)
 refine E.j1 [] rfl (ResOne.c3 u25) ?_
 ·rw [recS_s hb]; rfl

set_option maxRecDepth 8000 in
theorem formed_h {x : Sp} :
    Con Tryz.prog 36 [vA (eSp x)] [] (vB (decide (inB x.kind 1 8 ∧ fldS x = x))) [] := by
 refine Con.en 62 Tryz.func36 fun τ w ok vs hin => ?_
 clear hin
 refine W.rg ?_
 refine SL.bx8 101 ?_
 refine SL.a (E.fo (W.rg ?_))
 refine SL.v (O.fr 0 0 u27) ?_
 refine SL.v (O.l1 u3) ?_
 refine SL.v (O.bd4 u27) ?_
 refine SL.al8 102 ?_
 refine SL.st8_8 102 ?_
 refine E.fo (W.seq (W.rg ?_))
 refine SL.v (O.fr 0 0 u27) ?_
 refine SL.v (O.l1 u3) ?_
 refine E.fo (W.block (W.rg ?_))
 refine SL.v (O.eql) ?_
 refine SL.a (E.fo ?_)
 refine W.cc rfl (fun hc1 => ?_) fun hc1 => ?_
 ·refine W.dr [pW 101, pX 101, pW 101, pX 101, pW 101, pX 101, pW 102, ⟨[102], [102], [], []⟩, pW 102, ⟨[102], [102], [], []⟩, pW 102, ⟨[102], [102], [], []⟩] ?_
  refine WH.v (O.fr 1 0 u27) ?_
  refine WH.v (O.l1 u3) ?_
  refine WH.v (O.fr 2 0 u27) ?_
  refine WH.v (O.l1 u3) ?_
  refine WH.v (O.fr 7 0 u27) ?_
  refine WH.v (O.l1 u9) ?_
  refine WH.v (O.fr 1 0 u27) ?_
  refine WH.st1_8 102 ?_
  refine WH.v (O.fr 2 0 u27) ?_
  refine WH.st1_8 102 ?_
  refine WH.v (O.fr 7 0 u27) ?_
  refine WH.st1_8 102 ?_
  refine WH.nil (E.inn (E.to (W.rg ?_)))
  refine SL.v (O.n8 u27) ?_
  refine SL.v (O.n8 u27) ?_
  refine SL.v (O.eqAgg (ls := (spV x)) (ms := (spV (⟨x.kind, x.copy, x.work, 0, 0, 0, 0, x.lib⟩ : Sp))) (r := (decide (x = (⟨x.kind, x.copy, x.work, 0, 0, 0, 0, x.lib⟩ : Sp)))) (.inr rfl) (.inr rfl) xG xG xG xG zW rfl Taken.no) ?_
  refine SL.a (E.fo (W.ret ?_))
  refine E.h1 [] ?_
  ·first | (exfalso; omega) | exact iv_bool (dec_iff ⟨fun z => by have := z.2; rw [fld_1 xA] at this; exact this.symm, fun z => ⟨⟨xA, xA⟩, by rw [fld_1 xA]; exact z.symm⟩⟩)
 refine W.seq (W.rg ?_)
 refine SL.v (O.eql) ?_
 refine SL.a (E.fo ?_)
 refine W.cc rfl (fun hc2 => ?_) fun hc2 => ?_
 ·refine W.skip (E.to ?_)
  refine W.cc rfl (fun hc3 => ?_) fun hc3 => ?_
  ·refine W.region ?_
   refine SL.v (O.fr 1 0 u27) ?_
   refine SL.v (O.l1 u3) ?_
   refine SL.v (O.fr 1 0 u27) ?_
   refine SL.st1_8 102 ?_
   refine SL.nil (E.inn (E.to (W.rg ?_)))
   refine SL.v (O.n8 u27) ?_
   refine SL.v (O.n8 u27) ?_
   refine SL.v (O.eqAgg (ls := (spV x)) (ms := (spV (⟨x.kind, x.copy, 0, 0, 0, 0, 0, []⟩ : Sp))) (r := (decide (x = (⟨x.kind, x.copy, 0, 0, 0, 0, 0, []⟩ : Sp)))) (.inr rfl) (.inr rfl) xG xG xG xG zW rfl Taken.no) ?_
   refine SL.a (E.fo (W.ret ?_))
   refine E.h1 [] ?_
   ·first | (exfalso; omega) | exact iv_bool (dec_iff ⟨fun z => by have := z.2; rw [fld_c xA] at this; exact this.symm, fun z => ⟨⟨xA, xA⟩, by rw [fld_c xA]; exact z.symm⟩⟩)
  refine W.rg ?_
  refine SL.v (O.eql) ?_
  refine SL.a (E.fo ?_)
  refine W.cc rfl (fun hc4 => ?_) fun hc4 => ?_
  ·refine W.dr [pW 101, pX 101, pW 101, pX 101, pW 102, ⟨[102], [102], [], []⟩, pW 102, ⟨[102], [102], [], []⟩] ?_
   refine WH.v (O.fr 1 0 u27) ?_
   refine WH.v (O.l1 u3) ?_
   refine WH.v (O.fr 3 0 u27) ?_
   refine WH.v (O.l1 u3) ?_
   refine WH.v (O.fr 1 0 u27) ?_
   refine WH.st1_8 102 ?_
   refine WH.v (O.fr 3 0 u27) ?_
   refine WH.st1_8 102 ?_
   refine WH.nil (E.inn (E.to (W.rg ?_)))
   refine SL.v (O.n8 u27) ?_
   refine SL.v (O.n8 u27) ?_
   refine SL.v (O.eqAgg (ls := (spV x)) (ms := (spV (⟨x.kind, x.copy, 0, x.pat, 0, 0, 0, []⟩ : Sp))) (r := (decide (x = (⟨x.kind, x.copy, 0, x.pat, 0, 0, 0, []⟩ : Sp)))) (.inr rfl) (.inr rfl) xG xG xG xG zW rfl Taken.no) ?_
   refine SL.a (E.fo ?_)
   refine W.pk [(2,_)] [(101,_),(102,_)] ?_
   refine W.ret ?_
   refine E.h1 [] ?_
   ·first | (exfalso; omega) | exact iv_bool (dec_iff ⟨fun z => by have := z.2; rw [fld_3 xA] at this; exact this.symm, fun z => ⟨⟨xA, xA⟩, by rw [fld_3 xA]; exact z.symm⟩⟩)
  refine W.rg ?_
  refine SL.v (O.eql) ?_
  refine SL.a (E.fo ?_)
  refine W.cc rfl (fun hc5 => ?_) fun hc5 => ?_
  ·refine W.dr [pW 101, pX 101, pW 101, pX 101, pW 101, pX 101, pW 101, pX 101, pW 102, ⟨[102], [102], [], []⟩, pW 102, ⟨[102], [102], [], []⟩, pW 102, ⟨[102], [102], [], []⟩, pW 102, ⟨[102], [102], [], []⟩] ?_
   refine WH.v (O.fr 2 0 u27) ?_
   refine WH.v (O.l1 u3) ?_
   refine WH.v (O.fr 3 0 u27) ?_
   refine WH.v (O.l1 u3) ?_
   refine WH.v (O.fr 4 0 u27) ?_
   refine WH.v (O.l1 u3) ?_
   refine WH.v (O.fr 5 0 u27) ?_
   refine WH.v (O.l1 u3) ?_
   refine WH.v (O.fr 2 0 u27) ?_
   refine WH.st1_8 102 ?_
   refine WH.v (O.fr 3 0 u27) ?_
   refine WH.st1_8 102 ?_
   refine WH.v (O.fr 4 0 u27) ?_
   refine WH.st1_8 102 ?_
   refine WH.v (O.fr 5 0 u27) ?_
   refine WH.st1_8 102 ?_
   refine WH.nil (E.inn (E.to ?_))
   refine W.pk [(1,_),(2,_),(3,_)] [(101,_),(102,_)] ?_
   refine W.rg ?_
   refine SL.v (O.n8 u27) ?_
   refine SL.v (O.n8 u27) ?_
   refine SL.v (O.eqAgg (ls := (spV x)) (ms := (spV (⟨x.kind, 0, x.work, x.pat, x.hold, x.cls, 0, []⟩ : Sp))) (r := (decide (x = (⟨x.kind, 0, x.work, x.pat, x.hold, x.cls, 0, []⟩ : Sp)))) (.inr rfl) (.inr rfl) xG xG xG xG zW rfl Taken.no) ?_
   refine SL.a (E.fo (W.ret ?_))
   refine E.h1 [] ?_
   ·first | (exfalso; omega) | exact iv_bool (dec_iff ⟨fun z => by have := z.2; rw [fld_6 xA] at this; exact this.symm, fun z => ⟨⟨xA, xA⟩, by rw [fld_6 xA]; exact z.symm⟩⟩)
  refine W.rg ?_
  refine SL.v (O.eql) ?_
  refine SL.a (E.fo ?_)
  refine W.cc rfl (fun hc6 => ?_) fun hc6 => ?_
  ·refine W.region ?_
   refine SL.v (O.fr 4 0 u27) ?_
   refine SL.v (O.l1 u3) ?_
   refine SL.v (O.fr 4 0 u27) ?_
   refine SL.st1_8 102 ?_
   refine SL.nil (E.inn (E.to (W.rg ?_)))
   refine SL.v (O.n8 u27) ?_
   refine SL.v (O.n8 u27) ?_
   refine SL.v (O.eqAgg (ls := (spV x)) (ms := (spV (⟨x.kind, 0, 0, 0, x.hold, 0, 0, []⟩ : Sp))) (r := (decide (x = (⟨x.kind, 0, 0, 0, x.hold, 0, 0, []⟩ : Sp)))) (.inr rfl) (.inr rfl) xG xG xG xG zW rfl Taken.no) ?_
   refine SL.a (E.fo ?_)
   refine W.pk [(2,_)] [(101,_),(102,_)] ?_
   refine W.ret ?_
   refine E.h1 [] ?_
   ·first | (exfalso; omega) | exact iv_bool (dec_iff ⟨fun z => by have := z.2; rw [fld_7 xA] at this; exact this.symm, fun z => ⟨⟨xA, xA⟩, by rw [fld_7 xA]; exact z.symm⟩⟩)
  refine W.rg ?_
  refine SL.v (O.eql) ?_
  refine SL.a (E.fo ?_)
  refine W.cc rfl (fun hc7 => ?_) fun hc7 => ?_
  ·refine W.region ?_
   refine SL.v (O.fr 6 0 u27) ?_
   refine SL.v (O.l1 u3) ?_
   refine SL.v (O.fr 6 0 u27) ?_
   refine SL.st1_8 102 ?_
   refine SL.nil (E.inn (E.to (W.rg ?_)))
   refine SL.v (O.n8 u27) ?_
   refine SL.v (O.n8 u27) ?_
   refine SL.v (O.eqAgg (ls := (spV x)) (ms := (spV (⟨x.kind, 0, 0, 0, 0, 0, x.days, []⟩ : Sp))) (r := (decide (x = (⟨x.kind, 0, 0, 0, 0, 0, x.days, []⟩ : Sp)))) (.inr rfl) (.inr rfl) xG xG xG xG zW rfl Taken.no) ?_
   refine SL.a (E.fo ?_)
   refine W.pk [(2,_)] [(101,_),(102,_)] ?_
   refine W.ret ?_
   refine E.h1 [] ?_
   ·first | (exfalso; omega) | exact iv_bool (dec_iff ⟨fun z => by have := z.2; rw [fld_8 xA] at this; exact this.symm, fun z => ⟨⟨xA, xA⟩, by rw [fld_8 xA]; exact z.symm⟩⟩)
  refine W.rg (SL.a (E.fo (W.ret ?_)))
  refine E.inr ?_
  refine E.thr ?_
  refine E.h1 [] ?_
  ·first | (exfalso; omega) | exact iv_bool (dec_iff ⟨fun z => by have := z.2; rw [fld_c xA] at this; exact this.symm, fun z => ⟨⟨xA, xA⟩, by rw [fld_c xA]; exact z.symm⟩⟩)
 refine W.rg ?_
 refine SL.v (O.eql) ?_
 refine SL.a (E.fo ?_)
 refine W.cc rfl (fun hc8 => ?_) fun hc8 => ?_
 ·refine W.skip (E.to ?_)
  refine W.cc rfl (fun hc9 => ?_) fun hc9 => ?_
  ·refine W.region ?_
   refine SL.v (O.fr 1 0 u27) ?_
   refine SL.v (O.l1 u3) ?_
   refine SL.v (O.fr 1 0 u27) ?_
   refine SL.st1_8 102 ?_
   refine SL.nil (E.inn (E.to (W.rg ?_)))
   refine SL.v (O.n8 u27) ?_
   refine SL.v (O.n8 u27) ?_
   refine SL.v (O.eqAgg (ls := (spV x)) (ms := (spV (⟨x.kind, x.copy, 0, 0, 0, 0, 0, []⟩ : Sp))) (r := (decide (x = (⟨x.kind, x.copy, 0, 0, 0, 0, 0, []⟩ : Sp)))) (.inr rfl) (.inr rfl) xG xG xG xG zW rfl Taken.no) ?_
   refine SL.a (E.fo (W.ret ?_))
   refine E.h1 [] ?_
   ·first | (exfalso; omega) | exact iv_bool (dec_iff ⟨fun z => by have := z.2; rw [fld_c xA] at this; exact this.symm, fun z => ⟨⟨xA, xA⟩, by rw [fld_c xA]; exact z.symm⟩⟩)
  refine W.rg ?_
  refine SL.v (O.eql) ?_
  refine SL.a (E.fo ?_)
  refine W.cc rfl (fun hc10 => ?_) fun hc10 => ?_
  ·refine W.dr [pW 101, pX 101, pW 101, pX 101, pW 102, ⟨[102], [102], [], []⟩, pW 102, ⟨[102], [102], [], []⟩] ?_
   refine WH.v (O.fr 1 0 u27) ?_
   refine WH.v (O.l1 u3) ?_
   refine WH.v (O.fr 3 0 u27) ?_
   refine WH.v (O.l1 u3) ?_
   refine WH.v (O.fr 1 0 u27) ?_
   refine WH.st1_8 102 ?_
   refine WH.v (O.fr 3 0 u27) ?_
   refine WH.st1_8 102 ?_
   refine WH.nil (E.inn (E.to (W.rg ?_)))
   refine SL.v (O.n8 u27) ?_
   refine SL.v (O.n8 u27) ?_
   refine SL.v (O.eqAgg (ls := (spV x)) (ms := (spV (⟨x.kind, x.copy, 0, x.pat, 0, 0, 0, []⟩ : Sp))) (r := (decide (x = (⟨x.kind, x.copy, 0, x.pat, 0, 0, 0, []⟩ : Sp)))) (.inr rfl) (.inr rfl) xG xG xG xG zW rfl Taken.no) ?_
   refine SL.a (E.fo ?_)
   refine W.pk [(2,_)] [(101,_),(102,_)] ?_
   refine W.ret ?_
   refine E.h1 [] ?_
   ·first | (exfalso; omega) | exact iv_bool (dec_iff ⟨fun z => by have := z.2; rw [fld_3 xA] at this; exact this.symm, fun z => ⟨⟨xA, xA⟩, by rw [fld_3 xA]; exact z.symm⟩⟩)
  refine W.rg ?_
  refine SL.v (O.eql) ?_
  refine SL.a (E.fo ?_)
  refine W.cc rfl (fun hc11 => ?_) fun hc11 => ?_
  ·refine W.dr [pW 101, pX 101, pW 101, pX 101, pW 101, pX 101, pW 101, pX 101, pW 102, ⟨[102], [102], [], []⟩, pW 102, ⟨[102], [102], [], []⟩, pW 102, ⟨[102], [102], [], []⟩, pW 102, ⟨[102], [102], [], []⟩] ?_
   refine WH.v (O.fr 2 0 u27) ?_
   refine WH.v (O.l1 u3) ?_
   refine WH.v (O.fr 3 0 u27) ?_
   refine WH.v (O.l1 u3) ?_
   refine WH.v (O.fr 4 0 u27) ?_
   refine WH.v (O.l1 u3) ?_
   refine WH.v (O.fr 5 0 u27) ?_
   refine WH.v (O.l1 u3) ?_
   refine WH.v (O.fr 2 0 u27) ?_
   refine WH.st1_8 102 ?_
   refine WH.v (O.fr 3 0 u27) ?_
   refine WH.st1_8 102 ?_
   refine WH.v (O.fr 4 0 u27) ?_
   refine WH.st1_8 102 ?_
   refine WH.v (O.fr 5 0 u27) ?_
   refine WH.st1_8 102 ?_
   refine WH.nil (E.inn (E.to ?_))
   refine W.pk [(1,_),(2,_),(3,_)] [(101,_),(102,_)] ?_
   refine W.rg ?_
   refine SL.v (O.n8 u27) ?_
   refine SL.v (O.n8 u27) ?_
   refine SL.v (O.eqAgg (ls := (spV x)) (ms := (spV (⟨x.kind, 0, x.work, x.pat, x.hold, x.cls, 0, []⟩ : Sp))) (r := (decide (x = (⟨x.kind, 0, x.work, x.pat, x.hold, x.cls, 0, []⟩ : Sp)))) (.inr rfl) (.inr rfl) xG xG xG xG zW rfl Taken.no) ?_
   refine SL.a (E.fo (W.ret ?_))
   refine E.h1 [] ?_
   ·first | (exfalso; omega) | exact iv_bool (dec_iff ⟨fun z => by have := z.2; rw [fld_6 xA] at this; exact this.symm, fun z => ⟨⟨xA, xA⟩, by rw [fld_6 xA]; exact z.symm⟩⟩)
  refine W.rg ?_
  refine SL.v (O.eql) ?_
  refine SL.a (E.fo ?_)
  refine W.cc rfl (fun hc12 => ?_) fun hc12 => ?_
  ·refine W.region ?_
   refine SL.v (O.fr 4 0 u27) ?_
   refine SL.v (O.l1 u3) ?_
   refine SL.v (O.fr 4 0 u27) ?_
   refine SL.st1_8 102 ?_
   refine SL.nil (E.inn (E.to (W.rg ?_)))
   refine SL.v (O.n8 u27) ?_
   refine SL.v (O.n8 u27) ?_
   refine SL.v (O.eqAgg (ls := (spV x)) (ms := (spV (⟨x.kind, 0, 0, 0, x.hold, 0, 0, []⟩ : Sp))) (r := (decide (x = (⟨x.kind, 0, 0, 0, x.hold, 0, 0, []⟩ : Sp)))) (.inr rfl) (.inr rfl) xG xG xG xG zW rfl Taken.no) ?_
   refine SL.a (E.fo ?_)
   refine W.pk [(2,_)] [(101,_),(102,_)] ?_
   refine W.ret ?_
   refine E.h1 [] ?_
   ·first | (exfalso; omega) | exact iv_bool (dec_iff ⟨fun z => by have := z.2; rw [fld_7 xA] at this; exact this.symm, fun z => ⟨⟨xA, xA⟩, by rw [fld_7 xA]; exact z.symm⟩⟩)
  refine W.rg ?_
  refine SL.v (O.eql) ?_
  refine SL.a (E.fo ?_)
  refine W.cc rfl (fun hc13 => ?_) fun hc13 => ?_
  ·refine W.region ?_
   refine SL.v (O.fr 6 0 u27) ?_
   refine SL.v (O.l1 u3) ?_
   refine SL.v (O.fr 6 0 u27) ?_
   refine SL.st1_8 102 ?_
   refine SL.nil (E.inn (E.to ?_))
   refine W.pk [(1,_),(2,_),(3,_)] [(101,_),(102,_)] ?_
   refine W.rg ?_
   refine SL.v (O.n8 u27) ?_
   refine SL.v (O.n8 u27) ?_
   refine SL.v (O.eqAgg (ls := (spV x)) (ms := (spV (⟨x.kind, 0, 0, 0, 0, 0, x.days, []⟩ : Sp))) (r := (decide (x = (⟨x.kind, 0, 0, 0, 0, 0, x.days, []⟩ : Sp)))) (.inr rfl) (.inr rfl) xG xG xG xG zW rfl Taken.no) ?_
   refine SL.a (E.fo (W.ret ?_))
   refine E.h1 [] ?_
   ·first | (exfalso; omega) | exact iv_bool (dec_iff ⟨fun z => by have := z.2; rw [fld_8 xA] at this; exact this.symm, fun z => ⟨⟨xA, xA⟩, by rw [fld_8 xA]; exact z.symm⟩⟩)
  refine W.rg (SL.a (E.fo (W.ret ?_)))
  refine E.inr ?_
  refine E.thr ?_
  refine E.h1 [] ?_
  ·first | (exfalso; omega) | exact iv_bool (dec_iff ⟨fun z => by have := z.2; rw [fld_c xA] at this; exact this.symm, fun z => ⟨⟨xA, xA⟩, by rw [fld_c xA]; exact z.symm⟩⟩)
 refine W.region ?_
 refine SL.v (O.eql) ?_
 refine SL.a (E.fo ?_)
 refine W.cc rfl (fun hc14 => ?_) fun hc14 => ?_
 ·refine W.region ?_
  refine SL.v (O.fr 1 0 u27) ?_
  refine SL.v (O.l1 u3) ?_
  refine SL.v (O.fr 1 0 u27) ?_
  refine SL.st1_8 102 ?_
  refine SL.nil (E.inn (E.to (W.rg ?_)))
  refine SL.v (O.n8 u27) ?_
  refine SL.v (O.n8 u27) ?_
  refine SL.v (O.eqAgg (ls := (spV x)) (ms := (spV (⟨x.kind, x.copy, 0, 0, 0, 0, 0, []⟩ : Sp))) (r := (decide (x = (⟨x.kind, x.copy, 0, 0, 0, 0, 0, []⟩ : Sp)))) (.inr rfl) (.inr rfl) xG xG xG xG zW rfl Taken.no) ?_
  refine SL.a (E.fo (W.ret ?_))
  refine E.h1 [] ?_
  ·first | (exfalso; omega) | exact iv_bool (dec_iff ⟨fun z => by have := z.2; rw [fld_c xA] at this; exact this.symm, fun z => ⟨⟨xA, xA⟩, by rw [fld_c xA]; exact z.symm⟩⟩)
 refine W.rg ?_
 refine SL.v (O.eql) ?_
 refine SL.a (E.fo ?_)
 refine W.cc rfl (fun hc15 => ?_) fun hc15 => ?_
 ·refine W.dr [pW 101, pX 101, pW 101, pX 101, pW 102, ⟨[102], [102], [], []⟩, pW 102, ⟨[102], [102], [], []⟩] ?_
  refine WH.v (O.fr 1 0 u27) ?_
  refine WH.v (O.l1 u3) ?_
  refine WH.v (O.fr 3 0 u27) ?_
  refine WH.v (O.l1 u3) ?_
  refine WH.v (O.fr 1 0 u27) ?_
  refine WH.st1_8 102 ?_
  refine WH.v (O.fr 3 0 u27) ?_
  refine WH.st1_8 102 ?_
  refine WH.nil (E.inn (E.to ?_))
  refine W.pk [(1,_),(2,_),(3,_)] [(101,_),(102,_)] ?_
  refine W.rg ?_
  refine SL.v (O.n8 u27) ?_
  refine SL.v (O.n8 u27) ?_
  refine SL.v (O.eqAgg (ls := (spV x)) (ms := (spV (⟨x.kind, x.copy, 0, x.pat, 0, 0, 0, []⟩ : Sp))) (r := (decide (x = (⟨x.kind, x.copy, 0, x.pat, 0, 0, 0, []⟩ : Sp)))) (.inr rfl) (.inr rfl) xG xG xG xG zW rfl Taken.no) ?_
  refine SL.a (E.fo (W.ret ?_))
  refine E.h1 [] ?_
  ·first | (exfalso; omega) | exact iv_bool (dec_iff ⟨fun z => by have := z.2; rw [fld_3 xA] at this; exact this.symm, fun z => ⟨⟨xA, xA⟩, by rw [fld_3 xA]; exact z.symm⟩⟩)
 refine W.rg ?_
 refine SL.v (O.eql) ?_
 refine SL.a (E.fo ?_)
 refine W.cc rfl (fun hc16 => ?_) fun hc16 => ?_
 ·refine W.dr [pW 101, pX 101, pW 101, pX 101, pW 101, pX 101, pW 101, pX 101, pW 102, ⟨[102], [102], [], []⟩, pW 102, ⟨[102], [102], [], []⟩, pW 102, ⟨[102], [102], [], []⟩, pW 102, ⟨[102], [102], [], []⟩] ?_
  refine WH.v (O.fr 2 0 u27) ?_
  refine WH.v (O.l1 u3) ?_
  refine WH.v (O.fr 3 0 u27) ?_
  refine WH.v (O.l1 u3) ?_
  refine WH.v (O.fr 4 0 u27) ?_
  refine WH.v (O.l1 u3) ?_
  refine WH.v (O.fr 5 0 u27) ?_
  refine WH.v (O.l1 u3) ?_
  refine WH.v (O.fr 2 0 u27) ?_
  refine WH.st1_8 102 ?_
  refine WH.v (O.fr 3 0 u27) ?_
  refine WH.st1_8 102 ?_
  refine WH.v (O.fr 4 0 u27) ?_
  refine WH.st1_8 102 ?_
  refine WH.v (O.fr 5 0 u27) ?_
  refine WH.st1_8 102 ?_
  refine WH.nil (E.inn (E.to ?_))
  refine W.pk [(1,_),(2,_),(3,_)] [(101,_),(102,_)] ?_
  refine W.rg ?_
  refine SL.v (O.n8 u27) ?_
  refine SL.v (O.n8 u27) ?_
  refine SL.v (O.eqAgg (ls := (spV x)) (ms := (spV (⟨x.kind, 0, x.work, x.pat, x.hold, x.cls, 0, []⟩ : Sp))) (r := (decide (x = (⟨x.kind, 0, x.work, x.pat, x.hold, x.cls, 0, []⟩ : Sp)))) (.inr rfl) (.inr rfl) xG xG xG xG zW rfl Taken.no) ?_
  refine SL.a (E.fo (W.ret ?_))
  refine E.h1 [] ?_
  ·first | (exfalso; omega) | exact iv_bool (dec_iff ⟨fun z => by have := z.2; rw [fld_6 xA] at this; exact this.symm, fun z => ⟨⟨xA, xA⟩, by rw [fld_6 xA]; exact z.symm⟩⟩)
 refine W.rg ?_
 refine SL.v (O.eql) ?_
 refine SL.a (E.fo ?_)
 refine W.cc rfl (fun hc17 => ?_) fun hc17 => ?_
 ·refine W.region ?_
  refine SL.v (O.fr 4 0 u27) ?_
  refine SL.v (O.l1 u3) ?_
  refine SL.v (O.fr 4 0 u27) ?_
  refine SL.st1_8 102 ?_
  refine SL.nil (E.inn (E.to ?_))
  refine W.pk [(1,_),(2,_),(3,_)] [(101,_),(102,_)] ?_
  refine W.rg ?_
  refine SL.v (O.n8 u27) ?_
  refine SL.v (O.n8 u27) ?_
  refine SL.v (O.eqAgg (ls := (spV x)) (ms := (spV (⟨x.kind, 0, 0, 0, x.hold, 0, 0, []⟩ : Sp))) (r := (decide (x = (⟨x.kind, 0, 0, 0, x.hold, 0, 0, []⟩ : Sp)))) (.inr rfl) (.inr rfl) xG xG xG xG zW rfl Taken.no) ?_
  refine SL.a (E.fo (W.ret ?_))
  refine E.h1 [] ?_
  ·first | (exfalso; omega) | exact iv_bool (dec_iff ⟨fun z => by have := z.2; rw [fld_7 xA] at this; exact this.symm, fun z => ⟨⟨xA, xA⟩, by rw [fld_7 xA]; exact z.symm⟩⟩)
 refine W.rg ?_
 refine SL.v (O.eql) ?_
 refine SL.a (E.fo ?_)
 refine W.pk [(1,_),(2,_),(3,_),(54,_)] [(101,_),(102,_)] ?_
 refine W.cc rfl (fun hc18 => ?_) fun hc18 => ?_
 ·refine W.region ?_
  refine SL.v (O.fr 6 0 u27) ?_
  refine SL.v (O.l1 u3) ?_
  refine SL.v (O.fr 6 0 u27) ?_
  refine SL.st1_8 102 ?_
  refine SL.nil (E.inn (E.to (W.rg ?_)))
  refine SL.v (O.n8 u27) ?_
  refine SL.v (O.n8 u27) ?_
  refine SL.v (O.eqAgg (ls := (spV x)) (ms := (spV (⟨x.kind, 0, 0, 0, 0, 0, x.days, []⟩ : Sp))) (r := (decide (x = (⟨x.kind, 0, 0, 0, 0, 0, x.days, []⟩ : Sp)))) (.inr rfl) (.inr rfl) xG xG xG xG zW rfl Taken.no) ?_
  refine SL.a (E.fo (W.ret ?_))
  refine E.h1 [] ?_
  ·first | (exfalso; omega) | exact iv_bool (dec_iff ⟨fun z => by have := z.2; rw [fld_8 xA] at this; exact this.symm, fun z => ⟨⟨xA, xA⟩, by rw [fld_8 xA]; exact z.symm⟩⟩)
 refine W.rg (SL.a (E.fo (W.ret ?_)))
 refine E.inr ?_
 refine E.thr ?_
 refine E.h1 [] ?_
 ·exact iv_bool (dec_f fun z => by have := z.1; unfold inB at this; omega)

end Go.Proofs.YtmekkjehkcjpdaaGreat
end
section
namespace Go.D58
open Go Go.RowKit Go.H Go.D57
theorem put_gl {s : St} {x : Sp} (hv : validS s) (hi : idB x.work ∧ idB x.pat ∧ idB x.hold ∧ inB x.cls 1 3) (hu : useB s x.hold = false) (hp : ¬ 0 ≤ patI (queS s x.work) x.pat) : (validQ (queS s x.work) ∧ goodH (h0 (hldX s x))) ∧ ¬ likeQ (queS s x.work) (h0 (hldX s x)) := by
  obtain ⟨_, h2, h3, h4⟩ := hi
  have hn := hv.1
  refine ⟨⟨que_okV (valid_okV hv) _, ?_⟩, ?_⟩
  · unfold idB inB at h2 h3
    unfold inB at h4 hn
    show 1 ≤ x.hold ∧ x.hold ≤ 1000000000 ∧ 1 ≤ x.pat ∧ x.pat ≤ 1000000000 ∧ 1 ≤ x.cls ∧ x.cls ≤ 3 ∧ 0 ≤ s.now ∧ s.now ≤ 1000000 ∧ (0 : Int) ≤ 0 ∧ (0 : Int) ≤ 2
    omega
  · rintro ⟨j, hj, e⟩
    have hm : (queS s x.work)[j]! ∈ queS s x.work := at_mem hj
    rcases e with e | e
    · unfold useB at hu
      rw [Bool.or_eq_false_iff] at hu
      refine of_decide_eq_false hu.2 (any_iff.1 ?_)
      obtain ⟨y, hm, e⟩ : ∃ y ∈ queS s x.work, y.id = x.hold := ⟨_, hm, e⟩
      unfold queS at hm
      split at hm
      · rename_i q
        exact ⟨_, at_mem (idxF_lt q).1, decide_eq_true (any_iff.1 ⟨_, hm, decide_eq_true e⟩)⟩
      · cases hm
    · exact hp (any_iff.1 ⟨_, hm, decide_eq_true e⟩)
theorem holds_use (s : St) (n : Int) : decide (n ∈ holdsL s) = useB s n := by
  rw [Bool.eq_iff_iff, decide_eq_true_eq]
  unfold holdsL holdsC holdsQ useB
  rw [List.mem_append, Bool.or_eq_true, decide_eq_true_eq, decide_eq_true_eq, ← any_iff, ← any_iff]
  simp only [List.mem_map, List.mem_filter, List.mem_flatMap, decide_eq_true_eq]
  refine or_congr ?_ ?_
  · constructor
    · rintro ⟨c, ⟨h1, h2⟩, h3⟩; exact ⟨c, h1, h2, h3⟩
    · rintro ⟨c, h1, h2, h3⟩; exact ⟨c, ⟨h1, h2⟩, h3⟩
  · constructor
    · rintro ⟨l, h1, y, h2, h3⟩; exact ⟨l, h1, any_iff.1 ⟨y, h2, decide_eq_true h3⟩⟩
    · rintro ⟨l, h1, h2⟩
      obtain ⟨y, h3, h4⟩ := any_iff.2 h2
      exact ⟨l, h1, y, h3, of_decide_eq_true h4⟩
def anyP (q : List Hd) (p : Int) : Bool := q.any fun h => decide (h.pat = p)
theorem anyP_s {q : List Hd} {p : Int} {k : Nat} (h : k < q.length) : anyP (q.take (k + 1)) p = (anyP (q.take k) p || decide (q[k]!.pat = p)) := by
  unfold anyP
  rw [take_s h, List.any_append]
  simp
theorem anyP_iff (q : List Hd) (p : Int) : anyP q p = decide (0 ≤ patI q p) := by
  rw [Bool.eq_iff_iff, decide_eq_true_eq]
  unfold anyP patI
  rw [← any_iff, List.any_eq_true]
theorem rc_no {s : St} (hv : validS s) {c : Cp} (hc : c ∈ s.cps) (hp : c.place ≠ 2) : c.rc = false := by
  have := (valid_vld.1 hv).cp c hc
  rcases this.2.2.2 with q | q | q
  · exact q.2.2.2.2
  · exact absurd q.1 hp
  · exact q.2.2.2.2
def fewS (s : St) : Prop := (∀ k, k < s.cps.length → s.cps[k]!.lib.length ≤ 50) ∧ (∀ i, i < s.lns.length → fewQ s.lns[i]!.q) ∧ (s.cps.length ≤ 12 ∨ s.cps.length = 60 ∨ s.cps.length = 61) ∧ s.lns.length ≤ 12
instance (s : St) : Decidable (fewS s) := by unfold fewS; infer_instance
theorem fewS_b {s : St} (h : fewS s) : s.cps.length ≤ 1000 ∧ s.lns.length ≤ 1000 ∧ (∀ l ∈ s.lns, l.q.length ≤ 100) ∧ ∀ c ∈ s.cps, c.lib.length ≤ 1000 := by
  refine ⟨by have := h.2.2.1; omega, by have := h.2.2.2; omega, fun l hl => ?_, fun c hc => by obtain ⟨i, hi, rfl⟩ := mem_at hc; have := h.1 i hi; omega⟩
  obtain ⟨i, hi, rfl⟩ := mem_at hl
  have := h.2.1 i hi
  unfold fewQ at this
  omega
theorem valid_b {s : St} (h : validS s) : s.cps.length ≤ 1000 ∧ s.lns.length ≤ 1000 ∧ (∀ l ∈ s.lns, l.q.length ≤ 100) ∧ ∀ c ∈ s.cps, c.lib.length ≤ 1000 :=
  ⟨by have := h.2.1; omega, by have := h.2.2.1; omega, fun l hl => by have := (valid_ok h).2.2 l hl; omega, fun c hc => by have := ((valid_vld.1 h).cp c hc).2.2.1.2.1; omega⟩
theorem run_valid {s : St} (h : validS s) : ∀ (l : List Sp) (i : Nat), validS (runR s l i).1
  | [], _ => h
  | x :: l, i => by
    rw [runR]
    split
    · rename_i e; exact run_valid (do_valid e) l _
    · exact h
theorem zero_valid : validS zeroS := by
  refine ⟨⟨by decide, by decide⟩, by decide, by decide, fun k hk => absurd hk (Nat.not_lt_zero _), fun k hk => absurd hk (Nat.not_lt_zero _), rfl⟩
def anyI (l : List Int) (n : Int) : Bool := l.any fun a => decide (a = n)
end Go.D58
end
section
namespace Go.Proofs.YtmekkjehkcjpdaaGreat
open Go Go.RowKit Go.H Go.D57 Go.D58


theorem ins_rows {cs : List Cp} {k : Nat} {c : Cp} : ((([] : List (List UV)) ++ (cs.take k).map eCp) ++ [eCp c]) ++ (cs.drop k).map eCp = (cs.take k ++ c :: cs.drop k).map eCp := by simp
theorem cut_rows {cs : List Cp} {k : Nat} : (([] : List (List UV)) ++ (cs.take k).map eCp) ++ (cs.drop (k + 1)).map eCp = (cs.take k ++ cs.drop (k + 1)).map eCp := by simp

set_option maxRecDepth 8000 in
theorem addCopy_h {s : St} {x : Sp} (hv : validS s) (hxl : x.lib.length ≤ 1000) :
    Con Tryz.prog 37 [vA [uI s.now, .sl 8 (s.cps.map eCp), .sl 2 (s.lns.map eLn)], vA (eSp x)] [] (.tup [.agg [vI (addS s x).now, vL 8 ((addS s x).cps.map eCp), vL 2 ((addS s x).lns.map eLn)], vI (addE s x)]) [] := by
 have hn := hv.1
 unfold inB at hn
 have hcl := hv.2.1
 have hok := valid_ok hv
 have hid := valid_asc hv
 have hbb3 := valid_b hv
 obtain ⟨i65, hi65, hz65, hs65, hb65⟩ := hinf65
 refine Con.en 82 Tryz.func37 fun τ w ok vs hin => ?_
 have hl0_1 := hin.lenA (i := 0) (j := 1) rfl rfl
 try rw [List.length_map] at hl0_1
 have hl0_2 := hin.lenA (i := 0) (j := 2) rfl rfl
 try rw [List.length_map] at hl0_2
 clear hin
 refine W.rg ?_
 refine SL.bx3 101 ?_
 refine SL.bx8 102 ?_
 refine SL.al9 103 ?_
 refine SL.a (E.fo (W.seq (W.block (W.rg ?_))))
 refine SL.v (O.fr 1 0 u27) ?_
 refine SL.v (O.l1 u3) ?_
 refine SL.v (O.cp (q := refid_h (n := x.copy))) ?_
 refine SL.v (O.nt) ?_
 refine SL.o ?_
 refine SL.cs 4 false (fun hg1 => ?_) fun hg1 => ?_
 ·have hg1p := gP hg1
  refine SL.v (O.fr 2 0 u27 (tY hg1)) ?_
  refine SL.v (O.l1 u3 (tY hg1)) ?_
  refine SL.v (O.cp (q := refid_h (n := x.work)) (hg := (tY hg1))) ?_
  refine SL.v (O.nt (tY hg1)) ?_
  refine SL.v (O.pf hg1) ?_
  refine SL.a (E.fo ?_)
  refine W.cc rfl (fun hc2 => ?_) fun hc2 => ?_
  ·have ha0 : ¬ (idB x.copy ∧ idB x.work) := by intro z; simp_all
   refine W.rg ?_
   refine SL.v (O.n3 u25) ?_
   refine SL.st3_3 103 ?_
   refine SL.a (E.fo (W.ret ?_))
   refine E.inr ?_
   refine E.thr ?_
   refine E.j2 [] rfl (ResOne.c3 u25) (ResOne.tmp rfl) ?_
   ·rw [(add_e2 (s := s) (x := x)  ha0).1, (add_e2 (s := s) (x := x)  ha0).2]; rfl
  have ha0 : ¬ (¬ (idB x.copy ∧ idB x.work)) := by simp_all
  refine W.rg ?_
  refine SL.v (O.fr 7 0 u27) ?_
  refine SL.v (O.l1 u9) ?_
  refine SL.v (O.cp (q := refName_h (l := x.lib) hxl)) ?_
  refine SL.v (O.nt) ?_
  refine SL.a (E.fo ?_)
  refine W.cc rfl (fun hc3 => ?_) fun hc3 => ?_
  ·have ha1 : ¬ nmOk x.lib := by first | assumption | simp_all
   refine W.rg ?_
   refine SL.v (O.n3 u25) ?_
   refine SL.st3_3 103 ?_
   refine SL.a (E.fo (W.ret ?_))
   refine E.inr ?_
   refine E.thr ?_
   refine E.j2 [] rfl (ResOne.c3 u25) (ResOne.tmp rfl) ?_
   ·rw [(add_e8 (s := s) (x := x)  ha0 ha1).1, (add_e8 (s := s) (x := x)  ha0 ha1).2]; rfl
  have ha1 : ¬ (¬ nmOk x.lib) := by first | assumption | simp_all
  refine W.rg ?_
  refine SL.v (O.n3 u25) ?_
  refine SL.v (O.fr 1 0 u27) ?_
  refine SL.v (O.l1 u3) ?_
  refine SL.v (O.cp (q := reffind_h (s := s) (i := x.copy))) ?_
  refine SL.v (O.geq) ?_
  refine SL.a (E.fo ?_)
  refine W.pk [(2,_),(3,_),(4,_),(5,_),(26,_)] [(101,_),(102,_),(103,_)] ?_
  refine W.cc rfl (fun hc4 => ?_) fun hc4 => ?_
  ·have hx : 0 ≤ cpI s x.copy := by omega
   refine W.rg ?_
   refine SL.v (O.n3 u25) ?_
   refine SL.st3_3 103 ?_
   refine SL.a (E.fo (W.ret ?_))
   refine E.inr ?_
   refine E.thr ?_
   refine E.j2 [] rfl (ResOne.c3 u25) (ResOne.tmp rfl) ?_
   ·rw [(add_e10 (s := s) (x := x)  ha0 ha1 hx).1, (add_e10 (s := s) (x := x)  ha0 ha1 hx).2]; rfl
  have hx : ¬ (0 ≤ cpI s x.copy) := by omega
  refine W.rg ?_
  refine SL.v (O.fr 1 0 u25) ?_
  refine SL.v (O.l1 u22) ?_
  refine SL.v (O.le u22) ?_
  refine SL.v (O.eql) ?_
  refine SL.a (E.fo ?_)
  refine W.cc rfl (fun hc5 => ?_) fun hc5 => ?_
  ·have ha4 : s.cps.length = 60 := by omega
   refine W.rg ?_
   refine SL.v (O.n3 u25) ?_
   refine SL.st3_3 103 ?_
   refine SL.a (E.fo (W.ret ?_))
   refine E.inr ?_
   refine E.thr ?_
   refine E.j2 [] rfl (ResOne.c3 u25) (ResOne.tmp rfl) ?_
   ·rw [(add_e20 (s := s) (x := x)  ha0 ha1 hx ha4).1, (add_e20 (s := s) (x := x)  ha0 ha1 hx ha4).2]; rfl
  have ha4 : ¬ (s.cps.length = 60) := by omega
  refine W.skip (E.inn (E.to (W.rg (SL.a (E.fo (W.seq (W.block ?_)))))))
  refine W.lq (fun (k : Nat) => [(6, vI (k : Int))]) (fun (k : Nat) => []) (fun (k : Nat) => k ≤ s.cps.length ∧ ∀ j, j < k → s.cps[j]!.id < x.copy) (fun (k : Nat) => s.cps.length - k) (0) [] [(2, _), (3, _), (4, _), (5, _)] [(101, _), (102, _), (103, _)] ?_ ?_
  ·exact yG
  intro k hinv
  obtain ⟨hk, hlo⟩ := hinv
  refine W.seq (W.seq ?_)
  refine W.dr [pO, pW 101, pX 101, pO, pO, pO, pW 101, pX 101, pO, pO, pO, pO, pW 102, pX 102, pO, pO] ?_
  refine WH.o rfl ?_
  refine WH.v (O.fr 1 0 u25) ?_
  refine WH.v (O.l1 u22) ?_
  refine WH.v (O.le u22) ?_
  refine WH.v (O.lss) ?_
  refine WH.o rfl ?_
  refine WH.cs 5 true (fun hg6 => ?_) fun hg6 => ?_
  ·have hg6p := gP hg6
   refine WH.v (O.fr 1 0 u25 (tY hg6)) ?_
   refine WH.v (O.l1 u22 (tY hg6)) ?_
   refine WH.v (O.mo (tY hg6)) ?_
   refine WH.v (O.ix (i := k) u22 hi65 hs65 (tY hg6)) ?_
   refine WH.v (O.ff 0 u65 (tY hg6)) ?_
   refine WH.v (O.l1f u3 (tY hg6)) ?_
   refine WH.v (O.fr 1 0 u27 (tY hg6)) ?_
   refine WH.v (O.l1 u3 (tY hg6)) ?_
   refine WH.v (O.lss (tY hg6)) ?_
   refine WH.v (O.pt hg6) ?_
   refine WH.nil (E.to ?_)
   refine W.cc rfl (fun hc7 => ?_) fun hc7 => ?_
   ·refine W.skip (E.to (W.block (W.region (SL.o ?_))))
    refine SL.v (O.ad) ?_
    refine SL.a (SL.nil (E.inn ?_))
    refine E.ai (k + 1) [] ?_
    ·try dsimp only
     exact ⟨xA, upto_s hlo xA⟩
   have hkp : k = kpos (fun c : Cp => c.id) s.cps x.copy := kpos_eq (key := fun c : Cp => c.id) hid xA hlo (kbs_hi hid (by show ¬ s.cps[k]!.id < x.copy; omega))
   refine W.exit (E.th (E.th (E.hit (E.to (W.rg ?_)))))
   subst hkp
   have hkl := kpos_le (key := fun c : Cp => c.id) s.cps x.copy
   have hil := ins_len (s := s) (x := x)
   refine SL.v (O.fr 1 0 u27) ?_
   refine SL.v (O.l1 u3) ?_
   refine SL.v (O.fr 2 0 u27) ?_
   refine SL.v (O.l1 u3) ?_
   refine SL.v (O.fr 7 0 u27) ?_
   refine SL.v (O.l1 u9) ?_
   refine SL.v (O.bd2 u65) ?_
   refine SL.al3 104 ?_
   refine SL.st8_8 104 ?_
   refine E.fo ?_
   refine W.pk [(2,_),(4,_),(5,_),(6,_),(7,_)] [(101,_),(102,_),(103,_),(104,_)] ?_
   refine W.seq ?_
   refine W.dr [⟨[105], [105], [105], []⟩, pW 101, pX 101, pO, pO, ⟨[105, 106], [105, 106], [106], []⟩, pX 104, ⟨[107], [107], [107], []⟩, ⟨[106, 107, 108], [106, 108], [108], []⟩, pW 101, pX 101, pO, pO, ⟨[108, 109], [108, 109], [109], []⟩, pW 101, ⟨[101, 109], [101], [], []⟩] ?_
   refine WH.memS (O.buildSlice 105 rfl rfl u22 hi65 hz65 hs65 xI rfl xI rfl rfl rfl Taken.no) rfl rfl rfl rfl rfl (S' := (105, _) :: _) rfl ?_
   refine WH.v (O.fr 1 0 u25) ?_
   refine WH.v (O.l1 u22) ?_
   refine WH.o rfl ?_
   refine WH.v (O.sub_fz (j := (kpos (fun c : Cp => c.id) s.cps x.copy)) rfl Bnd.no (Bnd.at rfl yC) xN xS sub_hi u22 hi65 hs65 rfl Taken.no) ?_
   refine WH.memS (O.app (k' := 106) rfl rfl (SlOf.fz rfl xI) u22 hi65 hz65 hs65 rfl rfl (rfl) zU wT rfl Taken.no) rfl rfl rfl rfl rfl (S' := (106, _) :: (105, .dead) :: _) rfl ?_
   refine WH.v (O.n8 u65) ?_
   refine WH.memS (O.buildSlice 107 (rows := [eCp (newC x)]) rfl rfl u22 hi65 hz65 hs65 xI rfl xI rfl rfl rfl Taken.no) rfl rfl rfl rfl rfl (S' := (107, .data 65 8 ([eCp (newC x)])) :: _) rfl ?_
   refine WH.memS (O.app (k' := 108) rfl rfl (SlOf.own rfl rfl) u22 hi65 hz65 hs65 rfl rfl (rfl) zU wT rfl Taken.no) rfl rfl rfl rfl rfl (S' := (108, _) :: (106, .dead) :: _) rfl ?_
   refine WH.v (O.fr 1 0 u25) ?_
   refine WH.v (O.l1 u22) ?_
   refine WH.o rfl ?_
   refine WH.v (O.sub_fz (i := (kpos (fun c : Cp => c.id) s.cps x.copy)) rfl (Bnd.at rfl yC) Bnd.no xS yX sub_lo u22 hi65 hs65 rfl Taken.no) ?_
   refine WH.memS (O.app (k' := 109) rfl rfl (SlOf.fz rfl xI) u22 hi65 hz65 hs65 rfl rfl (by exact ins_rows (c := newC x)) zU wT rfl Taken.no) rfl rfl rfl rfl rfl (S' := (109, _) :: (108, .dead) :: _) rfl ?_
   refine WH.v (O.fr 1 0 u25) ?_
   refine WH.st1_3 101 ?_
   refine WH.nil (E.to (W.rg ?_))
   refine SL.freezeC 101 1 109 (is' := [_, _, _]) rfl rfl rfl rfl ?_
   refine SL.v (O.n3 u25) ?_
   refine SL.o ?_
   refine SL.cl [] [] (.agg [.u _, .u _, .u _]) _ (q := reffree_h (s := insC s x) (i := kpos (fun c : Cp => c.id) s.cps x.copy) (n := 60) xA xA hn hok xA)  (h := ?_)
   refine SL.st3_3 103 ?_
   refine SL.a (E.fo (W.ret ?_))
   refine E.j2 [] rfl (ResOne.c3 u25) (ResOne.tmp rfl) ?_
   ·rw [(add_e0 (s := s) (x := x)  ha0 ha1 hx ha4).1, (add_e0 (s := s) (x := x)  ha0 ha1 hx ha4).2]; rfl
  have hg6p := gP hg6
  have hkp : k = kpos (fun c : Cp => c.id) s.cps x.copy := kpos_eq (key := fun c : Cp => c.id) hid xA hlo (fun j h1 h2 => by omega)
  refine WH.k hg6 (WH.k hg6 (WH.k hg6 (WH.k hg6 (WH.k hg6 (WH.k hg6 (WH.k hg6 (WH.k hg6 (WH.k hg6 ?_))))))))
  refine WH.v (O.pf (G.ne_t hg6)) ?_
  refine WH.nil (E.to ?_)
  refine W.cond_f rfl ?_
  refine W.exit (E.th (E.th (E.hit (E.to (W.rg ?_)))))
  subst hkp
  have hkl := kpos_le (key := fun c : Cp => c.id) s.cps x.copy
  have hil := ins_len (s := s) (x := x)
  refine SL.v (O.fr 1 0 u27) ?_
  refine SL.v (O.l1 u3) ?_
  refine SL.v (O.fr 2 0 u27) ?_
  refine SL.v (O.l1 u3) ?_
  refine SL.v (O.fr 7 0 u27) ?_
  refine SL.v (O.l1 u9) ?_
  refine SL.v (O.bd2 u65) ?_
  refine SL.al3 110 ?_
  refine SL.st8_8 110 ?_
  refine E.fo ?_
  refine W.pk [(2,_),(4,_),(5,_),(6,_),(7,_)] [(101,_),(102,_),(103,_),(110,_)] ?_
  refine W.seq ?_
  refine W.dr [⟨[111], [111], [111], []⟩, pW 101, pX 101, pO, pO, ⟨[111, 112], [111, 112], [112], []⟩, pX 110, ⟨[113], [113], [113], []⟩, ⟨[112, 113, 114], [112, 114], [114], []⟩, pW 101, pX 101, pO, pO, ⟨[114, 115], [114, 115], [115], []⟩, pW 101, ⟨[101, 115], [101], [], []⟩] ?_
  refine WH.memS (O.buildSlice 111 rfl rfl u22 hi65 hz65 hs65 xI rfl xI rfl rfl rfl Taken.no) rfl rfl rfl rfl rfl (S' := (111, _) :: _) rfl ?_
  refine WH.v (O.fr 1 0 u25) ?_
  refine WH.v (O.l1 u22) ?_
  refine WH.o rfl ?_
  refine WH.v (O.sub_fz (j := (kpos (fun c : Cp => c.id) s.cps x.copy)) rfl Bnd.no (Bnd.at rfl yC) xN xS sub_hi u22 hi65 hs65 rfl Taken.no) ?_
  refine WH.memS (O.app (k' := 112) rfl rfl (SlOf.fz rfl xI) u22 hi65 hz65 hs65 rfl rfl (rfl) zU wT rfl Taken.no) rfl rfl rfl rfl rfl (S' := (112, _) :: (111, .dead) :: _) rfl ?_
  refine WH.v (O.n8 u65) ?_
  refine WH.memS (O.buildSlice 113 (rows := [eCp (newC x)]) rfl rfl u22 hi65 hz65 hs65 xI rfl xI rfl rfl rfl Taken.no) rfl rfl rfl rfl rfl (S' := (113, .data 65 8 ([eCp (newC x)])) :: _) rfl ?_
  refine WH.memS (O.app (k' := 114) rfl rfl (SlOf.own rfl rfl) u22 hi65 hz65 hs65 rfl rfl (rfl) zU wT rfl Taken.no) rfl rfl rfl rfl rfl (S' := (114, _) :: (112, .dead) :: _) rfl ?_
  refine WH.v (O.fr 1 0 u25) ?_
  refine WH.v (O.l1 u22) ?_
  refine WH.o rfl ?_
  refine WH.v (O.sub_fz (i := (kpos (fun c : Cp => c.id) s.cps x.copy)) rfl (Bnd.at rfl yC) Bnd.no xS yX sub_lo u22 hi65 hs65 rfl Taken.no) ?_
  refine WH.memS (O.app (k' := 115) rfl rfl (SlOf.fz rfl xI) u22 hi65 hz65 hs65 rfl rfl (by exact ins_rows (c := newC x)) zU wT rfl Taken.no) rfl rfl rfl rfl rfl (S' := (115, _) :: (114, .dead) :: _) rfl ?_
  refine WH.v (O.fr 1 0 u25) ?_
  refine WH.st1_3 101 ?_
  refine WH.nil (E.to (W.rg ?_))
  refine SL.freezeC 101 1 115 (is' := [_, _, _]) rfl rfl rfl rfl ?_
  refine SL.v (O.n3 u25) ?_
  refine SL.o ?_
  refine SL.cl [] [] (.agg [.u _, .u _, .u _]) _ (q := reffree_h (s := insC s x) (i := kpos (fun c : Cp => c.id) s.cps x.copy) (n := 60) xA xA hn hok xA)  (h := ?_)
  refine SL.st3_3 103 ?_
  refine SL.a (E.fo (W.ret ?_))
  refine E.j2 [] rfl (ResOne.c3 u25) (ResOne.tmp rfl) ?_
  ·rw [(add_e0 (s := s) (x := x)  ha0 ha1 hx ha4).1, (add_e0 (s := s) (x := x)  ha0 ha1 hx ha4).2]; rfl
 have hg1p := gP hg1
 have ha0 : ¬ (idB x.copy ∧ idB x.work) := by intro z; simp_all
 refine SL.k hg1 (SL.k hg1 (SL.k hg1 (SL.k hg1 ?_)))
 refine SL.v (O.pt (G.ne_f hg1)) ?_
 refine SL.a (E.fo ?_)
 refine W.cond_t rfl ?_
 refine W.rg ?_
 refine SL.v (O.n3 u25) ?_
 refine SL.st3_3 103 ?_
 refine SL.a (E.fo (W.ret ?_))
 refine E.inr ?_
 refine E.thr ?_
 refine E.j2 [] rfl (ResOne.c3 u25) (ResOne.tmp rfl) ?_
 ·rw [(add_e2 (s := s) (x := x)  ha0).1, (add_e2 (s := s) (x := x)  ha0).2]; rfl

set_option maxRecDepth 8000 in
theorem reflend_h {s : St} {x : Sp} (hv : validS s) :
    Con Tryz.prog 41 [vA [uI s.now, .sl 8 (s.cps.map eCp), .sl 2 (s.lns.map eLn)], vA (eSp x)] [] (.tup [.agg [vI (lenS s x).now, vL 8 ((lenS s x).cps.map eCp), vL 2 ((lenS s x).lns.map eLn)], vI (lenE s x)]) [] := by
 have hn := hv.1
 unfold inB at hn
 have hcl := hv.2.1
 have hok := valid_ok hv
 have hid := valid_asc hv
 have hbb3 := valid_b hv
 obtain ⟨i65, hi65, hz65, hs65, hb65⟩ := hinf65
 refine Con.en 84 Tryz.func41 fun τ w ok vs hin => ?_
 have hl0_1 := hin.lenA (i := 0) (j := 1) rfl rfl
 try rw [List.length_map] at hl0_1
 have hl0_2 := hin.lenA (i := 0) (j := 2) rfl rfl
 try rw [List.length_map] at hl0_2
 clear hin
 refine W.rg ?_
 refine SL.bx3 101 ?_
 refine SL.bx8 102 ?_
 refine SL.al9 103 ?_
 refine SL.a (E.fo (W.rg ?_))
 refine SL.v (O.n3 u25) ?_
 refine SL.v (O.fr 1 0 u27) ?_
 refine SL.v (O.l1 u3) ?_
 refine SL.v (O.cp (q := reffind_h (s := s) (i := x.copy))) ?_
 refine SL.a (E.fo (W.seq (W.block (W.rg ?_))))
 refine SL.v (O.fr 3 0 u27) ?_
 refine SL.v (O.l1 u3) ?_
 refine SL.v (O.cp (q := refid_h (n := x.pat))) ?_
 refine SL.v (O.nt) ?_
 refine SL.a (E.fo ?_)
 refine W.cc rfl (fun hc1 => ?_) fun hc1 => ?_
 ·have hb : ¬ idB x.pat := by first | assumption | simp_all
  refine W.rg ?_
  refine SL.v (O.n3 u25) ?_
  refine SL.st3_3 103 ?_
  refine SL.a (E.fo (W.ret ?_))
  refine E.inr ?_
  refine E.thr ?_
  refine E.j2 [] rfl (ResOne.c3 u25) (ResOne.tmp rfl) ?_
  ·rw [(len_e2 (s := s) (x := x)  hb).1, (len_e2 (s := s) (x := x)  hb).2]; rfl
 have hb : ¬ (¬ idB x.pat) := by first | assumption | simp_all
 refine W.rg (SL.o ?_)
 refine SL.v (O.lss) ?_
 refine SL.a (E.fo ?_)
 refine W.cc rfl (fun hc2 => ?_) fun hc2 => ?_
 ·have hx : ¬ 0 ≤ cpI s x.copy := by omega
  refine W.rg ?_
  refine SL.v (O.n3 u25) ?_
  refine SL.st3_3 103 ?_
  refine SL.a (E.fo (W.ret ?_))
  refine E.inr ?_
  refine E.thr ?_
  refine E.j2 [] rfl (ResOne.c3 u25) (ResOne.tmp rfl) ?_
  ·rw [(len_e9 (s := s) (x := x)  hb hx).1, (len_e9 (s := s) (x := x)  hb hx).2]; rfl
 have hx : ¬ (¬ 0 ≤ cpI s x.copy) := by omega
 refine W.skip (E.inn (E.to (W.rg ?_)))
 have hi : (cpI s x.copy).toNat < s.cps.length := (cpI_mem (Decidable.not_not.1 hx)).2.2
 refine SL.as (i' := vI (((cpI s x.copy).toNat : Nat) : Int)) 6 rfl (by exact iv_int xA) ?_
 refine SL.v (O.fr 1 0 u25) ?_
 refine SL.v (O.l1 u22) ?_
 refine SL.o ?_
 refine SL.v (O.idx_fz (i := (cpI s x.copy).toNat) rfl rfl xA (row_get xA) u22 hi65 hs65 rfl Taken.no) ?_
 refine SL.v (O.lU 8 u65) ?_
 refine SL.al3 104 ?_
 refine SL.st8_8 104 ?_
 refine E.fo ?_
 refine W.pk [(2,_),(3,_),(4,_),(5,_),(6,_),(7,_)] [(101,_),(102,_),(103,_),(104,_)] ?_
 refine W.seq (W.block (W.rg ?_))
 refine SL.v (O.fr 3 0 u65) ?_
 refine SL.v (O.l1 u3) ?_
 refine SL.v (O.eql) ?_
 refine SL.o ?_
 refine SL.cs 3 false (fun hg3 => ?_) fun hg3 => ?_
 ·have hg3p := gP hg3
  refine SL.v (O.fr 3 0 u65 (tY hg3)) ?_
  refine SL.v (O.l1 u3 (tY hg3)) ?_
  refine SL.v (O.eql (tY hg3)) ?_
  refine SL.v (O.mo (tY hg3)) ?_
  refine SL.cs 7 true (fun hg4 => ?_) fun hg4 => ?_
  ·have hg4p := gP hg4
   refine SL.v (O.fr 4 0 u65 (tY hg4)) ?_
   refine SL.v (O.l1 u3 (tY hg4)) ?_
   refine SL.v (O.fr 3 0 u27 (tY hg4)) ?_
   refine SL.v (O.l1 u3 (tY hg4)) ?_
   refine SL.v (O.neq (tY hg4)) ?_
   refine SL.v (O.pt hg4 (tY hg3)) ?_
   refine SL.v (O.pf hg3) ?_
   refine SL.a (E.fo ?_)
   refine W.cc rfl (fun hc5 => ?_) fun hc5 => ?_
   ·have hbb : (atC s x.copy).place = 2 ∨ ((atC s x.copy).place = 3 ∧ (atC s x.copy).pat ≠ x.pat) := by show s.cps[(cpI s x.copy).toNat]!.place = 2 ∨ (s.cps[(cpI s x.copy).toNat]!.place = 3 ∧ s.cps[(cpI s x.copy).toNat]!.pat ≠ x.pat); first | omega | simp_all
    refine W.rg ?_
    refine SL.v (O.n3 u25) ?_
    refine SL.st3_3 103 ?_
    refine SL.a (E.fo (W.ret ?_))
    refine E.inr ?_
    refine E.thr ?_
    refine E.j2 [] rfl (ResOne.c3 u25) (ResOne.tmp rfl) ?_
    ·rw [(len_e26 (s := s) (x := x)  hb hx hbb).1, (len_e26 (s := s) (x := x)  hb hx hbb).2]; rfl
   have hbb : ¬ ((atC s x.copy).place = 2 ∨ ((atC s x.copy).place = 3 ∧ (atC s x.copy).pat ≠ x.pat)) := by show ¬ (s.cps[(cpI s x.copy).toNat]!.place = 2 ∨ (s.cps[(cpI s x.copy).toNat]!.place = 3 ∧ s.cps[(cpI s x.copy).toNat]!.pat ≠ x.pat)); first | omega | simp_all
   refine W.rg ?_
   refine SL.v (O.fr 3 0 u65) ?_
   refine SL.v (O.l1 u3) ?_
   refine SL.v (O.eql) ?_
   refine SL.o ?_
   refine SL.cs 3 true (fun hg6 => ?_) fun hg6 => ?_
   ·have hg6p := gP hg6
    refine SL.v (O.n3 u25 (tY hg6)) ?_
    refine SL.v (O.fr 1 0 u65 (tY hg6)) ?_
    refine SL.v (O.l1 u3 (tY hg6)) ?_
    refine SL.v (O.fr 3 0 u27 (tY hg6)) ?_
    refine SL.v (O.l1 u3 (tY hg6)) ?_
    refine SL.v (O.cp (q := has_h (s := s) (wk := s.cps[(cpI s x.copy).toNat]!.work) (p := x.pat)) (hg := (tY hg6))) ?_
    refine SL.as (i' := vB (decide (0 ≤ ownI s x.pat s.cps[(cpI s x.copy).toNat]!.work))) 54 rfl yT ?_
    refine SL.v (O.pt hg6) ?_
    refine SL.a (E.fo ?_)
    refine W.pk [(2,_),(3,_),(4,_),(5,_),(6,_),(7,_),(44,_)] [(101,_),(102,_),(103,_),(104,_)] ?_
    refine W.cc rfl (fun hc7 => ?_) fun hc7 => ?_
    ·have hbe : (atC s x.copy).place = 1 ∧ 0 ≤ ownI s x.pat (atC s x.copy).work := by show s.cps[(cpI s x.copy).toNat]!.place = 1 ∧ 0 ≤ ownI s x.pat s.cps[(cpI s x.copy).toNat]!.work; first | simp_all | omega
     refine W.rg ?_
     refine SL.v (O.n3 u25) ?_
     refine SL.st3_3 103 ?_
     refine SL.a (E.fo (W.ret ?_))
     refine E.inr ?_
     refine E.thr ?_
     refine E.j2 [] rfl (ResOne.c3 u25) (ResOne.tmp rfl) ?_
     ·rw [(len_e10 (s := s) (x := x)  hb hx hbb hbe).1, (len_e10 (s := s) (x := x)  hb hx hbb hbe).2]; rfl
    have hbe : ¬ ((atC s x.copy).place = 1 ∧ 0 ≤ ownI s x.pat (atC s x.copy).work) := by show ¬ (s.cps[(cpI s x.copy).toNat]!.place = 1 ∧ 0 ≤ ownI s x.pat s.cps[(cpI s x.copy).toNat]!.work); first | (rintro ⟨z1, z2⟩; first | omega | (simp_all; done) | (simp_all; omega)) | simp_all
    refine W.rg ?_
    refine SL.v (O.n3 u25) ?_
    refine SL.v (O.fr 3 0 u27) ?_
    refine SL.v (O.l1 u3) ?_
    refine SL.v (O.cp (q := Con.fz (refLoans_h (s := s) (i := x.pat) xA) rfl rfl)) ?_
    refine SL.v (O.le u61) ?_
    refine SL.v (O.geq) ?_
    refine SL.a (E.fo ?_)
    refine W.cc rfl (fun hc8 => ?_) fun hc8 => ?_
    ·have hb5 : 5 ≤ (idsF (fun c => decide (c.place = 2 ∧ c.pat = x.pat)) s.cps).length := by omega
     refine W.rg ?_
     refine SL.v (O.n3 u25) ?_
     refine SL.st3_3 103 ?_
     refine SL.a (E.fo (W.ret ?_))
     refine E.inr ?_
     refine E.thr ?_
     refine E.j2 [] rfl (ResOne.c3 u25) (ResOne.tmp rfl) ?_
     ·rw [(len_e3 (s := s) (x := x)  hb hx hbb hbe hb5).1, (len_e3 (s := s) (x := x)  hb hx hbb hbe hb5).2]; rfl
    have hb5 : ¬ (5 ≤ (idsF (fun c => decide (c.place = 2 ∧ c.pat = x.pat)) s.cps).length) := by omega
    refine W.rg ?_
    refine SL.v (O.fr 0 0 u25) ?_
    refine SL.v (O.l1 u3) ?_
    refine SL.v (O.ad) ?_
    refine SL.v (O.gtr) ?_
    refine SL.a (E.fo ?_)
    refine W.cc rfl (fun hc9 => ?_) fun hc9 => ?_
    ·have hbd : 1000000 < s.now + 28 := by omega
     refine W.rg ?_
     refine SL.v (O.n3 u25) ?_
     refine SL.st3_3 103 ?_
     refine SL.a (E.fo (W.ret ?_))
     refine E.inr ?_
     refine E.thr ?_
     refine E.j2 [] rfl (ResOne.c3 u25) (ResOne.tmp rfl) ?_
     ·rw [(len_e25 (s := s) (x := x)  hb hx hbb hbe hb5 hbd).1, (len_e25 (s := s) (x := x)  hb hx hbb hbe hb5 hbd).2]; rfl
    have hbd : ¬ (1000000 < s.now + 28) := by omega
    refine W.skip (E.inn (E.to (W.seq ?_)))
    refine W.dr [pW 102, pX 102, pW 101, pX 101, pO, pW 104, ⟨[104], [104], [], []⟩, pW 104, ⟨[104], [104], [], []⟩, pW 104, ⟨[104], [104], [], []⟩, pW 104, ⟨[104], [104], [], []⟩] ?_
    have hil := ids_le (fun c => decide (c.place = 2 ∧ c.pat = x.pat)) s.cps s.cps.length
    have hrc : s.cps[(cpI s x.copy).toNat]!.rc = false := rc_no hv (at_mem hi) (fun z => hbb (.inl z))
    have hlc : (⟨s.cps[(cpI s x.copy).toNat]!.id, s.cps[(cpI s x.copy).toNat]!.work, s.cps[(cpI s x.copy).toNat]!.lib, 2, x.pat, s.now + 28, 0, s.cps[(cpI s x.copy).toNat]!.rc⟩ : Cp) = lentC (atC s x.copy) x.pat s.now := by rw [hrc]; rfl
    refine WH.v (O.fr 3 0 u27) ?_
    refine WH.v (O.l1 u3) ?_
    refine WH.v (O.fr 0 0 u25) ?_
    refine WH.v (O.l1 u3) ?_
    refine WH.v (O.ad) ?_
    refine WH.v (O.fr 3 0 u65) ?_
    refine WH.st1_8 104 ?_
    refine WH.v (O.fr 4 0 u65) ?_
    refine WH.st1_8 104 ?_
    refine WH.v (O.fr 5 0 u65) ?_
    refine WH.st1_8 104 ?_
    refine WH.v (O.fr 6 0 u65) ?_
    refine WH.st1_8 104 ?_
    refine WH.nil (E.to ?_)
    refine W.pk [(2,_),(4,_),(5,_),(6,_),(7,_)] [(101,_),(102,_),(103,_),(104,_)] ?_
    refine W.rg ?_
    refine SL.v (O.n3 u25) ?_
    refine SL.o ?_
    refine SL.v (O.n8 u65) ?_
    refine SL.cl [] [] (.agg [.u _, .u _, .u _]) _ (q := refset_h (s := s) (i := (cpI s x.copy).toNat) (c := (⟨s.cps[(cpI s x.copy).toNat]!.id, s.cps[(cpI s x.copy).toNat]!.work, s.cps[(cpI s x.copy).toNat]!.lib, 2, x.pat, s.now + 28, 0, s.cps[(cpI s x.copy).toNat]!.rc⟩ : Cp)) xA xA)  (h := ?_)
    refine SL.st3_3 103 ?_
    refine SL.a (E.fo (W.ret ?_))
    refine E.j2 [] rfl (ResOne.c3 u25) (ResOne.tmp rfl) ?_
    ·rw [(len_e0 (s := s) (x := x)  hb hx hbb hbe hb5 hbd).1, (len_e0 (s := s) (x := x)  hb hx hbb hbe hb5 hbd).2, ← hlc]; rfl
   have hg6p := gP hg6
   have hbe : ¬ ((atC s x.copy).place = 1 ∧ 0 ≤ ownI s x.pat (atC s x.copy).work) := fun z => absurd z.1 (by show ¬ s.cps[(cpI s x.copy).toNat]!.place = 1; first | assumption | omega)
   refine SL.k hg6 (SL.k hg6 (SL.k hg6 (SL.k hg6 (SL.k hg6 (SL.k hg6 ?_)))))
   refine SL.v (O.pf (G.ne_t hg6)) ?_
   refine SL.a (E.fo ?_)
   refine W.pk [(2,_),(3,_),(4,_),(5,_),(6,_),(7,_),(44,_)] [(101,_),(102,_),(103,_),(104,_)] ?_
   refine W.cond_f rfl ?_
   refine W.rg ?_
   refine SL.v (O.n3 u25) ?_
   refine SL.v (O.fr 3 0 u27) ?_
   refine SL.v (O.l1 u3) ?_
   refine SL.v (O.cp (q := Con.fz (refLoans_h (s := s) (i := x.pat) xA) rfl rfl)) ?_
   refine SL.v (O.le u61) ?_
   refine SL.v (O.geq) ?_
   refine SL.a (E.fo ?_)
   refine W.cc rfl (fun hc10 => ?_) fun hc10 => ?_
   ·have hb5 : 5 ≤ (idsF (fun c => decide (c.place = 2 ∧ c.pat = x.pat)) s.cps).length := by omega
    refine W.rg ?_
    refine SL.v (O.n3 u25) ?_
    refine SL.st3_3 103 ?_
    refine SL.a (E.fo (W.ret ?_))
    refine E.inr ?_
    refine E.thr ?_
    refine E.j2 [] rfl (ResOne.c3 u25) (ResOne.tmp rfl) ?_
    ·rw [(len_e3 (s := s) (x := x)  hb hx hbb hbe hb5).1, (len_e3 (s := s) (x := x)  hb hx hbb hbe hb5).2]; rfl
   have hb5 : ¬ (5 ≤ (idsF (fun c => decide (c.place = 2 ∧ c.pat = x.pat)) s.cps).length) := by omega
   refine W.rg ?_
   refine SL.v (O.fr 0 0 u25) ?_
   refine SL.v (O.l1 u3) ?_
   refine SL.v (O.ad) ?_
   refine SL.v (O.gtr) ?_
   refine SL.a (E.fo ?_)
   refine W.cc rfl (fun hc11 => ?_) fun hc11 => ?_
   ·have hbd : 1000000 < s.now + 28 := by omega
    refine W.rg ?_
    refine SL.v (O.n3 u25) ?_
    refine SL.st3_3 103 ?_
    refine SL.a (E.fo (W.ret ?_))
    refine E.inr ?_
    refine E.thr ?_
    refine E.j2 [] rfl (ResOne.c3 u25) (ResOne.tmp rfl) ?_
    ·rw [(len_e25 (s := s) (x := x)  hb hx hbb hbe hb5 hbd).1, (len_e25 (s := s) (x := x)  hb hx hbb hbe hb5 hbd).2]; rfl
   have hbd : ¬ (1000000 < s.now + 28) := by omega
   refine W.skip (E.inn (E.to (W.seq ?_)))
   refine W.dr [pW 102, pX 102, pW 101, pX 101, pO, pW 104, ⟨[104], [104], [], []⟩, pW 104, ⟨[104], [104], [], []⟩, pW 104, ⟨[104], [104], [], []⟩, pW 104, ⟨[104], [104], [], []⟩] ?_
   have hil := ids_le (fun c => decide (c.place = 2 ∧ c.pat = x.pat)) s.cps s.cps.length
   have hrc : s.cps[(cpI s x.copy).toNat]!.rc = false := rc_no hv (at_mem hi) (fun z => hbb (.inl z))
   have hlc : (⟨s.cps[(cpI s x.copy).toNat]!.id, s.cps[(cpI s x.copy).toNat]!.work, s.cps[(cpI s x.copy).toNat]!.lib, 2, x.pat, s.now + 28, 0, s.cps[(cpI s x.copy).toNat]!.rc⟩ : Cp) = lentC (atC s x.copy) x.pat s.now := by rw [hrc]; rfl
   refine WH.v (O.fr 3 0 u27) ?_
   refine WH.v (O.l1 u3) ?_
   refine WH.v (O.fr 0 0 u25) ?_
   refine WH.v (O.l1 u3) ?_
   refine WH.v (O.ad) ?_
   refine WH.v (O.fr 3 0 u65) ?_
   refine WH.st1_8 104 ?_
   refine WH.v (O.fr 4 0 u65) ?_
   refine WH.st1_8 104 ?_
   refine WH.v (O.fr 5 0 u65) ?_
   refine WH.st1_8 104 ?_
   refine WH.v (O.fr 6 0 u65) ?_
   refine WH.st1_8 104 ?_
   refine WH.nil (E.to ?_)
   refine W.pk [(2,_),(4,_),(5,_),(6,_),(7,_)] [(101,_),(102,_),(103,_),(104,_)] ?_
   refine W.rg ?_
   refine SL.v (O.n3 u25) ?_
   refine SL.o ?_
   refine SL.v (O.n8 u65) ?_
   refine SL.cl [] [] (.agg [.u _, .u _, .u _]) _ (q := refset_h (s := s) (i := (cpI s x.copy).toNat) (c := (⟨s.cps[(cpI s x.copy).toNat]!.id, s.cps[(cpI s x.copy).toNat]!.work, s.cps[(cpI s x.copy).toNat]!.lib, 2, x.pat, s.now + 28, 0, s.cps[(cpI s x.copy).toNat]!.rc⟩ : Cp)) xA xA)  (h := ?_)
   refine SL.st3_3 103 ?_
   refine SL.a (E.fo (W.ret ?_))
   refine E.j2 [] rfl (ResOne.c3 u25) (ResOne.tmp rfl) ?_
   ·rw [(len_e0 (s := s) (x := x)  hb hx hbb hbe hb5 hbd).1, (len_e0 (s := s) (x := x)  hb hx hbb hbe hb5 hbd).2, ← hlc]; rfl
  have hg4p := gP hg4
  have hbb : ¬ ((atC s x.copy).place = 2 ∨ ((atC s x.copy).place = 3 ∧ (atC s x.copy).pat ≠ x.pat)) := by show ¬ (s.cps[(cpI s x.copy).toNat]!.place = 2 ∨ (s.cps[(cpI s x.copy).toNat]!.place = 3 ∧ s.cps[(cpI s x.copy).toNat]!.pat ≠ x.pat)); rintro (z | ⟨z, _⟩) <;> omega
  refine SL.k hg4 (SL.k hg4 (SL.k hg4 (SL.k hg4 (SL.k hg4 ?_))))
  refine SL.v (O.pf (G.ne_t hg4) (tY hg3)) ?_
  refine SL.v (O.pf hg3) ?_
  refine SL.a (E.fo ?_)
  refine W.cond_f rfl ?_
  refine W.rg ?_
  refine SL.v (O.fr 3 0 u65) ?_
  refine SL.v (O.l1 u3) ?_
  refine SL.v (O.eql) ?_
  refine SL.o ?_
  refine SL.cs 3 true (fun hg12 => ?_) fun hg12 => ?_
  ·have hg12p := gP hg12
   refine SL.v (O.n3 u25 (tY hg12)) ?_
   refine SL.v (O.fr 1 0 u65 (tY hg12)) ?_
   refine SL.v (O.l1 u3 (tY hg12)) ?_
   refine SL.v (O.fr 3 0 u27 (tY hg12)) ?_
   refine SL.v (O.l1 u3 (tY hg12)) ?_
   refine SL.v (O.cp (q := has_h (s := s) (wk := s.cps[(cpI s x.copy).toNat]!.work) (p := x.pat)) (hg := (tY hg12))) ?_
   refine SL.as (i' := vB (decide (0 ≤ ownI s x.pat s.cps[(cpI s x.copy).toNat]!.work))) 54 rfl yT ?_
   refine SL.v (O.pt hg12) ?_
   refine SL.a (E.fo ?_)
   refine W.pk [(2,_),(3,_),(4,_),(5,_),(6,_),(7,_),(44,_)] [(101,_),(102,_),(103,_),(104,_)] ?_
   refine W.cc rfl (fun hc13 => ?_) fun hc13 => ?_
   ·have hbe : (atC s x.copy).place = 1 ∧ 0 ≤ ownI s x.pat (atC s x.copy).work := by show s.cps[(cpI s x.copy).toNat]!.place = 1 ∧ 0 ≤ ownI s x.pat s.cps[(cpI s x.copy).toNat]!.work; first | simp_all | omega
    refine W.rg ?_
    refine SL.v (O.n3 u25) ?_
    refine SL.st3_3 103 ?_
    refine SL.a (E.fo (W.ret ?_))
    refine E.inr ?_
    refine E.thr ?_
    refine E.j2 [] rfl (ResOne.c3 u25) (ResOne.tmp rfl) ?_
    ·rw [(len_e10 (s := s) (x := x)  hb hx hbb hbe).1, (len_e10 (s := s) (x := x)  hb hx hbb hbe).2]; rfl
   have hbe : ¬ ((atC s x.copy).place = 1 ∧ 0 ≤ ownI s x.pat (atC s x.copy).work) := by show ¬ (s.cps[(cpI s x.copy).toNat]!.place = 1 ∧ 0 ≤ ownI s x.pat s.cps[(cpI s x.copy).toNat]!.work); first | (rintro ⟨z1, z2⟩; first | omega | (simp_all; done) | (simp_all; omega)) | simp_all
   refine W.rg ?_
   refine SL.v (O.n3 u25) ?_
   refine SL.v (O.fr 3 0 u27) ?_
   refine SL.v (O.l1 u3) ?_
   refine SL.v (O.cp (q := Con.fz (refLoans_h (s := s) (i := x.pat) xA) rfl rfl)) ?_
   refine SL.v (O.le u61) ?_
   refine SL.v (O.geq) ?_
   refine SL.a (E.fo ?_)
   refine W.cc rfl (fun hc14 => ?_) fun hc14 => ?_
   ·have hb5 : 5 ≤ (idsF (fun c => decide (c.place = 2 ∧ c.pat = x.pat)) s.cps).length := by omega
    refine W.rg ?_
    refine SL.v (O.n3 u25) ?_
    refine SL.st3_3 103 ?_
    refine SL.a (E.fo (W.ret ?_))
    refine E.inr ?_
    refine E.thr ?_
    refine E.j2 [] rfl (ResOne.c3 u25) (ResOne.tmp rfl) ?_
    ·rw [(len_e3 (s := s) (x := x)  hb hx hbb hbe hb5).1, (len_e3 (s := s) (x := x)  hb hx hbb hbe hb5).2]; rfl
   have hb5 : ¬ (5 ≤ (idsF (fun c => decide (c.place = 2 ∧ c.pat = x.pat)) s.cps).length) := by omega
   refine W.rg ?_
   refine SL.v (O.fr 0 0 u25) ?_
   refine SL.v (O.l1 u3) ?_
   refine SL.v (O.ad) ?_
   refine SL.v (O.gtr) ?_
   refine SL.a (E.fo ?_)
   refine W.cc rfl (fun hc15 => ?_) fun hc15 => ?_
   ·have hbd : 1000000 < s.now + 28 := by omega
    refine W.rg ?_
    refine SL.v (O.n3 u25) ?_
    refine SL.st3_3 103 ?_
    refine SL.a (E.fo (W.ret ?_))
    refine E.inr ?_
    refine E.thr ?_
    refine E.j2 [] rfl (ResOne.c3 u25) (ResOne.tmp rfl) ?_
    ·rw [(len_e25 (s := s) (x := x)  hb hx hbb hbe hb5 hbd).1, (len_e25 (s := s) (x := x)  hb hx hbb hbe hb5 hbd).2]; rfl
   have hbd : ¬ (1000000 < s.now + 28) := by omega
   refine W.skip (E.inn (E.to (W.seq ?_)))
   refine W.dr [pW 102, pX 102, pW 101, pX 101, pO, pW 104, ⟨[104], [104], [], []⟩, pW 104, ⟨[104], [104], [], []⟩, pW 104, ⟨[104], [104], [], []⟩, pW 104, ⟨[104], [104], [], []⟩] ?_
   have hil := ids_le (fun c => decide (c.place = 2 ∧ c.pat = x.pat)) s.cps s.cps.length
   have hrc : s.cps[(cpI s x.copy).toNat]!.rc = false := rc_no hv (at_mem hi) (fun z => hbb (.inl z))
   have hlc : (⟨s.cps[(cpI s x.copy).toNat]!.id, s.cps[(cpI s x.copy).toNat]!.work, s.cps[(cpI s x.copy).toNat]!.lib, 2, x.pat, s.now + 28, 0, s.cps[(cpI s x.copy).toNat]!.rc⟩ : Cp) = lentC (atC s x.copy) x.pat s.now := by rw [hrc]; rfl
   refine WH.v (O.fr 3 0 u27) ?_
   refine WH.v (O.l1 u3) ?_
   refine WH.v (O.fr 0 0 u25) ?_
   refine WH.v (O.l1 u3) ?_
   refine WH.v (O.ad) ?_
   refine WH.v (O.fr 3 0 u65) ?_
   refine WH.st1_8 104 ?_
   refine WH.v (O.fr 4 0 u65) ?_
   refine WH.st1_8 104 ?_
   refine WH.v (O.fr 5 0 u65) ?_
   refine WH.st1_8 104 ?_
   refine WH.v (O.fr 6 0 u65) ?_
   refine WH.st1_8 104 ?_
   refine WH.nil (E.to ?_)
   refine W.pk [(2,_),(4,_),(5,_),(6,_),(7,_)] [(101,_),(102,_),(103,_),(104,_)] ?_
   refine W.rg ?_
   refine SL.v (O.n3 u25) ?_
   refine SL.o ?_
   refine SL.v (O.n8 u65) ?_
   refine SL.cl [] [] (.agg [.u _, .u _, .u _]) _ (q := refset_h (s := s) (i := (cpI s x.copy).toNat) (c := (⟨s.cps[(cpI s x.copy).toNat]!.id, s.cps[(cpI s x.copy).toNat]!.work, s.cps[(cpI s x.copy).toNat]!.lib, 2, x.pat, s.now + 28, 0, s.cps[(cpI s x.copy).toNat]!.rc⟩ : Cp)) xA xA)  (h := ?_)
   refine SL.st3_3 103 ?_
   refine SL.a (E.fo (W.ret ?_))
   refine E.j2 [] rfl (ResOne.c3 u25) (ResOne.tmp rfl) ?_
   ·rw [(len_e0 (s := s) (x := x)  hb hx hbb hbe hb5 hbd).1, (len_e0 (s := s) (x := x)  hb hx hbb hbe hb5 hbd).2, ← hlc]; rfl
  have hg12p := gP hg12
  have hbe : ¬ ((atC s x.copy).place = 1 ∧ 0 ≤ ownI s x.pat (atC s x.copy).work) := fun z => absurd z.1 (by show ¬ s.cps[(cpI s x.copy).toNat]!.place = 1; first | assumption | omega)
  refine SL.k hg12 (SL.k hg12 (SL.k hg12 (SL.k hg12 (SL.k hg12 (SL.k hg12 ?_)))))
  refine SL.v (O.pf (G.ne_t hg12)) ?_
  refine SL.a (E.fo ?_)
  refine W.pk [(2,_),(3,_),(4,_),(5,_),(6,_),(7,_),(44,_)] [(101,_),(102,_),(103,_),(104,_)] ?_
  refine W.cond_f rfl ?_
  refine W.rg ?_
  refine SL.v (O.n3 u25) ?_
  refine SL.v (O.fr 3 0 u27) ?_
  refine SL.v (O.l1 u3) ?_
  refine SL.v (O.cp (q := Con.fz (refLoans_h (s := s) (i := x.pat) xA) rfl rfl)) ?_
  refine SL.v (O.le u61) ?_
  refine SL.v (O.geq) ?_
  refine SL.a (E.fo ?_)
  refine W.cc rfl (fun hc16 => ?_) fun hc16 => ?_
  ·have hb5 : 5 ≤ (idsF (fun c => decide (c.place = 2 ∧ c.pat = x.pat)) s.cps).length := by omega
   refine W.rg ?_
   refine SL.v (O.n3 u25) ?_
   refine SL.st3_3 103 ?_
   refine SL.a (E.fo (W.ret ?_))
   refine E.inr ?_
   refine E.thr ?_
   refine E.j2 [] rfl (ResOne.c3 u25) (ResOne.tmp rfl) ?_
   ·rw [(len_e3 (s := s) (x := x)  hb hx hbb hbe hb5).1, (len_e3 (s := s) (x := x)  hb hx hbb hbe hb5).2]; rfl
  have hb5 : ¬ (5 ≤ (idsF (fun c => decide (c.place = 2 ∧ c.pat = x.pat)) s.cps).length) := by omega
  refine W.rg ?_
  refine SL.v (O.fr 0 0 u25) ?_
  refine SL.v (O.l1 u3) ?_
  refine SL.v (O.ad) ?_
  refine SL.v (O.gtr) ?_
  refine SL.a (E.fo ?_)
  refine W.cc rfl (fun hc17 => ?_) fun hc17 => ?_
  ·have hbd : 1000000 < s.now + 28 := by omega
   refine W.rg ?_
   refine SL.v (O.n3 u25) ?_
   refine SL.st3_3 103 ?_
   refine SL.a (E.fo (W.ret ?_))
   refine E.inr ?_
   refine E.thr ?_
   refine E.j2 [] rfl (ResOne.c3 u25) (ResOne.tmp rfl) ?_
   ·rw [(len_e25 (s := s) (x := x)  hb hx hbb hbe hb5 hbd).1, (len_e25 (s := s) (x := x)  hb hx hbb hbe hb5 hbd).2]; rfl
  have hbd : ¬ (1000000 < s.now + 28) := by omega
  refine W.skip (E.inn (E.to (W.seq ?_)))
  refine W.dr [pW 102, pX 102, pW 101, pX 101, pO, pW 104, ⟨[104], [104], [], []⟩, pW 104, ⟨[104], [104], [], []⟩, pW 104, ⟨[104], [104], [], []⟩, pW 104, ⟨[104], [104], [], []⟩] ?_
  have hil := ids_le (fun c => decide (c.place = 2 ∧ c.pat = x.pat)) s.cps s.cps.length
  have hrc : s.cps[(cpI s x.copy).toNat]!.rc = false := rc_no hv (at_mem hi) (fun z => hbb (.inl z))
  have hlc : (⟨s.cps[(cpI s x.copy).toNat]!.id, s.cps[(cpI s x.copy).toNat]!.work, s.cps[(cpI s x.copy).toNat]!.lib, 2, x.pat, s.now + 28, 0, s.cps[(cpI s x.copy).toNat]!.rc⟩ : Cp) = lentC (atC s x.copy) x.pat s.now := by rw [hrc]; rfl
  refine WH.v (O.fr 3 0 u27) ?_
  refine WH.v (O.l1 u3) ?_
  refine WH.v (O.fr 0 0 u25) ?_
  refine WH.v (O.l1 u3) ?_
  refine WH.v (O.ad) ?_
  refine WH.v (O.fr 3 0 u65) ?_
  refine WH.st1_8 104 ?_
  refine WH.v (O.fr 4 0 u65) ?_
  refine WH.st1_8 104 ?_
  refine WH.v (O.fr 5 0 u65) ?_
  refine WH.st1_8 104 ?_
  refine WH.v (O.fr 6 0 u65) ?_
  refine WH.st1_8 104 ?_
  refine WH.nil (E.to ?_)
  refine W.pk [(2,_),(4,_),(5,_),(6,_),(7,_)] [(101,_),(102,_),(103,_),(104,_)] ?_
  refine W.rg ?_
  refine SL.v (O.n3 u25) ?_
  refine SL.o ?_
  refine SL.v (O.n8 u65) ?_
  refine SL.cl [] [] (.agg [.u _, .u _, .u _]) _ (q := refset_h (s := s) (i := (cpI s x.copy).toNat) (c := (⟨s.cps[(cpI s x.copy).toNat]!.id, s.cps[(cpI s x.copy).toNat]!.work, s.cps[(cpI s x.copy).toNat]!.lib, 2, x.pat, s.now + 28, 0, s.cps[(cpI s x.copy).toNat]!.rc⟩ : Cp)) xA xA)  (h := ?_)
  refine SL.st3_3 103 ?_
  refine SL.a (E.fo (W.ret ?_))
  refine E.j2 [] rfl (ResOne.c3 u25) (ResOne.tmp rfl) ?_
  ·rw [(len_e0 (s := s) (x := x)  hb hx hbb hbe hb5 hbd).1, (len_e0 (s := s) (x := x)  hb hx hbb hbe hb5 hbd).2, ← hlc]; rfl
 have hg3p := gP hg3
 have hbb : (atC s x.copy).place = 2 ∨ ((atC s x.copy).place = 3 ∧ (atC s x.copy).pat ≠ x.pat) := .inl (by show s.cps[(cpI s x.copy).toNat]!.place = 2; first | assumption | omega)
 refine SL.k hg3 (SL.k hg3 (SL.k hg3 (SL.k hg3 ?_)))
 refine SL.s2 ?_
 refine SL.s2 ?_
 refine SL.s2 ?_
 refine SL.s2 ?_
 refine SL.s2 ?_
 refine SL.k hg3 ?_
 refine SL.v (O.pt (G.ne_f hg3)) ?_
 refine SL.a (E.fo ?_)
 refine W.cond_t rfl ?_
 refine W.rg ?_
 refine SL.v (O.n3 u25) ?_
 refine SL.st3_3 103 ?_
 refine SL.a (E.fo (W.ret ?_))
 refine E.inr ?_
 refine E.thr ?_
 refine E.j2 [] rfl (ResOne.c3 u25) (ResOne.tmp rfl) ?_
 ·rw [(len_e26 (s := s) (x := x)  hb hx hbb).1, (len_e26 (s := s) (x := x)  hb hx hbb).2]; rfl

set_option maxRecDepth 8000 in
theorem other_h {s : St} {x : Sp} (hv : validS s) (hk3 : x.kind = 2 ∨ x.kind = 4 ∨ x.kind = 5) :
    Con Tryz.prog 42 [vA [uI s.now, .sl 8 (s.cps.map eCp), .sl 2 (s.lns.map eLn)], vA (eSp x)] [] (.tup [.agg [vI (stS s x).now, vL 8 ((stS s x).cps.map eCp), vL 2 ((stS s x).lns.map eLn)], vI (stE s x)]) [] := by
 have hn := hv.1
 unfold inB at hn
 have hcl := hv.2.1
 have hok := valid_ok hv
 have hid := valid_asc hv
 have hbb3 := valid_b hv
 obtain ⟨i65, hi65, hz65, hs65, hb65⟩ := hinf65
 refine Con.en 86 Tryz.func42 fun τ w ok vs hin => ?_
 have hl0_1 := hin.lenA (i := 0) (j := 1) rfl rfl
 try rw [List.length_map] at hl0_1
 have hl0_2 := hin.lenA (i := 0) (j := 2) rfl rfl
 try rw [List.length_map] at hl0_2
 clear hin
 refine W.rg ?_
 refine SL.bx3 101 ?_
 refine SL.bx8 102 ?_
 refine SL.al9 103 ?_
 refine SL.a (E.fo (W.seq ?_))
 rcases hk3 with hk | hk | hk
 ·have hse : stE s x = remE s x := (stS_2 hk).2
  have hss : stS s x = remS s x := (stS_2 hk).1
  refine W.region ?_
  refine SL.v (O.n3 u25) ?_
  refine SL.v (O.fr 1 0 u27) ?_
  refine SL.v (O.l1 u3) ?_
  refine SL.v (O.cp (q := reffind_h (s := s) (i := x.copy))) ?_
  refine SL.a (E.fo (W.seq (W.rg (SL.o ?_))))
  refine SL.v (O.lss) ?_
  refine E.fo ?_
  refine W.cc rfl (fun hc1 => ?_) fun hc1 => ?_
  ·have hx : ¬ 0 ≤ cpI s x.copy := by omega
   refine W.rg ?_
   refine SL.v (O.n3 u25) ?_
   refine SL.st3_3 103 ?_
   refine SL.a (E.fo (W.ret (E.thr ?_)))
   refine E.j2 [] rfl (ResOne.c3 u25) (ResOne.tmp rfl) ?_
   ·rw [hse, hss]
    exact yR
  have hx : ¬ (¬ 0 ≤ cpI s x.copy) := by omega
  refine W.skip (E.to (W.rg ?_))
  have hi : (cpI s x.copy).toNat < s.cps.length := (cpI_mem (Decidable.not_not.1 hx)).2.2
  refine SL.as (i' := vI (((cpI s x.copy).toNat : Nat) : Int)) 6 rfl (by exact iv_int xA) ?_
  have hq60 := queS_len hok s.cps[(cpI s x.copy).toNat]!.work
  refine SL.v (O.fr 1 0 u25) ?_
  refine SL.v (O.l1 u22) ?_
  refine SL.o ?_
  refine SL.v (O.idx_fz (i := (cpI s x.copy).toNat) rfl rfl xA (row_get xA) u22 hi65 hs65 rfl Taken.no) ?_
  refine SL.v (O.lU 8 u65) ?_
  refine SL.al3 104 ?_
  refine SL.st8_8 104 ?_
  refine E.fo (W.seq (W.block (W.rg ?_)))
  refine SL.v (O.fr 0 0 u27) ?_
  refine SL.v (O.l1 u3) ?_
  refine SL.v (O.det (fun _ => G.R.mv (G.R.eql rfl rfl) (congrArg Value.bool (decide_eq_true (by exact hk)))) rfl Taken.no) ?_
  refine SL.o ?_
  have hg2 : true = true := by decide
  refine SL.v (O.fr 3 0 u65 (tY hg2)) ?_
  refine SL.v (O.l1 u3 (tY hg2)) ?_
  refine SL.v (O.neq (tY hg2)) ?_
  refine SL.v (O.pt rfl) ?_
  refine SL.a (E.fo ?_)
  refine W.pk [(2,_),(3,_),(4,_),(5,_),(6,_),(7,_),(20,_)] [(101,_),(102,_),(103,_),(104,_)] ?_
  refine W.cc rfl (fun hc3 => ?_) fun hc3 => ?_
  ·have hp : (atC s x.copy).place ≠ 1 := by show s.cps[(cpI s x.copy).toNat]!.place ≠ 1; first | assumption | omega
   refine W.rg ?_
   refine SL.v (O.n3 u25) ?_
   refine SL.st3_3 103 ?_
   refine SL.a (E.fo (W.ret ?_))
   refine E.inr ?_
   refine E.thr ?_
   refine E.j2 [] rfl (ResOne.c3 u25) (ResOne.tmp rfl) ?_
   ·rw [hse, hss]
    first | (rw [(rem_e26 (s := s) (x := x)  hx hp).1, (rem_e26 (s := s) (x := x)  hx hp).2]; rfl)
  have hp : ¬ ((atC s x.copy).place ≠ 1) := by show ¬ s.cps[(cpI s x.copy).toNat]!.place ≠ 1; first | assumption | omega
  refine W.rg ?_
  refine SL.v (O.fr 0 0 u27) ?_
  refine SL.v (O.l1 u3) ?_
  refine SL.v (O.det (fun _ => G.R.mv (G.R.eql rfl rfl) (congrArg Value.bool (decide_eq_true (by exact hk)))) rfl Taken.no) ?_
  refine SL.a (E.fo ?_)
  refine W.cond_t rfl ?_
  refine W.seq ?_
  refine W.dr [⟨[105], [105], [105], []⟩, pW 101, pX 101, pO, pO, ⟨[105, 106], [105, 106], [106], []⟩, pW 101, pX 101, pO, pO, pO, ⟨[106, 107], [106, 107], [107], []⟩, pW 101, ⟨[101, 107], [101], [], []⟩] ?_
  refine WH.memS (O.buildSlice 105 rfl rfl u22 hi65 hz65 hs65 xI rfl xI rfl rfl rfl Taken.no) rfl rfl rfl rfl rfl (S' := (105, _) :: _) rfl ?_
  refine WH.v (O.fr 1 0 u25) ?_
  refine WH.v (O.l1 u22) ?_
  refine WH.o rfl ?_
  refine WH.v (O.sub_fz (j := (cpI s x.copy).toNat) rfl Bnd.no (Bnd.at rfl xA) xN xS sub_hi u22 hi65 hs65 rfl Taken.no) ?_
  refine WH.memS (O.app (k' := 106) rfl rfl (SlOf.fz rfl xI) u22 hi65 hz65 hs65 rfl rfl (rfl) zU wT rfl Taken.no) rfl rfl rfl rfl rfl (S' := (106, _) :: (105, .dead) :: _) rfl ?_
  refine WH.v (O.fr 1 0 u25) ?_
  refine WH.v (O.l1 u22) ?_
  refine WH.o rfl ?_
  refine WH.v (O.ad) ?_
  refine WH.v (O.sub_fz (i := ((cpI s x.copy).toNat + 1)) rfl (Bnd.at rfl xA) Bnd.no xS yX sub_lo u22 hi65 hs65 rfl Taken.no) ?_
  refine WH.memS (O.app (k' := 107) rfl rfl (SlOf.fz rfl xI) u22 hi65 hz65 hs65 rfl rfl (by exact cut_rows) zU wT rfl Taken.no) rfl rfl rfl rfl rfl (S' := (107, _) :: (106, .dead) :: _) rfl ?_
  refine WH.v (O.fr 1 0 u25) ?_
  refine WH.st1_3 101 ?_
  refine WH.nil (E.to (W.rg ?_))
  refine SL.v (O.n3 u25) ?_
  refine SL.st3_3 103 ?_
  refine SL.a (E.fo ?_)
  refine W.pk [(2,_),(4,_),(5,_),(6,_),(7,_)] [(101,_),(102,_),(103,_),(104,_),(107,_)] ?_
  refine W.ret ?_
  refine E.inr ?_
  refine E.thr ?_
  refine E.freezeC 103 1 107 (is' := [_, _, _]) rfl rfl rfl rfl ?_
  refine E.j2 [] rfl (ResOne.c3 u25) (ResOne.tmp rfl) ?_
  ·rw [hse, hss, (rem_e0 (s := s) (x := x)  hx hp).1, (rem_e0 (s := s) (x := x)  hx hp).2, rem_cut hid (Decidable.not_not.1 hx)]; rfl
 ·have hse : stE s x = bakE s x := (stS_4 hk).2
  have hss : stS s x = bakS s x := (stS_4 hk).1
  refine W.region ?_
  refine SL.v (O.n3 u25) ?_
  refine SL.v (O.fr 1 0 u27) ?_
  refine SL.v (O.l1 u3) ?_
  refine SL.v (O.cp (q := reffind_h (s := s) (i := x.copy))) ?_
  refine SL.a (E.fo (W.seq (W.rg (SL.o ?_))))
  refine SL.v (O.lss) ?_
  refine E.fo ?_
  refine W.cc rfl (fun hc4 => ?_) fun hc4 => ?_
  ·have hx : ¬ 0 ≤ cpI s x.copy := by omega
   refine W.rg ?_
   refine SL.v (O.n3 u25) ?_
   refine SL.st3_3 103 ?_
   refine SL.a (E.fo (W.ret (E.thr ?_)))
   refine E.j2 [] rfl (ResOne.c3 u25) (ResOne.tmp rfl) ?_
   ·rw [hse, hss]
    exact yR
  have hx : ¬ (¬ 0 ≤ cpI s x.copy) := by omega
  refine W.skip (E.to (W.rg ?_))
  have hi : (cpI s x.copy).toNat < s.cps.length := (cpI_mem (Decidable.not_not.1 hx)).2.2
  refine SL.as (i' := vI (((cpI s x.copy).toNat : Nat) : Int)) 6 rfl (by exact iv_int xA) ?_
  have hq60 := queS_len hok s.cps[(cpI s x.copy).toNat]!.work
  refine SL.v (O.fr 1 0 u25) ?_
  refine SL.v (O.l1 u22) ?_
  refine SL.o ?_
  refine SL.v (O.idx_fz (i := (cpI s x.copy).toNat) rfl rfl xA (row_get xA) u22 hi65 hs65 rfl Taken.no) ?_
  refine SL.v (O.lU 8 u65) ?_
  refine SL.al3 108 ?_
  refine SL.st8_8 108 ?_
  refine E.fo (W.seq (W.block (W.rg ?_)))
  refine SL.v (O.fr 0 0 u27) ?_
  refine SL.v (O.l1 u3) ?_
  refine SL.v (O.det (fun _ => G.R.mv (G.R.eql rfl rfl) (congrArg Value.bool (decide_eq_false xA))) rfl Taken.no) ?_
  refine SL.o ?_
  have hg5 := G.nft
  refine SL.k hg5 (SL.k hg5 (SL.k hg5 ?_))
  refine SL.v (O.pf rfl) ?_
  refine SL.a (E.fo ?_)
  refine W.pk [(2,_),(3,_),(4,_),(5,_),(6,_),(7,_),(20,_)] [(101,_),(102,_),(103,_),(108,_)] ?_
  refine W.cond_f rfl ?_
  refine W.rg ?_
  refine SL.v (O.fr 0 0 u27) ?_
  refine SL.v (O.l1 u3) ?_
  refine SL.v (O.det (fun _ => G.R.mv (G.R.eql rfl rfl) (congrArg Value.bool (decide_eq_false xA))) rfl Taken.no) ?_
  refine SL.a (E.fo ?_)
  refine W.cond_f rfl ?_
  refine W.rg ?_
  refine SL.v (O.fr 3 0 u65) ?_
  refine SL.v (O.l1 u3) ?_
  refine SL.v (O.neq) ?_
  refine SL.a (E.fo ?_)
  refine W.cc rfl (fun hc6 => ?_) fun hc6 => ?_
  ·have hp : (atC s x.copy).place ≠ 2 := by show s.cps[(cpI s x.copy).toNat]!.place ≠ 2; first | assumption | omega
   refine W.rg ?_
   refine SL.v (O.n3 u25) ?_
   refine SL.st3_3 103 ?_
   refine SL.a (E.fo (W.ret ?_))
   refine E.inr ?_
   refine E.thr ?_
   refine E.j2 [] rfl (ResOne.c3 u25) (ResOne.tmp rfl) ?_
   ·rw [hse, hss]
    exact wF
  have hp : ¬ ((atC s x.copy).place ≠ 2) := by show ¬ s.cps[(cpI s x.copy).toNat]!.place ≠ 2; first | assumption | omega
  refine W.rg ?_
  refine SL.v (O.fr 0 0 u27) ?_
  refine SL.v (O.l1 u3) ?_
  refine SL.v (O.det (fun _ => G.R.mv (G.R.eql rfl rfl) (congrArg Value.bool (decide_eq_true (by exact hk)))) rfl Taken.no) ?_
  refine SL.a (E.fo ?_)
  refine W.cond_t rfl ?_
  refine W.rg ?_
  refine SL.v (O.n3 u25) ?_
  refine SL.o ?_
  refine SL.cl [] [] (.agg [.u _, .u _, .u _]) _ (q := reffree_h (s := s) (i := (cpI s x.copy).toNat) (n := 60) xA xA xA hok xA)  (h := ?_)
  refine SL.st3_3 103 ?_
  refine SL.a (E.fo (W.ret ?_))
  refine E.inr ?_
  refine E.thr ?_
  refine E.j2 [] rfl (ResOne.c3 u25) (ResOne.tmp rfl) ?_
  ·rw [hse, hss]
   first | (rw [(bak_e0 (s := s) (x := x)  hx hp).1, (bak_e0 (s := s) (x := x)  hx hp).2]; rfl)
 have hse : stE s x = renE s x := (stS_5 hk).2
 have hss : stS s x = renS s x := (stS_5 hk).1
 refine W.region ?_
 refine SL.v (O.n3 u25) ?_
 refine SL.v (O.fr 1 0 u27) ?_
 refine SL.v (O.l1 u3) ?_
 refine SL.v (O.cp (q := reffind_h (s := s) (i := x.copy))) ?_
 refine SL.a (E.fo (W.seq (W.rg (SL.o ?_))))
 refine SL.v (O.lss) ?_
 refine E.fo ?_
 refine W.cc rfl (fun hc7 => ?_) fun hc7 => ?_
 ·have hx : ¬ 0 ≤ cpI s x.copy := by omega
  refine W.rg ?_
  refine SL.v (O.n3 u25) ?_
  refine SL.st3_3 103 ?_
  refine SL.a (E.fo (W.ret (E.thr ?_)))
  refine E.j2 [] rfl (ResOne.c3 u25) (ResOne.tmp rfl) ?_
  ·rw [hse, hss]
   exact yR
 have hx : ¬ (¬ 0 ≤ cpI s x.copy) := by omega
 refine W.skip (E.to (W.rg ?_))
 have hi : (cpI s x.copy).toNat < s.cps.length := (cpI_mem (Decidable.not_not.1 hx)).2.2
 refine SL.as (i' := vI (((cpI s x.copy).toNat : Nat) : Int)) 6 rfl (by exact iv_int xA) ?_
 have hq60 := queS_len hok s.cps[(cpI s x.copy).toNat]!.work
 refine SL.v (O.fr 1 0 u25) ?_
 refine SL.v (O.l1 u22) ?_
 refine SL.o ?_
 refine SL.v (O.idx_fz (i := (cpI s x.copy).toNat) rfl rfl xA (row_get xA) u22 hi65 hs65 rfl Taken.no) ?_
 refine SL.v (O.lU 8 u65) ?_
 refine SL.al3 109 ?_
 refine SL.st8_8 109 ?_
 refine E.fo (W.seq (W.block (W.rg ?_)))
 refine SL.v (O.fr 0 0 u27) ?_
 refine SL.v (O.l1 u3) ?_
 refine SL.v (O.det (fun _ => G.R.mv (G.R.eql rfl rfl) (congrArg Value.bool (decide_eq_false xA))) rfl Taken.no) ?_
 refine SL.o ?_
 have hg8 := G.nft
 refine SL.k hg8 (SL.k hg8 (SL.k hg8 ?_))
 refine SL.v (O.pf rfl) ?_
 refine SL.a (E.fo ?_)
 refine W.pk [(2,_),(3,_),(4,_),(5,_),(6,_),(7,_),(20,_)] [(101,_),(102,_),(103,_),(109,_)] ?_
 refine W.cond_f rfl ?_
 refine W.rg ?_
 refine SL.v (O.fr 0 0 u27) ?_
 refine SL.v (O.l1 u3) ?_
 refine SL.v (O.det (fun _ => G.R.mv (G.R.eql rfl rfl) (congrArg Value.bool (decide_eq_false xA))) rfl Taken.no) ?_
 refine SL.a (E.fo ?_)
 refine W.cond_f rfl ?_
 refine W.rg ?_
 refine SL.v (O.fr 3 0 u65) ?_
 refine SL.v (O.l1 u3) ?_
 refine SL.v (O.neq) ?_
 refine SL.a (E.fo ?_)
 refine W.cc rfl (fun hc9 => ?_) fun hc9 => ?_
 ·have hp : (atC s x.copy).place ≠ 2 := by show s.cps[(cpI s x.copy).toNat]!.place ≠ 2; first | assumption | omega
  refine W.rg ?_
  refine SL.v (O.n3 u25) ?_
  refine SL.st3_3 103 ?_
  refine SL.a (E.fo (W.ret ?_))
  refine E.inr ?_
  refine E.thr ?_
  refine E.j2 [] rfl (ResOne.c3 u25) (ResOne.tmp rfl) ?_
  ·rw [hse, hss]
   exact wF
 have hp : ¬ ((atC s x.copy).place ≠ 2) := by show ¬ s.cps[(cpI s x.copy).toNat]!.place ≠ 2; first | assumption | omega
 refine W.rg ?_
 refine SL.v (O.fr 0 0 u27) ?_
 refine SL.v (O.l1 u3) ?_
 refine SL.v (O.det (fun _ => G.R.mv (G.R.eql rfl rfl) (congrArg Value.bool (decide_eq_false xA))) rfl Taken.no) ?_
 refine SL.a (E.fo ?_)
 refine W.cond_f rfl ?_
 refine W.rg ?_
 refine SL.v (O.fr 7 0 u65) ?_
 refine SL.v (O.l1 u4) ?_
 refine SL.o ?_
 refine SL.cs 2 false (fun hg10 => ?_) fun hg10 => ?_
 ·have hg10p := gP hg10
  refine SL.v (O.n3 u25 (tY hg10)) ?_
  refine SL.v (O.fr 1 0 u65 (tY hg10)) ?_
  refine SL.v (O.l1 u3 (tY hg10)) ?_
  refine SL.v (O.cp (q := refQueue_h (s := s) (i := s.cps[(cpI s x.copy).toNat]!.work)) (hg := (tY hg10))) ?_
  refine SL.v (O.le u67 (tY hg10)) ?_
  refine SL.v (O.gtr (tY hg10)) ?_
  refine SL.v (O.pf hg10) ?_
  refine SL.a (E.fo ?_)
  refine W.pk [(2,_),(4,_),(5,_),(6,_),(7,_),(60,_)] [(101,_),(102,_),(103,_),(109,_)] ?_
  refine W.cc rfl (fun hc11 => ?_) fun hc11 => ?_
  ·have hbq : (atC s x.copy).rc = true ∨ 0 < (queS s (atC s x.copy).work).length := by show s.cps[(cpI s x.copy).toNat]!.rc = true ∨ 0 < (queS s s.cps[(cpI s x.copy).toNat]!.work).length; first | (left; assumption) | (right; omega) | simp_all
   refine W.rg ?_
   refine SL.v (O.n3 u25) ?_
   refine SL.st3_3 103 ?_
   refine SL.a (E.fo (W.ret ?_))
   refine E.inr ?_
   refine E.thr ?_
   refine E.j2 [] rfl (ResOne.c3 u25) (ResOne.tmp rfl) ?_
   ·rw [hse, hss]
    first | (rw [(ren_e26 (s := s) (x := x)  hx hp hbq).1, (ren_e26 (s := s) (x := x)  hx hp hbq).2]; rfl)
  have hbq : ¬ ((atC s x.copy).rc = true ∨ 0 < (queS s (atC s x.copy).work).length) := by show ¬ (s.cps[(cpI s x.copy).toNat]!.rc = true ∨ 0 < (queS s s.cps[(cpI s x.copy).toNat]!.work).length); rintro (z | z) <;> first | omega | (simp_all; done)
  refine W.rg ?_
  refine SL.v (O.fr 0 0 u25) ?_
  refine SL.v (O.l1 u3) ?_
  refine SL.v (O.ad) ?_
  refine SL.v (O.gtr) ?_
  refine SL.a (E.fo ?_)
  refine W.cc rfl (fun hc12 => ?_) fun hc12 => ?_
  ·have hbd : 1000000 < s.now + 28 := by omega
   refine W.rg ?_
   refine SL.v (O.n3 u25) ?_
   refine SL.st3_3 103 ?_
   refine SL.a (E.fo (W.ret ?_))
   refine E.inr ?_
   refine E.thr ?_
   refine E.j2 [] rfl (ResOne.c3 u25) (ResOne.tmp rfl) ?_
   ·rw [hse, hss]
    first | (rw [(ren_e25 (s := s) (x := x)  hx hp hbq hbd).1, (ren_e25 (s := s) (x := x)  hx hp hbq hbd).2]; rfl)
  have hbd : ¬ (1000000 < s.now + 28) := by omega
  refine W.skip (E.inn (E.to (W.rg ?_)))
  refine SL.v (O.fr 0 0 u25) ?_
  refine SL.v (O.l1 u3) ?_
  refine SL.v (O.ad) ?_
  refine SL.v (O.fr 5 0 u65) ?_
  refine SL.st1_8 109 ?_
  refine E.fo (W.rg ?_)
  refine SL.v (O.n3 u25) ?_
  refine SL.o ?_
  refine SL.v (O.n8 u65) ?_
  refine SL.cl [] [] (.agg [.u _, .u _, .u _]) _ (q := refset_h (s := s) (i := (cpI s x.copy).toNat) (c := (⟨s.cps[(cpI s x.copy).toNat]!.id, s.cps[(cpI s x.copy).toNat]!.work, s.cps[(cpI s x.copy).toNat]!.lib, s.cps[(cpI s x.copy).toNat]!.place, s.cps[(cpI s x.copy).toNat]!.pat, s.now + 28, s.cps[(cpI s x.copy).toNat]!.hold, s.cps[(cpI s x.copy).toNat]!.rc⟩ : Cp)) xA xA)  (h := ?_)
  refine SL.st3_3 103 ?_
  refine SL.a (E.fo (W.ret ?_))
  refine E.j2 [] rfl (ResOne.c3 u25) (ResOne.tmp rfl) ?_
  ·rw [hse, hss]
   first | (rw [(ren_e0 (s := s) (x := x)  hx hp hbq hbd).1, (ren_e0 (s := s) (x := x)  hx hp hbq hbd).2]; rfl)
 have hg10p := gP hg10
 have hbq : (atC s x.copy).rc = true ∨ 0 < (queS s (atC s x.copy).work).length := .inl (eq_true_of_ne_false (by show ¬ s.cps[(cpI s x.copy).toNat]!.rc = false; first | assumption | simp_all))
 refine SL.k hg10 (SL.k hg10 (SL.k hg10 (SL.k hg10 (SL.k hg10 (SL.k hg10 ?_)))))
 refine SL.v (O.pt (G.ne_f hg10)) ?_
 refine SL.a (E.fo ?_)
 refine W.pk [(2,_),(4,_),(5,_),(6,_),(7,_),(60,_)] [(101,_),(102,_),(103,_),(109,_)] ?_
 refine W.cond_t rfl ?_
 refine W.rg ?_
 refine SL.v (O.n3 u25) ?_
 refine SL.st3_3 103 ?_
 refine SL.a (E.fo (W.ret ?_))
 refine E.inr ?_
 refine E.thr ?_
 refine E.j2 [] rfl (ResOne.c3 u25) (ResOne.tmp rfl) ?_
 ·rw [hse, hss]
  first | (rw [(ren_e26 (s := s) (x := x)  hx hp hbq).1, (ren_e26 (s := s) (x := x)  hx hp hbq).2]; rfl)

set_option maxRecDepth 8000 in
theorem refcancelS_h {s : St} {x : Sp} (hv : validS s) :
    Con Tryz.prog 39 [vA [uI s.now, .sl 8 (s.cps.map eCp), .sl 2 (s.lns.map eLn)], vI x.hold] [] (.tup [.agg [vI (clcS s x).now, vL 8 ((clcS s x).cps.map eCp), vL 2 ((clcS s x).lns.map eLn)], vI (clcE s x)]) [] := by
 have hn := hv.1
 unfold inB at hn
 have hcl := hv.2.1
 have hok := valid_ok hv
 have hid := valid_asc hv
 have hbb3 := valid_b hv
 obtain ⟨i65, hi65, hz65, hs65, hb65⟩ := hinf65
 obtain ⟨i69, hi69, hz69, hs69, hb69⟩ := hinf69
 refine Con.en 67 Tryz.func39 fun τ w ok vs hin => ?_
 have hl0_1 := hin.lenA (i := 0) (j := 1) rfl rfl
 try rw [List.length_map] at hl0_1
 have hl0_2 := hin.lenA (i := 0) (j := 2) rfl rfl
 try rw [List.length_map] at hl0_2
 clear hin
 refine W.rg ?_
 refine SL.bx3 101 ?_
 refine SL.al9 102 ?_
 refine SL.a (E.fo (W.seq (W.rg (SL.a (E.fo (W.block ?_))))))
 refine W.lq (fun (k : Nat) => [(6, vI (k : Int))]) (fun (k : Nat) => []) (fun (k : Nat) => k ≤ s.cps.length ∧ ∀ j, j < k → (fun c : Cp => decide (c.place = 3 ∧ c.hold = x.hold)) s.cps[j]! = false) (fun (k : Nat) => s.cps.length - k) (0) [] [(1, _), (2, _), (4, _)] [(101, _), (102, _)] ?_ ?_
 ·exact yG
 intro k hinv
 obtain ⟨hk, hp⟩ := hinv
 refine W.seq (W.rg (SL.o ?_))
 refine SL.v (O.fr 1 0 u25) ?_
 refine SL.v (O.l1 u22) ?_
 refine SL.v (O.le u22) ?_
 refine SL.v (O.lss) ?_
 refine E.fo ?_
 refine W.cc rfl (fun hc1 => ?_) fun hc1 => ?_
 ·refine W.skip (E.to (W.seq (W.block (W.rg ?_))))
  refine SL.v (O.fr 1 0 u25) ?_
  refine SL.v (O.l1 u22) ?_
  refine SL.o ?_
  refine SL.v (O.ix (i := k) u22 hi65 hs65) ?_
  refine SL.v (O.ff 0 u65) ?_
  refine SL.v (O.l1f u3) ?_
  refine SL.v (O.eql) ?_
  refine SL.o ?_
  refine SL.cs 7 true (fun hg2 => ?_) fun hg2 => ?_
  ·have hg2p := gP hg2
   refine SL.v (O.fr 1 0 u25 (tY hg2)) ?_
   refine SL.v (O.l1 u22 (tY hg2)) ?_
   refine SL.v (O.mo (tY hg2)) ?_
   refine SL.v (O.ix (i := k) u22 hi65 hs65 (tY hg2)) ?_
   refine SL.v (O.ff 0 u65 (tY hg2)) ?_
   refine SL.v (O.l1f u3 (tY hg2)) ?_
   refine SL.v (O.mo (tY hg2)) ?_
   refine SL.v (O.eql (tY hg2)) ?_
   refine SL.v (O.pt hg2) ?_
   refine E.fo ?_
   refine W.pk [(1,_),(2,_),(4,_),(6,_),(33,_)] [(101,_),(102,_)] ?_
   refine W.cc rfl (fun hc3 => ?_) fun hc3 => ?_
   ·have hwk : wtI s x.hold = (k : Int) := idxF_here (p := (fun c : Cp => decide (c.place = 3 ∧ c.hold = x.hold))) xA hp (decide_eq_true ⟨xA, xA⟩)
    have hwt : (wtI s x.hold).toNat = k := by omega
    refine W.rg ?_
    refine SL.v (O.n3 u25) ?_
    refine SL.o ?_
    refine SL.cl [] [] (.agg [.u _, .u _, .u _]) _ (q := reffree_h (s := s) (i := k) (n := 60) xA xA xA hok xA)  (h := ?_)
    refine SL.st3_3 102 ?_
    refine SL.a (E.fo (W.ret ?_))
    refine E.inr ?_
    refine E.thr (E.thr ?_)
    refine E.inr ?_
    refine E.thr ?_
    refine E.j2 [] rfl (ResOne.c3 u25) (ResOne.tmp rfl) ?_
    ·rw [(clc_w (s := s) (x := x)  xA).1, (clc_w (s := s) (x := x)  xA).2, hwt]; rfl
   refine W.skip (E.inn (E.to (W.region (SL.o ?_))))
   refine SL.v (O.ad) ?_
   refine SL.a (SL.nil ?_)
   refine E.ai (k + 1) [] ?_
   ·try dsimp only
    exact yZ
  have hg2p := gP hg2
  refine SL.k hg2 (SL.k hg2 (SL.k hg2 (SL.k hg2 (SL.k hg2 (SL.k hg2 (SL.k hg2 (SL.k hg2 ?_)))))))
  refine SL.v (O.pf (G.ne_t hg2)) ?_
  refine E.fo ?_
  refine W.pk [(1,_),(2,_),(4,_),(6,_),(33,_)] [(101,_),(102,_)] ?_
  refine W.cond_f rfl ?_
  refine W.skip (E.inn (E.to (W.region (SL.o ?_))))
  refine SL.v (O.ad) ?_
  refine SL.a (SL.nil ?_)
  refine E.ai (k + 1) [] ?_
  ·try dsimp only
   exact yZ
 have hnw : ¬ 0 ≤ wtI s x.hold := by have z := idxF_none (p := (fun c : Cp => decide (c.place = 3 ∧ c.hold = x.hold))) (l := s.cps) (k := k) xA hp; unfold wtI; omega
 refine W.exit (E.th (E.th (E.hit (E.to (W.seq (W.rg (SL.a (E.fo (W.block ?_)))))))))
 refine W.lq (fun (i : Nat) => [(7, vI (i : Int))]) (fun (i : Nat) => []) (fun (i : Nat) => i ≤ s.lns.length ∧ ∀ j, j < i → (fun l : Ln => decide (canE l.q x.hold = 0)) s.lns[j]! = false) (fun (i : Nat) => s.lns.length - i) (0) [] [(1, _), (2, _), (4, _)] [(101, _), (102, _)] ?_ ?_
 ·exact yG
 intro i hinv
 obtain ⟨hi, hq⟩ := hinv
 refine W.seq (W.rg (SL.o ?_))
 refine SL.v (O.fr 2 0 u25) ?_
 refine SL.v (O.l1 u23) ?_
 refine SL.v (O.le u23) ?_
 refine SL.v (O.lss) ?_
 refine E.fo ?_
 refine W.cc rfl (fun hc4 => ?_) fun hc4 => ?_
 ·refine W.skip (E.to (W.seq (W.block (W.rg ?_))))
  refine SL.v (O.fr 2 0 u25) ?_
  refine SL.v (O.l1 u23) ?_
  refine SL.o ?_
  refine SL.v (O.ix (i := i) u23 hi69 hs69) ?_
  refine SL.v (O.ff 0 u69) ?_
  refine SL.v (O.l1f u67) ?_
  refine SL.o ?_
  refine SL.cl [] [] (.tup [.u _, .u _]) _ (q := refCancel_h (q := s.lns[i]!.q) x.hold)  (h := ?_)
  refine SL.o ?_
  refine SL.v (O.ex) ?_
  refine SL.v (O.ex) ?_
  refine SL.a (SL.a (E.fo (W.rg (SL.o ?_))))
  refine SL.v (O.eql) ?_
  refine E.fo ?_
  refine W.cc rfl (fun hc5 => ?_) fun hc5 => ?_
  ·have hlk : lnI s x.hold = (i : Int) := idxF_here (p := (fun l : Ln => decide (canE l.q x.hold = 0))) xA hq (decide_eq_true xA)
   have hlt : (lnI s x.hold).toNat = i := by omega
   refine W.seq ?_
   refine W.dr [pX 101, pW 101, pX 101, pO, pO, pO, pO, pO, pO, ⟨[102], [102], [], []⟩, pO] ?_
   refine WH.v (O.n3 u25) ?_
   refine WH.v (O.fr 2 0 u25) ?_
   refine WH.v (O.l1 u23) ?_
   refine WH.o rfl ?_
   refine WH.v (O.ix (i := i) u23 hi69 hs69) ?_
   refine WH.v (O.ff 0 u69) ?_
   refine WH.v (O.l1f u3) ?_
   refine WH.o rfl ?_
   refine WH.cl [] [] (.agg [.u _, .u _, .u _]) _ (q := with_h (s := s) (wk := s.lns[i]!.work) (q := canQ s.lns[i]!.q x.hold) hok.1 xA)  (h := ?_)
   refine WH.st3_3 102 ?_
   refine WH.v (O.as1) ?_
   refine WH.nil (E.to ?_)
   refine W.pk [(1,_),(2,_),(4,_),(5,_),(7,_)] [(101,_),(102,_)] ?_
   refine W.ret ?_
   refine E.inr ?_
   refine E.thr (E.thr ?_)
   refine E.inr ?_
   refine E.thr ?_
   refine E.j2 [] rfl (ResOne.c3 u25) (ResOne.tmp rfl) ?_
   ·rw [(clc_l (s := s) (x := x)  hnw xA).1, (clc_l (s := s) (x := x)  hnw xA).2, hlt]; rfl
  refine W.skip (E.inn (E.to (W.region (SL.o ?_))))
  refine SL.v (O.ad) ?_
  refine SL.a (SL.nil ?_)
  refine E.ai (i + 1) [] ?_
  ·try dsimp only
   exact ⟨xA, upto_s hq (decide_eq_false xA)⟩
 have hnl : ¬ 0 ≤ lnI s x.hold := by have z := idxF_none (p := (fun l : Ln => decide (canE l.q x.hold = 0))) (l := s.lns) (k := i) xA hq; unfold lnI; omega
 refine W.exit (E.th (E.th (E.hit (E.to (W.rg ?_)))))
 refine SL.v (O.n3 u25) ?_
 refine SL.st3_3 102 ?_
 refine SL.a (E.fo (W.ret ?_))
 refine E.j2 [] rfl (ResOne.c3 u25) (ResOne.tmp rfl) ?_
 ·rw [(clc_n (s := s) (x := x)  hnw hnl).1, (clc_n (s := s) (x := x)  hnw hnl).2]; rfl

set_option maxRecDepth 8000 in
theorem refwait_h {s : St} {x : Sp} (hv : validS s) :
    Con Tryz.prog 40 [vA [uI s.now, .sl 8 (s.cps.map eCp), .sl 2 (s.lns.map eLn)], vI x.days] [] (.tup [.agg [vI (waiS s x).now, vL 8 ((waiS s x).cps.map eCp), vL 2 ((waiS s x).lns.map eLn)], vI (waiE s x)]) [] := by
 have hn := hv.1
 unfold inB at hn
 have hcl := hv.2.1
 have hok := valid_ok hv
 have hid := valid_asc hv
 have hbb3 := valid_b hv
 obtain ⟨i65, hi65, hz65, hs65, hb65⟩ := hinf65
 refine Con.en 56 Tryz.func40 fun τ w ok vs hin => ?_
 have hl0_1 := hin.lenA (i := 0) (j := 1) rfl rfl
 try rw [List.length_map] at hl0_1
 have hl0_2 := hin.lenA (i := 0) (j := 2) rfl rfl
 try rw [List.length_map] at hl0_2
 clear hin
 refine W.rg ?_
 refine SL.bx3 101 ?_
 refine SL.al9 102 ?_
 refine SL.a (E.fo (W.seq (W.block (W.rg (SL.o ?_)))))
 refine SL.v (O.lss) ?_
 refine SL.o ?_
 refine SL.cs 2 false (fun hg1 => ?_) fun hg1 => ?_
 ·have hg1p := gP hg1
  refine SL.v (O.mo (tY hg1)) ?_
  refine SL.v (O.gtr (tY hg1)) ?_
  refine SL.v (O.pf hg1) ?_
  refine SL.a (E.fo ?_)
  refine W.cc rfl (fun hc2 => ?_) fun hc2 => ?_
  ·have hw0 : ¬ inB x.days 1 1000 := by unfold inB; omega
   refine W.rg ?_
   refine SL.v (O.n3 u25) ?_
   refine SL.st3_3 102 ?_
   refine SL.a (E.fo (W.ret ?_))
   refine E.inr ?_
   refine E.thr ?_
   refine E.j2 [] rfl (ResOne.c3 u25) (ResOne.tmp rfl) ?_
   ·rw [(wai_e2 (s := s) (x := x)  hw0).1, (wai_e2 (s := s) (x := x)  hw0).2]; rfl
  have hd : 1 ≤ x.days ∧ x.days ≤ 1000 := by omega
  have hw0 : ¬ (¬ inB x.days 1 1000) := fun z => z hd
  refine W.rg ?_
  refine SL.v (O.fr 0 0 u25) ?_
  refine SL.v (O.l1 u3) ?_
  refine SL.o ?_
  refine SL.v (O.ad) ?_
  refine SL.v (O.gtr) ?_
  refine SL.a (E.fo ?_)
  refine W.cc rfl (fun hc3 => ?_) fun hc3 => ?_
  ·have hw1 : 1000000 < s.now + x.days := by omega
   refine W.rg ?_
   refine SL.v (O.n3 u25) ?_
   refine SL.st3_3 102 ?_
   refine SL.a (E.fo (W.ret ?_))
   refine E.inr ?_
   refine E.thr ?_
   refine E.j2 [] rfl (ResOne.c3 u25) (ResOne.tmp rfl) ?_
   ·rw [(wai_e25 (s := s) (x := x)  hw0 hw1).1, (wai_e25 (s := s) (x := x)  hw0 hw1).2]; rfl
  have hw1 : ¬ (1000000 < s.now + x.days) := by omega
  refine W.skip (E.inn (E.to (W.rg ?_)))
  refine SL.v (O.fr 0 0 u25) ?_
  refine SL.v (O.l1 u3) ?_
  refine SL.o ?_
  refine SL.v (O.ad) ?_
  refine SL.v (O.fr 0 0 u25) ?_
  refine SL.st1_3 101 ?_
  refine E.fo (W.seq (W.rg (SL.a (E.fo (W.block ?_)))))
  refine W.lq (fun (k : Nat) => [(6, vI (k : Int))]) (fun (k : Nat) => [(101, .cells 25 [vI (lateS (⟨s.now + x.days, s.cps, s.lns⟩ : St) k).now, vL 8 ((lateS (⟨s.now + x.days, s.cps, s.lns⟩ : St) k).cps.map eCp), vL 2 ((lateS (⟨s.now + x.days, s.cps, s.lns⟩ : St) k).lns.map eLn)])]) (fun (k : Nat) => k ≤ s.cps.length) (fun (k : Nat) => s.cps.length - k) (0) [] [(2, _), (4, _), (5, _)] [(102, _)] ?_ ?_
  ·omega
  intro k hinv
  have hk := hinv
  have hll : (lateS (⟨s.now + x.days, s.cps, s.lns⟩ : St) k).cps.length = s.cps.length := late_len _ _
  have hln : (lateS (⟨s.now + x.days, s.cps, s.lns⟩ : St) k).now = s.now + x.days := late_now _ _
  have hlo := late_ok (s := (⟨s.now + x.days, s.cps, s.lns⟩ : St)) hok k
  refine W.seq (W.rg (SL.o ?_))
  refine SL.v (O.fr 1 0 u25) ?_
  refine SL.v (O.l1 u22) ?_
  refine SL.v (O.le u22) ?_
  refine SL.v (O.lss) ?_
  refine E.fo ?_
  refine W.cc rfl (fun hc4 => ?_) fun hc4 => ?_
  ·refine W.skip (E.to (W.seq (W.block (W.seq ?_))))
   refine W.dr [pW 101, pX 101, pO, pO, pO, pO, pO, pO, pW 101, pX 101, pO, pO, pO, pO, pW 101, pX 101, pO, pO] ?_
   refine WH.v (O.fr 1 0 u25) ?_
   refine WH.v (O.l1 u22) ?_
   refine WH.o rfl ?_
   refine WH.v (O.ix (i := k) u22 hi65 hs65) ?_
   refine WH.v (O.ff 0 u65) ?_
   refine WH.v (O.l1f u3) ?_
   refine WH.v (O.eql) ?_
   refine WH.o rfl ?_
   refine WH.cs 7 true (fun hg5 => ?_) fun hg5 => ?_
   ·have hg5p := gP hg5
    refine WH.v (O.fr 1 0 u25 (tY hg5)) ?_
    refine WH.v (O.l1 u22 (tY hg5)) ?_
    refine WH.v (O.mo (tY hg5)) ?_
    refine WH.v (O.ix (i := k) u22 hi65 hs65 (tY hg5)) ?_
    refine WH.v (O.ff 0 u65 (tY hg5)) ?_
    refine WH.v (O.l1f u3 (tY hg5)) ?_
    refine WH.v (O.fr 0 0 u25 (tY hg5)) ?_
    refine WH.v (O.l1 u3 (tY hg5)) ?_
    refine WH.v (O.lss (tY hg5)) ?_
    refine WH.v (O.pt hg5) ?_
    refine WH.nil (E.to ?_)
    refine W.pk [(2,_),(4,_),(5,_),(6,_),(51,_)] [(101,_),(102,_)] ?_
    refine W.cc rfl (fun hc6 => ?_) fun hc6 => ?_
    ·have hla : lateC (lateS (⟨s.now + x.days, s.cps, s.lns⟩ : St) k) k = true := decide_eq_true ⟨xA, xA⟩
     refine W.region ?_
     refine SL.v (O.n3 u25) ?_
     refine SL.o ?_
     refine SL.cl [] [] (.agg [.u _, .u _, .u _]) _ (q := reffree_h (s := (lateS (⟨s.now + x.days, s.cps, s.lns⟩ : St) k)) (i := k) (n := 60 + k) xA xA xA hlo xA)  (h := ?_)
     refine SL.st3_3 101 ?_
     refine SL.nil (E.inn (E.to (W.region (SL.o ?_))))
     refine SL.v (O.ad) ?_
     refine SL.a (SL.nil ?_)
     refine E.ag (k + 1) [] ?_ ?_ ?_ ?_
     · exact zH
     · exact zM
     ·try dsimp only
      omega
     · exact xT
    have hla : ¬ lateC (lateS (⟨s.now + x.days, s.cps, s.lns⟩ : St) k) k = true := fun z => by have := of_decide_eq_true z; omega
    refine W.skip (E.inn (E.to (W.region (SL.o ?_))))
    refine SL.v (O.ad) ?_
    refine SL.a (SL.nil ?_)
    refine E.ag (k + 1) [] ?_ ?_ ?_ ?_
    · exact zH
    · exact zM
    ·try dsimp only
     omega
    · exact xT
   have hg5p := gP hg5
   have hla : ¬ lateC (lateS (⟨s.now + x.days, s.cps, s.lns⟩ : St) k) k = true := fun z => by have := (of_decide_eq_true z).1; omega
   refine WH.k hg5 (WH.k hg5 (WH.k hg5 (WH.k hg5 (WH.k hg5 (WH.k hg5 (WH.k hg5 (WH.k hg5 (WH.k hg5 ?_))))))))
   refine WH.v (O.pf (G.ne_t hg5)) ?_
   refine WH.nil (E.to ?_)
   refine W.pk [(2,_),(4,_),(5,_),(6,_),(51,_)] [(101,_),(102,_)] ?_
   refine W.cond_f rfl ?_
   refine W.skip (E.inn (E.to (W.region (SL.o ?_))))
   refine SL.v (O.ad) ?_
   refine SL.a (SL.nil ?_)
   refine E.ag (k + 1) [] ?_ ?_ ?_ ?_
   · exact zH
   · exact zM
   ·try dsimp only
    omega
   · exact xT
  refine W.exit (E.th (E.th (E.hit (E.to (W.rg ?_)))))
  refine SL.v (O.n3 u25) ?_
  refine SL.st3_3 102 ?_
  refine SL.a (E.fo (W.ret ?_))
  refine E.j2 [] rfl (ResOne.c3 u25) (ResOne.tmp rfl) ?_
  ·rw [(wai_e0 (s := s) (x := x)  hw0 hw1).1, (wai_e0 (s := s) (x := x)  hw0 hw1).2, show s.cps.length = k by omega]; rfl
 have hg1p := gP hg1
 have hw0 : ¬ inB x.days 1 1000 := by unfold inB; omega
 refine SL.k hg1 (SL.k hg1 ?_)
 refine SL.v (O.pt (G.ne_f hg1)) ?_
 refine SL.a (E.fo ?_)
 refine W.cond_t rfl ?_
 refine W.rg ?_
 refine SL.v (O.n3 u25) ?_
 refine SL.st3_3 102 ?_
 refine SL.a (E.fo (W.ret ?_))
 refine E.inr ?_
 refine E.thr ?_
 refine E.j2 [] rfl (ResOne.c3 u25) (ResOne.tmp rfl) ?_
 ·rw [(wai_e2 (s := s) (x := x)  hw0).1, (wai_e2 (s := s) (x := x)  hw0).2]; rfl

set_option maxRecDepth 8000 in
theorem refask_h {s : St} {x : Sp} (hv : validS s) :
    Con Tryz.prog 38 [vA [uI s.now, .sl 8 (s.cps.map eCp), .sl 2 (s.lns.map eLn)], vA (eSp x)] [] (.tup [.agg [vI (askS s x).now, vL 8 ((askS s x).cps.map eCp), vL 2 ((askS s x).lns.map eLn)], vI (askE s x)]) [] := by
 have hn := hv.1
 unfold inB at hn
 have hcl := hv.2.1
 have hok := valid_ok hv
 have hid := valid_asc hv
 have hbb3 := valid_b hv
 obtain ⟨i65, hi65, hz65, hs65, hb65⟩ := hinf65
 obtain ⟨i121, hi121, hz121, hs121, hb121⟩ := hinf121
 refine Con.en 149 Tryz.func38 fun τ w ok vs hin => ?_
 have hl0_1 := hin.lenA (i := 0) (j := 1) rfl rfl
 try rw [List.length_map] at hl0_1
 have hl0_2 := hin.lenA (i := 0) (j := 2) rfl rfl
 try rw [List.length_map] at hl0_2
 clear hin
 refine W.rg ?_
 refine SL.bx3 101 ?_
 refine SL.bx8 102 ?_
 refine SL.al9 103 ?_
 refine SL.a (E.fo (W.rg ?_))
 refine SL.v (O.n3 u25) ?_
 refine SL.v (O.fr 2 0 u27) ?_
 refine SL.v (O.l1 u3) ?_
 refine SL.v (O.cp (q := refQueue_h (s := s) (i := x.work))) ?_
 refine SL.a (E.fo (W.rg ?_))
 have hq60 := queS_len hok x.work
 refine SL.v (O.n3 u25) ?_
 refine SL.v (O.fr 2 0 u27) ?_
 refine SL.v (O.l1 u3) ?_
 refine SL.cl [] [] (.agg [.u _, .u _, .u _]) _ (q := refCount_h (s := s) (work := x.work))  (h := ?_)
 refine SL.al4 104 ?_
 refine SL.st3_3 104 ?_
 refine E.fo (W.rg (SL.a (E.fo (W.seq (W.rg (SL.a (E.fo (W.block ?_))))))))
 refine W.lq (fun (k : Nat) => [(9, vI (k : Int)), (8, vB (anyP ((queS s x.work).take k) x.pat))]) (fun (k : Nat) => []) (fun (k : Nat) => k ≤ (queS s x.work).length) (fun (k : Nat) => (queS s x.work).length - k) (0) [] [(2, _), (3, _), (4, _), (5, _), (6, _), (7, _)] [(101, _), (102, _), (103, _), (104, _)] ?_ ?_
 ·omega
 intro k hinv
 have hk := hinv
 refine W.seq (W.rg (SL.o (SL.o ?_)))
 refine SL.v (O.le u67) ?_
 refine SL.v (O.lss) ?_
 refine E.fo ?_
 refine W.cc rfl (fun hc1 => ?_) fun hc1 => ?_
 ·refine W.skip (E.to (W.seq (W.block ?_)))
  refine W.dr [pO, pO, pO, pO, pO, pO, pO, pW 102, pX 102, pO, pO, pO] ?_
  refine WH.o rfl (WH.o rfl ?_)
  refine WH.cs 1 false (fun hg2 => ?_) fun hg2 => ?_
  ·have hg2p := gP hg2
   refine WH.v (O.mo (tY hg2)) ?_
   refine WH.v (O.mo (tY hg2)) ?_
   refine WH.v (O.ix (i := k) u67 hi121 hs121 (tY hg2)) ?_
   refine WH.v (O.ff 0 u121 (tY hg2)) ?_
   refine WH.v (O.l1f u3 (tY hg2)) ?_
   refine WH.v (O.fr 3 0 u27 (tY hg2)) ?_
   refine WH.v (O.l1 u3 (tY hg2)) ?_
   refine WH.v (O.eql (tY hg2)) ?_
   refine WH.v (O.pf hg2) ?_
   refine WH.v (O.as1) ?_
   refine WH.nil (E.inn (E.to (W.region (SL.o ?_))))
   refine SL.v (O.ad) ?_
   refine SL.a (SL.nil ?_)
   refine E.ag (k + 1) [] ?_ ?_ ?_ ?_
   · exact zF
   · exact wW
   ·try dsimp only
    omega
   · exact xT
  have hg2p := gP hg2
  refine WH.k hg2 (WH.k hg2 (WH.k hg2 (WH.k hg2 (WH.k hg2 (WH.k hg2 (WH.k hg2 (WH.k hg2 ?_)))))))
  refine WH.v (O.pt (G.ne_f hg2)) ?_
  refine WH.v (O.as1) ?_
  refine WH.nil (E.inn (E.to (W.region (SL.o ?_))))
  refine SL.v (O.ad) ?_
  refine SL.a (SL.nil ?_)
  refine E.ag (k + 1) [] ?_ ?_ ?_ ?_
  · exact zF
  · exact wW
  ·try dsimp only
   omega
  · exact xT
 refine W.exit (E.th (E.th (E.hit (E.to (W.seq (W.block (W.rg ?_)))))))
 have hany : anyP ((queS s x.work).take k) x.pat = decide (0 ≤ patI (queS s x.work) x.pat) := by rw [show k = (queS s x.work).length by omega, List.take_length]; exact anyP_iff _ _
 refine SL.v (O.fr 2 0 u27) ?_
 refine SL.v (O.l1 u3) ?_
 refine SL.v (O.cp (q := refid_h (n := x.work))) ?_
 refine SL.v (O.nt) ?_
 refine SL.o ?_
 refine SL.cs 4 false (fun hg3 => ?_) fun hg3 => ?_
 ·have hg3p := gP hg3
  refine SL.v (O.fr 3 0 u27 (tY hg3)) ?_
  refine SL.v (O.l1 u3 (tY hg3)) ?_
  refine SL.v (O.cp (q := refid_h (n := x.pat)) (hg := (tY hg3))) ?_
  refine SL.v (O.nt (tY hg3)) ?_
  refine SL.v (O.pf hg3) ?_
  refine SL.o ?_
  refine SL.cs 10 false (fun hg4 => ?_) fun hg4 => ?_
  ·have hg4p := gP hg4
   refine SL.v (O.fr 4 0 u27 (tY hg4)) ?_
   refine SL.v (O.l1 u3 (tY hg4)) ?_
   refine SL.v (O.cp (q := refid_h (n := x.hold)) (hg := (tY hg4))) ?_
   refine SL.v (O.nt (tY hg4)) ?_
   refine SL.v (O.pf hg4) ?_
   refine SL.o ?_
   refine SL.cs 16 false (fun hg5 => ?_) fun hg5 => ?_
   ·have hg5p := gP hg5
    refine SL.v (O.fr 5 0 u27 (tY hg5)) ?_
    refine SL.v (O.l1 u3 (tY hg5)) ?_
    refine SL.v (O.lss (tY hg5)) ?_
    refine SL.v (O.pf hg5) ?_
    refine SL.o ?_
    refine SL.cs 21 false (fun hg6 => ?_) fun hg6 => ?_
    ·have hg6p := gP hg6
     refine SL.v (O.fr 5 0 u27 (tY hg6)) ?_
     refine SL.v (O.l1 u3 (tY hg6)) ?_
     refine SL.v (O.gtr (tY hg6)) ?_
     refine SL.v (O.pf hg6) ?_
     refine SL.a (E.fo ?_)
     refine W.pk [(2,_),(3,_),(4,_),(5,_),(6,_),(7,_),(8,_),(37,_)] [(101,_),(102,_),(103,_),(104,_)] ?_
     refine W.cc rfl (fun hc7 => ?_) fun hc7 => ?_
     ·have ha0 : ¬ (idB x.work ∧ idB x.pat ∧ idB x.hold ∧ inB x.cls 1 3) := by intro z; unfold inB at z; first | (simp_all; done) | (have := z.2.2.2; omega)
      refine W.rg ?_
      refine SL.v (O.n3 u25) ?_
      refine SL.st3_3 103 ?_
      refine SL.a (E.fo (W.ret ?_))
      refine E.inr ?_
      refine E.thr ?_
      refine E.j2 [] rfl (ResOne.c3 u25) (ResOne.tmp rfl) ?_
      ·rw [(ask_e2 (s := s) (x := x)  ha0).1, (ask_e2 (s := s) (x := x)  ha0).2]; rfl
     have ha0 : ¬ (¬ (idB x.work ∧ idB x.pat ∧ idB x.hold ∧ inB x.cls 1 3)) := by intro z; refine z ⟨by first | assumption | simp_all, by first | assumption | simp_all, by first | assumption | simp_all, by unfold inB; omega⟩
     refine W.rg ?_
     have hc1_ := cnt_len s.cps x.work 1
     have hc2_ := cnt_len s.cps x.work 2
     have hc3_ := cnt_len s.cps x.work 3
     refine SL.v (O.idx_ref (i := 0) (m := 1) rfl rfl yT xI u56 xG rfl rfl Taken.no) ?_
     refine SL.v (O.l1 u3) ?_
     refine SL.v (O.idx_ref (i := 1) (m := 1) rfl rfl yT xI u56 xG rfl rfl Taken.no) ?_
     refine SL.v (O.l1 u3) ?_
     refine SL.v (O.ad) ?_
     refine SL.v (O.idx_ref (i := 2) (m := 1) rfl rfl yT xI u56 xG rfl rfl Taken.no) ?_
     refine SL.v (O.l1 u3) ?_
     refine SL.v (O.ad) ?_
     refine SL.v (O.eql) ?_
     refine SL.a (E.fo ?_)
     refine W.cc rfl (fun hc8 => ?_) fun hc8 => ?_
     ·have ha1 : cntP s.cps x.work 1 = 0 ∧ cntP s.cps x.work 2 = 0 ∧ cntP s.cps x.work 3 = 0 := by omega
      refine W.rg ?_
      refine SL.v (O.n3 u25) ?_
      refine SL.st3_3 103 ?_
      refine SL.a (E.fo (W.ret ?_))
      refine E.inr ?_
      refine E.thr ?_
      refine E.j2 [] rfl (ResOne.c3 u25) (ResOne.tmp rfl) ?_
      ·rw [(ask_e9 (s := s) (x := x)  ha0 ha1).1, (ask_e9 (s := s) (x := x)  ha0 ha1).2]; rfl
     have ha1 : ¬ (cntP s.cps x.work 1 = 0 ∧ cntP s.cps x.work 2 = 0 ∧ cntP s.cps x.work 3 = 0) := by omega
     refine W.seq ?_
     refine W.dr [pX 101, pO, pW 102, pX 102, pO, pO, pX 101, pW 102, pX 102, pW 102, pX 102, pO, pO, pO, pO, pO, pO] ?_
     refine WH.v (O.n3 u25) ?_
     refine WH.v (O.cp (q := Con.fz (holds_h (s := s) hbb3.1 hbb3.2.1 hbb3.2.2.1) rfl rfl)) ?_
     refine WH.v (O.fr 4 0 u27) ?_
     refine WH.v (O.l1 u3) ?_
     refine WH.val (OpOk.re (i' := vB (useB s x.hold)) (O.callp rfl rfl rfl (refin_h (l := holdsL s) (n := x.hold)) (.cons (ArgOk.same rfl) (.cons (ArgOk.same rfl) .nil)) hcallOk50 rfl Taken.no) (by rw [holds_use])) rfl rfl ?_
     refine WH.o rfl ?_
     refine WH.cs 5 false (fun hg9 => ?_) fun hg9 => ?_
     ·have hg9p := gP hg9
      refine WH.v (O.n3 u25 (tY hg9)) ?_
      refine WH.v (O.fr 2 0 u27 (tY hg9)) ?_
      refine WH.v (O.l1 u3 (tY hg9)) ?_
      refine WH.v (O.fr 3 0 u27 (tY hg9)) ?_
      refine WH.v (O.l1 u3 (tY hg9)) ?_
      refine WH.val (OpOk.re (i' := vB (decide (0 ≤ ownI s x.pat x.work))) (O.callp rfl rfl rfl (has_h (s := s) (wk := x.work) (p := x.pat)) (.cons (ArgOk.aggU (.cons (ArgOk.same rfl) (.cons (ArgOk.same rfl) (.cons (ArgOk.same rfl) .nil)))) (.cons (ArgOk.same rfl) (.cons (ArgOk.same rfl) .nil))) hcallOk47 rfl (Taken.yes rfl rfl hg9)) yT) rfl rfl ?_
      refine WH.v (O.pf hg9) ?_
      refine WH.o rfl ?_
      refine WH.cs 13 false (fun hg10 => ?_) fun hg10 => ?_
      ·have hg10p := gP hg10
       refine WH.v (O.mo (tY hg10)) ?_
       refine WH.v (O.pf hg10) ?_
       refine WH.v (O.as1) ?_
       refine WH.nil (E.to ?_)
       refine W.pk [(2,_),(3,_),(4,_),(5,_),(6,_),(76,_)] [(101,_),(102,_),(103,_),(104,_)] ?_
       refine W.cc rfl (fun hc11 => ?_) fun hc11 => ?_
       ·have ha2 : useB s x.hold = true ∨ 0 ≤ ownI s x.pat x.work ∨ 0 ≤ patI (queS s x.work) x.pat := by simp_all
        refine W.rg ?_
        refine SL.v (O.n3 u25) ?_
        refine SL.st3_3 103 ?_
        refine SL.a (E.fo (W.ret ?_))
        refine E.inr ?_
        refine E.thr ?_
        refine E.j2 [] rfl (ResOne.c3 u25) (ResOne.tmp rfl) ?_
        ·rw [(ask_e10 (s := s) (x := x)  ha0 ha1 ha2).1, (ask_e10 (s := s) (x := x)  ha0 ha1 ha2).2]; rfl
       have ha2 : ¬ (useB s x.hold = true ∨ 0 ≤ ownI s x.pat x.work ∨ 0 ≤ patI (queS s x.work) x.pat) := by simp_all
       refine W.skip (E.inn (E.to (W.rg ?_)))
       have hgl := put_gl hv (Decidable.not_not.1 ha0) (by cases z : useB s x.hold with | false => rfl | true => exact absurd (.inl z) ha2) (fun z => ha2 (.inr (.inr z)))
       refine SL.o ?_
       refine SL.v (O.fr 4 0 u27) ?_
       refine SL.v (O.l1 u3) ?_
       refine SL.v (O.fr 3 0 u27) ?_
       refine SL.v (O.l1 u3) ?_
       refine SL.v (O.fr 5 0 u27) ?_
       refine SL.v (O.l1 u3) ?_
       refine SL.v (O.fr 0 0 u25) ?_
       refine SL.v (O.l1 u3) ?_
       refine SL.v (O.bd1 u121) ?_
       refine SL.cl [] [] (.tup [.u _, .u _]) _ (q := refPut_h (q := (queS s x.work)) (h := (hldX s x)))  (h := ?_)
       refine SL.o ?_
       refine SL.v (O.ex) ?_
       refine SL.v (O.ex) ?_
       refine SL.a (SL.a (E.fo (W.seq (W.rg (SL.o ?_)))))
       refine SL.v (O.neq) ?_
       refine E.fo ?_
       refine W.cc rfl (fun hc12 => ?_) fun hc12 => ?_
       ·have ha3 : (queS s x.work).length = 60 := Classical.byContradiction fun z => absurd (put_0 hgl.1 hgl.2 z).1 (by first | assumption | omega)
        have hp20 := (put_20 hgl.1 hgl.2 ha3).1
        refine W.rg ?_
        refine SL.v (O.n3 u25) ?_
        refine SL.o ?_
        refine SL.st3_3 103 ?_
        refine SL.a (E.fo ?_)
        refine W.pk [(2,_),(3,_),(4,_),(5,_),(6,_)] [(101,_),(102,_),(103,_),(104,_)] ?_
        refine W.ret (E.thr ?_)
        refine E.j2 [] rfl (ResOne.c3 u25) (ResOne.tmp rfl) ?_
        ·rw [(ask_e20 (s := s) (x := x)  ha0 ha1 ha2 ha3).1, (ask_e20 (s := s) (x := x)  ha0 ha1 ha2 ha3).2, ← hp20]; rfl
       have ha3 : ¬ ((queS s x.work).length = 60) := fun z => by have := (put_20 hgl.1 hgl.2 z).1; omega
       have hae : askE s x = 0 := (ask_e0 (s := s) (x := x)  ha0 ha1 ha2 ha3).1
       refine W.skip (E.to (W.rg ?_))
       refine SL.v (O.n3 u25) ?_
       refine SL.v (O.fr 2 0 u27) ?_
       refine SL.v (O.l1 u3) ?_
       refine SL.o ?_
       refine SL.cl [] [] (.agg [.u _, .u _, .u _]) _ (q := with_h (s := s) (wk := x.work) (q := putQ (queS s x.work) (hldX s x)) hok.1 (by have := hok.2.1; omega))  (h := ?_)
       refine SL.st3_3 101 ?_
       refine E.fo ?_
       refine W.pk [(2,_),(3,_),(4,_),(5,_)] [(101,_),(102,_),(103,_),(104,_)] ?_
       refine W.seq (W.rg (SL.a (E.fo (W.block ?_))))
       refine W.lq (fun (k2 : Nat) => [(11, vI (k2 : Int))]) (fun (k2 : Nat) => [(101, .cells 25 [vI s.now, vL 8 (s.cps.map eCp), vL 2 ((putS s x).lns.map eLn)])]) (fun (k2 : Nat) => k2 ≤ s.cps.length ∧ ∀ j, j < k2 → (fun c : Cp => decide (c.work = x.work ∧ c.place = 1)) s.cps[j]! = false) (fun (k2 : Nat) => s.cps.length - k2) (0) [] [(2, _), (3, _), (4, _)] [(102, _), (103, _), (104, _)] ?_ ?_
       ·exact yG
       intro k2 hinv
       obtain ⟨hk2, hp2⟩ := hinv
       refine W.seq (W.rg (SL.o ?_))
       refine SL.v (O.fr 1 0 u25) ?_
       refine SL.v (O.l1 u22) ?_
       refine SL.v (O.le u22) ?_
       refine SL.v (O.lss) ?_
       refine E.fo ?_
       refine W.cc rfl (fun hc13 => ?_) fun hc13 => ?_
       ·refine W.skip (E.to (W.seq (W.block (W.seq ?_))))
        refine W.dr [pW 101, pX 101, pO, pO, pO, pO, pW 102, pX 102, pO, pO, pW 101, pX 101, pO, pO, pO, pO, pO, pO] ?_
        refine WH.v (O.fr 1 0 u25) ?_
        refine WH.v (O.l1 u22) ?_
        refine WH.o rfl ?_
        refine WH.v (O.ix (i := k2) u22 hi65 hs65) ?_
        refine WH.v (O.ff 0 u65) ?_
        refine WH.v (O.l1f u3) ?_
        refine WH.v (O.fr 2 0 u27) ?_
        refine WH.v (O.l1 u3) ?_
        refine WH.v (O.eql) ?_
        refine WH.o rfl ?_
        refine WH.cs 9 true (fun hg14 => ?_) fun hg14 => ?_
        ·have hg14p := gP hg14
         refine WH.v (O.fr 1 0 u25 (tY hg14)) ?_
         refine WH.v (O.l1 u22 (tY hg14)) ?_
         refine WH.v (O.mo (tY hg14)) ?_
         refine WH.v (O.ix (i := k2) u22 hi65 hs65 (tY hg14)) ?_
         refine WH.v (O.ff 0 u65 (tY hg14)) ?_
         refine WH.v (O.l1f u3 (tY hg14)) ?_
         refine WH.v (O.eql (tY hg14)) ?_
         refine WH.v (O.pt hg14) ?_
         refine WH.nil (E.to ?_)
         refine W.pk [(2,_),(3,_),(4,_),(11,_),(141,_)] [(101,_),(102,_),(103,_),(104,_)] ?_
         refine W.cc rfl (fun hc15 => ?_) fun hc15 => ?_
         ·have hsk : shlI s x.work = (k2 : Int) := idxF_here (p := (fun c : Cp => decide (c.work = x.work ∧ c.place = 1))) xA hp2 (decide_eq_true ⟨xA, xA⟩)
          have hst : (shlI s x.work).toNat = k2 := by omega
          have hsp := shelf_put hv hae xA
          rw [hst] at hsp
          refine W.rg ?_
          refine SL.v (O.n3 u25) ?_
          refine SL.o ?_
          refine SL.cl [] [] (.agg [.u _, .u _, .u _]) _ (q := reffree_h (s := (putS s x)) (i := k2) (n := 61) (show k2 < s.cps.length by omega) (show s.cps.length ≤ 1000 by omega) hn (setQ_ok hok _ put_okV.2) xA)  (h := ?_)
          refine SL.st3_3 103 ?_
          refine SL.a (E.fo (W.ret ?_))
          refine E.inr ?_
          refine E.thr (E.thr ?_)
          refine E.inr ?_
          refine E.thr ?_
          refine E.j2 [] rfl (ResOne.c3 u25) (ResOne.tmp rfl) ?_
          ·rw [hsp, (ask_e0 (s := s) (x := x)  ha0 ha1 ha2 ha3).1, (ask_e0 (s := s) (x := x)  ha0 ha1 ha2 ha3).2, if_pos xA, hst]; rfl
         refine W.skip (E.inn (E.to (W.region (SL.o ?_))))
         refine SL.v (O.ad) ?_
         refine SL.a (SL.nil ?_)
         refine E.ai (k2 + 1) [] ?_
         ·try dsimp only
          exact ⟨xA, upto_s hp2 (decide_eq_false (by rintro ⟨z1, z2⟩; omega))⟩
        have hg14p := gP hg14
        refine WH.k hg14 (WH.k hg14 (WH.k hg14 (WH.k hg14 (WH.k hg14 (WH.k hg14 (WH.k hg14 ?_))))))
        refine WH.v (O.pf (G.ne_t hg14)) ?_
        refine WH.nil (E.to ?_)
        refine W.pk [(2,_),(3,_),(4,_),(11,_),(141,_)] [(101,_),(102,_),(103,_),(104,_)] ?_
        refine W.cond_f rfl ?_
        refine W.skip (E.inn (E.to (W.region (SL.o ?_))))
        refine SL.v (O.ad) ?_
        refine SL.a (SL.nil ?_)
        refine E.ai (k2 + 1) [] ?_
        ·try dsimp only
         exact ⟨xA, upto_s hp2 (decide_eq_false (by rintro ⟨z1, z2⟩; omega))⟩
       have hns : ¬ 0 ≤ shlI s x.work := by have z := idxF_none (p := (fun c : Cp => decide (c.work = x.work ∧ c.place = 1))) (l := s.cps) (k := k2) xA hp2; unfold shlI; omega
       refine W.exit (E.th (E.th (E.hit (E.to (W.rg ?_)))))
       refine SL.v (O.n3 u25) ?_
       refine SL.v (O.fr 2 0 u27) ?_
       refine SL.v (O.l1 u3) ?_
       refine SL.cl [] [] (.agg [.u _, .u _, .u _]) _ (q := refrecall_h (s := (putS s x)) (wk := x.work) hn (show s.cps.length ≤ 1000 by omega))  (h := ?_)
       refine SL.st3_3 103 ?_
       refine SL.a (E.fo (W.ret ?_))
       refine E.j2 [] rfl (ResOne.c3 u25) (ResOne.tmp rfl) ?_
       ·rw [(ask_e0 (s := s) (x := x)  ha0 ha1 ha2 ha3).1, (ask_e0 (s := s) (x := x)  ha0 ha1 ha2 ha3).2, if_neg hns]; rfl
      have hg10p := gP hg10
      have ha2 : useB s x.hold = true ∨ 0 ≤ ownI s x.pat x.work ∨ 0 ≤ patI (queS s x.work) x.pat := by simp_all
      refine WH.k hg10 ?_
      refine WH.v (O.pt (G.ne_f hg10)) ?_
      refine WH.v (O.as1) ?_
      refine WH.nil (E.to ?_)
      refine W.pk [(2,_),(3,_),(4,_),(5,_),(6,_),(76,_)] [(101,_),(102,_),(103,_),(104,_)] ?_
      refine W.cond_t rfl ?_
      refine W.rg ?_
      refine SL.v (O.n3 u25) ?_
      refine SL.st3_3 103 ?_
      refine SL.a (E.fo (W.ret ?_))
      refine E.inr ?_
      refine E.thr ?_
      refine E.j2 [] rfl (ResOne.c3 u25) (ResOne.tmp rfl) ?_
      ·rw [(ask_e10 (s := s) (x := x)  ha0 ha1 ha2).1, (ask_e10 (s := s) (x := x)  ha0 ha1 ha2).2]; rfl
     have hg9p := gP hg9
     have ha2 : useB s x.hold = true ∨ 0 ≤ ownI s x.pat x.work ∨ 0 ≤ patI (queS s x.work) x.pat := by simp_all
     refine WH.k hg9 (WH.k hg9 (WH.k hg9 (WH.k hg9 (WH.k hg9 (WH.k hg9 ?_)))))
     refine WH.v (O.pt (G.ne_f hg9)) ?_
     refine WH.o rfl ?_
     have hg16 := G.ntf
     refine WH.k hg16 ?_
     refine WH.v (O.pt rfl) ?_
     refine WH.v (O.as1) ?_
     refine WH.nil (E.to ?_)
     refine W.pk [(2,_),(3,_),(4,_),(5,_),(6,_),(76,_)] [(101,_),(102,_),(103,_),(104,_)] ?_
     refine W.cond_t rfl ?_
     refine W.rg ?_
     refine SL.v (O.n3 u25) ?_
     refine SL.st3_3 103 ?_
     refine SL.a (E.fo (W.ret ?_))
     refine E.inr ?_
     refine E.thr ?_
     refine E.j2 [] rfl (ResOne.c3 u25) (ResOne.tmp rfl) ?_
     ·rw [(ask_e10 (s := s) (x := x)  ha0 ha1 ha2).1, (ask_e10 (s := s) (x := x)  ha0 ha1 ha2).2]; rfl
    have hg6p := gP hg6
    have ha0 : ¬ (idB x.work ∧ idB x.pat ∧ idB x.hold ∧ inB x.cls 1 3) := by intro z; unfold inB at z; first | (simp_all; done) | (have := z.2.2.2; omega)
    refine SL.k hg6 (SL.k hg6 (SL.k hg6 ?_))
    refine SL.v (O.pt (G.ne_f hg6)) ?_
    refine SL.a (E.fo ?_)
    refine W.pk [(2,_),(3,_),(4,_),(5,_),(6,_),(7,_),(8,_),(37,_)] [(101,_),(102,_),(103,_),(104,_)] ?_
    refine W.cond_t rfl ?_
    refine W.rg ?_
    refine SL.v (O.n3 u25) ?_
    refine SL.st3_3 103 ?_
    refine SL.a (E.fo (W.ret ?_))
    refine E.inr ?_
    refine E.thr ?_
    refine E.j2 [] rfl (ResOne.c3 u25) (ResOne.tmp rfl) ?_
    ·rw [(ask_e2 (s := s) (x := x)  ha0).1, (ask_e2 (s := s) (x := x)  ha0).2]; rfl
   have hg5p := gP hg5
   have ha0 : ¬ (idB x.work ∧ idB x.pat ∧ idB x.hold ∧ inB x.cls 1 3) := by intro z; unfold inB at z; first | (simp_all; done) | (have := z.2.2.2; omega)
   refine SL.k hg5 (SL.k hg5 (SL.k hg5 ?_))
   refine SL.v (O.pt (G.ne_f hg5)) ?_
   refine SL.o ?_
   have hg17 := G.ntf
   refine SL.k hg17 (SL.k hg17 (SL.k hg17 ?_))
   refine SL.v (O.pt rfl) ?_
   refine SL.a (E.fo ?_)
   refine W.pk [(2,_),(3,_),(4,_),(5,_),(6,_),(7,_),(8,_),(37,_)] [(101,_),(102,_),(103,_),(104,_)] ?_
   refine W.cond_t rfl ?_
   refine W.rg ?_
   refine SL.v (O.n3 u25) ?_
   refine SL.st3_3 103 ?_
   refine SL.a (E.fo (W.ret ?_))
   refine E.inr ?_
   refine E.thr ?_
   refine E.j2 [] rfl (ResOne.c3 u25) (ResOne.tmp rfl) ?_
   ·rw [(ask_e2 (s := s) (x := x)  ha0).1, (ask_e2 (s := s) (x := x)  ha0).2]; rfl
  have hg4p := gP hg4
  have ha0 : ¬ (idB x.work ∧ idB x.pat ∧ idB x.hold ∧ inB x.cls 1 3) := by intro z; unfold inB at z; first | (simp_all; done) | (have := z.2.2.2; omega)
  refine SL.k hg4 (SL.k hg4 (SL.k hg4 (SL.k hg4 ?_)))
  refine SL.v (O.pt (G.ne_f hg4)) ?_
  refine SL.o ?_
  have hg18 := G.ntf
  refine SL.k hg18 (SL.k hg18 (SL.k hg18 ?_))
  refine SL.v (O.pt rfl) ?_
  refine SL.o ?_
  have hg19 := G.ntf
  refine SL.k hg19 (SL.k hg19 (SL.k hg19 ?_))
  refine SL.v (O.pt rfl) ?_
  refine SL.a (E.fo ?_)
  refine W.pk [(2,_),(3,_),(4,_),(5,_),(6,_),(7,_),(8,_),(37,_)] [(101,_),(102,_),(103,_),(104,_)] ?_
  refine W.cond_t rfl ?_
  refine W.rg ?_
  refine SL.v (O.n3 u25) ?_
  refine SL.st3_3 103 ?_
  refine SL.a (E.fo (W.ret ?_))
  refine E.inr ?_
  refine E.thr ?_
  refine E.j2 [] rfl (ResOne.c3 u25) (ResOne.tmp rfl) ?_
  ·rw [(ask_e2 (s := s) (x := x)  ha0).1, (ask_e2 (s := s) (x := x)  ha0).2]; rfl
 have hg3p := gP hg3
 have ha0 : ¬ (idB x.work ∧ idB x.pat ∧ idB x.hold ∧ inB x.cls 1 3) := by intro z; unfold inB at z; first | (simp_all; done) | (have := z.2.2.2; omega)
 refine SL.k hg3 (SL.k hg3 (SL.k hg3 (SL.k hg3 ?_)))
 refine SL.v (O.pt (G.ne_f hg3)) ?_
 refine SL.o ?_
 have hg20 := G.ntf
 refine SL.k hg20 (SL.k hg20 (SL.k hg20 (SL.k hg20 ?_)))
 refine SL.v (O.pt rfl) ?_
 refine SL.o ?_
 have hg21 := G.ntf
 refine SL.k hg21 (SL.k hg21 (SL.k hg21 ?_))
 refine SL.v (O.pt rfl) ?_
 refine SL.o ?_
 have hg22 := G.ntf
 refine SL.k hg22 (SL.k hg22 (SL.k hg22 ?_))
 refine SL.v (O.pt rfl) ?_
 refine SL.a (E.fo ?_)
 refine W.pk [(2,_),(3,_),(4,_),(5,_),(6,_),(7,_),(8,_),(37,_)] [(101,_),(102,_),(103,_),(104,_)] ?_
 refine W.cond_t rfl ?_
 refine W.rg ?_
 refine SL.v (O.n3 u25) ?_
 refine SL.st3_3 103 ?_
 refine SL.a (E.fo (W.ret ?_))
 refine E.inr ?_
 refine E.thr ?_
 refine E.j2 [] rfl (ResOne.c3 u25) (ResOne.tmp rfl) ?_
 ·rw [(ask_e2 (s := s) (x := x)  ha0).1, (ask_e2 (s := s) (x := x)  ha0).2]; rfl

set_option maxRecDepth 8000 in
theorem refdo_h {s : St} {x : Sp} (hc : s.cps.length ≤ 1000) (hl : s.lns.length ≤ 1000) (hq : ∀ l ∈ s.lns, l.q.length ≤ 100) (hlb : ∀ c ∈ s.cps, c.lib.length ≤ 1000) (hxl : x.lib.length ≤ 1000) :
    Con Tryz.prog 10 [vA [uI s.now, .sl 8 (s.cps.map eCp), .sl 2 (s.lns.map eLn)], vA (eSp x)] [] (.tup [.agg [vI (doS s x).now, vL 8 ((doS s x).cps.map eCp), vL 2 ((doS s x).lns.map eLn)], vI (doE s x)]) [] := by
 refine Con.en 72 Tryz.func10 fun τ w ok vs hin => ?_
 have hl0_1 := hin.lenA (i := 0) (j := 1) rfl rfl
 try rw [List.length_map] at hl0_1
 have hl0_2 := hin.lenA (i := 0) (j := 2) rfl rfl
 try rw [List.length_map] at hl0_2
 clear hin
 refine W.rg ?_
 refine SL.bx3 101 ?_
 refine SL.bx8 102 ?_
 refine SL.al9 103 ?_
 refine SL.a (E.fo (W.seq (W.rg ?_)))
 refine SL.v (O.n3 u25) ?_
 refine SL.v (O.cp (q := refvalidS_h (s := s) hc hl hq hlb)) ?_
 refine SL.v (O.nt) ?_
 refine SL.o ?_
 refine SL.cs 3 false (fun hg1 => ?_) fun hg1 => ?_
 ·have hg1p := gP hg1
  refine SL.v (O.n8 u27 (tY hg1)) ?_
  refine SL.v (O.cp (q := formed_h (x := x)) (hg := (tY hg1))) ?_
  refine SL.v (O.nt (tY hg1)) ?_
  refine SL.v (O.pf hg1) ?_
  refine E.fo ?_
  refine W.cc rfl (fun hc2 => ?_) fun hc2 => ?_
  ·have hdo : ¬ doOk s x := fun z => by have := z.2; simp_all
   refine W.rg ?_
   refine SL.v (O.bd6 u25) ?_
   refine SL.st3_3 103 ?_
   refine SL.a (E.fo (W.ret (E.thr ?_)))
   refine E.nilslC 103 1 8 (is' := [_, _, _]) rfl rfl rfl ?_
   refine E.nilslC 103 2 2 (is' := [_, _, _]) rfl rfl rfl ?_
   refine E.j2 [] rfl (ResOne.c3 u25) (ResOne.tmp rfl) ?_
   ·rw [(do_arg hdo).1, (do_arg hdo).2]; rfl
  have hv : validS s := by first | assumption | simp_all
  have hfm : inB x.kind 1 8 ∧ fldS x = x := by first | assumption | simp_all
  have hdo : doOk s x := ⟨hv, hfm⟩
  have hk18 : 1 ≤ x.kind ∧ x.kind ≤ 8 := hfm.1
  refine W.skip (E.to (W.rg ?_))
  refine SL.al9 104 ?_
  refine E.fo (W.rg (SL.a (E.fo (W.seq (W.rg ?_)))))
  refine SL.v (O.fr 0 0 u27) ?_
  refine SL.v (O.l1 u3) ?_
  refine E.fo (W.block (W.rg ?_))
  refine SL.v (O.eql) ?_
  refine SL.a (E.fo ?_)
  refine W.cc rfl (fun hc3 => ?_) fun hc3 => ?_
  ·have hse : stE s x = addE s x := (stS_1 xA).2
   have hss : stS s x = addS s x := (stS_1 xA).1
   refine W.region ?_
   refine SL.v (O.n3 u25) ?_
   refine SL.v (O.n8 u27) ?_
   refine SL.cl [] [] (.tup [.agg [.u _, .u _, .u _], .u _]) _ (q := addCopy_h (s := s) (x := x) hv hxl)  (h := ?_)
   refine SL.o ?_
   refine SL.v (O.ex) ?_
   refine SL.v (O.ex) ?_
   refine SL.st3_3 104 ?_
   refine SL.a (SL.nil (E.inn (E.to ?_)))
   refine W.pk [(4,_),(5,_),(6,_),(7,_)] [(101,_),(102,_),(103,_),(104,_)] ?_
   refine W.seq (W.rg (SL.o ?_))
   refine SL.v (O.neq) ?_
   refine E.fo ?_
   refine W.cc rfl (fun hc4 => ?_) fun hc4 => ?_
   ·have hne : ¬ stE s x = 0 := by rw [hse]; first | assumption | omega
    refine W.rg ?_
    refine SL.v (O.bd6 u25) ?_
    refine SL.o ?_
    refine SL.st3_3 103 ?_
    refine SL.a (E.fo (W.ret (E.thr ?_)))
    refine E.nilslC 103 1 8 (is' := [_, _, _]) rfl rfl rfl ?_
    refine E.nilslC 103 2 2 (is' := [_, _, _]) rfl rfl rfl ?_
    refine E.j2 [] rfl (ResOne.c3 u25) (ResOne.tmp rfl) ?_
    ·exact xF
   have hz : stE s x = 0 := by rw [hse]; first | assumption | omega
   refine W.skip (E.to (W.rg ?_))
   refine SL.v (O.n3 u25) ?_
   refine SL.st3_3 103 ?_
   refine SL.a (E.fo (W.ret ?_))
   refine E.j2 [] rfl (ResOne.c3 u25) (ResOne.tmp rfl) ?_
   ·exact xF
  refine W.rg ?_
  refine SL.v (O.eql) ?_
  refine SL.a (E.fo ?_)
  refine W.cc rfl (fun hc5 => ?_) fun hc5 => ?_
  ·have hse : stE s x = askE s x := (stS_6 xA).2
   have hss : stS s x = askS s x := (stS_6 xA).1
   refine W.region ?_
   refine SL.v (O.n3 u25) ?_
   refine SL.v (O.n8 u27) ?_
   refine SL.cl [] [] (.tup [.agg [.u _, .u _, .u _], .u _]) _ (q := refask_h (s := s) (x := x) hv)  (h := ?_)
   refine SL.o ?_
   refine SL.v (O.ex) ?_
   refine SL.v (O.ex) ?_
   refine SL.st3_3 104 ?_
   refine SL.a (SL.nil (E.inn (E.to ?_)))
   refine W.pk [(4,_),(5,_),(6,_),(7,_)] [(101,_),(102,_),(103,_),(104,_)] ?_
   refine W.seq (W.rg (SL.o ?_))
   refine SL.v (O.neq) ?_
   refine E.fo ?_
   refine W.cc rfl (fun hc6 => ?_) fun hc6 => ?_
   ·have hne : ¬ stE s x = 0 := by rw [hse]; first | assumption | omega
    refine W.rg ?_
    refine SL.v (O.bd6 u25) ?_
    refine SL.o ?_
    refine SL.st3_3 103 ?_
    refine SL.a (E.fo (W.ret (E.thr ?_)))
    refine E.nilslC 103 1 8 (is' := [_, _, _]) rfl rfl rfl ?_
    refine E.nilslC 103 2 2 (is' := [_, _, _]) rfl rfl rfl ?_
    refine E.j2 [] rfl (ResOne.c3 u25) (ResOne.tmp rfl) ?_
    ·exact xF
   have hz : stE s x = 0 := by rw [hse]; first | assumption | omega
   refine W.skip (E.to (W.rg ?_))
   refine SL.v (O.n3 u25) ?_
   refine SL.st3_3 103 ?_
   refine SL.a (E.fo (W.ret ?_))
   refine E.j2 [] rfl (ResOne.c3 u25) (ResOne.tmp rfl) ?_
   ·exact xF
  refine W.rg ?_
  refine SL.v (O.eql) ?_
  refine SL.a (E.fo ?_)
  refine W.cc rfl (fun hc7 => ?_) fun hc7 => ?_
  ·have hse : stE s x = clcE s x := (stS_7 xA).2
   have hss : stS s x = clcS s x := (stS_7 xA).1
   refine W.region ?_
   refine SL.v (O.n3 u25) ?_
   refine SL.v (O.fr 4 0 u27) ?_
   refine SL.v (O.l1 u3) ?_
   refine SL.cl [] [] (.tup [.agg [.u _, .u _, .u _], .u _]) _ (q := refcancelS_h (s := s) (x := x) hv)  (h := ?_)
   refine SL.o ?_
   refine SL.v (O.ex) ?_
   refine SL.v (O.ex) ?_
   refine SL.st3_3 104 ?_
   refine SL.a (SL.nil (E.inn (E.to ?_)))
   refine W.pk [(4,_),(5,_),(6,_),(7,_)] [(101,_),(102,_),(103,_),(104,_)] ?_
   refine W.seq (W.rg (SL.o ?_))
   refine SL.v (O.neq) ?_
   refine E.fo ?_
   refine W.cc rfl (fun hc8 => ?_) fun hc8 => ?_
   ·have hne : ¬ stE s x = 0 := by rw [hse]; first | assumption | omega
    refine W.rg ?_
    refine SL.v (O.bd6 u25) ?_
    refine SL.o ?_
    refine SL.st3_3 103 ?_
    refine SL.a (E.fo (W.ret (E.thr ?_)))
    refine E.nilslC 103 1 8 (is' := [_, _, _]) rfl rfl rfl ?_
    refine E.nilslC 103 2 2 (is' := [_, _, _]) rfl rfl rfl ?_
    refine E.j2 [] rfl (ResOne.c3 u25) (ResOne.tmp rfl) ?_
    ·exact xF
   have hz : stE s x = 0 := by rw [hse]; first | assumption | omega
   refine W.skip (E.to (W.rg ?_))
   refine SL.v (O.n3 u25) ?_
   refine SL.st3_3 103 ?_
   refine SL.a (E.fo (W.ret ?_))
   refine E.j2 [] rfl (ResOne.c3 u25) (ResOne.tmp rfl) ?_
   ·exact xF
  refine W.rg ?_
  refine SL.v (O.eql) ?_
  refine SL.a (E.fo ?_)
  refine W.pk [(2,_),(3,_),(4,_),(5,_),(6,_),(7,_),(18,_),(50,_)] [(101,_),(102,_),(103,_),(104,_)] ?_
  refine W.cc rfl (fun hc9 => ?_) fun hc9 => ?_
  ·have hse : stE s x = waiE s x := (stS_8 xA).2
   have hss : stS s x = waiS s x := (stS_8 xA).1
   refine W.region ?_
   refine SL.v (O.n3 u25) ?_
   refine SL.v (O.fr 6 0 u27) ?_
   refine SL.v (O.l1 u3) ?_
   refine SL.cl [] [] (.tup [.agg [.u _, .u _, .u _], .u _]) _ (q := refwait_h (s := s) (x := x) hv)  (h := ?_)
   refine SL.o ?_
   refine SL.v (O.ex) ?_
   refine SL.v (O.ex) ?_
   refine SL.st3_3 104 ?_
   refine SL.a (SL.nil (E.inn (E.to (W.seq (W.rg (SL.o ?_))))))
   refine SL.v (O.neq) ?_
   refine E.fo ?_
   refine W.cc rfl (fun hc10 => ?_) fun hc10 => ?_
   ·have hne : ¬ stE s x = 0 := by rw [hse]; first | assumption | omega
    refine W.rg ?_
    refine SL.v (O.bd6 u25) ?_
    refine SL.o ?_
    refine SL.st3_3 103 ?_
    refine SL.a (E.fo (W.ret (E.thr ?_)))
    refine E.nilslC 103 1 8 (is' := [_, _, _]) rfl rfl rfl ?_
    refine E.nilslC 103 2 2 (is' := [_, _, _]) rfl rfl rfl ?_
    refine E.j2 [] rfl (ResOne.c3 u25) (ResOne.tmp rfl) ?_
    ·exact xF
   have hz : stE s x = 0 := by rw [hse]; first | assumption | omega
   refine W.skip (E.to (W.rg ?_))
   refine SL.v (O.n3 u25) ?_
   refine SL.st3_3 103 ?_
   refine SL.a (E.fo (W.ret ?_))
   refine E.j2 [] rfl (ResOne.c3 u25) (ResOne.tmp rfl) ?_
   ·exact xF
  refine W.rg ?_
  refine SL.v (O.eql) ?_
  refine SL.a (E.fo ?_)
  refine W.cc rfl (fun hc11 => ?_) fun hc11 => ?_
  ·have hse : stE s x = lenE s x := (stS_3 xA).2
   have hss : stS s x = lenS s x := (stS_3 xA).1
   refine W.region ?_
   refine SL.v (O.n3 u25) ?_
   refine SL.v (O.n8 u27) ?_
   refine SL.cl [] [] (.tup [.agg [.u _, .u _, .u _], .u _]) _ (q := reflend_h (s := s) (x := x) hv)  (h := ?_)
   refine SL.o ?_
   refine SL.v (O.ex) ?_
   refine SL.v (O.ex) ?_
   refine SL.st3_3 104 ?_
   refine SL.a (SL.nil (E.inn (E.to (W.seq (W.rg (SL.o ?_))))))
   refine SL.v (O.neq) ?_
   refine E.fo ?_
   refine W.cc rfl (fun hc12 => ?_) fun hc12 => ?_
   ·have hne : ¬ stE s x = 0 := by rw [hse]; first | assumption | omega
    refine W.rg ?_
    refine SL.v (O.bd6 u25) ?_
    refine SL.o ?_
    refine SL.st3_3 103 ?_
    refine SL.a (E.fo (W.ret (E.thr ?_)))
    refine E.nilslC 103 1 8 (is' := [_, _, _]) rfl rfl rfl ?_
    refine E.nilslC 103 2 2 (is' := [_, _, _]) rfl rfl rfl ?_
    refine E.j2 [] rfl (ResOne.c3 u25) (ResOne.tmp rfl) ?_
    ·exact xF
   have hz : stE s x = 0 := by rw [hse]; first | assumption | omega
   refine W.skip (E.to (W.rg ?_))
   refine SL.v (O.n3 u25) ?_
   refine SL.st3_3 103 ?_
   refine SL.a (E.fo (W.ret ?_))
   refine E.j2 [] rfl (ResOne.c3 u25) (ResOne.tmp rfl) ?_
   ·exact xF
  have hse : stE s x = stE s x := rfl
  have hss : stS s x = stS s x := rfl
  refine W.region ?_
  refine SL.v (O.n3 u25) ?_
  refine SL.v (O.n8 u27) ?_
  refine SL.cl [] [] (.tup [.agg [.u _, .u _, .u _], .u _]) _ (q := other_h (s := s) (x := x) hv xA)  (h := ?_)
  refine SL.o ?_
  refine SL.v (O.ex) ?_
  refine SL.v (O.ex) ?_
  refine SL.st3_3 104 ?_
  refine SL.a (SL.nil (E.inn (E.to (W.seq (W.rg (SL.o ?_))))))
  refine SL.v (O.neq) ?_
  refine E.fo ?_
  refine W.cc rfl (fun hc13 => ?_) fun hc13 => ?_
  ·have hne : ¬ stE s x = 0 := by rw [hse]; first | assumption | omega
   refine W.rg ?_
   refine SL.v (O.bd6 u25) ?_
   refine SL.o ?_
   refine SL.st3_3 103 ?_
   refine SL.a (E.fo (W.ret (E.thr ?_)))
   refine E.nilslC 103 1 8 (is' := [_, _, _]) rfl rfl rfl ?_
   refine E.nilslC 103 2 2 (is' := [_, _, _]) rfl rfl rfl ?_
   refine E.j2 [] rfl (ResOne.c3 u25) (ResOne.tmp rfl) ?_
   ·exact xF
  have hz : stE s x = 0 := by rw [hse]; first | assumption | omega
  refine W.skip (E.to (W.rg ?_))
  refine SL.v (O.n3 u25) ?_
  refine SL.st3_3 103 ?_
  refine SL.a (E.fo (W.ret ?_))
  refine E.j2 [] rfl (ResOne.c3 u25) (ResOne.tmp rfl) ?_
  ·exact xF
 have hg1p := gP hg1
 have hdo : ¬ doOk s x := fun z => by have := z.1; simp_all
 refine SL.k hg1 (SL.k hg1 (SL.k hg1 ?_))
 refine SL.v (O.pt (G.ne_f hg1)) ?_
 refine E.fo ?_
 refine W.cond_t rfl ?_
 refine W.rg ?_
 refine SL.v (O.bd6 u25) ?_
 refine SL.st3_3 103 ?_
 refine SL.a (E.fo (W.ret (E.thr ?_)))
 refine E.nilslC 103 1 8 (is' := [_, _, _]) rfl rfl rfl ?_
 refine E.nilslC 103 2 2 (is' := [_, _, _]) rfl rfl rfl ?_
 refine E.j2 [] rfl (ResOne.c3 u25) (ResOne.tmp rfl) ?_
 ·rw [(do_arg hdo).1, (do_arg hdo).2]; rfl

set_option maxRecDepth 8000 in
theorem refrun_h {s : St} {l : List Sp} (hc : s.cps.length ≤ 1000) (hl : s.lns.length ≤ 1000) (hq : ∀ l ∈ s.lns, l.q.length ≤ 100) (hlb : ∀ c ∈ s.cps, c.lib.length ≤ 1000) (hxl : ∀ j, j < l.length → l[j]!.lib.length ≤ 1000) :
    Con Tryz.prog 16 [vA [uI s.now, .sl 8 (s.cps.map eCp), .sl 2 (s.lns.map eLn)], vL 8 (l.map eSp)] [] (.tup [.agg [vI ((runF s l).1).now, vL 8 (((runF s l).1).cps.map eCp), vL 2 (((runF s l).1).lns.map eLn)], vI ((runF s l).2.1 : Nat), vI (runF s l).2.2]) [] := by
 obtain ⟨i27, hi27, hz27, hs27, hb27⟩ := hinf27
 refine Con.en 38 Tryz.func16 fun τ w ok vs hin => ?_
 have hl0_1 := hin.lenA (i := 0) (j := 1) rfl rfl
 try rw [List.length_map] at hl0_1
 have hl0_2 := hin.lenA (i := 0) (j := 2) rfl rfl
 try rw [List.length_map] at hl0_2
 have hl1 := hin.len (i := 1) rfl
 try rw [List.length_map] at hl1
 clear hin
 refine W.rg ?_
 refine SL.bx3 101 ?_
 refine SL.al9 102 ?_
 refine SL.a (SL.a (E.fo (W.seq (W.rg ?_))))
 refine SL.v (O.n3 u25) ?_
 refine SL.v (O.cp (q := refvalidS_h (s := s) hc hl hq hlb)) ?_
 refine SL.v (O.nt) ?_
 refine E.fo ?_
 refine W.cc rfl (fun hc1 => ?_) fun hc1 => ?_
 ·refine W.rg ?_
  refine SL.v (O.bd6 u25) ?_
  refine SL.st3_3 102 ?_
  refine SL.a (SL.a (E.fo (W.ret (E.thr ?_))))
  refine E.nilslC 102 1 8 (is' := [_, _, _]) rfl rfl rfl ?_
  refine E.nilslC 102 2 2 (is' := [_, _, _]) rfl rfl rfl ?_
  refine E.j3 [] rfl (ResOne.c3 u25) (ResOne.tmp rfl) (ResOne.tmp rfl) ?_
  ·rw [runF, if_neg xV]; rfl
 have hv : validS s := by first | assumption | simp_all
 have hrf : runF s l = runR s (l.drop 0) 0 := if_pos hv
 refine W.skip (E.to (W.seq (W.rg (SL.a (E.fo (W.block ?_))))))
 refine W.loopx2 (fun (k : Nat) (t : St) => [(7, vI (k : Int))]) (fun (k : Nat) (t : St) => [(101, .cells 25 [vI t.now, vL 8 (t.cps.map eCp), vL 2 (t.lns.map eLn)])]) (fun (k : Nat) (t : St) => k ≤ l.length ∧ validS t ∧ runF s l = runR t (l.drop k) k) (fun (k : Nat) (t : St) => l.length - k) (0) (s) (rn []) (.cons (t := 1) rfl (.cons (t := 2) rfl (.cons (t := 4) rfl .nil))) (.cons (t := 102) rfl .nil) rfl ?_ ?_ rfl rfl ?_ ?_
 · exact zH
 · exact wW
 ·exact ⟨xA, hv, hrf⟩
 intro k t hinv
 obtain ⟨hk, ht, hr⟩ := hinv
 refine W.seq (W.rg (SL.o (SL.o ?_)))
 refine SL.v (O.le u44) ?_
 refine SL.v (O.lss) ?_
 refine E.fo ?_
 refine W.cc rfl (fun hc2 => ?_) fun hc2 => ?_
 ·refine W.skip (E.to (W.seq (W.block (W.seq ?_))))
  refine W.dr [pX 101, pO, pO, pO, pO, pO, pO, pO, pO, ⟨[103], [103], [103], []⟩, ⟨[103], [103], [], []⟩, pO] ?_
  refine WH.v (O.n3 u25) ?_
  refine WH.o rfl (WH.o rfl ?_)
  refine WH.v (O.ix (i := k) u44 hi27 hs27) ?_
  refine WH.v (O.lU 8 u27) ?_
  refine WH.cl [] [] (.tup [.agg [.u _, .u _, .u _], .u _]) _ (q := refdo_h (s := t) (x := l[k]!) (valid_b ht).1 (valid_b ht).2.1 (valid_b ht).2.2.1 (valid_b ht).2.2.2 (hxl k xA))  (h := ?_)
  refine WH.o rfl ?_
  refine WH.v (O.ex) ?_
  refine WH.v (O.ex) ?_
  refine WH.al9 103 ?_
  refine WH.st3_3 103 ?_
  refine WH.v (O.as1) ?_
  refine WH.nil (E.to (W.seq (W.rg (SL.o ?_))))
  refine SL.v (O.neq) ?_
  refine E.fo ?_
  refine W.cc rfl (fun hc3 => ?_) fun hc3 => ?_
  ·refine W.rg ?_
   refine SL.v (O.n3 u25) ?_
   refine SL.o (SL.o ?_)
   refine SL.st3_3 102 ?_
   refine SL.a (SL.a (E.fo ?_))
   refine W.pk [(1,_),(2,_),(4,_),(5,_),(6,_),(7,_),(8,_)] [(101,_),(102,_),(103,_)] ?_
   refine W.ret (E.thr ?_)
   refine E.inr ?_
   refine E.thr (E.thr ?_)
   refine E.inr ?_
   refine E.thr ?_
   refine E.j3 [] rfl (ResOne.c3 u25) (ResOne.tmp rfl) (ResOne.tmp rfl) ?_
   ·rw [hr, run_stop xA xA]; rfl
  refine W.skip (E.to (W.region ?_))
  refine SL.v (O.n3 u25) ?_
  refine SL.st3_3 101 ?_
  refine SL.nil (E.inn (E.to (W.region (SL.o ?_))))
  refine SL.v (O.ad) ?_
  refine SL.a (SL.nil ?_)
  refine E.ai ((k + 1), (doS t l[k]!)) [] ?_
  ·try dsimp only
   exact ⟨xA, do_valid xA, hr.trans (run_at xA xA)⟩
 refine W.exit (E.th (E.th (E.hit (E.to (W.rg ?_)))))
 refine SL.v (O.n3 u25) ?_
 refine SL.o ?_
 refine SL.v (O.le u44) ?_
 refine SL.st3_3 102 ?_
 refine SL.a (SL.a (E.fo (W.ret ?_)))
 refine E.j3 [] rfl (ResOne.c3 u25) (ResOne.tmp rfl) (ResOne.tmp rfl) ?_
 ·rw [hr, run_end xA]
  obtain rfl : k = l.length := by omega
  rfl

end Go.Proofs.YtmekkjehkcjpdaaGreat
end
section
namespace Go.D58
open Go Go.RowKit Go.H Go.D57
theorem runF_valid (s : St) (l : List Sp) : validS (runF s l).1 := by
  unfold runF
  split
  · rename_i h; exact run_valid h l 0
  · exact zero_valid
theorem run_ge : ∀ (l : List Sp) (s : St) (i : Nat), i ≤ (runR s l i).2.1 ∧ (runR s l i).2.1 ≤ i + l.length
  | [], s, i => ⟨Nat.le_refl _, Nat.le_refl _⟩
  | x :: l, s, i => by
    rw [runR]
    split
    · have := run_ge l (doS s x) (i + 1)
      rw [List.length_cons]; omega
    · exact ⟨Nat.le_refl _, by show i ≤ _; omega⟩
theorem run_more {t : St} {l : List Sp} {k : Nat} (h : k < (runR t (l.drop k) k).2.1) : k < l.length ∧ doE t l[k]! = 0 := by
  have hk : k < l.length := by
    have := (run_ge (l.drop k) t k).2
    rw [List.length_drop] at this
    omega
  refine ⟨hk, ?_⟩
  by_cases e : doE t l[k]! = 0
  · exact e
  · rw [run_stop hk e] at h
    exact absurd h (Nat.lt_irrefl k)
theorem run_fix {t : St} {l : List Sp} {k : Nat} (h : (runR t (l.drop k) k).2.1 = k) : (runR t (l.drop k) k).1 = t ∧ (k < l.length → doE t l[k]! ≠ 0 ∧ (runR t (l.drop k) k).2.2 = doE t l[k]!) := by
  by_cases hk : k < l.length
  · by_cases e : doE t l[k]! = 0
    · rw [run_at hk e] at h
      have := (run_ge (l.drop (k + 1)) (doS t l[k]!) (k + 1)).1
      omega
    · rw [run_stop hk e]
      exact ⟨rfl, fun _ => ⟨e, rfl⟩⟩
  · rw [run_end xA]
    exact ⟨rfl, fun z => absurd z hk⟩
theorem runF_le (s : St) (l : List Sp) : (runF s l).2.1 ≤ l.length := by
  unfold runF
  split
  · have := (run_ge l s 0).2; omega
  · exact Nat.zero_le _
theorem runF_no {s : St} {l : List Sp} (h : ¬ validS s) : (runF s l).2.2 = 1 := by rw [runF, if_neg h]
end Go.D58
end
