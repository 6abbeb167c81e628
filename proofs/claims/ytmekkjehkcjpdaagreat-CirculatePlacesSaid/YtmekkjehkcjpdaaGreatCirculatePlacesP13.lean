/-
  What the proof rests on: part 13 of 13.
-/
import Derived.Test.YtmekkjehkcjpdaaGreatCirculatePlacesP12
section
namespace Go.D58
open Go Go.RowKit Go.H Go.D57
theorem cntP_pos {cs : List Cp} {w p : Int} {c : Cp} (hc : c ∈ cs) (h : c.work = w ∧ c.place = p) : 0 < cntP cs w p := List.length_pos_of_mem (List.mem_filter.2 ⟨hc, decide_eq_true h⟩)
theorem cntP_app (a b : List Cp) (w p : Int) : cntP (a ++ b) w p = cntP a w p + cntP b w p := by unfold cntP; rw [List.filter_append, List.length_append]
theorem cntP_cons (c : Cp) (cs : List Cp) (w p : Int) : cntP (c :: cs) w p = cntP cs w p + if c.work = w ∧ c.place = p then 1 else 0 := by
  unfold cntP
  rw [List.filter_cons]
  by_cases e : c.work = w ∧ c.place = p
  · rw [if_pos (decide_eq_true e), if_pos e]; rfl
  · rw [if_neg (by rw [decide_eq_false e]; decide), if_neg e]; rfl
theorem cntP_ins {cs : List Cp} {c : Cp} (k : Nat) (w p : Int) : cntP (cs.take k ++ c :: cs.drop k) w p = cntP cs w p + if c.work = w ∧ c.place = p then 1 else 0 := by
  have : cntP cs w p = cntP (cs.take k) w p + cntP (cs.drop k) w p := by rw [← cntP_app, List.take_append_drop]
  rw [cntP_app, cntP_cons, this]; omega
theorem lnC_ins {cs : List Cp} {c : Cp} (k : Nat) (p : Int) : lnC (cs.take k ++ c :: cs.drop k) p = lnC cs p + if c.place = 2 ∧ c.pat = p then 1 else 0 := by
  have : lnC cs p = lnC (cs.take k) p + lnC (cs.drop k) p := by rw [← lnC_app, List.take_append_drop]
  rw [lnC_app, lnC_cons, this]; omega
theorem cntP_cut {cs : List Cp} {k : Nat} (hk : k < cs.length) (w p : Int) : cntP (cs.take k ++ cs.drop (k + 1)) w p + (if cs[k]!.work = w ∧ cs[k]!.place = p then 1 else 0) = cntP cs w p := by
  have : cntP cs w p = cntP (cs.take k) w p + cntP (cs[k]! :: cs.drop (k + 1)) w p := by rw [← drop_at hk, ← cntP_app, List.take_append_drop]
  rw [cntP_cons] at this
  rw [cntP_app]; omega
theorem lnC_cut {cs : List Cp} {k : Nat} (hk : k < cs.length) (p : Int) : lnC (cs.take k ++ cs.drop (k + 1)) p ≤ lnC cs p := by
  have : lnC cs p = lnC (cs.take k) p + lnC (cs[k]! :: cs.drop (k + 1)) p := by rw [← drop_at hk, ← lnC_app, List.take_append_drop]
  rw [lnC_cons] at this
  rw [lnC_app]; omega
theorem mem_set {α : Type} {l : List α} {i : Nat} {c : α} {P : α → Prop} (h : ∀ x ∈ l, P x) (hc : P c) : ∀ x ∈ l.set i c, P x := fun x hx => (List.mem_or_eq_of_mem_set hx).elim (h x) (fun e => by rw [e]; exact hc)
theorem cnOk_other {cs : List Cp} {i : Nat} {c : Cp} (hi : i < cs.length) (hw : c.work = cs[i]!.work) {w : Int} (hne : w ≠ cs[i]!.work) (h : cnOk cs w) : cnOk (cs.set i c) w := by
  have q : ∀ p, cntP (cs.set i c) w p = cntP cs w p := fun p => by
    have := cntP_set (c := c) hi w p
    rw [if_neg (fun z => hne z.1.symm), if_neg (fun z => hne (z.1.symm.trans hw))] at this
    exact this
  unfold cnOk
  rw [q, q, q]; exact h
theorem srvL_tim {q : List Hd} {n : Nat} {b : Int} (h : ∀ x ∈ q, x.tim ≤ b) : ∀ x ∈ srvL q n, x.tim ≤ b := fun x hx => by
  unfold srvL at hx
  rcases List.mem_append.1 hx with m | m
  · obtain ⟨y, hy, rfl⟩ := List.mem_map.1 m
    exact h y (List.mem_of_mem_take hy)
  · exact h x (List.mem_of_mem_drop m)
theorem vfree {t : St} {n0 : Int} {i : Nat} (hi : i < t.cps.length) (hn : 0 ≤ n0 ∧ n0 ≤ t.now ∧ t.now ≤ 1000000) (hl : t.cps.length ≤ 60) (hc : ∀ c ∈ t.cps, cpOk c n0) (ca : asc (·.id) t.cps)
    (ln : ∀ l ∈ t.lns, lnOk l t.now) (la : asc (·.work) t.lns) (cn1 : ∀ l ∈ t.lns, l.work ≠ t.cps[i]!.work → cnOk t.cps l.work)
    (cn2 : ∀ l ∈ t.lns, l.work = t.cps[i]!.work → cntP t.cps t.cps[i]!.work 1 = if t.cps[i]!.place = 1 then 1 else 0)
    (ap1 : ((evX t i).map pw).Nodup) (ap2 : (hsE (evX t i)).Nodup) (lc : ∀ p, lnC t.cps p ≤ 5) : vld (freeS t i) n0 := by
  have hV : okV t.lns := fun l hl => (ln l hl).2.1
  have hci := hc _ (at_mem hi)
  have hev := free_ev hi la hV
  have hap : ((evA (freeS t i)).map pw).Nodup ∧ (hsE (evA (freeS t i))).Nodup := by
    refine ⟨(((hev.map pw).nodup_iff).2 ap1), ?_⟩
    unfold hsE at *
    exact (((hev.map _).filter _).nodup_iff).2 ap2
  by_cases e : (queS t t.cps[i]!.work).length = 0
  · rw [free_0 e] at hap ⊢
    have hno : ∀ l ∈ t.lns, l.work ≠ t.cps[i]!.work := fun l hl e2 => by
      have h1 := que_mem la hl
      rw [e2] at h1
      have h2 := (ln l hl).2.2.1
      rw [← h1] at h2; omega
    refine ⟨hn, by simpa using hl, mem_set hc ⟨hci.1, hci.2.1, hci.2.2.1, .inl ⟨rfl, rfl, rfl, rfl, rfl⟩⟩, asc_set ca rfl, ln, la, fun l hl => cnOk_other (c := shC t.cps[i]!) hi rfl (hno l hl) (cn1 l hl (hno l hl)), hap.1, hap.2, fun p => ?_⟩
    have := lnC_set (c := shC t.cps[i]!) hi p
    rw [if_neg (show ¬ ((shC t.cps[i]!).place = 2 ∧ (shC t.cps[i]!).pat = p) from fun z => absurd (show (1 : Int) = 2 from z.1) (by decide))] at this
    have := lc p
    show lnC (t.cps.set i (shC t.cps[i]!)) p ≤ 5
    omega
  · rw [free_1 e] at hap ⊢
    have hl0 : 0 < (queS t t.cps[i]!.work).length := by omega
    have hv := que_okV hV t.cps[i]!.work
    have hnx := nextI_lt hl0
    have hx : ∃ l ∈ t.lns, l.work = t.cps[i]!.work := by
      refine Classical.byContradiction fun hc => e ?_
      rw [que_no (fun l hl e => hc ⟨l, hl, e⟩)]; rfl
    obtain ⟨l0, hl0m, hl0w⟩ := hx
    have hq := que_mem la hl0m
    rw [hl0w] at hq
    have hln := ln l0 hl0m
    have hg : goodH (nextH (queS t t.cps[i]!.work)) := by rw [nextH_yes ⟨hv, hl0⟩]; exact (hv.1 _ hnx).1
    unfold goodH at hg
    refine ⟨hn, by simpa using hl, mem_set hc ⟨hci.1, hci.2.1, hci.2.2.1, .inr (.inr ⟨rfl, ⟨hg.2.2.1, hg.2.2.2.1⟩, ⟨hg.1, hg.2.1⟩, ?_, rfl⟩)⟩, asc_set ca rfl, fun l hl => ?_, setQ_asc la _ _, fun l hl => ?_, hap.1, hap.2, fun p => ?_⟩
    · show inB (if t.now + 7 ≤ 1000000 then t.now + 7 else 1000000) n0 1000000
      unfold inB
      split <;> omega
    · rcases setQ_mem la hl with ⟨m, _⟩ | ⟨rfl, h0⟩
      · exact ln l m
      · refine ⟨hci.2.1, srv_okV hv e, by show 0 < (srvQ (queS t t.cps[i]!.work)).length; omega, ?_⟩
        show ∀ h ∈ srvQ (queS t t.cps[i]!.work), h.tim ≤ t.now
        rw [(srv_0 hv hl0).2.1]
        exact srvL_tim (by rw [hq]; exact hln.2.2.2)
    · rcases setQ_mem la hl with ⟨m, hne⟩ | ⟨rfl, h0⟩
      · exact cnOk_other (c := wtC t.cps[i]! (nextH (queS t t.cps[i]!.work)) t.now) hi rfl hne (cn1 l m hne)
      · have h1 := cntP_set (c := wtC t.cps[i]! (nextH (queS t t.cps[i]!.work)) t.now) hi t.cps[i]!.work 1
        rw [if_neg (show ¬ ((wtC t.cps[i]! (nextH (queS t t.cps[i]!.work)) t.now).work = t.cps[i]!.work ∧ (wtC t.cps[i]! (nextH (queS t t.cps[i]!.work)) t.now).place = 1) from fun z => absurd (show (3 : Int) = 1 from z.2) (by decide)), cn2 l0 hl0m hl0w] at h1
        have h3 : 0 < cntP (t.cps.set i (wtC t.cps[i]! (nextH (queS t t.cps[i]!.work)) t.now)) t.cps[i]!.work 3 := cntP_pos (List.mem_set hi _) ⟨rfl, rfl⟩
        refine ⟨?_, by show ¬ cntP (t.cps.set i (wtC t.cps[i]! (nextH (queS t t.cps[i]!.work)) t.now)) t.cps[i]!.work 2 + cntP (t.cps.set i (wtC t.cps[i]! (nextH (queS t t.cps[i]!.work)) t.now)) t.cps[i]!.work 3 = 0; omega⟩
        show cntP (t.cps.set i (wtC t.cps[i]! (nextH (queS t t.cps[i]!.work)) t.now)) t.cps[i]!.work 1 = 0
        by_cases ep : t.cps[i]!.place = 1
        · rw [if_pos ⟨rfl, ep⟩, if_pos ep] at h1; omega
        · rw [if_neg (fun z => ep z.2), if_neg ep] at h1; omega
    · have := lnC_set (c := wtC t.cps[i]! (nextH (queS t t.cps[i]!.work)) t.now) hi p
      rw [if_neg (show ¬ ((wtC t.cps[i]! (nextH (queS t t.cps[i]!.work)) t.now).place = 2 ∧ (wtC t.cps[i]! (nextH (queS t t.cps[i]!.work)) t.now).pat = p) from fun z => absurd (show (3 : Int) = 2 from z.1) (by decide))] at this
      have := lc p
      show lnC (t.cps.set i (wtC t.cps[i]! (nextH (queS t t.cps[i]!.work)) t.now)) p ≤ 5
      omega
theorem vld.free {s : St} {n0 : Int} (h : vld s n0) {i : Nat} (hi : i < s.cps.length) (hp : s.cps[i]!.place ≠ 1) : vld (freeS s i) n0 := by
  refine vfree hi h.now h.len h.cp h.ca h.ln h.la (fun l hl _ => h.cn l hl) (fun l hl e => ?_) ((subE.sub (evX_sub hi)).pw h.ap.1) ((subE.sub (evX_sub hi)).hs h.ap.2.1) h.ap.2.2
  rw [if_neg hp, ← e]; exact (h.cn l hl).1
theorem vadd {s : St} {x : Sp} (h : vld s s.now) (he : addE s x = 0) : vld (addS s x) s.now := by
  obtain ⟨h1, h2, h3, h4, h5, e⟩ := add_ok he
  rw [e]
  obtain ⟨a1, a2, a3⟩ := ins_at (s := s) (x := x)
  have hk := kpos_le (key := fun c : Cp => c.id) s.cps x.copy
  have hlen := h.len
  have ht : (s.cps.take (kpos (·.id) s.cps x.copy)).length = kpos (·.id) s.cps x.copy := by rw [List.length_take]; omega
  have hX : evX (insC s x) (kpos (·.id) s.cps x.copy) = evA s := by
    unfold evX evA insC
    show evC ((s.cps.take _ ++ newC x :: s.cps.drop _).take _) ++ evC ((s.cps.take _ ++ newC x :: s.cps.drop _).drop _) ++ evL s.lns = _
    rw [List.take_left' ht, List.drop_append, ht, Nat.add_sub_cancel_left, List.drop_eq_nil_of_le (by omega), List.nil_append, List.drop_succ_cons, List.drop_zero, ← evC_app, List.take_append_drop]
  refine vfree (t := insC s x) a2 h.now (by omega) (fun c hc => ?_) (ins_asc h.ca h4) h.ln h.la (fun l hl hne => ?_) (fun l hl e2 => ?_) (by rw [hX]; exact h.ap.1) (by rw [hX]; exact h.ap.2.1) (fun p => ?_)
  · rcases List.mem_append.1 hc with m | m
    · exact h.cp c (List.mem_of_mem_take m)
    · rcases List.mem_cons.1 m with m | m
      · rw [m]; exact ⟨h1, h2, h3, .inl ⟨rfl, rfl, rfl, rfl, rfl⟩⟩
      · exact h.cp c (List.mem_of_mem_drop m)
  · rw [a1] at hne
    have q : ∀ p, cntP (insC s x).cps l.work p = cntP s.cps l.work p := fun p => by
      have := cntP_ins (cs := s.cps) (c := newC x) (kpos (·.id) s.cps x.copy) l.work p
      rw [if_neg (fun z => hne z.1.symm)] at this
      exact this
    unfold cnOk
    rw [q, q, q]; exact h.cn l hl
  · rw [a1] at e2 ⊢
    have := cntP_ins (cs := s.cps) (c := newC x) (kpos (·.id) s.cps x.copy) (newC x).work 1
    rw [if_pos ⟨rfl, rfl⟩, ← e2, (h.cn l hl).1, e2] at this
    exact this
  · have := lnC_ins (cs := s.cps) (c := newC x) (kpos (·.id) s.cps x.copy) p
    rw [if_neg (fun z => absurd (show (1 : Int) = 2 from z.1) (by decide))] at this
    have := h.ap.2.2 p
    show lnC (s.cps.take _ ++ newC x :: s.cps.drop _) p ≤ 5
    omega
theorem vrem {s : St} {x : Sp} (h : vld s s.now) (he : remE s x = 0) : vld (remS s x) s.now := by
  obtain ⟨h1, h2, e⟩ := rem_ok he
  obtain ⟨_, _, hi⟩ := cpI_mem h1
  rw [e, rem_cut h.ca h1]
  have hlen := h.len
  have hsub : (evA ⟨s.now, s.cps.take (cpI s x.copy).toNat ++ s.cps.drop ((cpI s x.copy).toNat + 1), s.lns⟩).Sublist (evA s) := by
    have := evX_sub hi
    unfold evX at this
    unfold evA
    rw [show evC (s.cps.take (cpI s x.copy).toNat ++ s.cps.drop ((cpI s x.copy).toNat + 1)) = _ from evC_app _ _]
    exact this
  refine ⟨h.now, by simp only [List.length_append, List.length_take, List.length_drop]; omega, fun c hc => (List.mem_append.1 hc).elim (fun m => h.cp c (List.mem_of_mem_take m)) (fun m => h.cp c (List.mem_of_mem_drop m)), asc_cut h.ca hi, h.ln, h.la, fun l hl => ?_, (subE.sub hsub).pw h.ap.1, (subE.sub hsub).hs h.ap.2.1, fun p => ?_⟩
  · have hc := h.cn l hl
    have hp : s.cps[(cpI s x.copy).toNat]!.place = 1 := h2
    have q1 := cntP_cut hi l.work 1
    have q2 := cntP_cut hi l.work 2
    have q3 := cntP_cut hi l.work 3
    rw [if_neg (fun z => by rw [hp] at z; exact absurd z.2 (by decide))] at q2 q3
    unfold cnOk at hc ⊢
    show cntP (s.cps.take _ ++ s.cps.drop _) l.work 1 = 0 ∧ ¬ cntP (s.cps.take _ ++ s.cps.drop _) l.work 2 + cntP (s.cps.take _ ++ s.cps.drop _) l.work 3 = 0
    omega
  · have := lnC_cut hi p
    have := h.ap.2.2 p
    show lnC (s.cps.take _ ++ s.cps.drop _) p ≤ 5
    omega
theorem pw_evC {cs : List Cp} {a b : Int} : (a, b) ∈ (evC cs).map pw ↔ ∃ c ∈ cs, c.place ≠ 1 ∧ c.pat = a ∧ c.work = b := by
  unfold evC
  simp only [List.mem_map, List.mem_filter, decide_eq_true_eq]
  constructor
  · rintro ⟨e, ⟨c, ⟨h1, h2⟩, rfl⟩, h3⟩
    cases h3
    exact ⟨c, h1, h2, rfl, rfl⟩
  · rintro ⟨c, h1, h2, rfl, rfl⟩
    exact ⟨_, ⟨c, ⟨h1, h2⟩, rfl⟩, rfl⟩
theorem pw_evL {ls : List Ln} {a b : Int} : (a, b) ∈ (evL ls).map pw ↔ ∃ l ∈ ls, l.work = b ∧ ∃ h ∈ l.q, h.pat = a := by
  unfold evL evQ
  simp only [List.mem_map, List.mem_flatMap]
  constructor
  · rintro ⟨e, ⟨l, h1, h, h2, rfl⟩, h3⟩
    cases h3
    exact ⟨l, h1, rfl, h, h2, rfl⟩
  · rintro ⟨l, h1, rfl, h, h2, rfl⟩
    exact ⟨_, ⟨l, h1, h, h2, rfl⟩, rfl⟩
theorem hs_app (a b : List Ev) : hsE (a ++ b) = hsE a ++ hsE b := by unfold hsE; rw [List.map_append, List.filter_append]
theorem hs_evC {cs : List Cp} {h : Int} (hm : h ∈ hsE (evC cs)) : h ≠ 0 ∧ ∃ c ∈ cs, c.place ≠ 1 ∧ c.hold = h := by
  unfold hsE evC at hm
  simp only [List.mem_map, List.mem_filter, decide_eq_true_eq] at hm
  obtain ⟨⟨e, ⟨c, ⟨h1, h2⟩, rfl⟩, rfl⟩, h0⟩ := hm
  exact ⟨h0, c, h1, h2, rfl⟩
theorem hs_evL {ls : List Ln} {h : Int} (hm : h ∈ hsE (evL ls)) : ∃ l ∈ ls, ∃ x ∈ l.q, x.id = h := by
  unfold hsE evL evQ at hm
  simp only [List.mem_map, List.mem_filter, List.mem_flatMap] at hm
  obtain ⟨⟨e, ⟨l, h1, x, h2, rfl⟩, rfl⟩, _⟩ := hm
  exact ⟨l, h1, x, h2, rfl⟩
theorem apt_more {a b : List Ev} {e : Ev} (hp : a.Perm (e :: b)) (h1 : (b.map pw).Nodup) (h2 : (hsE b).Nodup) (h3 : pw e ∉ b.map pw) (h4 : e.2.2 ≠ 0 → e.2.2 ∉ hsE b) : (a.map pw).Nodup ∧ (hsE a).Nodup := by
  refine ⟨((hp.map pw).nodup_iff).2 (by rw [List.map_cons, List.nodup_cons]; exact ⟨h3, h1⟩), ?_⟩
  have : (hsE (e :: b)).Nodup := by
    rw [hsE_cons]
    split
    · rename_i h0; exact List.nodup_cons.2 ⟨h4 h0, h2⟩
    · exact h2
  unfold hsE at *
  exact (((hp.map _).filter _).nodup_iff).2 this
theorem set_ev {s : St} {i : Nat} {c : Cp} (hi : i < s.cps.length) (hp : c.place ≠ 1) (n : Int) : (evA ⟨n, s.cps.set i c, s.lns⟩).Perm ((c.pat, c.work, c.hold) :: evX s i) := by
  unfold evA evX
  rw [show evC (s.cps.set i c) = _ from evC_set hi, evC_two hp, List.append_assoc, List.append_assoc, List.append_assoc]
  exact List.perm_middle
theorem vset {s : St} {n0 : Int} {i : Nat} {c : Cp} (h : vld s n0) (hi : i < s.cps.length) (h1 : c.id = s.cps[i]!.id) (h2 : c.work = s.cps[i]!.work) (hc : cpOk c n0) (hcn : ∀ l ∈ s.lns, l.work = s.cps[i]!.work → cnOk (s.cps.set i c) l.work)
    (ap : ((evA ⟨s.now, s.cps.set i c, s.lns⟩).map pw).Nodup ∧ (hsE (evA ⟨s.now, s.cps.set i c, s.lns⟩)).Nodup) (lc : ∀ p, lnC (s.cps.set i c) p ≤ 5) : vld ⟨s.now, s.cps.set i c, s.lns⟩ n0 :=
  ⟨h.now, by simpa using h.len, mem_set h.cp hc, asc_set h.ca h1, h.ln, h.la, fun l hl => by
    by_cases e : l.work = s.cps[i]!.work
    · exact hcn l hl e
    · exact cnOk_other hi h2 e (h.cn l hl), ap.1, ap.2, lc⟩
theorem vsame {s : St} {n0 : Int} {i : Nat} {c : Cp} (h : vld s n0) (hi : i < s.cps.length) (h1 : c.id = s.cps[i]!.id) (h2 : c.work = s.cps[i]!.work) (h3 : c.place = s.cps[i]!.place) (h4 : c.pat = s.cps[i]!.pat) (h5 : c.hold = s.cps[i]!.hold) (hc : cpOk c n0) : vld ⟨s.now, s.cps.set i c, s.lns⟩ n0 := by
  have hev : evA ⟨s.now, s.cps.set i c, s.lns⟩ = evA s := by
    unfold evA
    rw [show evC (s.cps.set i c) = _ from evC_set hi, evC_at hi]
    by_cases e : c.place = 1
    · rw [evC_one e, evC_one (h3 ▸ e)]
    · rw [evC_two e, evC_two (h3 ▸ e), h2, h4, h5]
  have hcnt : ∀ w p, cntP (s.cps.set i c) w p = cntP s.cps w p := fun w p => by
    have := cntP_set (c := c) hi w p
    rw [h2, h3] at this; omega
  refine vset h hi h1 h2 hc (fun l hl _ => ?_) (by rw [hev]; exact ⟨h.ap.1, h.ap.2.1⟩) (fun p => ?_)
  · unfold cnOk; rw [hcnt, hcnt, hcnt]; exact h.cn l hl
  · have := lnC_set (c := c) hi p
    rw [h3, h4] at this
    have := h.ap.2.2 p
    omega
theorem not_line {s : St} {n0 : Int} (h : vld s n0) {c : Cp} (hc : c ∈ s.cps) (hp : c.place = 1) : ∀ l ∈ s.lns, l.work ≠ c.work := fun l hl e => by
  have := cntP_pos hc ⟨e.symm, hp⟩
  have := (h.cn l hl).1
  omega
theorem old_ev {s : St} {i : Nat} (hi : i < s.cps.length) (hp : s.cps[i]!.place ≠ 1) : (evA s).Perm ((s.cps[i]!.pat, s.cps[i]!.work, s.cps[i]!.hold) :: evX s i) := by
  unfold evA evX
  rw [evC_at hi, evC_two hp, List.append_assoc, List.append_assoc, List.append_assoc]
  exact List.perm_middle
theorem old_no {s : St} (h : apt s) {i : Nat} (hi : i < s.cps.length) (hp : s.cps[i]!.place ≠ 1) {a : Int} (ha : s.cps[i]!.pat = a) : (a, s.cps[i]!.work) ∉ (evX s i).map pw := by
  have := (((old_ev hi hp).map pw).nodup_iff).1 h.1
  rw [List.map_cons, List.nodup_cons] at this
  rw [← ha]
  exact this.1
theorem vlen {s : St} {x : Sp} (h : vld s s.now) (he : lenE s x = 0) : vld (lenS s x) s.now := by
  obtain ⟨h1, h2, h3, h4, h5, h6, e⟩ := len_ok he
  obtain ⟨hm, _, hi⟩ := cpI_mem h2
  rw [e]
  have hat : s.cps[(cpI s x.copy).toNat]! = atC s x.copy := rfl
  have hc := h.cp _ hm
  have hnow := h.now
  have hpl : (atC s x.copy).place = 1 ∨ (atC s x.copy).place = 3 ∧ (atC s x.copy).pat = x.pat := by
    have q := hc.2.2.2
    by_cases e1 : (atC s x.copy).place = 1
    · exact .inl e1
    · by_cases e2 : (atC s x.copy).pat = x.pat
      · refine .inr ⟨?_, e2⟩
        rcases q with q | q | q
        · exact absurd q.1 e1
        · exact absurd (.inl q.1) h3
        · exact q.1
      · exfalso
        rcases q with q | q | q
        · exact e1 q.1
        · exact h3 (.inl q.1)
        · exact h3 (.inr ⟨q.1, e2⟩)
  refine vset h hi rfl rfl ⟨hc.1, hc.2.1, hc.2.2.1, .inr (.inl ⟨rfl, h1, ⟨by show 1 ≤ s.now + 28; omega, by show s.now + 28 ≤ 1000000; omega⟩, rfl⟩)⟩ (fun l hl el => ?_) ?_ (fun p => ?_)
  · rw [hat] at el
    rcases hpl with hp | ⟨hp, _⟩
    · exact absurd el (not_line h hm hp l hl)
    · have hcn := h.cn l hl
      have q1 := cntP_set (c := lentC (atC s x.copy) x.pat s.now) hi l.work 1
      have h2' : 0 < cntP (s.cps.set (cpI s x.copy).toNat (lentC (atC s x.copy) x.pat s.now)) l.work 2 := cntP_pos (List.mem_set hi _) ⟨el.symm, rfl⟩
      rw [hat, if_neg (fun z => by rw [hp] at z; exact absurd z.2 (by decide)), if_neg (fun z => absurd (show (2 : Int) = 1 from z.2) (by decide))] at q1
      unfold cnOk at hcn ⊢
      omega
  · refine apt_more (set_ev hi (show (lentC (atC s x.copy) x.pat s.now).place ≠ 1 from by show (2 : Int) ≠ 1; decide) s.now) ((subE.sub (evX_sub hi)).pw h.ap.1) ((subE.sub (evX_sub hi)).hs h.ap.2.1) ?_ (fun z => absurd rfl z)
    rcases hpl with hp | ⟨hp, hpp⟩
    · have ho : ¬ 0 ≤ ownI s x.pat (atC s x.copy).work := fun q => h4 ⟨hp, q⟩
      intro hmem
      have hmem2 : (x.pat, (atC s x.copy).work) ∈ (evA s).map pw := ((evX_sub hi).map pw).subset hmem
      unfold evA at hmem2
      rw [List.map_append] at hmem2
      rcases List.mem_append.1 hmem2 with m | m
      · obtain ⟨c, c1, c2, c3, c4⟩ := pw_evC.1 m
        exact ho (any_iff.1 ⟨c, c1, decide_eq_true ⟨c2, c4, c3⟩⟩)
      · obtain ⟨l, l1, l2, _⟩ := pw_evL.1 m
        exact not_line h hm hp l l1 l2
    · exact old_no h.ap hi (by rw [hat, hp]; decide) (by rw [hat, hpp]; rfl)
  · have q := lnC_set (c := lentC (atC s x.copy) x.pat s.now) hi p
    rw [hat, if_neg (fun z => h3 (.inl z.1))] at q
    have q5 := h.ap.2.2 p
    by_cases ep : x.pat = p
    · subst ep
      have : lnC s.cps x.pat = (idsF (fun c => decide (c.place = 2 ∧ c.pat = x.pat)) s.cps).length := by
        unfold lnC idsF
        rw [List.length_map]
      rw [if_pos ⟨rfl, rfl⟩] at q
      omega
    · rw [if_neg (fun z => ep z.2)] at q
      omega
theorem vren {s : St} {x : Sp} (h : vld s s.now) (he : renE s x = 0) : vld (renS s x) s.now := by
  obtain ⟨h1, h2, _, _, h5, e⟩ := ren_ok he
  obtain ⟨hm, _, hi⟩ := cpI_mem h1
  rw [e]
  have hc := h.cp _ hm
  have hnow := h.now
  refine vsame h hi rfl rfl rfl rfl rfl ⟨hc.1, hc.2.1, hc.2.2.1, .inr (.inl ?_)⟩
  rcases hc.2.2.2 with q | q | q
  · exact absurd (h2.symm.trans q.1) (by decide)
  · exact ⟨h2, q.2.1, ⟨by show 1 ≤ s.now + 28; omega, by show s.now + 28 ≤ 1000000; omega⟩, q.2.2.2⟩
  · exact absurd (h2.symm.trans q.1) (by decide)
theorem vbak {s : St} {x : Sp} (h : vld s s.now) (he : bakE s x = 0) : vld (bakS s x) s.now := by
  obtain ⟨h1, h2, e⟩ := bak_ok he
  obtain ⟨_, _, hi⟩ := cpI_mem h1
  rw [e]
  exact h.free hi (by show (atC s x.copy).place ≠ 1; rw [h2]; decide)
theorem new_pw {s : St} {p w : Int} (ho : ¬ 0 ≤ ownI s p w) (hq : ∀ l ∈ s.lns, l.work = w → ∀ h ∈ l.q, h.pat ≠ p) : (p, w) ∉ (evA s).map pw := fun hm => by
  unfold evA at hm
  rw [List.map_append] at hm
  rcases List.mem_append.1 hm with m | m
  · obtain ⟨c, c1, c2, c3, c4⟩ := pw_evC.1 m
    exact ho (any_iff.1 ⟨c, c1, decide_eq_true ⟨c2, c4, c3⟩⟩)
  · obtain ⟨l, l1, l2, y, l3, l4⟩ := pw_evL.1 m
    exact hq l l1 l2 y l3 l4
theorem new_hs {s : St} {n0 h : Int} (hv : vld s n0) (hu : useB s h = false) : h ∉ hsE (evA s) := fun hm => by
  unfold useB at hu
  rw [Bool.or_eq_false_iff] at hu
  unfold evA at hm
  rw [hs_app] at hm
  rcases List.mem_append.1 hm with m | m
  · obtain ⟨h0, c, c1, c2, c3⟩ := hs_evC m
    refine of_decide_eq_false hu.1 (any_iff.1 ⟨c, c1, decide_eq_true ⟨?_, c3⟩⟩)
    rcases (hv.cp c c1).2.2.2 with q | q | q
    · exact absurd q.1 c2
    · exact absurd (c3.symm.trans q.2.2.2) h0
    · exact q.1
  · obtain ⟨l, l1, y, l2, l3⟩ := hs_evL m
    exact of_decide_eq_false hu.2 (any_iff.1 ⟨l, l1, decide_eq_true (any_iff.1 ⟨y, l2, decide_eq_true l3⟩)⟩)
theorem vrec {s : St} {n0 : Int} (h : vld s n0) (w : Int) : vld (recS s w) n0 := by
  unfold recS
  split
  · exact h
  · rename_i i hi
    obtain ⟨h1, h2, h3, h4⟩ := rec_lt hi
    have hc := h.cp _ (at_mem h1)
    have hn := h.now
    refine vsame h h1 rfl rfl rfl rfl rfl ⟨hc.1, hc.2.1, hc.2.2.1, .inr (.inl ?_)⟩
    rcases hc.2.2.2 with q | q | q
    · exact absurd (h3.symm.trans q.1) (by decide)
    · have := q.2.2.1
      unfold inB at this
      exact ⟨h3, q.2.1, ⟨by show 1 ≤ min (min s.cps[i]!.due (s.now + 7)) 1000000; omega, by show min (min s.cps[i]!.due (s.now + 7)) 1000000 ≤ 1000000; omega⟩, q.2.2.2⟩
    · exact absurd (h3.symm.trans q.1) (by decide)
theorem vask {s : St} {x : Sp} (hv : validS s) (he : askE s x = 0) : vld (askS s x) s.now := by
  have h := valid_vld.1 hv
  obtain ⟨⟨g1, g2, g3, g4⟩, hc0, hu, ho, hp, h60, e⟩ := ask_ok he
  have hpe := ask_put hv he
  have hnow := h.now
  rw [e]
  have hb : (x.pat, x.work) ∉ (evA s).map pw := new_pw ho fun l hl e2 y hy e3 => by
    have := que_mem h.la hl
    rw [e2] at this
    rw [← this] at hy
    exact hp (any_iff.1 ⟨y, hy, decide_eq_true e3⟩)
  have hh := new_hs h hu
  by_cases hs : 0 ≤ shlI s x.work
  · rw [if_pos hs]
    obtain ⟨hi, hd⟩ := idxF_lt hs
    have hd := of_decide_eq_true hd
    change (shlI s x.work).toNat < s.cps.length at hi
    change s.cps[(shlI s x.work).toNat]!.work = x.work ∧ s.cps[(shlI s x.work).toNat]!.place = 1 at hd
    have hm := at_mem hi
    have hc := h.cp _ hm
    refine vset h hi rfl rfl ⟨hc.1, hc.2.1, hc.2.2.1, .inr (.inr ⟨rfl, g2, g3, ?_, rfl⟩)⟩ (fun l hl el => absurd el (not_line h hm hd.2 l hl)) ?_ (fun p => ?_)
    · show inB (if s.now + 7 ≤ 1000000 then s.now + 7 else 1000000) s.now 1000000
      unfold inB
      split <;> omega
    · refine apt_more (set_ev hi (show (wtC s.cps[(shlI s x.work).toNat]! (hldX s x) s.now).place ≠ 1 from by show (3 : Int) ≠ 1; decide) s.now) ((subE.sub (evX_sub hi)).pw h.ap.1) ((subE.sub (evX_sub hi)).hs h.ap.2.1) (fun hm => ?_) (fun _ hm => ?_)
      · have hm2 := ((evX_sub hi).map pw).subset hm
        refine hb ?_
        rw [← hd.1]; exact hm2
      · refine hh ?_
        have : (hsE (evX s (shlI s x.work).toNat)).Sublist (hsE (evA s)) := ((evX_sub hi).map _).filter _
        exact this.subset hm
    · have q := lnC_set (c := wtC s.cps[(shlI s x.work).toNat]! (hldX s x) s.now) hi p
      rw [if_neg (fun z => absurd (hd.2.symm.trans z.1) (by decide)), if_neg (fun z => absurd (show (3 : Int) = 2 from z.1) (by decide))] at q
      have := h.ap.2.2 p
      omega
  · rw [if_neg hs]
    refine vrec ?_ _
    have hq0 : (putQ (queS s x.work) (hldX s x)).length ≠ 0 := by rw [(put_ok hpe).2.2.2.2, putL_len]; omega
    have hev : (evA (putS s x)).Perm ((x.pat, x.work, x.hold) :: evA s) := by
      have h1 := evL_setQ h.la x.work (putQ (queS s x.work) (hldX s x))
      rw [(put_ok hpe).2.2.2.2] at h1
      have h2 := evQ_put (q := queS s x.work) (h := hldX s x) x.work
      have h3 := evL_que h.la x.work
      unfold evA putS
      rw [(put_ok hpe).2.2.2.2]
      refine ((h1.trans (h2.append_right _)).append_left _).trans ?_
      refine List.Perm.trans ?_ ((h3.symm.append_left _).cons _)
      exact List.perm_middle
    have hap := apt_more hev h.ap.1 h.ap.2.1 hb (fun _ => hh)
    refine ⟨h.now, h.len, h.cp, h.ca, fun l hl => ?_, setQ_asc h.la _ _, fun l hl => ?_, hap.1, hap.2, h.ap.2.2⟩
    · rcases setQ_mem h.la hl with ⟨m, _⟩ | ⟨rfl, h0⟩
      · exact h.ln l m
      · refine ⟨g1, put_okV, by show 0 < (putQ (queS s x.work) (hldX s x)).length; omega, fun y hy => ?_⟩
        change y ∈ putQ (queS s x.work) (hldX s x) at hy
        rw [(put_ok hpe).2.2.2.2] at hy
        unfold putL at hy
        have old : ∀ y ∈ queS s x.work, y.tim ≤ s.now := fun y hy => by
          unfold queS at hy
          split at hy
          · rename_i q; exact (h.ln _ (at_mem (idxF_lt q).1)).2.2.2 y hy
          · cases hy
        rcases List.mem_append.1 hy with m | m
        · rcases List.mem_append.1 m with m | m
          · exact old y (List.mem_of_mem_take m)
          · rw [List.mem_singleton.1 m]; exact Int.le_refl _
        · exact old y (List.mem_of_mem_drop m)
    · rcases setQ_mem h.la hl with ⟨m, _⟩ | ⟨rfl, h0⟩
      · exact h.cn l m
      · have h1 : cntP s.cps x.work 1 = 0 := by
          rcases Nat.eq_zero_or_pos (cntP s.cps x.work 1) with z | z
          · exact z
          · obtain ⟨c, hc⟩ := List.exists_mem_of_length_pos z
            exact absurd (any_iff.1 ⟨c, (List.mem_filter.1 hc).1, (List.mem_filter.1 hc).2⟩) hs
        exact ⟨h1, fun z => hc0 (by have z2 : cntP s.cps x.work 2 + cntP s.cps x.work 3 = 0 := z; omega)⟩
theorem vclc {s : St} {x : Sp} (h : vld s s.now) (he : clcE s x = 0) : vld (clcS s x) s.now := by
  unfold clcE at he
  unfold clcS
  split at he
  · rename_i hw
    rw [if_pos hw]
    obtain ⟨hi, hd⟩ := idxF_lt hw
    have hd := of_decide_eq_true hd
    exact h.free hi (by show s.cps[(idxF _ s.cps).toNat]!.place ≠ 1; rw [hd.1]; decide)
  · rename_i hw
    split at he
    · rename_i hl
      rw [if_neg hw, if_pos hl]
      obtain ⟨hi, hd⟩ := idxF_lt hl
      have hd := of_decide_eq_true hd
      change (lnI s x.hold).toNat < s.lns.length at hi
      change canE s.lns[(lnI s x.hold).toNat]!.q x.hold = 0 at hd
      have hm := at_mem hi
      obtain ⟨l0, hl0⟩ : ∃ l0, l0 = s.lns[(lnI s x.hold).toNat]! := ⟨_, rfl⟩
      rw [← hl0] at hd hm ⊢
      have hln := h.ln l0 hm
      have hcan : ∃ n, n < l0.q.length ∧ canQ l0.q x.hold = canL l0.q n := by
        unfold canE at hd
        split at hd
        · cases hd
        · rename_i k1
          split at hd
          · cases hd
          · rename_i k2
            have := ixI_range l0.q x.hold
            exact ⟨(ixI l0.q x.hold).toNat, by omega, (can_0 (Decidable.not_not.1 k1) k2).2⟩
      obtain ⟨n, hn, hcn⟩ := hcan
      rw [hcn]
      have hq := que_mem h.la hm
      have hsub : subE (evA ⟨s.now, s.cps, setQ s.lns l0.work (canL l0.q n)⟩) (evC s.cps ++ (evQ l0.work (queS s l0.work) ++ evL (setQ s.lns l0.work []))) := by
        refine ⟨evC s.cps ++ (evQ l0.work (canL l0.q n) ++ evL (setQ s.lns l0.work [])), (evL_setQ h.la l0.work _).append_left _, ?_⟩
        rw [hq]
        exact (List.Sublist.refl _).append ((evQ_can _ _).append (List.Sublist.refl _))
      have hap := hsub.perm_r ((evL_que h.la l0.work).symm.append_left (evC s.cps)) h.ap.1 h.ap.2.1
      refine ⟨h.now, h.len, h.cp, h.ca, fun l hl => ?_, setQ_asc h.la _ _, fun l hl => ?_, hap.1, hap.2, h.ap.2.2⟩
      · rcases setQ_mem h.la hl with ⟨m, _⟩ | ⟨rfl, h0⟩
        · exact h.ln l m
        · refine ⟨hln.1, canL_valid hln.2.1 hn, by show 0 < (canL l0.q n).length; omega, fun y hy => ?_⟩
          change y ∈ canL l0.q n at hy
          unfold canL at hy
          rcases List.mem_append.1 hy with m | m
          · exact hln.2.2.2 y (List.mem_of_mem_take m)
          · exact hln.2.2.2 y (List.mem_of_mem_drop m)
      · rcases setQ_mem h.la hl with ⟨m, _⟩ | ⟨rfl, h0⟩
        · exact h.cn l m
        · exact h.cn l0 hm
    · cases he
theorem vlate {s : St} {n0 : Int} (h : vld s n0) : ∀ k, k ≤ s.cps.length → vld (lateS s k) n0
  | 0, _ => h
  | k + 1, hk => by
    have ih := vlate h k (by omega)
    rw [lateS]
    split
    · rename_i e
      have := of_decide_eq_true e
      exact ih.free (by rw [late_len]; omega) (by rw [this.1]; decide)
    · exact ih
theorem vwai {s : St} {x : Sp} (h : vld s s.now) (he : waiE s x = 0) : vld (waiS s x) (s.now + x.days) := by
  obtain ⟨h1, h2, e⟩ := wai_ok he
  unfold inB at h1
  have hn := h.now
  rw [e]
  have h0 : vld ⟨s.now + x.days, s.cps, s.lns⟩ s.now := ⟨⟨by omega, by show s.now ≤ s.now + x.days; omega, h2⟩, h.len, h.cp, h.ca, fun l hl => ⟨(h.ln l hl).1, (h.ln l hl).2.1, (h.ln l hl).2.2.1, fun y hy => by have := (h.ln l hl).2.2.2 y hy; show y.tim ≤ s.now + x.days; omega⟩, h.la, h.cn, h.ap⟩
  have h3 := vlate h0 s.cps.length (Nat.le_refl _)
  have hnw : (lateS ⟨s.now + x.days, s.cps, s.lns⟩ s.cps.length).now = s.now + x.days := late_now _ _
  have h4 := (late_inT (s := ⟨s.now + x.days, s.cps, s.lns⟩) h2 s.cps.length (Nat.le_refl _)).1
  have hlen : (lateS ⟨s.now + x.days, s.cps, s.lns⟩ s.cps.length).cps.length = s.cps.length := late_len _ _
  refine ⟨⟨by omega, by omega, h3.now.2.2⟩, h3.len, fun c hc => ?_, h3.ca, h3.ln, h3.la, h3.cn, h3.ap⟩
  have hcp := h3.cp c hc
  obtain ⟨j, hj, rfl⟩ := mem_at hc
  refine ⟨hcp.1, hcp.2.1, hcp.2.2.1, ?_⟩
  rcases hcp.2.2.2 with q | q | q
  · exact .inl q
  · exact .inr (.inl q)
  · refine .inr (.inr ⟨q.1, q.2.1, q.2.2.1, ⟨?_, q.2.2.2.1.2⟩, q.2.2.2.2⟩)
    exact h4 j (by omega) q.1
theorem do_valid {s : St} {x : Sp} (he : doE s x = 0) : validS (doS s x) := by
  obtain ⟨hv, hk, hf, he2, hd⟩ := do_ok he
  have h := valid_vld.1 hv
  have hn := (time_now he).1
  rw [valid_vld, hn, hd]
  by_cases h8 : x.kind = 8
  · rw [(stS_8 h8).2] at he2
    rw [(stS_8 h8).1]; exact vwai h he2
  · rw [fld_days hf h8, Int.add_zero]
    rcases (show x.kind = 1 ∨ x.kind = 2 ∨ x.kind = 3 ∨ x.kind = 4 ∨ x.kind = 5 ∨ x.kind = 6 ∨ x.kind = 7 by omega) with k | k | k | k | k | k | k
    · rw [(stS_1 k).2] at he2; rw [(stS_1 k).1]; exact vadd h he2
    · rw [(stS_2 k).2] at he2; rw [(stS_2 k).1]; exact vrem h he2
    · rw [(stS_3 k).2] at he2; rw [(stS_3 k).1]; exact vlen h he2
    · rw [(stS_4 k).2] at he2; rw [(stS_4 k).1]; exact vbak h he2
    · rw [(stS_5 k).2] at he2; rw [(stS_5 k).1]; exact vren h he2
    · rw [(stS_6 k).2] at he2; rw [(stS_6 k).1]; exact vask hv he2
    · rw [(stS_7 k).2] at he2; rw [(stS_7 k).1]; exact vclc h he2
end Go.D58
end
section
namespace Go.D58
open Go Go.RowKit Go.H Go.D57
def holdsC (cs : List Cp) : List Int := (cs.filter fun c => decide (c.place = 3)).map (·.hold)
def holdsQ (ls : List Ln) : List Int := ls.flatMap fun l => l.q.map (·.id)
def holdsL (s : St) : List Int := holdsC s.cps ++ holdsQ s.lns
def hasC (cs : List Cp) (w p : Int) : Bool := decide (0 ≤ ownI ⟨0, cs, []⟩ p w)
theorem has_iff {cs : List Cp} {w p : Int} : hasC cs w p = true ↔ ∃ c ∈ cs, c.place ≠ 1 ∧ c.work = w ∧ c.pat = p := by
  unfold hasC
  rw [decide_eq_true_eq]
  unfold ownI
  rw [← any_iff]
  constructor
  · rintro ⟨c, h1, h2⟩; exact ⟨c, h1, of_decide_eq_true h2⟩
  · rintro ⟨c, h1, h2⟩; exact ⟨c, h1, decide_eq_true h2⟩
def vCpR (s : St) (k : Nat) : Prop := cpOk s.cps[k]! s.now ∧ (0 < k → s.cps[k - 1]!.id < s.cps[k]!.id) ∧ ¬ (s.cps[k]!.place ≠ 1 ∧ hasC (s.cps.take k) s.cps[k]!.work s.cps[k]!.pat = true) ∧ ¬ 5 < (idsF (fun c => decide (c.place = 2 ∧ c.pat = s.cps[k]!.pat)) s.cps).length
def lnR (s : St) (i : Nat) : Prop := idB s.lns[i]!.work ∧ (0 < i → s.lns[i - 1]!.work < s.lns[i]!.work) ∧ ¬ s.lns[i]!.q.length = 0 ∧ validQ s.lns[i]!.q ∧ cntP s.cps s.lns[i]!.work 1 = 0 ∧ ¬ cntP s.cps s.lns[i]!.work 2 + cntP s.cps s.lns[i]!.work 3 = 0 ∧
  ∀ k, k < s.lns[i]!.q.length → ¬ (s.lns[i]!.q[k]!.tim > s.now ∨ hasC s.cps s.lns[i]!.work s.lns[i]!.q[k]!.pat = true)
def linesR (s : St) : Prop := (∀ i, i < s.lns.length → lnR s i) ∧ s.lns.length ≤ 60
def ndI (l : List Int) : Prop := ∀ i, i < l.length → ¬ l[i]! ∈ l.take i
def validR (s : St) : Prop := inB s.now 0 1000000 ∧ s.cps.length ≤ 60 ∧ (∀ k, k < s.cps.length → vCpR s k) ∧ ndI (holdsL s) ∧ linesR s
theorem hs_C {cs : List Cp} {n : Int} (h : ∀ c ∈ cs, cpOk c n) : hsE (evC cs) = holdsC cs := by
  induction cs with
  | nil => rfl
  | cons c cs ih =>
    have ih := ih fun c hc => h c (List.mem_cons_of_mem _ hc)
    have hc := (h c List.mem_cons_self).2.2.2
    unfold holdsC at ih ⊢
    rw [show evC (c :: cs) = evC [c] ++ evC cs from evC_app [c] cs, hs_app, ih, List.filter_cons]
    rcases hc with q | q | q
    · rw [evC_one q.1, if_neg (by rw [decide_eq_false (show ¬ c.place = 3 by omega)]; decide)]; rfl
    · rw [evC_two (by omega), hsE_cons, if_neg (by rw [show (c.pat, c.work, c.hold).2.2 = 0 from q.2.2.2]; simp), if_neg (by rw [decide_eq_false (show ¬ c.place = 3 by omega)]; decide)]; rfl
    · have h0 : c.hold ≠ 0 := by have := q.2.2.1; unfold idB inB at this; omega
      rw [evC_two (by omega), hsE_cons, if_pos h0, if_pos (decide_eq_true q.1)]; rfl
theorem hs_Q {ls : List Ln} (h : okV ls) : hsE (evL ls) = holdsQ ls := by
  induction ls with
  | nil => rfl
  | cons l ls ih =>
    have ih := ih fun c hc => h c (List.mem_cons_of_mem _ hc)
    have hv := h l List.mem_cons_self
    unfold holdsQ at ih ⊢
    rw [evL_cons, hs_app, ih, List.flatMap_cons]
    congr 1
    unfold hsE evQ
    rw [List.map_map]
    refine List.filter_eq_self.2 fun a ha => ?_
    obtain ⟨x, hx, rfl⟩ := List.mem_map.1 ha
    obtain ⟨i, hi, rfl⟩ := mem_at hx
    have := (hv.1 i hi).1.1
    exact decide_eq_true (show l.q[i]!.id ≠ 0 by omega)
theorem nd_iff {l : List Int} : ndI l ↔ l.Nodup := by
  unfold ndI
  rw [List.nodup_iff_pairwise_ne, List.pairwise_iff_getElem]
  constructor
  · intro h i j hi hj hij e
    refine h j hj ?_
    rw [getElem!_pos l j hj, ← e]
    exact List.mem_take_iff_getElem.2 ⟨i, by omega, rfl⟩
  · intro h j hj hm
    obtain ⟨i, hi, e⟩ := List.mem_take_iff_getElem.1 hm
    rw [getElem!_pos l j hj] at e
    exact h i j (by omega) hj (by omega) e
theorem take_s {α : Type} [Inhabited α] {l : List α} {n : Nat} (h : n < l.length) : l.take (n + 1) = l.take n ++ [l[n]!] := by
  rw [List.take_add_one, List.getElem?_eq_getElem h, getElem!_pos l n h]; rfl
theorem nodup_snoc {α : Type} {l : List α} {a : α} : (l ++ [a]).Nodup ↔ l.Nodup ∧ a ∉ l := by
  rw [List.nodup_append]
  constructor
  · rintro ⟨h1, _, h3⟩; exact ⟨h1, fun m => h3 a m a (List.mem_singleton.2 rfl) rfl⟩
  · rintro ⟨h1, h2⟩; exact ⟨h1, List.nodup_cons.2 ⟨by simp, List.nodup_nil⟩, fun x hx y hy e => by rw [List.mem_singleton.1 hy] at e; exact h2 (e ▸ hx)⟩
theorem evC_nd (cs : List Cp) : ((evC cs).map pw).Nodup ↔ ∀ k, k < cs.length → ¬ (cs[k]!.place ≠ 1 ∧ hasC (cs.take k) cs[k]!.work cs[k]!.pat = true) := by
  have key : ∀ n, n ≤ cs.length → (((evC (cs.take n)).map pw).Nodup ↔ ∀ k, k < n → ¬ (cs[k]!.place ≠ 1 ∧ hasC (cs.take k) cs[k]!.work cs[k]!.pat = true)) := by
    intro n
    induction n with
    | zero => intro _; exact ⟨fun _ k hk => by omega, fun _ => List.nodup_nil⟩
    | succ n ih =>
      intro hn
      have ih := ih (by omega)
      rw [take_s (by omega), evC_app, List.map_append]
      by_cases e : cs[n]!.place = 1
      · rw [evC_one e, List.map_nil, List.append_nil, ih]
        constructor
        · intro h k hk
          rcases Nat.lt_succ_iff_lt_or_eq.1 hk with q | q
          · exact h k q
          · subst q; exact fun z => z.1 e
        · intro h k hk; exact h k (by omega)
      · rw [evC_two e, List.map_singleton, nodup_snoc, ih]
        have hm : pw (cs[n]!.pat, cs[n]!.work, cs[n]!.hold) ∈ (evC (cs.take n)).map pw ↔ hasC (cs.take n) cs[n]!.work cs[n]!.pat = true := by
          rw [has_iff]
          refine pw_evC.trans ?_
          constructor
          · rintro ⟨c, h1, h2, h3, h4⟩; exact ⟨c, h1, h2, h4, h3⟩
          · rintro ⟨c, h1, h2, h3, h4⟩; exact ⟨c, h1, h2, h4, h3⟩
        rw [hm]
        constructor
        · rintro ⟨h1, h2⟩ k hk
          rcases Nat.lt_succ_iff_lt_or_eq.1 hk with q | q
          · exact h1 k q
          · subst q; exact fun z => h2 z.2
        · intro h; exact ⟨fun k hk => h k (by omega), fun z => h n (by omega) ⟨e, z⟩⟩
  have := key cs.length (Nat.le_refl _)
  rwa [List.take_length] at this
theorem evQ_nd {w : Int} {q : List Hd} (h : validQ q) : ((evQ w q).map pw).Nodup := by
  rw [List.nodup_iff_pairwise_ne, List.pairwise_iff_getElem]
  intro i j hi hj hij e
  unfold evQ at hi hj
  simp only [List.length_map] at hi hj
  have := (h.1 j hj).2.2 i hij
  refine this (.inr ?_)
  simp only [evQ, List.getElem_map, pw, Prod.mk.injEq] at e
  rw [getElem!_pos q i hi, getElem!_pos q j hj]
  exact e.1
theorem evL_nd {ls : List Ln} (ha : asc (·.work) ls) (hV : okV ls) : ((evL ls).map pw).Nodup := by
  have key : ∀ n, n ≤ ls.length → ((evL (ls.take n)).map pw).Nodup := by
    intro n
    induction n with
    | zero => intro _; exact List.nodup_nil
    | succ n ih =>
      intro hn
      have ih := ih (by omega)
      rw [take_s (by omega), evL_app, List.map_append, List.nodup_append]
      refine ⟨ih, ?_, fun a hx b hy e => ?_⟩
      · rw [show evL [ls[n]!] = evQ ls[n]!.work ls[n]!.q from by rw [evL_cons]; exact List.append_nil _]
        exact evQ_nd (hV _ (at_mem (by omega)))
      · subst e
        obtain ⟨l, l1, l2, _⟩ := pw_evL.1 (show (a.1, a.2) ∈ _ from hx)
        obtain ⟨l', l1', l2', _⟩ := pw_evL.1 (show (a.1, a.2) ∈ _ from hy)
        rw [List.mem_singleton.1 l1'] at l2'
        obtain ⟨i, hi, rfl⟩ := List.getElem_of_mem l1
        rw [List.length_take] at hi
        have : ls[i]!.work < ls[n]!.work := ha i n (by omega) (by omega)
        rw [getElem!_pos ls i (by omega)] at this
        rw [List.getElem_take] at l2
        omega
  have := key ls.length (Nat.le_refl _)
  rwa [List.take_length] at this
theorem lnC_ids (cs : List Cp) (p : Int) : (idsF (fun c => decide (c.place = 2 ∧ c.pat = p)) cs).length = lnC cs p := by unfold idsF lnC; rw [List.length_map]
theorem validR_iff (s : St) : validR s ↔ validS s := by
  constructor
  · rintro ⟨h1, h2, h3, h4, h5, h6⟩
    have hcp : ∀ c ∈ s.cps, cpOk c s.now := fun c hc => by obtain ⟨i, hi, rfl⟩ := mem_at hc; exact (h3 i hi).1
    have hla : asc (·.work) s.lns := asc_of fun k hk k0 => (h5 k hk).2.1 k0
    have hV : okV s.lns := fun l hl => by obtain ⟨i, hi, rfl⟩ := mem_at hl; exact (h5 i hi).2.2.2.1
    refine ⟨h1, h2, h6, fun k hk => ⟨(h3 k hk).1, (h3 k hk).2.1⟩, fun i hi => ?_, (apart_iff s).2 ⟨?_, ?_, fun p => ?_⟩⟩
    · obtain ⟨q1, q2, q3, q4, q5, q6, q7⟩ := h5 i hi
      refine ⟨⟨q1, q4, by omega, fun x hx => ?_⟩, q2, q5, q6⟩
      obtain ⟨k, hk, rfl⟩ := mem_at hx
      exact Int.not_lt.1 fun z => q7 k hk (.inl z)
    · unfold evA
      rw [List.map_append, List.nodup_append]
      refine ⟨(evC_nd _).2 fun k hk => (h3 k hk).2.2.1, evL_nd hla hV, fun a hx b hy e => ?_⟩
      subst e
      obtain ⟨c, c1, c2, c3, c4⟩ := pw_evC.1 (show (a.1, a.2) ∈ _ from hx)
      obtain ⟨l, l1, l2, x, l3, l4⟩ := pw_evL.1 (show (a.1, a.2) ∈ _ from hy)
      obtain ⟨i, hi, rfl⟩ := mem_at l1
      obtain ⟨k, hk, rfl⟩ := mem_at l3
      exact (h5 i hi).2.2.2.2.2.2 k hk (.inr (has_iff.2 ⟨c, c1, c2, c4.trans l2.symm, c3.trans l4.symm⟩))
    · unfold evA
      rw [hs_app, hs_C hcp, hs_Q hV]
      exact nd_iff.1 h4
    · rcases Nat.eq_zero_or_pos (lnC s.cps p) with z | z
      · omega
      · obtain ⟨c, hc⟩ := List.exists_mem_of_length_pos z
        obtain ⟨m1, m2⟩ := List.mem_filter.1 hc
        obtain ⟨k, hk, rfl⟩ := mem_at m1
        have m3 := (of_decide_eq_true m2).2
        have := (h3 k hk).2.2.2
        rw [lnC_ids, m3] at this
        omega
  · intro h
    have v := valid_vld.1 h
    have ap := v.ap
    have hn : ((evC s.cps).map pw).Nodup ∧ ((evL s.lns).map pw).Nodup ∧ ∀ a ∈ (evC s.cps).map pw, ∀ b ∈ (evL s.lns).map pw, a ≠ b := by
      have := ap.1
      unfold evA at this
      rwa [List.map_append, List.nodup_append] at this
    have hh := ap.2.1
    unfold evA at hh
    rw [hs_app, hs_C v.cp, hs_Q v.okV] at hh
    refine ⟨h.1, h.2.1, fun k hk => ⟨(h.2.2.2.1 k hk).1, (h.2.2.2.1 k hk).2, (evC_nd _).1 hn.1 k hk, ?_⟩, nd_iff.2 hh, fun i hi => ?_, h.2.2.1⟩
    · rw [lnC_ids]
      have := ap.2.2 s.cps[k]!.pat
      omega
    · obtain ⟨q1, q2, q3, q4⟩ := h.2.2.2.2.1 i hi
      refine ⟨q1.1, q2, by have := q1.2.2.1; omega, q1.2.1, q3, q4, fun k hk => ?_⟩
      rintro (z | z)
      · have := q1.2.2.2 _ (at_mem hk); omega
      · obtain ⟨c, c1, c2, c3, c4⟩ := has_iff.1 z
        exact hn.2.2 (s.lns[i]!.q[k]!.pat, s.lns[i]!.work) (pw_evC.2 ⟨c, c1, c2, c4, c3⟩) _ (pw_evL.2 ⟨_, at_mem hi, rfl, _, at_mem hk, rfl⟩) rfl
def wS (ls : List Ln) (w : Int) (q : List Hd) : Nat → List Ln × Bool
  | 0 => ([], decide (q.length = 0))
  | k + 1 => ((if (wS ls w q k).2 = false ∧ w ≤ ls[k]!.work then (wS ls w q k).1 ++ [⟨w, q⟩] else (wS ls w q k).1) ++ (if ls[k]!.work ≠ w then [ls[k]!] else []), (wS ls w q k).2 || decide (w ≤ ls[k]!.work))
def wE (ls : List Ln) (w : Int) (q : List Hd) : List Ln := if (wS ls w q ls.length).2 = true then (wS ls w q ls.length).1 else (wS ls w q ls.length).1 ++ [⟨w, q⟩]
def newL (w : Int) (q : List Hd) : List Ln := if q.length = 0 then [] else [⟨w, q⟩]
theorem wS_lo {ls : List Ln} (ha : asc (·.work) ls) (w : Int) (q : List Hd) : ∀ k, k ≤ kpos (·.work) ls w → wS ls w q k = (ls.take k, decide (q.length = 0))
  | 0, _ => by rw [wS, List.take_zero]
  | k + 1, hk => by
    have hp := kpos_le (key := fun l : Ln => l.work) ls w
    have h1 : ls[k]!.work < w := kpos_lo ha (show k < kpos (·.work) ls w by omega)
    rw [wS, wS_lo ha w q k (by omega), if_neg (show ¬ (decide (q.length = 0) = false ∧ w ≤ ls[k]!.work) from fun z => by omega), if_pos (show ls[k]!.work ≠ w by omega), take_s (by omega), decide_eq_false (show ¬ w ≤ ls[k]!.work by omega), Bool.or_false]
end Go.D58
end
section
namespace Go.Proofs.YtmekkjehkcjpdaaGreat
open Go Go.RowKit Go.H Go.D57 Go.D58

theorem hinf65 : ∃ i, Tryz.prog.info? 65 = some i ∧ i.zero = some (.agg #[.int .i64 0, .int .i64 0, .string ByteArray.empty, .int .i64 0, .int .i64 0, .int .i64 0, .int .i64 0, .bool false]) ∧ i.size = 8 ∧ i.bytes = 72 := G.info_of (by kernel_rfl)
theorem hinf69 : ∃ i, Tryz.prog.info? 69 = some i ∧ i.zero = some (.agg #[.int .i64 0, .slice none 0 0]) ∧ i.size = 2 ∧ i.bytes = 32 := G.info_of (by kernel_rfl)

theorem lowB_i {b : UInt8} : lowB b = true ↔ 97 ≤ b.toNat ∧ b.toNat ≤ 122 := by unfold lowB; rw [decide_eq_true_eq]
theorem nmB_i {b : UInt8} : nmB b = true ↔ (97 ≤ b.toNat ∧ b.toNat ≤ 122) ∨ (48 ≤ b.toNat ∧ b.toNat ≤ 57) ∨ b.toNat = 45 := by
  unfold nmB lowB
  simp only [Bool.or_eq_true, decide_eq_true_eq, or_assoc]
theorem nm_mk {l : List UInt8} (h1 : 1 ≤ l.length) (h2 : l.length ≤ 40) (h : ∀ j, j < l.length → nmB l[j]! = true ∧ (j = 0 → lowB l[j]! = true)) : nmOk l :=
  ⟨List.length_pos_iff.1 h1, h2, (h 0 h1).2 rfl, fun b hb => by obtain ⟨i, hi, rfl⟩ := List.getElem_of_mem hb; have := (h i hi).1; rwa [getElem!_pos l i hi] at this⟩
theorem has_y {cs : List Cp} {w p : Int} {k : Nat} (hk : k < cs.length) (hp : ∀ j, j < k → (fun c : Cp => decide (c.place ≠ 1 ∧ c.work = w ∧ c.pat = p)) cs[j]! = false) (e : cs[k]!.place ≠ 1 ∧ cs[k]!.work = w ∧ cs[k]!.pat = p) : hasC cs w p = true := by
  have z := idxF_here (p := fun c : Cp => decide (c.place ≠ 1 ∧ c.work = w ∧ c.pat = p)) hk hp (decide_eq_true e)
  exact decide_eq_true (show (0 : Int) ≤ idxF _ cs by rw [z]; omega)
theorem has_n {cs : List Cp} {w p : Int} {k : Nat} (hk : cs.length ≤ k) (hp : ∀ j, j < k → (fun c : Cp => decide (c.place ≠ 1 ∧ c.work = w ∧ c.pat = p)) cs[j]! = false) : hasC cs w p = false := by
  have z := idxF_none (p := fun c : Cp => decide (c.place ≠ 1 ∧ c.work = w ∧ c.pat = p)) hk hp
  exact decide_eq_false (show ¬ (0 : Int) ≤ idxF _ cs by rw [z]; omega)

set_option maxRecDepth 8000 in
theorem refName_h {l : List UInt8} (hl : l.length ≤ 1000) :
    Con Tryz.prog 84 [vT l] [] (vB (decide (nmOk l))) [] := by
 refine Con.en 53 Tryz.func84 fun τ w ok vs hin => ?_
 clear hin
 refine W.rg (SL.a (E.fo (W.seq (W.rg (SL.a (E.fo (W.block ?_)))))))
 refine W.loopx1 (fun (k : Nat) => [(3, vI (k : Int))]) (fun (k : Nat) => []) (fun (k : Nat) => k ≤ l.length ∧ ∀ j, j < k → nmB l[j]! = true ∧ (j = 0 → lowB l[j]! = true)) (fun (k : Nat) => l.length - k) (0) (rn []) (.cons (t := 0) rfl .nil) .nil rfl ?_ ?_ rfl rfl ?_ ?_
 · exact SubF.au
 · exact SubS.nil
 ·exact ⟨by omega, fun j h => by omega⟩
 intro k hinv
 obtain ⟨hk, hp⟩ := hinv
 refine W.seq (W.rg (SL.o (SL.o ?_)))
 refine SL.v (O.det (fun _ => G.R.lenL rfl u9) rfl Taken.no) ?_
 refine SL.v (O.lss) ?_
 refine E.fo ?_
 refine W.cc rfl (fun hc1 => ?_) fun hc1 => ?_
 ·refine W.skip (E.to (W.seq (W.block (W.rg (SL.o (SL.o ?_))))))
  refine SL.v (O.det (fun _ => G.R.stridxL (i := k) rfl rfl u9 (by omega)) rfl Taken.no) ?_
  refine SL.v (O.geq) ?_
  refine SL.o ?_
  refine SL.cs 4 true (fun hg2 => ?_) fun hg2 => ?_
  ·have hg2p := gP hg2
   refine SL.v (O.mo (tY hg2)) ?_
   refine SL.v (O.mo (tY hg2)) ?_
   refine SL.v (O.det (fun _ => G.R.stridxL (i := k) rfl rfl u9 (by omega)) rfl (Taken.yes rfl rfl hg2)) ?_
   refine SL.v (O.leq (tY hg2)) ?_
   refine SL.v (O.pt hg2) ?_
   refine SL.a (E.fo (W.rg (SL.o ?_)))
   refine SL.v (O.nt) ?_
   refine SL.o ?_
   refine SL.cs 2 true (fun hg3 => ?_) fun hg3 => ?_
   ·have hg3p := gP hg3
    refine SL.v (O.mo (tY hg3)) ?_
    refine SL.v (O.eql (tY hg3)) ?_
    refine SL.v (O.mo (tY hg3)) ?_
    refine SL.cs 5 false (fun hg4 => ?_) fun hg4 => ?_
    ·have hg4p := gP hg4
     refine SL.v (O.mo (tY hg4)) ?_
     refine SL.v (O.mo (tY hg4)) ?_
     refine SL.v (O.det (fun _ => G.R.stridxL (i := k) rfl rfl u9 (by omega)) rfl (Taken.yes rfl rfl hg4)) ?_
     refine SL.v (O.neq (tY hg4)) ?_
     refine SL.v (O.mo (tY hg4)) ?_
     refine SL.cs 10 true (fun hg5 => ?_) fun hg5 => ?_
     ·have hg5p := gP hg5
      refine SL.v (O.mo (tY hg5)) ?_
      refine SL.v (O.mo (tY hg5)) ?_
      refine SL.v (O.det (fun _ => G.R.stridxL (i := k) rfl rfl u9 (by omega)) rfl (Taken.yes rfl rfl hg5)) ?_
      refine SL.v (O.lss (tY hg5)) ?_
      refine SL.v (O.mo (tY hg5)) ?_
      refine SL.cs 15 false (fun hg6 => ?_) fun hg6 => ?_
      ·have hg6p := gP hg6
       refine SL.v (O.mo (tY hg6)) ?_
       refine SL.v (O.mo (tY hg6)) ?_
       refine SL.v (O.det (fun _ => G.R.stridxL (i := k) rfl rfl u9 (by omega)) rfl (Taken.yes rfl rfl hg6)) ?_
       refine SL.v (O.gtr (tY hg6)) ?_
       refine SL.v (O.pf hg6 (tY hg5)) ?_
       refine SL.v (O.pt hg5 (tY hg4)) ?_
       refine SL.v (O.pf hg4 (tY hg3)) ?_
       refine SL.v (O.pt hg3) ?_
       refine E.fo ?_
       refine W.pk [(0,_),(3,_),(44,_)] [] ?_
       refine W.cc rfl (fun hc7 => ?_) fun hc7 => ?_
       ·refine W.rg (SL.a (E.fo (W.ret ?_)))
        refine E.inr ?_
        refine E.thr (E.thr ?_)
        refine E.inr ?_
        refine E.thr ?_
        refine E.f1 [] ?_ ?_
        ·exact iv_bool (dec_f fun q => by have q1 := nmB_i.1 (q.2.2.2 _ (at_mem (show k < l.length by omega))); have q2 := lowB_i.1 q.2.2.1; first | omega | ((obtain rfl : k = 0 := (by omega)); omega))
        · exact SubS.nil
       refine W.skip (E.inn (E.to (W.region (SL.o ?_))))
       refine SL.v (O.ad) ?_
       refine SL.a (SL.nil ?_)
       refine E.ag (k + 1) [] ?_ ?_ ?_ ?_
       · exact SubF.au
       · exact SubS.nil
       ·try dsimp only
        exact ⟨by omega, upto_s hp ⟨nmB_i.2 (by omega), fun h0 => lowB_i.2 (by omega)⟩⟩
       · (try dsimp only); omega
      have hg6p := gP hg6
      refine SL.k hg6 (SL.k hg6 (SL.k hg6 (SL.k hg6 ?_)))
      refine SL.v (O.pt (G.ne_f hg6) (tY hg5)) ?_
      refine SL.v (O.pt hg5 (tY hg4)) ?_
      refine SL.v (O.pf hg4 (tY hg3)) ?_
      refine SL.v (O.pt hg3) ?_
      refine E.fo ?_
      refine W.pk [(0,_),(3,_),(44,_)] [] ?_
      refine W.cond_t rfl ?_
      refine W.rg (SL.a (E.fo (W.ret ?_)))
      refine E.inr ?_
      refine E.thr (E.thr ?_)
      refine E.inr ?_
      refine E.thr ?_
      refine E.f1 [] ?_ ?_
      ·exact iv_bool (dec_f fun q => by have q1 := nmB_i.1 (q.2.2.2 _ (at_mem (show k < l.length by omega))); have q2 := lowB_i.1 q.2.2.1; first | omega | ((obtain rfl : k = 0 := (by omega)); omega))
      · exact SubS.nil
     have hg5p := gP hg5
     refine SL.k hg5 (SL.k hg5 (SL.k hg5 (SL.k hg5 (SL.k hg5 ?_))))
     refine SL.s2 ?_
     refine SL.s2 ?_
     refine SL.s2 ?_
     refine SL.s2 ?_
     refine SL.k hg5 ?_
     refine SL.v (O.pf (G.ne_t hg5) (tY hg4)) ?_
     refine SL.v (O.pf hg4 (tY hg3)) ?_
     refine SL.v (O.pt hg3) ?_
     refine E.fo ?_
     refine W.pk [(0,_),(3,_),(44,_)] [] ?_
     refine W.cond_f rfl ?_
     refine W.skip (E.inn (E.to (W.region (SL.o ?_))))
     refine SL.v (O.ad) ?_
     refine SL.a (SL.nil ?_)
     refine E.ag (k + 1) [] ?_ ?_ ?_ ?_
     · exact SubF.au
     · exact SubS.nil
     ·try dsimp only
      exact ⟨by omega, upto_s hp ⟨nmB_i.2 (by omega), fun h0 => lowB_i.2 (by omega)⟩⟩
     · (try dsimp only); omega
    have hg4p := gP hg4
    refine SL.k hg4 (SL.k hg4 (SL.k hg4 (SL.k hg4 (SL.k hg4 ?_))))
    refine SL.s2 ?_
    refine SL.s2 ?_
    refine SL.s2 ?_
    refine SL.s2 ?_
    refine SL.s2 ?_
    refine SL.s2 ?_
    refine SL.s2 ?_
    refine SL.s2 ?_
    refine SL.s2 ?_
    refine SL.s2 ?_
    refine SL.k hg4 ?_
    refine SL.v (O.pt (G.ne_f hg4) (tY hg3)) ?_
    refine SL.v (O.pt hg3) ?_
    refine E.fo ?_
    refine W.pk [(0,_),(3,_),(44,_)] [] ?_
    refine W.cond_t rfl ?_
    refine W.rg (SL.a (E.fo (W.ret ?_)))
    refine E.inr ?_
    refine E.thr (E.thr ?_)
    refine E.inr ?_
    refine E.thr ?_
    refine E.f1 [] ?_ ?_
    ·exact iv_bool (dec_f fun q => by have q1 := nmB_i.1 (q.2.2.2 _ (at_mem (show k < l.length by omega))); have q2 := lowB_i.1 q.2.2.1; first | omega | ((obtain rfl : k = 0 := (by omega)); omega))
    · exact SubS.nil
   have hg3p := gP hg3
   refine SL.k hg3 (SL.k hg3 (SL.k hg3 ?_))
   refine SL.s2 ?_
   refine SL.s2 ?_
   refine SL.s2 ?_
   refine SL.s2 ?_
   refine SL.s2 ?_
   refine SL.s2 ?_
   refine SL.s2 ?_
   refine SL.s2 ?_
   refine SL.s2 ?_
   refine SL.s2 ?_
   refine SL.s2 ?_
   refine SL.s2 ?_
   refine SL.s2 ?_
   refine SL.s2 ?_
   refine SL.s2 ?_
   refine SL.s2 ?_
   refine SL.k hg3 ?_
   refine SL.v (O.pf (G.ne_t hg3)) ?_
   refine E.fo ?_
   refine W.pk [(0,_),(3,_),(44,_)] [] ?_
   refine W.cond_f rfl ?_
   refine W.skip (E.inn (E.to (W.region (SL.o ?_))))
   refine SL.v (O.ad) ?_
   refine SL.a (SL.nil ?_)
   refine E.ag (k + 1) [] ?_ ?_ ?_ ?_
   · exact SubF.au
   · exact SubS.nil
   ·try dsimp only
    exact ⟨by omega, upto_s hp ⟨nmB_i.2 (by omega), fun h0 => lowB_i.2 (by omega)⟩⟩
   · (try dsimp only); omega
  have hg2p := gP hg2
  refine SL.k hg2 (SL.k hg2 (SL.k hg2 (SL.k hg2 ?_)))
  refine SL.v (O.pf (G.ne_t hg2)) ?_
  refine SL.a (E.fo (W.rg (SL.o ?_)))
  refine SL.v (O.det (fun _ => G.R.mv (G.R.not rfl) rfl) rfl Taken.no) ?_
  refine SL.o ?_
  have hg8 : true = true := by decide
  refine SL.v (O.mo (tY hg8)) ?_
  refine SL.v (O.eql (tY hg8)) ?_
  refine SL.v (O.mo (tY hg8)) ?_
  refine SL.cs 5 false (fun hg9 => ?_) fun hg9 => ?_
  ·have hg9p := gP hg9
   refine SL.v (O.mo (tY hg9)) ?_
   refine SL.v (O.mo (tY hg9)) ?_
   refine SL.v (O.det (fun _ => G.R.stridxL (i := k) rfl rfl u9 (by omega)) rfl (Taken.yes rfl rfl hg9)) ?_
   refine SL.v (O.neq (tY hg9)) ?_
   refine SL.v (O.mo (tY hg9)) ?_
   refine SL.cs 10 true (fun hg10 => ?_) fun hg10 => ?_
   ·have hg10p := gP hg10
    refine SL.v (O.mo (tY hg10)) ?_
    refine SL.v (O.mo (tY hg10)) ?_
    refine SL.v (O.det (fun _ => G.R.stridxL (i := k) rfl rfl u9 (by omega)) rfl (Taken.yes rfl rfl hg10)) ?_
    refine SL.v (O.lss (tY hg10)) ?_
    refine SL.v (O.mo (tY hg10)) ?_
    refine SL.cs 15 false (fun hg11 => ?_) fun hg11 => ?_
    ·have hg11p := gP hg11
     refine SL.v (O.mo (tY hg11)) ?_
     refine SL.v (O.mo (tY hg11)) ?_
     refine SL.v (O.det (fun _ => G.R.stridxL (i := k) rfl rfl u9 (by omega)) rfl (Taken.yes rfl rfl hg11)) ?_
     refine SL.v (O.gtr (tY hg11)) ?_
     refine SL.v (O.pf hg11 (tY hg10)) ?_
     refine SL.v (O.pt hg10 (tY hg9)) ?_
     refine SL.v (O.pf hg9 (tY hg8)) ?_
     refine SL.v (O.pt rfl) ?_
     refine E.fo ?_
     refine W.pk [(0,_),(3,_),(44,_)] [] ?_
     refine W.cc rfl (fun hc12 => ?_) fun hc12 => ?_
     ·refine W.rg (SL.a (E.fo (W.ret ?_)))
      refine E.inr ?_
      refine E.thr (E.thr ?_)
      refine E.inr ?_
      refine E.thr ?_
      refine E.f1 [] ?_ ?_
      ·exact iv_bool (dec_f fun q => by have q1 := nmB_i.1 (q.2.2.2 _ (at_mem (show k < l.length by omega))); have q2 := lowB_i.1 q.2.2.1; first | omega | ((obtain rfl : k = 0 := (by omega)); omega))
      · exact SubS.nil
     refine W.skip (E.inn (E.to (W.region (SL.o ?_))))
     refine SL.v (O.ad) ?_
     refine SL.a (SL.nil ?_)
     refine E.ag (k + 1) [] ?_ ?_ ?_ ?_
     · exact SubF.au
     · exact SubS.nil
     ·try dsimp only
      exact ⟨by omega, upto_s hp ⟨nmB_i.2 (by omega), fun h0 => lowB_i.2 (by omega)⟩⟩
     · (try dsimp only); omega
    have hg11p := gP hg11
    refine SL.k hg11 (SL.k hg11 (SL.k hg11 (SL.k hg11 ?_)))
    refine SL.v (O.pt (G.ne_f hg11) (tY hg10)) ?_
    refine SL.v (O.pt hg10 (tY hg9)) ?_
    refine SL.v (O.pf hg9 (tY hg8)) ?_
    refine SL.v (O.pt rfl) ?_
    refine E.fo ?_
    refine W.pk [(0,_),(3,_),(44,_)] [] ?_
    refine W.cond_t rfl ?_
    refine W.rg (SL.a (E.fo (W.ret ?_)))
    refine E.inr ?_
    refine E.thr (E.thr ?_)
    refine E.inr ?_
    refine E.thr ?_
    refine E.f1 [] ?_ ?_
    ·exact iv_bool (dec_f fun q => by have q1 := nmB_i.1 (q.2.2.2 _ (at_mem (show k < l.length by omega))); have q2 := lowB_i.1 q.2.2.1; first | omega | ((obtain rfl : k = 0 := (by omega)); omega))
    · exact SubS.nil
   have hg10p := gP hg10
   refine SL.k hg10 (SL.k hg10 (SL.k hg10 (SL.k hg10 (SL.k hg10 ?_))))
   refine SL.s2 ?_
   refine SL.s2 ?_
   refine SL.s2 ?_
   refine SL.s2 ?_
   refine SL.k hg10 ?_
   refine SL.v (O.pf (G.ne_t hg10) (tY hg9)) ?_
   refine SL.v (O.pf hg9 (tY hg8)) ?_
   refine SL.v (O.pt rfl) ?_
   refine E.fo ?_
   refine W.pk [(0,_),(3,_),(44,_)] [] ?_
   refine W.cond_f rfl ?_
   refine W.skip (E.inn (E.to (W.region (SL.o ?_))))
   refine SL.v (O.ad) ?_
   refine SL.a (SL.nil ?_)
   refine E.ag (k + 1) [] ?_ ?_ ?_ ?_
   · exact SubF.au
   · exact SubS.nil
   ·try dsimp only
    exact ⟨by omega, upto_s hp ⟨nmB_i.2 (by omega), fun h0 => lowB_i.2 (by omega)⟩⟩
   · (try dsimp only); omega
  have hg9p := gP hg9
  refine SL.k hg9 (SL.k hg9 (SL.k hg9 (SL.k hg9 (SL.k hg9 ?_))))
  refine SL.s2 ?_
  refine SL.s2 ?_
  refine SL.s2 ?_
  refine SL.s2 ?_
  refine SL.s2 ?_
  refine SL.s2 ?_
  refine SL.s2 ?_
  refine SL.s2 ?_
  refine SL.s2 ?_
  refine SL.s2 ?_
  refine SL.k hg9 ?_
  refine SL.v (O.pt (G.ne_f hg9) (tY hg8)) ?_
  refine SL.v (O.pt rfl) ?_
  refine E.fo ?_
  refine W.pk [(0,_),(3,_),(44,_)] [] ?_
  refine W.cond_t rfl ?_
  refine W.rg (SL.a (E.fo (W.ret ?_)))
  refine E.inr ?_
  refine E.thr (E.thr ?_)
  refine E.inr ?_
  refine E.thr ?_
  refine E.f1 [] ?_ ?_
  ·exact iv_bool (dec_f fun q => by have q1 := nmB_i.1 (q.2.2.2 _ (at_mem (show k < l.length by omega))); have q2 := lowB_i.1 q.2.2.1; first | omega | ((obtain rfl : k = 0 := (by omega)); omega))
  · exact SubS.nil
 refine W.exit (E.th (E.th (E.hit (E.to (W.rg (SL.o ?_))))))
 refine SL.v (O.det (fun _ => G.R.lenL rfl u9) rfl Taken.no) ?_
 refine SL.v (O.geq) ?_
 refine SL.o ?_
 refine SL.cs 3 true (fun hg13 => ?_) fun hg13 => ?_
 ·have hg13p := gP hg13
  refine SL.v (O.mo (tY hg13)) ?_
  refine SL.v (O.det (fun _ => G.R.lenL rfl u9) rfl (Taken.yes rfl rfl hg13)) ?_
  refine SL.v (O.leq (tY hg13)) ?_
  refine SL.v (O.pt hg13) ?_
  refine SL.a (E.fo (W.ret ?_))
  refine E.f1 [] ?_ ?_
  ·first | exact iv_bool (dec_iff ⟨fun z => by have := z.2.1; omega, fun z => nm_mk (by omega) (by omega) (fun j hj => hp j (by omega))⟩) | exact iv_bool (dec_f fun q => by have q1 := List.length_pos_iff.2 q.1; omega)
  · exact SubS.nil
 have hg13p := gP hg13
 refine SL.k hg13 (SL.k hg13 (SL.k hg13 ?_))
 refine SL.v (O.pf (G.ne_t hg13)) ?_
 refine SL.a (E.fo (W.ret ?_))
 refine E.f1 [] ?_ ?_
 ·first | exact iv_bool (dec_iff ⟨fun z => by have := z.2.1; omega, fun z => nm_mk (by omega) (by omega) (fun j hj => hp j (by omega))⟩) | exact iv_bool (dec_f fun q => by have q1 := List.length_pos_iff.2 q.1; omega)
 · exact SubS.nil

set_option maxRecDepth 8000 in
theorem refid_h {n : Int} :
    Con Tryz.prog 83 [vI n] [] (vB (decide (idB n))) [] := by
 refine Con.en 9 Tryz.func83 fun τ w ok vs hin => ?_
 clear hin
 refine W.rg (SL.a (E.fo (W.rg (SL.o ?_))))
 refine SL.v (O.geq) ?_
 refine SL.o ?_
 refine SL.cs 2 true (fun hg1 => ?_) fun hg1 => ?_
 ·have hg1p := gP hg1
  refine SL.v (O.mo (tY hg1)) ?_
  refine SL.v (O.leq (tY hg1)) ?_
  refine SL.v (O.pt hg1) ?_
  refine SL.a (E.fo (W.ret ?_))
  refine E.f1 [] ?_ ?_
  ·unfold idB inB; first | exact iv_bool (dec_iff (by omega)) | exact iv_bool (dec_t (by omega)) | exact iv_bool (dec_f (by omega))
  · exact SubS.nil
 have hg1p := gP hg1
 refine SL.k hg1 (SL.k hg1 ?_)
 refine SL.v (O.pf (G.ne_t hg1)) ?_
 refine SL.a (E.fo (W.ret ?_))
 refine E.f1 [] ?_ ?_
 ·unfold idB inB; first | exact iv_bool (dec_iff (by omega)) | exact iv_bool (dec_t (by omega)) | exact iv_bool (dec_f (by omega))
 · exact SubS.nil

set_option maxRecDepth 8000 in
theorem refday_h {n : Int} :
    Con Tryz.prog 45 [vI n] [] (vB (decide (inB n 0 1000000))) [] := by
 refine Con.en 9 Tryz.func45 fun τ w ok vs hin => ?_
 clear hin
 refine W.rg (SL.a (E.fo (W.rg (SL.o ?_))))
 refine SL.v (O.geq) ?_
 refine SL.o ?_
 refine SL.cs 2 true (fun hg1 => ?_) fun hg1 => ?_
 ·have hg1p := gP hg1
  refine SL.v (O.mo (tY hg1)) ?_
  refine SL.v (O.leq (tY hg1)) ?_
  refine SL.v (O.pt hg1) ?_
  refine SL.a (E.fo (W.ret ?_))
  refine E.f1 [] ?_ ?_
  ·unfold inB; first | exact iv_bool (dec_iff (by omega)) | exact iv_bool (dec_t (by omega)) | exact iv_bool (dec_f (by omega))
  · exact SubS.nil
 have hg1p := gP hg1
 refine SL.k hg1 (SL.k hg1 ?_)
 refine SL.v (O.pf (G.ne_t hg1)) ?_
 refine SL.a (E.fo (W.ret ?_))
 refine E.f1 [] ?_ ?_
 ·unfold inB; first | exact iv_bool (dec_iff (by omega)) | exact iv_bool (dec_t (by omega)) | exact iv_bool (dec_f (by omega))
 · exact SubS.nil

set_option maxRecDepth 8000 in
theorem has_h {s : St} {wk p : Int} :
    Con Tryz.prog 47 [vA [uI s.now, .sl 8 (s.cps.map eCp), .sl 2 (s.lns.map eLn)], vI wk, vI p] [] (vB (hasC s.cps wk p)) [] := by
 obtain ⟨i65, hi65, hz65, hs65, hb65⟩ := hinf65
 refine Con.en 42 Tryz.func47 fun τ w ok vs hin => ?_
 have hl0_1 := hin.lenA (i := 0) (j := 1) rfl rfl
 try rw [List.length_map] at hl0_1
 have hl0_2 := hin.lenA (i := 0) (j := 2) rfl rfl
 try rw [List.length_map] at hl0_2
 clear hin
 refine W.rg ?_
 refine SL.bx3 101 ?_
 refine SL.a (E.fo (W.seq (W.rg (SL.a (E.fo (W.block ?_))))))
 refine W.loopx1 (fun (k : Nat) => [(7, vI (k : Int))]) (fun (k : Nat) => []) (fun (k : Nat) => k ≤ s.cps.length ∧ ∀ j, j < k → (fun c : Cp => decide (c.place ≠ 1 ∧ c.work = wk ∧ c.pat = p)) s.cps[j]! = false) (fun (k : Nat) => s.cps.length - k) (0) (rn []) (.cons (t := 1) rfl (.cons (t := 2) rfl (.cons (t := 3) rfl .nil))) (.cons (t := 101) rfl .nil) rfl ?_ ?_ rfl rfl ?_ ?_
 · exact SubF.au
 · exact SubS.nil
 ·exact ⟨by omega, fun j h => by omega⟩
 intro k hinv
 obtain ⟨hk, hp⟩ := hinv
 refine W.seq (W.rg (SL.o ?_))
 refine SL.v (O.fr 1 0 u25) ?_
 refine SL.v (O.l1 u22) ?_
 refine SL.v (O.le u22) ?_
 refine SL.v (O.lss) ?_
 refine E.fo ?_
 refine W.cc rfl (fun hc1 => ?_) fun hc1 => ?_
 ·refine W.skip (E.to (W.seq (W.block (W.rg ?_))))
  refine SL.v (O.fr 1 0 u25) ?_
  refine SL.v (O.l1 u22) ?_
  refine SL.o ?_
  refine SL.v (O.ix u22 hi65 hs65) ?_
  refine SL.v (O.ff 0 u65) ?_
  refine SL.v (O.l1f u3) ?_
  refine SL.o ?_
  refine SL.v (O.eql) ?_
  refine SL.o ?_
  refine SL.cs 8 true (fun hg2 => ?_) fun hg2 => ?_
  ·have hg2p := gP hg2
   refine SL.v (O.fr 1 0 u25 (tY hg2)) ?_
   refine SL.v (O.l1 u22 (tY hg2)) ?_
   refine SL.v (O.mo (tY hg2)) ?_
   refine SL.v (O.ix u22 hi65 hs65 (tY hg2)) ?_
   refine SL.v (O.ff 0 u65 (tY hg2)) ?_
   refine SL.v (O.l1f u3 (tY hg2)) ?_
   refine SL.v (O.neq (tY hg2)) ?_
   refine SL.v (O.pt hg2) ?_
   refine SL.o ?_
   refine SL.cs 17 true (fun hg3 => ?_) fun hg3 => ?_
   ·have hg3p := gP hg3
    refine SL.v (O.fr 1 0 u25 (tY hg3)) ?_
    refine SL.v (O.l1 u22 (tY hg3)) ?_
    refine SL.v (O.mo (tY hg3)) ?_
    refine SL.v (O.ix u22 hi65 hs65 (tY hg3)) ?_
    refine SL.v (O.ff 0 u65 (tY hg3)) ?_
    refine SL.v (O.l1f u3 (tY hg3)) ?_
    refine SL.v (O.mo (tY hg3)) ?_
    refine SL.v (O.eql (tY hg3)) ?_
    refine SL.v (O.pt hg3) ?_
    refine E.fo ?_
    refine W.pk [(1,_),(2,_),(3,_),(7,_),(41,_)] [(101,_)] ?_
    refine W.cc rfl (fun hc4 => ?_) fun hc4 => ?_
    ·refine W.rg (SL.a (E.fo (W.ret ?_)))
     refine E.inr ?_
     refine E.thr (E.thr ?_)
     refine E.inr ?_
     refine E.thr ?_
     refine E.f1 [] ?_ ?_
     ·exact iv_bool (has_y (by omega) hp ⟨by omega, by omega, by omega⟩)
     · exact SubS.nil
    refine W.skip (E.inn (E.to (W.region (SL.o ?_))))
    refine SL.v (O.ad) ?_
    refine SL.a (SL.nil ?_)
    refine E.ag (k + 1) [] ?_ ?_ ?_ ?_
    · exact SubF.au
    · exact SubS.au
    ·try dsimp only
     exact ⟨by omega, upto_s hp (decide_eq_false (by omega))⟩
    · (try dsimp only); omega
   have hg3p := gP hg3
   refine SL.k hg3 (SL.k hg3 (SL.k hg3 (SL.k hg3 (SL.k hg3 (SL.k hg3 (SL.k hg3 (SL.k hg3 ?_)))))))
   refine SL.v (O.pf (G.ne_t hg3)) ?_
   refine E.fo ?_
   refine W.pk [(1,_),(2,_),(3,_),(7,_),(41,_)] [(101,_)] ?_
   refine W.cond_f rfl ?_
   refine W.skip (E.inn (E.to (W.region (SL.o ?_))))
   refine SL.v (O.ad) ?_
   refine SL.a (SL.nil ?_)
   refine E.ag (k + 1) [] ?_ ?_ ?_ ?_
   · exact SubF.au
   · exact SubS.au
   ·try dsimp only
    exact ⟨by omega, upto_s hp (decide_eq_false (by omega))⟩
   · (try dsimp only); omega
  have hg2p := gP hg2
  refine SL.k hg2 (SL.k hg2 (SL.k hg2 (SL.k hg2 (SL.k hg2 (SL.k hg2 (SL.k hg2 ?_))))))
  refine SL.v (O.pf (G.ne_t hg2)) ?_
  refine SL.o ?_
  have hg5 := G.nft
  refine SL.k hg5 (SL.k hg5 (SL.k hg5 (SL.k hg5 (SL.k hg5 (SL.k hg5 (SL.k hg5 (SL.k hg5 ?_)))))))
  refine SL.v (O.pf rfl) ?_
  refine E.fo ?_
  refine W.pk [(1,_),(2,_),(3,_),(7,_),(41,_)] [(101,_)] ?_
  refine W.cond_f rfl ?_
  refine W.skip (E.inn (E.to (W.region (SL.o ?_))))
  refine SL.v (O.ad) ?_
  refine SL.a (SL.nil ?_)
  refine E.ag (k + 1) [] ?_ ?_ ?_ ?_
  · exact SubF.au
  · exact SubS.au
  ·try dsimp only
   exact ⟨by omega, upto_s hp (decide_eq_false (by omega))⟩
  · (try dsimp only); omega
 refine W.exit (E.th (E.th (E.hit (E.to (W.rg (SL.a (E.fo (W.ret ?_))))))))
 refine E.f1 [] ?_ ?_
 ·exact iv_bool (has_n (by omega) hp)
 · exact SubS.nil


set_option maxRecDepth 8000 in
theorem refCount_h {s : St} {work : Int} :
    Con Tryz.prog 88 [vA [uI s.now, .sl 8 (s.cps.map eCp), .sl 2 (s.lns.map eLn)], vI work] [] (.agg [vI ((cntP s.cps work 1 : Nat) : Int), vI ((cntP s.cps work 2 : Nat) : Int), vI ((cntP s.cps work 3 : Nat) : Int)]) [] := by
 obtain ⟨i65, hi65, hz65, hs65, hb65⟩ := hinf65
 refine Con.en 42 Tryz.func88 fun τ w ok vs hin => ?_
 have hl0_1 := hin.lenA (i := 0) (j := 1) rfl rfl
 try rw [List.length_map] at hl0_1
 have hl0_2 := hin.lenA (i := 0) (j := 2) rfl rfl
 try rw [List.length_map] at hl0_2
 clear hin
 refine W.rg ?_
 refine SL.bx3 101 ?_
 refine SL.al4 102 ?_
 refine E.fo (W.rg ?_)
 refine SL.al4 103 ?_
 refine E.fo (W.seq (W.rg (SL.a (E.fo (W.block ?_)))))
 refine W.loopx1 (fun (k : Nat) => [(6, vI (k : Int))]) (fun (k : Nat) => [(103, .cells 56 [.u (uI ((cntP (s.cps.take k) work 1 : Nat) : Int)), .u (uI ((cntP (s.cps.take k) work 2 : Nat) : Int)), .u (uI ((cntP (s.cps.take k) work 3 : Nat) : Int))])]) (fun (k : Nat) => k ≤ s.cps.length) (fun (k : Nat) => s.cps.length - k) (0) (rn []) (.cons (t := 1) rfl (.cons (t := 2) rfl (.cons (t := 4) rfl (.cons (t := 5) rfl .nil)))) (.cons (t := 101) rfl (.cons (t := 102) rfl .nil)) rfl ?_ ?_ rfl rfl ?_ ?_
 · exact SubF.au
 · exact SubS.au
 ·omega
 intro k hinv
 have hk := hinv
 have hc1_ := cnt_le s.cps work 1 k
 have hc2_ := cnt_le s.cps work 2 k
 have hc3_ := cnt_le s.cps work 3 k
 refine W.seq (W.rg (SL.o ?_))
 refine SL.v (O.fr 1 0 u25) ?_
 refine SL.v (O.l1 u22) ?_
 refine SL.v (O.le u22) ?_
 refine SL.v (O.lss) ?_
 refine E.fo ?_
 refine W.cc rfl (fun hc1 => ?_) fun hc1 => ?_
 ·refine W.skip (E.to (W.seq (W.block (W.rg ?_))))
  refine SL.v (O.fr 1 0 u25) ?_
  refine SL.v (O.l1 u22) ?_
  refine SL.o ?_
  refine SL.v (O.ix u22 hi65 hs65) ?_
  refine SL.v (O.lU 8 u65) ?_
  refine SL.al3 104 ?_
  refine SL.st8_8 104 ?_
  refine E.fo (W.rg ?_)
  refine SL.v (O.fr 1 0 u65) ?_
  refine SL.v (O.l1 u3) ?_
  refine SL.o ?_
  refine SL.v (O.eql) ?_
  refine SL.o ?_
  refine SL.cs 4 true (fun hg2 => ?_) fun hg2 => ?_
  ·have hg2p := gP hg2
   refine SL.v (O.fr 3 0 u65 (tY hg2)) ?_
   refine SL.v (O.l1 u3 (tY hg2)) ?_
   refine SL.v (O.geq (tY hg2)) ?_
   refine SL.v (O.pt hg2) ?_
   refine SL.o ?_
   refine SL.cs 9 true (fun hg3 => ?_) fun hg3 => ?_
   ·have hg3p := gP hg3
    refine SL.v (O.fr 3 0 u65 (tY hg3)) ?_
    refine SL.v (O.l1 u3 (tY hg3)) ?_
    refine SL.v (O.leq (tY hg3)) ?_
    refine SL.v (O.pt hg3) ?_
    refine E.fo ?_
    refine W.pk [(1,_),(2,_),(4,_),(5,_),(6,_),(7,_),(33,_)] [(101,_),(102,_),(103,_),(104,_)] ?_
    refine W.cc rfl (fun hc4 => ?_) fun hc4 => ?_
    ·have hpl : s.cps[k]!.place = 1 ∨ s.cps[k]!.place = 2 ∨ s.cps[k]!.place = 3 := by omega
     rcases hpl with hpl | hpl | hpl
     ·refine W.region ?_
      refine SL.v (O.fr 3 0 u65) ?_
      refine SL.v (O.l1 u3) ?_
      refine SL.v (O.sb) ?_
      refine SL.v (O.idx_ref (i := 0) (m := 1) rfl rfl (by omega) (by decide) u56 (by kernel_rfl) rfl rfl Taken.no) ?_
      refine SL.v (O.l1 u3) ?_
      refine SL.v (O.ad) ?_
      refine SL.v (O.idx_ref (i := 0) (m := 1) rfl rfl (by omega) (by decide) u56 (by kernel_rfl) rfl rfl Taken.no) ?_
      refine SL.st1_3 103 ?_
      refine SL.nil (E.inn (E.to (W.region (SL.o ?_))))
      refine SL.v (O.ad) ?_
      refine SL.a (SL.nil ?_)
      refine E.ag (k + 1) [] ?_ ?_ ?_ ?_
      · exact SubF.au
      · exact (SubS.val rfl (by (try dsimp only); first | (first | (rw [cnt_y (p := 1) (by omega) (by omega), cnt_n (p := 2) (by omega) (by omega), cnt_n (p := 3) (by omega) (by omega)]; rfl) | (rw [cnt_n (p := 1) (by omega) (by omega), cnt_n (p := 2) (by omega) (by omega), cnt_n (p := 3) (by omega) (by omega)]; rfl)) | (first | (rw [cnt_n (p := 1) (by omega) (by omega), cnt_y (p := 2) (by omega) (by omega), cnt_n (p := 3) (by omega) (by omega)]; rfl) | (rw [cnt_n (p := 1) (by omega) (by omega), cnt_n (p := 2) (by omega) (by omega), cnt_n (p := 3) (by omega) (by omega)]; rfl)) | (first | (rw [cnt_n (p := 1) (by omega) (by omega), cnt_n (p := 2) (by omega) (by omega), cnt_y (p := 3) (by omega) (by omega)]; rfl) | (rw [cnt_n (p := 1) (by omega) (by omega), cnt_n (p := 2) (by omega) (by omega), cnt_n (p := 3) (by omega) (by omega)]; rfl))) (SubS.cons rfl (SubS.cons rfl SubS.nil)))
      ·try dsimp only
       omega
      · (try dsimp only); omega
     ·refine W.region ?_
      refine SL.v (O.fr 3 0 u65) ?_
      refine SL.v (O.l1 u3) ?_
      refine SL.v (O.sb) ?_
      refine SL.v (O.idx_ref (i := 1) (m := 1) rfl rfl (by omega) (by decide) u56 (by kernel_rfl) rfl rfl Taken.no) ?_
      refine SL.v (O.l1 u3) ?_
      refine SL.v (O.ad) ?_
      refine SL.v (O.idx_ref (i := 1) (m := 1) rfl rfl (by omega) (by decide) u56 (by kernel_rfl) rfl rfl Taken.no) ?_
      refine SL.st1_3 103 ?_
      refine SL.nil (E.inn (E.to (W.region (SL.o ?_))))
      refine SL.v (O.ad) ?_
      refine SL.a (SL.nil ?_)
      refine E.ag (k + 1) [] ?_ ?_ ?_ ?_
      · exact SubF.au
      · exact (SubS.val rfl (by (try dsimp only); first | (first | (rw [cnt_y (p := 1) (by omega) (by omega), cnt_n (p := 2) (by omega) (by omega), cnt_n (p := 3) (by omega) (by omega)]; rfl) | (rw [cnt_n (p := 1) (by omega) (by omega), cnt_n (p := 2) (by omega) (by omega), cnt_n (p := 3) (by omega) (by omega)]; rfl)) | (first | (rw [cnt_n (p := 1) (by omega) (by omega), cnt_y (p := 2) (by omega) (by omega), cnt_n (p := 3) (by omega) (by omega)]; rfl) | (rw [cnt_n (p := 1) (by omega) (by omega), cnt_n (p := 2) (by omega) (by omega), cnt_n (p := 3) (by omega) (by omega)]; rfl)) | (first | (rw [cnt_n (p := 1) (by omega) (by omega), cnt_n (p := 2) (by omega) (by omega), cnt_y (p := 3) (by omega) (by omega)]; rfl) | (rw [cnt_n (p := 1) (by omega) (by omega), cnt_n (p := 2) (by omega) (by omega), cnt_n (p := 3) (by omega) (by omega)]; rfl))) (SubS.cons rfl (SubS.cons rfl SubS.nil)))
      ·try dsimp only
       omega
      · (try dsimp only); omega
     refine W.region ?_
     refine SL.v (O.fr 3 0 u65) ?_
     refine SL.v (O.l1 u3) ?_
     refine SL.v (O.sb) ?_
     refine SL.v (O.idx_ref (i := 2) (m := 1) rfl rfl (by omega) (by decide) u56 (by kernel_rfl) rfl rfl Taken.no) ?_
     refine SL.v (O.l1 u3) ?_
     refine SL.v (O.ad) ?_
     refine SL.v (O.idx_ref (i := 2) (m := 1) rfl rfl (by omega) (by decide) u56 (by kernel_rfl) rfl rfl Taken.no) ?_
     refine SL.st1_3 103 ?_
     refine SL.nil (E.inn (E.to (W.region (SL.o ?_))))
     refine SL.v (O.ad) ?_
     refine SL.a (SL.nil ?_)
     refine E.ag (k + 1) [] ?_ ?_ ?_ ?_
     · exact SubF.au
     · exact (SubS.val rfl (by (try dsimp only); first | (first | (rw [cnt_y (p := 1) (by omega) (by omega), cnt_n (p := 2) (by omega) (by omega), cnt_n (p := 3) (by omega) (by omega)]; rfl) | (rw [cnt_n (p := 1) (by omega) (by omega), cnt_n (p := 2) (by omega) (by omega), cnt_n (p := 3) (by omega) (by omega)]; rfl)) | (first | (rw [cnt_n (p := 1) (by omega) (by omega), cnt_y (p := 2) (by omega) (by omega), cnt_n (p := 3) (by omega) (by omega)]; rfl) | (rw [cnt_n (p := 1) (by omega) (by omega), cnt_n (p := 2) (by omega) (by omega), cnt_n (p := 3) (by omega) (by omega)]; rfl)) | (first | (rw [cnt_n (p := 1) (by omega) (by omega), cnt_n (p := 2) (by omega) (by omega), cnt_y (p := 3) (by omega) (by omega)]; rfl) | (rw [cnt_n (p := 1) (by omega) (by omega), cnt_n (p := 2) (by omega) (by omega), cnt_n (p := 3) (by omega) (by omega)]; rfl))) (SubS.cons rfl (SubS.cons rfl SubS.nil)))
     ·try dsimp only
      omega
     · (try dsimp only); omega
    refine W.skip (E.inn (E.to (W.region (SL.o ?_))))
    refine SL.v (O.ad) ?_
    refine SL.a (SL.nil ?_)
    refine E.ag (k + 1) [] ?_ ?_ ?_ ?_
    · exact SubF.au
    · exact (SubS.val rfl (by (try dsimp only); first | (first | (rw [cnt_y (p := 1) (by omega) (by omega), cnt_n (p := 2) (by omega) (by omega), cnt_n (p := 3) (by omega) (by omega)]; rfl) | (rw [cnt_n (p := 1) (by omega) (by omega), cnt_n (p := 2) (by omega) (by omega), cnt_n (p := 3) (by omega) (by omega)]; rfl)) | (first | (rw [cnt_n (p := 1) (by omega) (by omega), cnt_y (p := 2) (by omega) (by omega), cnt_n (p := 3) (by omega) (by omega)]; rfl) | (rw [cnt_n (p := 1) (by omega) (by omega), cnt_n (p := 2) (by omega) (by omega), cnt_n (p := 3) (by omega) (by omega)]; rfl)) | (first | (rw [cnt_n (p := 1) (by omega) (by omega), cnt_n (p := 2) (by omega) (by omega), cnt_y (p := 3) (by omega) (by omega)]; rfl) | (rw [cnt_n (p := 1) (by omega) (by omega), cnt_n (p := 2) (by omega) (by omega), cnt_n (p := 3) (by omega) (by omega)]; rfl))) (SubS.cons rfl (SubS.cons rfl SubS.nil)))
    ·try dsimp only
     omega
    · (try dsimp only); omega
   have hg3p := gP hg3
   refine SL.k hg3 (SL.k hg3 (SL.k hg3 ?_))
   refine SL.v (O.pf (G.ne_t hg3)) ?_
   refine E.fo ?_
   refine W.pk [(1,_),(2,_),(4,_),(5,_),(6,_),(7,_),(33,_)] [(101,_),(102,_),(103,_),(104,_)] ?_
   refine W.cond_f rfl ?_
   refine W.skip (E.inn (E.to (W.region (SL.o ?_))))
   refine SL.v (O.ad) ?_
   refine SL.a (SL.nil ?_)
   refine E.ag (k + 1) [] ?_ ?_ ?_ ?_
   · exact SubF.au
   · exact (SubS.val rfl (by (try dsimp only); first | (first | (rw [cnt_y (p := 1) (by omega) (by omega), cnt_n (p := 2) (by omega) (by omega), cnt_n (p := 3) (by omega) (by omega)]; rfl) | (rw [cnt_n (p := 1) (by omega) (by omega), cnt_n (p := 2) (by omega) (by omega), cnt_n (p := 3) (by omega) (by omega)]; rfl)) | (first | (rw [cnt_n (p := 1) (by omega) (by omega), cnt_y (p := 2) (by omega) (by omega), cnt_n (p := 3) (by omega) (by omega)]; rfl) | (rw [cnt_n (p := 1) (by omega) (by omega), cnt_n (p := 2) (by omega) (by omega), cnt_n (p := 3) (by omega) (by omega)]; rfl)) | (first | (rw [cnt_n (p := 1) (by omega) (by omega), cnt_n (p := 2) (by omega) (by omega), cnt_y (p := 3) (by omega) (by omega)]; rfl) | (rw [cnt_n (p := 1) (by omega) (by omega), cnt_n (p := 2) (by omega) (by omega), cnt_n (p := 3) (by omega) (by omega)]; rfl))) (SubS.cons rfl (SubS.cons rfl SubS.nil)))
   ·try dsimp only
    omega
   · (try dsimp only); omega
  have hg2p := gP hg2
  refine SL.k hg2 (SL.k hg2 (SL.k hg2 ?_))
  refine SL.v (O.pf (G.ne_t hg2)) ?_
  refine SL.o ?_
  have hg5 := G.nft
  refine SL.k hg5 (SL.k hg5 (SL.k hg5 ?_))
  refine SL.v (O.pf rfl) ?_
  refine E.fo ?_
  refine W.pk [(1,_),(2,_),(4,_),(5,_),(6,_),(7,_),(33,_)] [(101,_),(102,_),(103,_),(104,_)] ?_
  refine W.cond_f rfl ?_
  refine W.skip (E.inn (E.to (W.region (SL.o ?_))))
  refine SL.v (O.ad) ?_
  refine SL.a (SL.nil ?_)
  refine E.ag (k + 1) [] ?_ ?_ ?_ ?_
  · exact SubF.au
  · exact (SubS.val rfl (by (try dsimp only); first | (first | (rw [cnt_y (p := 1) (by omega) (by omega), cnt_n (p := 2) (by omega) (by omega), cnt_n (p := 3) (by omega) (by omega)]; rfl) | (rw [cnt_n (p := 1) (by omega) (by omega), cnt_n (p := 2) (by omega) (by omega), cnt_n (p := 3) (by omega) (by omega)]; rfl)) | (first | (rw [cnt_n (p := 1) (by omega) (by omega), cnt_y (p := 2) (by omega) (by omega), cnt_n (p := 3) (by omega) (by omega)]; rfl) | (rw [cnt_n (p := 1) (by omega) (by omega), cnt_n (p := 2) (by omega) (by omega), cnt_n (p := 3) (by omega) (by omega)]; rfl)) | (first | (rw [cnt_n (p := 1) (by omega) (by omega), cnt_n (p := 2) (by omega) (by omega), cnt_y (p := 3) (by omega) (by omega)]; rfl) | (rw [cnt_n (p := 1) (by omega) (by omega), cnt_n (p := 2) (by omega) (by omega), cnt_n (p := 3) (by omega) (by omega)]; rfl))) (SubS.cons rfl (SubS.cons rfl SubS.nil)))
  ·try dsimp only
   omega
  · (try dsimp only); omega
 refine W.exit (E.th (E.th (E.hit (E.to (W.rg ?_)))))
 refine SL.v (O.n3 u56) ?_
 refine SL.st3_3 102 ?_
 refine E.fo (W.ret ?_)
 refine E.g1 [] rfl (ResOne.c3 u56) ?_ ?_
 ·rw [show k = s.cps.length by omega, List.take_length]; rfl
 · exact SubS.nil

set_option maxRecDepth 8000 in
theorem refin_h {l : List Int} {n : Int} :
    Con Tryz.prog 50 [vL 1 (l.map eI), vI n] [] (vB (decide (n ∈ l))) [] := by
 obtain ⟨i3, hi3, hz3, hs3, hb3⟩ := hinf3
 refine Con.en 18 Tryz.func50 fun τ w ok vs hin => ?_
 have hl0 := hin.len (i := 0) rfl
 try rw [List.length_map] at hl0
 clear hin
 refine W.rg (SL.a (E.fo (W.seq (W.rg (SL.a (E.fo (W.block ?_)))))))
 refine W.loopx1 (fun (k : Nat) => [(5, vI (k : Int))]) (fun (k : Nat) => []) (fun (k : Nat) => k ≤ l.length ∧ ∀ j, j < k → (fun x : Int => decide (x = n)) l[j]! = false) (fun (k : Nat) => l.length - k) (0) (rn []) (.cons (t := 0) rfl (.cons (t := 1) rfl .nil)) .nil rfl ?_ ?_ rfl rfl ?_ ?_
 · exact SubF.au
 · exact SubS.nil
 ·exact ⟨by omega, fun j h => by omega⟩
 intro k hinv
 obtain ⟨hk, hp⟩ := hinv
 refine W.seq (W.rg (SL.o (SL.o ?_)))
 refine SL.v (O.le u61) ?_
 refine SL.v (O.lss) ?_
 refine E.fo ?_
 refine W.cc rfl (fun hc1 => ?_) fun hc1 => ?_
 ·refine W.skip (E.to (W.seq (W.block (W.rg (SL.o (SL.o ?_))))))
  refine SL.v (O.ix u61 hi3 hs3) ?_
  refine SL.v (O.l1f u3) ?_
  refine SL.o ?_
  refine SL.v (O.eql) ?_
  refine E.fo ?_
  refine W.cc rfl (fun hc2 => ?_) fun hc2 => ?_
  ·refine W.rg (SL.a (E.fo (W.ret ?_)))
   refine E.inr ?_
   refine E.thr (E.thr ?_)
   refine E.inr ?_
   refine E.thr ?_
   refine E.f1 [] ?_ ?_
   ·exact iv_bool (dec_t (by have z : l[k]! = n := (by omega); rw [← z]; exact at_mem (by omega)))
   · exact SubS.nil
  refine W.skip (E.inn (E.to (W.region (SL.o ?_))))
  refine SL.v (O.ad) ?_
  refine SL.a (SL.nil ?_)
  refine E.ag (k + 1) [] ?_ ?_ ?_ ?_
  · exact SubF.au
  · exact SubS.nil
  ·try dsimp only
   exact ⟨by omega, upto_s hp (decide_eq_false (by omega))⟩
  · (try dsimp only); omega
 refine W.exit (E.th (E.th (E.hit (E.to (W.rg (SL.a (E.fo (W.ret ?_))))))))
 refine E.f1 [] ?_ ?_
 ·exact iv_bool (dec_f fun z => by obtain ⟨j, hj, e⟩ := mem_at z; exact of_decide_eq_false (hp j (by omega)) e)
 · exact SubS.nil


set_option maxRecDepth 8000 in
theorem refLoans_h {s : St} {i : Int} (hl : s.cps.length ≤ 1000) :
    Con Tryz.prog 48 [vA [uI s.now, .sl 8 (s.cps.map eCp), .sl 2 (s.lns.map eLn)], vI i] [] (.own 0) [(0, .data 3 1 ((idsF (fun c => decide (c.place = 2 ∧ c.pat = i)) s.cps).map eI))] := by
 obtain ⟨i3, hi3, hz3, hs3, hb3⟩ := hinf3
 obtain ⟨i65, hi65, hz65, hs65, hb65⟩ := hinf65
 refine Con.en 41 Tryz.func48 fun τ w ok vs hin => ?_
 have hl0_1 := hin.lenA (i := 0) (j := 1) rfl rfl
 try rw [List.length_map] at hl0_1
 have hl0_2 := hin.lenA (i := 0) (j := 2) rfl rfl
 try rw [List.length_map] at hl0_2
 clear hin
 refine W.rg ?_
 refine SL.bx3 101 ?_
 refine SL.a (E.fo (W.rg (SL.a (E.fo (W.seq (W.rg (SL.a (E.fo (W.block ?_)))))))))
 refine W.adopt 5 103 3 1 (by decide) rfl rfl rfl ?_
 refine W.loopx1 (fun (k : Nat) => [(6, vI (k : Int)), (5, .own 102)]) (fun (k : Nat) => [(102, .data 3 1 ((idsF (fun c => decide (c.place = 2 ∧ c.pat = i)) (s.cps.take k)).map eI))]) (fun (k : Nat) => k ≤ s.cps.length) (fun (k : Nat) => s.cps.length - k) (0) (rn [(102, 103)]) (.cons (t := 1) rfl (.cons (t := 2) rfl (.cons (t := 4) rfl .nil))) (.cons (t := 101) rfl .nil) rfl ?_ ?_ rfl rfl ?_ ?_
 · exact SubF.au
 · exact (SubS.val rfl (by exact sb_data (by rw [List.take_zero]; rfl)) SubS.nil)
 ·omega
 intro k hinv
 have hk := hinv
 have hil := ids_le (fun c => decide (c.place = 2 ∧ c.pat = i)) s.cps k
 refine W.seq (W.rg (SL.o ?_))
 refine SL.v (O.fr 1 0 u25) ?_
 refine SL.v (O.l1 u22) ?_
 refine SL.v (O.le u22) ?_
 refine SL.v (O.lss) ?_
 refine E.fo ?_
 refine W.cc rfl (fun hc1 => ?_) fun hc1 => ?_
 ·refine W.skip (E.to (W.seq (W.block (W.rg ?_))))
  refine SL.v (O.fr 1 0 u25) ?_
  refine SL.v (O.l1 u22) ?_
  refine SL.o ?_
  refine SL.v (O.ix u22 hi65 hs65) ?_
  refine SL.v (O.ff 0 u65) ?_
  refine SL.v (O.l1f u3) ?_
  refine SL.v (O.eql) ?_
  refine SL.o ?_
  refine SL.cs 7 true (fun hg2 => ?_) fun hg2 => ?_
  ·have hg2p := gP hg2
   refine SL.v (O.fr 1 0 u25 (tY hg2)) ?_
   refine SL.v (O.l1 u22 (tY hg2)) ?_
   refine SL.v (O.mo (tY hg2)) ?_
   refine SL.v (O.ix u22 hi65 hs65 (tY hg2)) ?_
   refine SL.v (O.ff 0 u65 (tY hg2)) ?_
   refine SL.v (O.l1f u3 (tY hg2)) ?_
   refine SL.v (O.mo (tY hg2)) ?_
   refine SL.v (O.eql (tY hg2)) ?_
   refine SL.v (O.pt hg2) ?_
   refine E.fo ?_
   refine W.pk [(1,_),(2,_),(4,_),(5,_),(6,_),(30,_)] [(101,_),(102,_)] ?_
   refine W.cc rfl (fun hc3 => ?_) fun hc3 => ?_
   ·have hye : (fun c => decide (c.place = 2 ∧ c.pat = i)) s.cps[k]! = true := decide_eq_true ⟨by omega, by omega⟩
    refine W.region (SL.o ?_)
    refine SL.v (O.fr 1 0 u25) ?_
    refine SL.v (O.l1 u22) ?_
    refine SL.o ?_
    refine SL.v (O.ix u22 hi65 hs65) ?_
    refine SL.v (O.ff 0 u65) ?_
    refine SL.v (O.l1f u3) ?_
    refine SL.memS (O.buildSlice 104 (rows := [s.cps[k]!.id].map eI) rfl rfl u61 hi3 hz3 hs3 (by decide) rfl (by decide) rfl rfl rfl Taken.no) rfl rfl (S' := (104, .data 3 1 ([s.cps[k]!.id].map eI)) :: _) rfl ?_
    refine SL.memS (O.app (k' := 105) rfl rfl (SlOf.own rfl rfl) u61 hi3 hz3 hs3 rfl rfl (by exact app_map) (by rw [hb3]; (simp only [List.length_map, List.length_singleton]; omega)) (by (simp only [List.length_map, List.length_singleton]; omega)) rfl Taken.no) rfl rfl (S' := (105, _) :: (102, .dead) :: _) rfl ?_
    refine SL.a (SL.nil (E.inn (E.to (W.region (SL.o ?_)))))
    refine SL.v (O.ad) ?_
    refine SL.a (SL.nil ?_)
    refine E.ag (k + 1) [(102, 105)] ?_ ?_ ?_ ?_
    · exact SubF.au
    · exact (SubS.val rfl (by (try dsimp only); first | exact sb_data (by rw [ids_n2 (by omega) hno]) | exact sb_data (by rw [ids_y (by omega) hye])) (SubS.cons rfl SubS.nil))
    ·try dsimp only
     omega
    · (try dsimp only); omega
   have hno : (fun c => decide (c.place = 2 ∧ c.pat = i)) s.cps[k]! = false := decide_eq_false (by rintro ⟨z1, z2⟩; omega)
   refine W.skip (E.inn (E.to (W.region (SL.o ?_))))
   refine SL.v (O.ad) ?_
   refine SL.a (SL.nil ?_)
   refine E.ag (k + 1) [] ?_ ?_ ?_ ?_
   · exact SubF.au
   · exact (SubS.val rfl (by (try dsimp only); first | exact sb_data (by rw [ids_n2 (by omega) hno]) | exact sb_data (by rw [ids_y (by omega) hye])) (SubS.cons rfl SubS.nil))
   ·try dsimp only
    omega
   · (try dsimp only); omega
  have hg2p := gP hg2
  have hno : (fun c => decide (c.place = 2 ∧ c.pat = i)) s.cps[k]! = false := decide_eq_false (by rintro ⟨z1, z2⟩; omega)
  refine SL.k hg2 (SL.k hg2 (SL.k hg2 (SL.k hg2 (SL.k hg2 (SL.k hg2 (SL.k hg2 (SL.k hg2 ?_)))))))
  refine SL.v (O.pf (G.ne_t hg2)) ?_
  refine E.fo ?_
  refine W.pk [(1,_),(2,_),(4,_),(5,_),(6,_),(30,_)] [(101,_),(102,_)] ?_
  refine W.cond_f rfl ?_
  refine W.skip (E.inn (E.to (W.region (SL.o ?_))))
  refine SL.v (O.ad) ?_
  refine SL.a (SL.nil ?_)
  refine E.ag (k + 1) [] ?_ ?_ ?_ ?_
  · exact SubF.au
  · exact (SubS.val rfl (by (try dsimp only); first | exact sb_data (by rw [ids_n2 (by omega) hno]) | exact sb_data (by rw [ids_y (by omega) hye])) (SubS.cons rfl SubS.nil))
  ·try dsimp only
   omega
  · (try dsimp only); omega
 refine W.exit (E.th (E.th (E.hit (E.to (W.rg (SL.o (SL.a (E.fo (W.ret ?_)))))))))
 refine E.f1 [(0, 102)] ?_ ?_
 ·rfl
 · exact (SubS.val rfl (by exact sb_data (by rw [show k = s.cps.length by omega, List.take_length])) SubS.nil)

end Go.Proofs.YtmekkjehkcjpdaaGreat
end
section
namespace Go.G
open Go Go.RowKit
section
variable {n : Nat} {P : Program} {F : Frm} {w : World} {ty : TypeId}
end
end Go.G
namespace Go.H
open Go Go.RowKit
section
variable {c : Ctx} {P : Program} {F : Frm} {S : Sto} {ops : Array Oper} {d : Nat} {ty : TypeId} {pos : String} {af : Array Edge} {gd : Option (Nat × Bool)}
end
end Go.H
end
section
namespace Go.Proofs.YtmekkjehkcjpdaaGreat
open Go Go.RowKit Go.H Go.D57 Go.D58

theorem hcallOk45 : G.callOk Tryz.prog 45 = true := by kernel_rfl
theorem hcallOk46 : G.callOk Tryz.prog 46 = true := by kernel_rfl
theorem hcallOk47 : G.callOk Tryz.prog 47 = true := by kernel_rfl
theorem hcallOk48 : G.callOk Tryz.prog 48 = true := by kernel_rfl
theorem hcallOk49 : G.callOk Tryz.prog 49 = true := by kernel_rfl
theorem hcallOk50 : G.callOk Tryz.prog 50 = true := by kernel_rfl
theorem hcallOk51 : G.callOk Tryz.prog 51 = true := by kernel_rfl
theorem hcallOk83 : G.callOk Tryz.prog 83 = true := by kernel_rfl
theorem hcallOk84 : G.callOk Tryz.prog 84 = true := by kernel_rfl
theorem hcallOk88 : G.callOk Tryz.prog 88 = true := by kernel_rfl

theorem hC_y {cs : List Cp} {k : Nat} (h : k < cs.length) (e : cs[k]!.place = 3) : holdsC (cs.take (k + 1)) = holdsC (cs.take k) ++ [cs[k]!.hold] := by unfold holdsC; rw [filt_y h (decide_eq_true e), List.map_append]; rfl
theorem hC_n {cs : List Cp} {k : Nat} (h : k < cs.length) (e : ¬ cs[k]!.place = 3) : holdsC (cs.take (k + 1)) = holdsC (cs.take k) := by unfold holdsC; rw [filt_n h (by rw [decide_eq_false e]; decide)]
theorem hC_le (cs : List Cp) (k : Nat) : (holdsC (cs.take k)).length ≤ k := by
  unfold holdsC
  have := List.length_filter_le (fun c : Cp => decide (c.place = 3)) (cs.take k)
  rw [List.length_take] at this
  rw [List.length_map]; omega
theorem hQ_s {ls : List Ln} {i : Nat} (h : i < ls.length) : holdsQ (ls.take (i + 1)) = holdsQ (ls.take i) ++ ls[i]!.q.map (·.id) := by
  unfold holdsQ
  rw [take_s h, List.flatMap_append]
  simp
theorem hQ_le {ls : List Ln} (hq : ∀ l ∈ ls, l.q.length ≤ 100) : ∀ i, i ≤ ls.length → (holdsQ (ls.take i)).length ≤ 100 * i
  | 0, _ => by simp [holdsQ]
  | i + 1, h => by
    have h1 := hQ_le hq i (by omega)
    have h2 := hq ls[i]! (at_mem (by omega))
    rw [hQ_s (by omega), List.length_append, List.length_map]; omega
instance (s : St) (i : Nat) : Decidable (lnR s i) := by unfold lnR; infer_instance
instance (s : St) : Decidable (linesR s) := by unfold linesR; infer_instance

set_option maxRecDepth 8000 in
theorem holds_h {s : St} (hc : s.cps.length ≤ 1000) (hl : s.lns.length ≤ 1000) (hq : ∀ l ∈ s.lns, l.q.length ≤ 100) :
    Con Tryz.prog 49 [vA [uI s.now, .sl 8 (s.cps.map eCp), .sl 2 (s.lns.map eLn)]] [] (.own 0) [(0, .data 3 1 ((holdsL s).map eI))] := by
 obtain ⟨i3, hi3, hz3, hs3, hb3⟩ := hinf3
 obtain ⟨i65, hi65, hz65, hs65, hb65⟩ := hinf65
 obtain ⟨i69, hi69, hz69, hs69, hb69⟩ := hinf69
 obtain ⟨i121, hi121, hz121, hs121, hb121⟩ := hinf121
 refine Con.en 62 Tryz.func49 fun τ w ok vs hin => ?_
 have hl0_1 := hin.lenA (i := 0) (j := 1) rfl rfl
 try rw [List.length_map] at hl0_1
 have hl0_2 := hin.lenA (i := 0) (j := 2) rfl rfl
 try rw [List.length_map] at hl0_2
 clear hin
 refine W.rg ?_
 refine SL.bx3 101 ?_
 refine SL.a (E.fo (W.rg (SL.a (E.fo (W.seq (W.rg (SL.a (E.fo (W.block ?_)))))))))
 refine W.adopt 3 103 3 1 (by decide) rfl rfl rfl ?_
 refine W.loopx1 (fun (k : Nat) => [(4, vI (k : Int)), (3, .own 102)]) (fun (k : Nat) => [(102, .data 3 1 ((holdsC (s.cps.take k)).map eI))]) (fun (k : Nat) => k ≤ s.cps.length) (fun (k : Nat) => s.cps.length - k) (0) (rn [(102, 103)]) (.cons (t := 1) rfl (.cons (t := 2) rfl .nil)) (.cons (t := 101) rfl .nil) rfl ?_ ?_ rfl rfl ?_ ?_
 · exact SubF.au
 · exact (SubS.val rfl (by exact sb_data (by rw [List.take_zero]; rfl)) SubS.nil)
 ·omega
 intro k hinv
 have hk := hinv
 have hil := hC_le s.cps k
 refine W.seq (W.rg (SL.o ?_))
 refine SL.v (O.fr 1 0 u25) ?_
 refine SL.v (O.l1 u22) ?_
 refine SL.v (O.le u22) ?_
 refine SL.v (O.lss) ?_
 refine E.fo ?_
 refine W.cc rfl (fun hc1 => ?_) fun hc1 => ?_
 ·refine W.skip (E.to (W.seq (W.block (W.rg ?_))))
  refine SL.v (O.fr 1 0 u25) ?_
  refine SL.v (O.l1 u22) ?_
  refine SL.o ?_
  refine SL.v (O.ix u22 hi65 hs65) ?_
  refine SL.v (O.ff 0 u65) ?_
  refine SL.v (O.l1f u3) ?_
  refine SL.v (O.eql) ?_
  refine E.fo ?_
  refine W.cc rfl (fun hc2 => ?_) fun hc2 => ?_
  ·refine W.region (SL.o ?_)
   refine SL.v (O.fr 1 0 u25) ?_
   refine SL.v (O.l1 u22) ?_
   refine SL.o ?_
   refine SL.v (O.ix u22 hi65 hs65) ?_
   refine SL.v (O.ff 0 u65) ?_
   refine SL.v (O.l1f u3) ?_
   refine SL.memS (O.buildSlice 104 (rows := [s.cps[k]!.hold].map eI) rfl rfl u61 hi3 hz3 hs3 (by decide) rfl (by decide) rfl rfl rfl Taken.no) rfl rfl (S' := (104, .data 3 1 ([s.cps[k]!.hold].map eI)) :: _) rfl ?_
   refine SL.memS (O.app (k' := 105) rfl rfl (SlOf.own rfl rfl) u61 hi3 hz3 hs3 rfl rfl (by exact app_map) (by rw [hb3]; (simp only [List.length_map, List.length_singleton]; omega)) (by (simp only [List.length_map, List.length_singleton]; omega)) rfl Taken.no) rfl rfl (S' := (105, _) :: (102, .dead) :: _) rfl ?_
   refine SL.a (SL.nil (E.inn (E.to ?_)))
   refine W.pk [(1,_),(2,_),(3,_),(4,_)] [(101,_),(104,_),(105,_)] ?_
   refine W.region (SL.o ?_)
   refine SL.v (O.ad) ?_
   refine SL.a (SL.nil ?_)
   refine E.ag (k + 1) [(102, 105)] ?_ ?_ ?_ ?_
   · exact SubF.au
   · exact (SubS.val rfl (by (try dsimp only); first | exact sb_data (by rw [hC_y (by omega) (by omega)]) | exact sb_data (by rw [hC_n (by omega) (by omega)])) (SubS.cons rfl SubS.nil))
   ·try dsimp only
    omega
   · (try dsimp only); omega
  refine W.skip (E.inn (E.to (W.region (SL.o ?_))))
  refine SL.v (O.ad) ?_
  refine SL.a (SL.nil ?_)
  refine E.ag (k + 1) [] ?_ ?_ ?_ ?_
  · exact SubF.au
  · exact (SubS.val rfl (by (try dsimp only); first | exact sb_data (by rw [hC_y (by omega) (by omega)]) | exact sb_data (by rw [hC_n (by omega) (by omega)])) (SubS.cons rfl SubS.nil))
  ·try dsimp only
   omega
  · (try dsimp only); omega
 refine W.exit (E.th (E.th (E.hit (E.to (W.seq (W.rg (SL.a (E.fo (W.block ?_)))))))))
 have hcl := hC_le s.cps s.cps.length
 rw [List.take_length] at hcl
 refine W.loopx1 (fun (i : Nat) => [(5, vI (i : Int)), (3, .own 106)]) (fun (i : Nat) => [(106, .data 3 1 ((holdsC s.cps ++ holdsQ (s.lns.take i)).map eI))]) (fun (i : Nat) => i ≤ s.lns.length) (fun (i : Nat) => s.lns.length - i) (0) (rn [(106, 102)]) (.cons (t := 1) rfl (.cons (t := 2) rfl .nil)) (.cons (t := 101) rfl .nil) rfl ?_ ?_ rfl rfl ?_ ?_
 · exact SubF.au
 · exact (SubS.val rfl (by exact sb_data (by rw [show k = s.cps.length by omega, List.take_length, List.take_zero, show holdsQ [] = [] from rfl, List.append_nil])) SubS.nil)
 ·omega
 intro i hinv
 have hi := hinv
 have hil := hQ_le hq i (by omega)
 refine W.seq (W.rg (SL.o ?_))
 refine SL.v (O.fr 2 0 u25) ?_
 refine SL.v (O.l1 u23) ?_
 refine SL.v (O.le u23) ?_
 refine SL.v (O.lss) ?_
 refine E.fo ?_
 refine W.cc rfl (fun hc3 => ?_) fun hc3 => ?_
 ·have hqi := hq s.lns[i]! (at_mem (by omega))
  refine W.skip (E.to (W.seq (W.block (W.rg (SL.a (E.fo (W.block ?_)))))))
  refine W.loopx1 (fun (j : Nat) => [(6, vI (j : Int)), (3, .own 107)]) (fun (j : Nat) => [(107, .data 3 1 ((holdsC s.cps ++ holdsQ (s.lns.take i) ++ (s.lns[i]!.q.take j).map (·.id)).map eI))]) (fun (j : Nat) => j ≤ s.lns[i]!.q.length) (fun (j : Nat) => s.lns[i]!.q.length - j) (0) (rn [(107, 106)]) (.cons (t := 1) rfl (.cons (t := 2) rfl (.cons (t := 5) rfl .nil))) (.cons (t := 101) rfl .nil) rfl ?_ ?_ rfl rfl ?_ ?_
  · exact SubF.au
  · exact (SubS.val rfl (by exact sb_data (by rw [List.take_zero, List.map_nil, List.append_nil])) SubS.nil)
  ·omega
  intro j hinv
  have hj := hinv
  refine W.seq (W.rg (SL.o ?_))
  refine SL.v (O.fr 2 0 u25) ?_
  refine SL.v (O.l1 u23) ?_
  refine SL.o ?_
  refine SL.v (O.ix (i := i) u23 hi69 hs69) ?_
  refine SL.v (O.ff 0 u69) ?_
  refine SL.v (O.l1f u67) ?_
  refine SL.v (O.le u67) ?_
  refine SL.v (O.lss) ?_
  refine E.fo ?_
  refine W.cc rfl (fun hc4 => ?_) fun hc4 => ?_
  ·refine W.skip (E.to (W.seq (W.block (W.region (SL.o ?_)))))
   refine SL.v (O.fr 2 0 u25) ?_
   refine SL.v (O.l1 u23) ?_
   refine SL.o ?_
   refine SL.v (O.ix (i := i) u23 hi69 hs69) ?_
   refine SL.v (O.ff 0 u69) ?_
   refine SL.v (O.l1f u67) ?_
   refine SL.o ?_
   refine SL.v (O.ix (i := j) u67 hi121 hs121) ?_
   refine SL.v (O.ff 0 u121) ?_
   refine SL.v (O.l1f u3) ?_
   refine SL.memS (O.buildSlice 108 (rows := [s.lns[i]!.q[j]!.id].map eI) rfl rfl u61 hi3 hz3 hs3 (by decide) rfl (by decide) rfl rfl rfl Taken.no) rfl rfl (S' := (108, .data 3 1 ([s.lns[i]!.q[j]!.id].map eI)) :: _) rfl ?_
   refine SL.memS (O.app (k' := 109) rfl rfl (SlOf.own rfl rfl) u61 hi3 hz3 hs3 rfl rfl (by exact app_map) (by rw [hb3]; (simp only [List.length_map, List.length_append, List.length_take, List.length_singleton]; omega)) (by (simp only [List.length_map, List.length_append, List.length_take, List.length_singleton]; omega)) rfl Taken.no) rfl rfl (S' := (109, _) :: (107, .dead) :: _) rfl ?_
   refine SL.a (SL.nil (E.inn (E.to ?_)))
   refine W.pk [(1,_),(2,_),(3,_),(5,_),(6,_)] [(101,_),(108,_),(109,_)] ?_
   refine W.region (SL.o ?_)
   refine SL.v (O.ad) ?_
   refine SL.a (SL.nil ?_)
   refine E.ag (j + 1) [(107, 109)] ?_ ?_ ?_ ?_
   · exact SubF.au
   · exact (SubS.val rfl (by (try dsimp only); exact sb_data (by rw [take_s (by omega)]; simp)) (SubS.cons rfl SubS.nil))
   ·try dsimp only
    omega
   · (try dsimp only); omega
  refine W.exit (E.th (E.th (E.hit (E.inn (E.to (W.region (SL.o ?_)))))))
  refine SL.v (O.ad) ?_
  refine SL.a (SL.nil ?_)
  refine E.ag (i + 1) [(106, 107)] ?_ ?_ ?_ ?_
  · exact SubF.au
  · exact (SubS.val rfl (by (try dsimp only); exact sb_data (by rw [show j = s.lns[i]!.q.length by omega, List.take_length, hQ_s (by omega), List.append_assoc])) (SubS.cons rfl SubS.nil))
  ·try dsimp only
   omega
  · (try dsimp only); omega
 refine W.exit (E.th (E.th (E.hit (E.to (W.rg (SL.o (SL.a (E.fo (W.ret ?_)))))))))
 refine E.f1 [(0, 106)] ?_ ?_
 ·rfl
 · exact (SubS.val rfl (by exact sb_data (by rw [show i = s.lns.length by omega, List.take_length]; rfl)) SubS.nil)

set_option maxRecDepth 8000 in
theorem placed_h {c : Cp} {now : Int} (hn : 0 ≤ now ∧ now ≤ 1000000) (hlb : c.lib.length ≤ 1000) :
    Con Tryz.prog 46 [vA (eCp c), vI now] [] (vB (decide (cpOk c now))) [] := by
 refine Con.en 89 Tryz.func46 fun τ w ok vs hin => ?_
 clear hin
 refine W.rg ?_
 refine SL.bx8 101 ?_
 refine SL.a (E.fo (W.seq (W.rg ?_)))
 refine SL.v (O.fr 0 0 u65) ?_
 refine SL.v (O.l1 u3) ?_
 refine SL.v (O.cp (q := refid_h (n := c.id)) (o := hcallOk83)) ?_
 refine SL.v (O.nt) ?_
 refine SL.o ?_
 refine SL.cs 4 false (fun hg1 => ?_) fun hg1 => ?_
 ·have hg1p := gP hg1
  refine SL.v (O.fr 1 0 u65 (tY hg1)) ?_
  refine SL.v (O.l1 u3 (tY hg1)) ?_
  refine SL.v (O.cp (q := refid_h (n := c.work)) (o := hcallOk83) (hg := (tY hg1))) ?_
  refine SL.v (O.nt (tY hg1)) ?_
  refine SL.v (O.pf hg1) ?_
  refine SL.o ?_
  refine SL.cs 10 false (fun hg2 => ?_) fun hg2 => ?_
  ·have hg2p := gP hg2
   refine SL.v (O.fr 2 0 u65 (tY hg2)) ?_
   refine SL.v (O.l1 u9 (tY hg2)) ?_
   refine SL.v (O.cp (q := refName_h (l := c.lib) hlb) (o := hcallOk84) (hg := (tY hg2))) ?_
   refine SL.v (O.nt (tY hg2)) ?_
   refine SL.v (O.pf hg2) ?_
   refine E.fo ?_
   refine W.cc rfl (fun hc3 => ?_) fun hc3 => ?_
   ·refine W.rg (SL.a (E.fo (W.ret (E.thr ?_))))
    refine E.f1 [] ?_ ?_
    ·exact iv_bool (dec_f fun q => by have q1 := q.1; have q2 := q.2.1; have q3 := q.2.2.1; simp_all)
    · exact SubS.nil
   have hb : idB c.id ∧ idB c.work ∧ nmOk c.lib := ⟨by first | assumption | simp_all, by first | assumption | simp_all, by first | assumption | simp_all⟩
   refine W.skip (E.to (W.seq (W.rg ?_)))
   refine SL.v (O.fr 3 0 u65) ?_
   refine SL.v (O.l1 u3) ?_
   refine E.fo (W.block (W.rg ?_))
   refine SL.v (O.eql) ?_
   refine SL.a (E.fo ?_)
   refine W.cc rfl (fun hc4 => ?_) fun hc4 => ?_
   ·refine W.rg ?_
    refine SL.v (O.fr 4 0 u65) ?_
    refine SL.v (O.l1 u3) ?_
    refine SL.v (O.eql) ?_
    refine SL.o ?_
    refine SL.cs 3 true (fun hg5 => ?_) fun hg5 => ?_
    ·have hg5p := gP hg5
     refine SL.v (O.fr 5 0 u65 (tY hg5)) ?_
     refine SL.v (O.l1 u3 (tY hg5)) ?_
     refine SL.v (O.eql (tY hg5)) ?_
     refine SL.v (O.pt hg5) ?_
     refine SL.o ?_
     refine SL.cs 8 true (fun hg6 => ?_) fun hg6 => ?_
     ·have hg6p := gP hg6
      refine SL.v (O.fr 6 0 u65 (tY hg6)) ?_
      refine SL.v (O.l1 u3 (tY hg6)) ?_
      refine SL.v (O.eql (tY hg6)) ?_
      refine SL.v (O.pt hg6) ?_
      refine SL.o ?_
      refine SL.cs 13 true (fun hg7 => ?_) fun hg7 => ?_
      ·have hg7p := gP hg7
       refine SL.v (O.fr 7 0 u65 (tY hg7)) ?_
       refine SL.v (O.l1 u4 (tY hg7)) ?_
       refine SL.v (O.nt (tY hg7)) ?_
       refine SL.v (O.pt hg7) ?_
       refine SL.a (E.fo ?_)
       refine W.pk [(4,_)] [(101,_)] ?_
       refine W.ret ?_
       refine E.inr ?_
       refine E.thr ?_
       refine E.f1 [] ?_ ?_
       ·first | exact iv_bool (dec_f (fun q => by rcases q.2.2.2 with q | q | q <;> omega)) | exact iv_bool (dec_b ⟨fun q => by rcases q.2.2.2 with q | q | q <;> first | omega | (rw [q.2.2.2.2]; rfl), fun z => ⟨hb.1, hb.2.1, hb.2.2, .inl ⟨by omega, by omega, by omega, by omega, nt_f z⟩⟩⟩)
       · exact SubS.nil
      have hg7p := gP hg7
      refine SL.k hg7 (SL.k hg7 (SL.k hg7 ?_))
      refine SL.v (O.pf (G.ne_t hg7)) ?_
      refine SL.a (E.fo ?_)
      refine W.pk [(4,_)] [(101,_)] ?_
      refine W.ret ?_
      refine E.inr ?_
      refine E.thr ?_
      refine E.f1 [] ?_ ?_
      ·first | exact iv_bool (dec_f (fun q => by rcases q.2.2.2 with q | q | q <;> omega)) | exact iv_bool (dec_b ⟨fun q => by rcases q.2.2.2 with q | q | q <;> first | omega | (rw [q.2.2.2.2]; rfl), fun z => ⟨hb.1, hb.2.1, hb.2.2, .inl ⟨by omega, by omega, by omega, by omega, nt_f z⟩⟩⟩)
      · exact SubS.nil
     have hg6p := gP hg6
     refine SL.k hg6 (SL.k hg6 (SL.k hg6 ?_))
     refine SL.v (O.pf (G.ne_t hg6)) ?_
     refine SL.o ?_
     have hg8 := G.nft
     refine SL.k hg8 (SL.k hg8 (SL.k hg8 ?_))
     refine SL.v (O.pf rfl) ?_
     refine SL.a (E.fo ?_)
     refine W.pk [(4,_)] [(101,_)] ?_
     refine W.ret ?_
     refine E.inr ?_
     refine E.thr ?_
     refine E.f1 [] ?_ ?_
     ·first | exact iv_bool (dec_f (fun q => by rcases q.2.2.2 with q | q | q <;> omega)) | exact iv_bool (dec_b ⟨fun q => by rcases q.2.2.2 with q | q | q <;> first | omega | (rw [q.2.2.2.2]; rfl), fun z => ⟨hb.1, hb.2.1, hb.2.2, .inl ⟨by omega, by omega, by omega, by omega, nt_f z⟩⟩⟩)
     · exact SubS.nil
    have hg5p := gP hg5
    refine SL.k hg5 (SL.k hg5 (SL.k hg5 ?_))
    refine SL.v (O.pf (G.ne_t hg5)) ?_
    refine SL.o ?_
    have hg9 := G.nft
    refine SL.k hg9 (SL.k hg9 (SL.k hg9 ?_))
    refine SL.v (O.pf rfl) ?_
    refine SL.o ?_
    have hg10 := G.nft
    refine SL.k hg10 (SL.k hg10 (SL.k hg10 ?_))
    refine SL.v (O.pf rfl) ?_
    refine SL.a (E.fo ?_)
    refine W.pk [(4,_)] [(101,_)] ?_
    refine W.ret ?_
    refine E.inr ?_
    refine E.thr ?_
    refine E.f1 [] ?_ ?_
    ·first | exact iv_bool (dec_f (fun q => by rcases q.2.2.2 with q | q | q <;> omega)) | exact iv_bool (dec_b ⟨fun q => by rcases q.2.2.2 with q | q | q <;> first | omega | (rw [q.2.2.2.2]; rfl), fun z => ⟨hb.1, hb.2.1, hb.2.2, .inl ⟨by omega, by omega, by omega, by omega, nt_f z⟩⟩⟩)
    · exact SubS.nil
   refine W.rg ?_
   refine SL.v (O.eql) ?_
   refine SL.a (E.fo ?_)
   refine W.pk [(1,_),(2,_),(4,_),(22,_),(43,_)] [(101,_)] ?_
   refine W.cc rfl (fun hc11 => ?_) fun hc11 => ?_
   ·refine W.rg ?_
    refine SL.v (O.fr 4 0 u65) ?_
    refine SL.v (O.l1 u3) ?_
    refine SL.v (O.cp (q := refid_h (n := c.pat)) (o := hcallOk83)) ?_
    refine SL.o ?_
    refine SL.cs 3 true (fun hg12 => ?_) fun hg12 => ?_
    ·have hg12p := gP hg12
     refine SL.v (O.fr 5 0 u65 (tY hg12)) ?_
     refine SL.v (O.l1 u3 (tY hg12)) ?_
     refine SL.v (O.cp (q := refday_h (n := c.due)) (o := hcallOk45) (hg := (tY hg12))) ?_
     refine SL.v (O.pt hg12) ?_
     refine SL.o ?_
     refine SL.cs 8 true (fun hg13 => ?_) fun hg13 => ?_
     ·have hg13p := gP hg13
      refine SL.v (O.fr 5 0 u65 (tY hg13)) ?_
      refine SL.v (O.l1 u3 (tY hg13)) ?_
      refine SL.v (O.geq (tY hg13)) ?_
      refine SL.v (O.pt hg13) ?_
      refine SL.o ?_
      refine SL.cs 13 true (fun hg14 => ?_) fun hg14 => ?_
      ·have hg14p := gP hg14
       refine SL.v (O.fr 6 0 u65 (tY hg14)) ?_
       refine SL.v (O.l1 u3 (tY hg14)) ?_
       refine SL.v (O.eql (tY hg14)) ?_
       refine SL.v (O.pt hg14) ?_
       refine SL.a (E.fo (W.ret ?_))
       refine E.inr ?_
       refine E.thr ?_
       refine E.f1 [] ?_ ?_
       ·first | exact iv_bool (dec_f (fun q => by rcases q.2.2.2 with q | q | q <;> first | omega | (unfold inB at *; omega) | (unfold inB at *; simp_all; done))) | exact iv_bool (dec_iff ⟨fun q => by rcases q.2.2.2 with q | q | q <;> omega, fun z => ⟨hb.1, hb.2.1, hb.2.2, .inr (.inl ⟨by omega, by first | assumption | simp_all, by unfold inB at *; omega, z⟩)⟩⟩)
       · exact SubS.nil
      have hg14p := gP hg14
      refine SL.k hg14 (SL.k hg14 (SL.k hg14 ?_))
      refine SL.v (O.pf (G.ne_t hg14)) ?_
      refine SL.a (E.fo (W.ret ?_))
      refine E.inr ?_
      refine E.thr ?_
      refine E.f1 [] ?_ ?_
      ·first | exact iv_bool (dec_f (fun q => by rcases q.2.2.2 with q | q | q <;> first | omega | (unfold inB at *; omega) | (unfold inB at *; simp_all; done))) | exact iv_bool (dec_iff ⟨fun q => by rcases q.2.2.2 with q | q | q <;> omega, fun z => ⟨hb.1, hb.2.1, hb.2.2, .inr (.inl ⟨by omega, by first | assumption | simp_all, by unfold inB at *; omega, z⟩)⟩⟩)
      · exact SubS.nil
     have hg13p := gP hg13
     refine SL.k hg13 (SL.k hg13 (SL.k hg13 ?_))
     refine SL.v (O.pf (G.ne_t hg13)) ?_
     refine SL.o ?_
     have hg15 := G.nft
     refine SL.k hg15 (SL.k hg15 (SL.k hg15 ?_))
     refine SL.v (O.pf rfl) ?_
     refine SL.a (E.fo (W.ret ?_))
     refine E.inr ?_
     refine E.thr ?_
     refine E.f1 [] ?_ ?_
     ·first | exact iv_bool (dec_f (fun q => by rcases q.2.2.2 with q | q | q <;> first | omega | (unfold inB at *; omega) | (unfold inB at *; simp_all; done))) | exact iv_bool (dec_iff ⟨fun q => by rcases q.2.2.2 with q | q | q <;> omega, fun z => ⟨hb.1, hb.2.1, hb.2.2, .inr (.inl ⟨by omega, by first | assumption | simp_all, by unfold inB at *; omega, z⟩)⟩⟩)
     · exact SubS.nil
    have hg12p := gP hg12
    refine SL.k hg12 (SL.k hg12 (SL.k hg12 ?_))
    refine SL.v (O.pf (G.ne_t hg12)) ?_
    refine SL.o ?_
    have hg16 := G.nft
    refine SL.k hg16 (SL.k hg16 (SL.k hg16 ?_))
    refine SL.v (O.pf rfl) ?_
    refine SL.o ?_
    have hg17 := G.nft
    refine SL.k hg17 (SL.k hg17 (SL.k hg17 ?_))
    refine SL.v (O.pf rfl) ?_
    refine SL.a (E.fo (W.ret ?_))
    refine E.inr ?_
    refine E.thr ?_
    refine E.f1 [] ?_ ?_
    ·first | exact iv_bool (dec_f (fun q => by rcases q.2.2.2 with q | q | q <;> first | omega | (unfold inB at *; omega) | (unfold inB at *; simp_all; done))) | exact iv_bool (dec_iff ⟨fun q => by rcases q.2.2.2 with q | q | q <;> omega, fun z => ⟨hb.1, hb.2.1, hb.2.2, .inr (.inl ⟨by omega, by first | assumption | simp_all, by unfold inB at *; omega, z⟩)⟩⟩)
    · exact SubS.nil
   refine W.rg ?_
   refine SL.v (O.eql) ?_
   refine SL.a (E.fo ?_)
   refine W.cc rfl (fun hc18 => ?_) fun hc18 => ?_
   ·refine W.rg ?_
    refine SL.v (O.fr 4 0 u65) ?_
    refine SL.v (O.l1 u3) ?_
    refine SL.v (O.cp (q := refid_h (n := c.pat)) (o := hcallOk83)) ?_
    refine SL.o ?_
    refine SL.cs 3 true (fun hg19 => ?_) fun hg19 => ?_
    ·have hg19p := gP hg19
     refine SL.v (O.fr 5 0 u65 (tY hg19)) ?_
     refine SL.v (O.l1 u3 (tY hg19)) ?_
     refine SL.v (O.cp (q := refday_h (n := c.due)) (o := hcallOk45) (hg := (tY hg19))) ?_
     refine SL.v (O.pt hg19) ?_
     refine SL.o ?_
     refine SL.cs 8 true (fun hg20 => ?_) fun hg20 => ?_
     ·have hg20p := gP hg20
      refine SL.v (O.fr 5 0 u65 (tY hg20)) ?_
      refine SL.v (O.l1 u3 (tY hg20)) ?_
      refine SL.v (O.mo (tY hg20)) ?_
      refine SL.v (O.geq (tY hg20)) ?_
      refine SL.v (O.pt hg20) ?_
      refine SL.o ?_
      refine SL.cs 14 true (fun hg21 => ?_) fun hg21 => ?_
      ·have hg21p := gP hg21
       refine SL.v (O.fr 6 0 u65 (tY hg21)) ?_
       refine SL.v (O.l1 u3 (tY hg21)) ?_
       refine SL.v (O.cp (q := refid_h (n := c.hold)) (o := hcallOk83) (hg := (tY hg21))) ?_
       refine SL.v (O.pt hg21) ?_
       refine SL.o ?_
       refine SL.cs 19 true (fun hg22 => ?_) fun hg22 => ?_
       ·have hg22p := gP hg22
        refine SL.v (O.fr 7 0 u65 (tY hg22)) ?_
        refine SL.v (O.l1 u4 (tY hg22)) ?_
        refine SL.v (O.nt (tY hg22)) ?_
        refine SL.v (O.pt hg22) ?_
        refine SL.a (E.fo ?_)
        refine W.pk [(4,_)] [(101,_)] ?_
        refine W.ret ?_
        refine E.inr ?_
        refine E.thr ?_
        refine E.f1 [] ?_ ?_
        ·first | exact iv_bool (dec_f (fun q => by rcases q.2.2.2 with q | q | q <;> first | omega | (unfold inB at *; omega) | (unfold inB at *; simp_all; done))) | exact iv_bool (dec_b ⟨fun q => by rcases q.2.2.2 with q | q | q <;> first | omega | (rw [q.2.2.2.2]; rfl), fun z => ⟨hb.1, hb.2.1, hb.2.2, .inr (.inr ⟨by omega, by first | assumption | simp_all, by first | assumption | simp_all, by unfold inB at *; omega, nt_f z⟩)⟩⟩)
        · exact SubS.nil
       have hg22p := gP hg22
       refine SL.k hg22 (SL.k hg22 (SL.k hg22 ?_))
       refine SL.v (O.pf (G.ne_t hg22)) ?_
       refine SL.a (E.fo ?_)
       refine W.pk [(4,_)] [(101,_)] ?_
       refine W.ret ?_
       refine E.inr ?_
       refine E.thr ?_
       refine E.f1 [] ?_ ?_
       ·first | exact iv_bool (dec_f (fun q => by rcases q.2.2.2 with q | q | q <;> first | omega | (unfold inB at *; omega) | (unfold inB at *; simp_all; done))) | exact iv_bool (dec_b ⟨fun q => by rcases q.2.2.2 with q | q | q <;> first | omega | (rw [q.2.2.2.2]; rfl), fun z => ⟨hb.1, hb.2.1, hb.2.2, .inr (.inr ⟨by omega, by first | assumption | simp_all, by first | assumption | simp_all, by unfold inB at *; omega, nt_f z⟩)⟩⟩)
       · exact SubS.nil
      have hg21p := gP hg21
      refine SL.k hg21 (SL.k hg21 (SL.k hg21 ?_))
      refine SL.v (O.pf (G.ne_t hg21)) ?_
      refine SL.o ?_
      have hg23 := G.nft
      refine SL.k hg23 (SL.k hg23 (SL.k hg23 ?_))
      refine SL.v (O.pf rfl) ?_
      refine SL.a (E.fo ?_)
      refine W.pk [(4,_)] [(101,_)] ?_
      refine W.ret ?_
      refine E.inr ?_
      refine E.thr ?_
      refine E.f1 [] ?_ ?_
      ·first | exact iv_bool (dec_f (fun q => by rcases q.2.2.2 with q | q | q <;> first | omega | (unfold inB at *; omega) | (unfold inB at *; simp_all; done))) | exact iv_bool (dec_b ⟨fun q => by rcases q.2.2.2 with q | q | q <;> first | omega | (rw [q.2.2.2.2]; rfl), fun z => ⟨hb.1, hb.2.1, hb.2.2, .inr (.inr ⟨by omega, by first | assumption | simp_all, by first | assumption | simp_all, by unfold inB at *; omega, nt_f z⟩)⟩⟩)
      · exact SubS.nil
     have hg20p := gP hg20
     refine SL.k hg20 (SL.k hg20 (SL.k hg20 (SL.k hg20 ?_)))
     refine SL.v (O.pf (G.ne_t hg20)) ?_
     refine SL.o ?_
     have hg24 := G.nft
     refine SL.k hg24 (SL.k hg24 (SL.k hg24 ?_))
     refine SL.v (O.pf rfl) ?_
     refine SL.o ?_
     have hg25 := G.nft
     refine SL.k hg25 (SL.k hg25 (SL.k hg25 ?_))
     refine SL.v (O.pf rfl) ?_
     refine SL.a (E.fo ?_)
     refine W.pk [(4,_)] [(101,_)] ?_
     refine W.ret ?_
     refine E.inr ?_
     refine E.thr ?_
     refine E.f1 [] ?_ ?_
     ·first | exact iv_bool (dec_f (fun q => by rcases q.2.2.2 with q | q | q <;> first | omega | (unfold inB at *; omega) | (unfold inB at *; simp_all; done))) | exact iv_bool (dec_b ⟨fun q => by rcases q.2.2.2 with q | q | q <;> first | omega | (rw [q.2.2.2.2]; rfl), fun z => ⟨hb.1, hb.2.1, hb.2.2, .inr (.inr ⟨by omega, by first | assumption | simp_all, by first | assumption | simp_all, by unfold inB at *; omega, nt_f z⟩)⟩⟩)
     · exact SubS.nil
    have hg19p := gP hg19
    refine SL.k hg19 (SL.k hg19 (SL.k hg19 ?_))
    refine SL.v (O.pf (G.ne_t hg19)) ?_
    refine SL.o ?_
    have hg26 := G.nft
    refine SL.k hg26 (SL.k hg26 (SL.k hg26 (SL.k hg26 ?_)))
    refine SL.v (O.pf rfl) ?_
    refine SL.o ?_
    have hg27 := G.nft
    refine SL.k hg27 (SL.k hg27 (SL.k hg27 ?_))
    refine SL.v (O.pf rfl) ?_
    refine SL.o ?_
    have hg28 := G.nft
    refine SL.k hg28 (SL.k hg28 (SL.k hg28 ?_))
    refine SL.v (O.pf rfl) ?_
    refine SL.a (E.fo ?_)
    refine W.pk [(4,_)] [(101,_)] ?_
    refine W.ret ?_
    refine E.inr ?_
    refine E.thr ?_
    refine E.f1 [] ?_ ?_
    ·first | exact iv_bool (dec_f (fun q => by rcases q.2.2.2 with q | q | q <;> first | omega | (unfold inB at *; omega) | (unfold inB at *; simp_all; done))) | exact iv_bool (dec_b ⟨fun q => by rcases q.2.2.2 with q | q | q <;> first | omega | (rw [q.2.2.2.2]; rfl), fun z => ⟨hb.1, hb.2.1, hb.2.2, .inr (.inr ⟨by omega, by first | assumption | simp_all, by first | assumption | simp_all, by unfold inB at *; omega, nt_f z⟩)⟩⟩)
    · exact SubS.nil
   refine W.skip (E.inn (E.to (W.rg (SL.a (E.fo (W.ret ?_))))))
   refine E.f1 [] ?_ ?_
   ·exact iv_bool (dec_f fun q => by rcases q.2.2.2 with q | q | q <;> omega)
   · exact SubS.nil
  have hg2p := gP hg2
  refine SL.k hg2 (SL.k hg2 (SL.k hg2 (SL.k hg2 ?_)))
  refine SL.v (O.pt (G.ne_f hg2)) ?_
  refine E.fo ?_
  refine W.cond_t rfl ?_
  refine W.rg (SL.a (E.fo (W.ret (E.thr ?_))))
  refine E.f1 [] ?_ ?_
  ·exact iv_bool (dec_f fun q => by have q1 := q.1; have q2 := q.2.1; have q3 := q.2.2.1; simp_all)
  · exact SubS.nil
 have hg1p := gP hg1
 refine SL.k hg1 (SL.k hg1 (SL.k hg1 (SL.k hg1 ?_)))
 refine SL.v (O.pt (G.ne_f hg1)) ?_
 refine SL.o ?_
 have hg29 := G.ntf
 refine SL.k hg29 (SL.k hg29 (SL.k hg29 (SL.k hg29 ?_)))
 refine SL.v (O.pt rfl) ?_
 refine E.fo ?_
 refine W.cond_t rfl ?_
 refine W.rg (SL.a (E.fo (W.ret (E.thr ?_))))
 refine E.f1 [] ?_ ?_
 ·exact iv_bool (dec_f fun q => by have q1 := q.1; have q2 := q.2.1; have q3 := q.2.2.1; simp_all)
 · exact SubS.nil

set_option maxRecDepth 8000 in
set_option maxHeartbeats 3200000 in
theorem lines_h {s : St} (hc : s.cps.length ≤ 1000) (hl : s.lns.length ≤ 1000) (hq : ∀ l ∈ s.lns, l.q.length ≤ 100) :
    Con Tryz.prog 51 [vA [uI s.now, .sl 8 (s.cps.map eCp), .sl 2 (s.lns.map eLn)]] [] (vB (decide (linesR s))) [] := by
 obtain ⟨i69, hi69, hz69, hs69, hb69⟩ := hinf69
 obtain ⟨i121, hi121, hz121, hs121, hb121⟩ := hinf121
 refine Con.en 100 Tryz.func51 fun τ w ok vs hin => ?_
 have hl0_1 := hin.lenA (i := 0) (j := 1) rfl rfl
 try rw [List.length_map] at hl0_1
 have hl0_2 := hin.lenA (i := 0) (j := 2) rfl rfl
 try rw [List.length_map] at hl0_2
 clear hin
 refine W.rg ?_
 refine SL.bx3 101 ?_
 refine SL.a (E.fo (W.seq (W.rg (SL.a (E.fo (W.block ?_))))))
 refine W.loopx1 (fun (i : Nat) => [(3, vI (i : Int))]) (fun (i : Nat) => []) (fun (i : Nat) => i ≤ s.lns.length ∧ ∀ j, j < i → lnR s j) (fun (i : Nat) => s.lns.length - i) (0) (rn []) (.cons (t := 1) rfl .nil) (.cons (t := 101) rfl .nil) rfl ?_ ?_ rfl rfl ?_ ?_
 · exact SubF.au
 · exact SubS.nil
 ·exact ⟨by omega, fun j h => by omega⟩
 intro i hinv
 obtain ⟨hi, hqs⟩ := hinv
 refine W.seq (W.rg (SL.o ?_))
 refine SL.v (O.fr 2 0 u25) ?_
 refine SL.v (O.l1 u23) ?_
 refine SL.v (O.le u23) ?_
 refine SL.v (O.lss) ?_
 refine E.fo ?_
 refine W.cc rfl (fun hc1 => ?_) fun hc1 => ?_
 ·have hqi := hq s.lns[i]! (at_mem (by omega))
  have hc2_ := cnt_len s.cps s.lns[i]!.work 2
  have hc3_ := cnt_len s.cps s.lns[i]!.work 3
  refine W.skip (E.to (W.seq (W.block (W.rg ?_))))
  refine SL.v (O.fr 2 0 u25) ?_
  refine SL.v (O.l1 u23) ?_
  refine SL.o ?_
  refine SL.v (O.ix (i := i) u23 hi69 hs69) ?_
  refine SL.v (O.lU 2 u69) ?_
  refine SL.al7 102 ?_
  refine SL.st2_2 102 ?_
  refine E.fo (W.rg ?_)
  refine SL.v (O.n3 u25) ?_
  refine SL.v (O.fr 0 0 u69) ?_
  refine SL.v (O.l1 u3) ?_
  refine SL.memS (O.call (rn []) [] rfl rfl rfl (refCount_h (s := s) (work := s.lns[i]!.work)) (.cons (ArgOk.aggU (.cons (ArgOk.same rfl) (.cons (ArgOk.same rfl) (.cons (ArgOk.same rfl) .nil)))) (.cons (ArgOk.same rfl) .nil)) SubS.nil rfl rfl rfl rfl rfl (.inl rfl) hcallOk88 (r' := .agg [.u _, .u _, .u _]) rfl rfl Taken.no) rfl rfl (S' := _) rfl ?_
  refine SL.al4 103 ?_
  refine SL.st3_3 103 ?_
  refine E.fo (W.seq (W.seq ?_))
  refine W.dr [pW 102, pX 102, pO, pO, pO, pO, pO, pO, pW 101, pX 101, pO, pO, pO, pO, pO, pW 102, pX 102, pO, pO, pO, pO, pW 102, pX 102, pO, pO, pO, pO, pW 102, pX 102, pO, pO, pO, pO, pW 103, pX 103, pO, pO, pO, pW 103, pX 103, pW 103, pX 103, pO, pO, pO] ?_
  refine WH.v (O.fr 0 0 u69) ?_
  refine WH.v (O.l1 u3) ?_
  refine WH.v (O.cp (q := refid_h (n := s.lns[i]!.work)) (o := hcallOk83)) ?_
  refine WH.v (O.nt) ?_
  refine WH.o rfl ?_
  refine WH.cs 4 false (fun hg2 => ?_) fun hg2 => ?_
  ·have hg2p := gP hg2
   refine WH.v (O.mo (tY hg2)) ?_
   refine WH.v (O.gtr (tY hg2)) ?_
   refine WH.v (O.mo (tY hg2)) ?_
   refine WH.cs 7 true (fun hg3 => ?_) fun hg3 => ?_
   ·have hg3p := gP hg3
    refine WH.v (O.fr 2 0 u25 (tY hg3)) ?_
    refine WH.v (O.l1 u23 (tY hg3)) ?_
    refine WH.v (O.mo (tY hg3)) ?_
    refine WH.v (O.sb (tY hg3)) ?_
    refine WH.v (O.idx_fz (i := (i - 1)) rfl rfl (by omega) (row_get (by omega)) u23 hi69 hs69 rfl (Taken.yes rfl rfl hg3)) ?_
    refine WH.v (O.ff 0 u69 (tY hg3)) ?_
    refine WH.v (O.l1f u3 (tY hg3)) ?_
    refine WH.v (O.fr 0 0 u69 (tY hg3)) ?_
    refine WH.v (O.l1 u3 (tY hg3)) ?_
    refine WH.v (O.geq (tY hg3)) ?_
    refine WH.v (O.pt hg3 (tY hg2)) ?_
    refine WH.v (O.pf hg2) ?_
    refine WH.o rfl ?_
    refine WH.cs 20 false (fun hg4 => ?_) fun hg4 => ?_
    ·have hg4p := gP hg4
     refine WH.v (O.fr 1 0 u69 (tY hg4)) ?_
     refine WH.v (O.l1 u67 (tY hg4)) ?_
     refine WH.v (O.le u67 (tY hg4)) ?_
     refine WH.v (O.eql (tY hg4)) ?_
     refine WH.v (O.pf hg4) ?_
     refine WH.o rfl ?_
     refine WH.cs 26 false (fun hg5 => ?_) fun hg5 => ?_
     ·have hg5p := gP hg5
      refine WH.v (O.fr 1 0 u69 (tY hg5)) ?_
      refine WH.v (O.l1 u67 (tY hg5)) ?_
      refine WH.v (O.cp (q := refvalid_h (q := s.lns[i]!.q)) (o := hcallOk94) (hg := (tY hg5))) ?_
      refine WH.v (O.nt (tY hg5)) ?_
      refine WH.v (O.pf hg5) ?_
      refine WH.o rfl ?_
      refine WH.cs 32 false (fun hg6 => ?_) fun hg6 => ?_
      ·have hg6p := gP hg6
       refine WH.v (O.idx_ref (i := 0) (m := 1) rfl rfl (by rfl) (by decide) u56 (by kernel_rfl) rfl rfl (Taken.yes rfl rfl hg6)) ?_
       refine WH.v (O.l1 u3 (tY hg6)) ?_
       refine WH.v (O.gtr (tY hg6)) ?_
       refine WH.v (O.pf hg6) ?_
       refine WH.o rfl ?_
       refine WH.cs 37 false (fun hg7 => ?_) fun hg7 => ?_
       ·have hg7p := gP hg7
        refine WH.v (O.idx_ref (i := 1) (m := 1) rfl rfl (by rfl) (by decide) u56 (by kernel_rfl) rfl rfl (Taken.yes rfl rfl hg7)) ?_
        refine WH.v (O.l1 u3 (tY hg7)) ?_
        refine WH.v (O.idx_ref (i := 2) (m := 1) rfl rfl (by rfl) (by decide) u56 (by kernel_rfl) rfl rfl (Taken.yes rfl rfl hg7)) ?_
        refine WH.v (O.l1 u3 (tY hg7)) ?_
        refine WH.v (O.ad (tY hg7)) ?_
        refine WH.v (O.eql (tY hg7)) ?_
        refine WH.v (O.pf hg7) ?_
        refine WH.nil (E.to ?_)
        refine W.pk [(1,_),(3,_),(4,_),(67,_)] [(101,_),(102,_),(103,_)] ?_
        refine W.cc rfl (fun hc8 => ?_) fun hc8 => ?_
        ·refine W.rg (SL.a (E.fo (W.ret (E.thr ?_))))
         refine E.inr ?_
         refine E.thr (E.thr ?_)
         refine E.inr ?_
         refine E.thr ?_
         refine E.f1 [] ?_ ?_
         ·exact iv_bool (dec_f fun q => by have q4 := q.1 i (by omega); unfold lnR at q4; obtain ⟨q5, q6, q7, q8, q9, q10, q11⟩ := q4; first | omega | (have q12 := q6 (by omega); omega) | (simp_all; done) | (simp_all; omega))
         · exact SubS.nil
        refine W.skip (E.to (W.rg (SL.a (E.fo (W.block ?_)))))
        refine W.loopx1 (fun (k : Nat) => [(6, vI (k : Int))]) (fun (k : Nat) => []) (fun (k : Nat) => k ≤ s.lns[i]!.q.length ∧ ∀ m, m < k → ¬ (s.lns[i]!.q[m]!.tim > s.now ∨ hasC s.cps s.lns[i]!.work s.lns[i]!.q[m]!.pat = true)) (fun (k : Nat) => s.lns[i]!.q.length - k) (0) (rn []) (.cons (t := 1) rfl (.cons (t := 3) rfl (.cons (t := 4) rfl .nil))) (.cons (t := 101) rfl (.cons (t := 102) rfl (.cons (t := 103) rfl .nil))) rfl ?_ ?_ rfl rfl ?_ ?_
        · exact SubF.au
        · exact SubS.nil
        ·exact ⟨by omega, fun j h => by omega⟩
        intro k hinv
        obtain ⟨hk, hp⟩ := hinv
        refine W.seq (W.rg (SL.o ?_))
        refine SL.v (O.fr 1 0 u69) ?_
        refine SL.v (O.l1 u67) ?_
        refine SL.v (O.le u67) ?_
        refine SL.v (O.lss) ?_
        refine E.fo ?_
        refine W.cc rfl (fun hc9 => ?_) fun hc9 => ?_
        ·refine W.skip (E.to (W.seq (W.block (W.seq ?_))))
         refine W.dr [pW 102, pX 102, pO, pO, pO, pO, pW 101, pX 101, pO, pO, pX 101, pW 102, pX 102, pW 102, pX 102, pO, pO, pO, pO, pO, pO] ?_
         refine WH.v (O.fr 1 0 u69) ?_
         refine WH.v (O.l1 u67) ?_
         refine WH.o rfl ?_
         refine WH.v (O.ix (i := k) u67 hi121 hs121) ?_
         refine WH.v (O.ff 0 u121) ?_
         refine WH.v (O.l1f u3) ?_
         refine WH.v (O.fr 0 0 u25) ?_
         refine WH.v (O.l1 u3) ?_
         refine WH.v (O.gtr) ?_
         refine WH.o rfl ?_
         refine WH.cs 9 false (fun hg10 => ?_) fun hg10 => ?_
         ·have hg10p := gP hg10
          refine WH.v (O.n3 u25 (tY hg10)) ?_
          refine WH.v (O.fr 0 0 u69 (tY hg10)) ?_
          refine WH.v (O.l1 u3 (tY hg10)) ?_
          refine WH.v (O.fr 1 0 u69 (tY hg10)) ?_
          refine WH.v (O.l1 u67 (tY hg10)) ?_
          refine WH.v (O.mo (tY hg10)) ?_
          refine WH.v (O.ix (i := k) u67 hi121 hs121 (tY hg10)) ?_
          refine WH.v (O.ff 0 u121 (tY hg10)) ?_
          refine WH.v (O.l1f u3 (tY hg10)) ?_
          refine WH.v (O.cp (q := has_h (s := s) (wk := s.lns[i]!.work) (p := s.lns[i]!.q[k]!.pat)) (o := hcallOk47) (hg := (tY hg10))) ?_
          refine WH.v (O.pf hg10) ?_
          refine WH.nil (E.to ?_)
          refine W.pk [(1,_),(3,_),(4,_),(6,_),(95,_)] [(101,_),(102,_),(103,_)] ?_
          refine W.cc rfl (fun hc11 => ?_) fun hc11 => ?_
          ·refine W.rg (SL.a (E.fo (W.ret ?_)))
           refine E.inr ?_
           refine E.thr (E.thr ?_)
           refine E.inr ?_
           refine E.inr ?_
           refine E.thr (E.thr ?_)
           refine E.inr ?_
           refine E.thr ?_
           refine E.f1 [] ?_ ?_
           ·exact iv_bool (dec_f fun q => (q.1 i (by omega)).2.2.2.2.2.2 k (by omega) (by first | (left; omega) | (right; assumption) | (right; exact decide_eq_true (by assumption)) | (right; simp_all)))
           · exact SubS.nil
          refine W.skip (E.inn (E.to (W.region (SL.o ?_))))
          refine SL.v (O.ad) ?_
          refine SL.a (SL.nil ?_)
          refine E.ag (k + 1) [] ?_ ?_ ?_ ?_
          · exact SubF.au
          · exact SubS.au
          ·try dsimp only
           exact ⟨by omega, upto_s hp (by rintro (z | z) <;> first | omega | exact absurd (of_decide_eq_true z) (by assumption) | exact absurd z (by assumption) | (simp_all; done))⟩
          · (try dsimp only); omega
         have hg10p := gP hg10
         refine WH.k hg10 (WH.k hg10 (WH.k hg10 (WH.k hg10 (WH.k hg10 (WH.k hg10 (WH.k hg10 (WH.k hg10 (WH.k hg10 (WH.k hg10 ?_)))))))))
         refine WH.v (O.pt (G.ne_f hg10)) ?_
         refine WH.nil (E.to ?_)
         refine W.pk [(1,_),(3,_),(4,_),(6,_),(95,_)] [(101,_),(102,_),(103,_)] ?_
         refine W.cond_t rfl ?_
         refine W.rg (SL.a (E.fo (W.ret ?_)))
         refine E.inr ?_
         refine E.thr (E.thr ?_)
         refine E.inr ?_
         refine E.inr ?_
         refine E.thr (E.thr ?_)
         refine E.inr ?_
         refine E.thr ?_
         refine E.f1 [] ?_ ?_
         ·exact iv_bool (dec_f fun q => (q.1 i (by omega)).2.2.2.2.2.2 k (by omega) (by first | (left; omega) | (right; assumption) | (right; exact decide_eq_true (by assumption)) | (right; simp_all)))
         · exact SubS.nil
        refine W.exit (E.th (E.th (E.hit (E.inn (E.to (W.region (SL.o ?_)))))))
        refine SL.v (O.ad) ?_
        refine SL.a (SL.nil ?_)
        refine E.ag (i + 1) [] ?_ ?_ ?_ ?_
        · exact SubF.au
        · exact SubS.au
        ·try dsimp only
         exact ⟨by omega, upto_s hqs ⟨by first | assumption | simp_all, fun h0 => by first | omega | (simp_all; omega), by omega, by first | assumption | simp_all, by omega, by omega, fun m hm => hp m (by omega)⟩⟩
        · (try dsimp only); omega
       have hg7p := gP hg7
       refine WH.k hg7 (WH.k hg7 (WH.k hg7 (WH.k hg7 (WH.k hg7 (WH.k hg7 ?_)))))
       refine WH.v (O.pt (G.ne_f hg7)) ?_
       refine WH.nil (E.to ?_)
       refine W.pk [(1,_),(3,_),(4,_),(67,_)] [(101,_),(102,_),(103,_)] ?_
       refine W.cond_t rfl ?_
       refine W.rg (SL.a (E.fo (W.ret (E.thr ?_))))
       refine E.inr ?_
       refine E.thr (E.thr ?_)
       refine E.inr ?_
       refine E.thr ?_
       refine E.f1 [] ?_ ?_
       ·exact iv_bool (dec_f fun q => by have q4 := q.1 i (by omega); unfold lnR at q4; obtain ⟨q5, q6, q7, q8, q9, q10, q11⟩ := q4; first | omega | (have q12 := q6 (by omega); omega) | (simp_all; done) | (simp_all; omega))
       · exact SubS.nil
      have hg6p := gP hg6
      refine WH.k hg6 (WH.k hg6 (WH.k hg6 ?_))
      refine WH.v (O.pt (G.ne_f hg6)) ?_
      refine WH.o rfl ?_
      have hg12 := G.ntf
      refine WH.k hg12 (WH.k hg12 (WH.k hg12 (WH.k hg12 (WH.k hg12 (WH.k hg12 ?_)))))
      refine WH.v (O.pt rfl) ?_
      refine WH.nil (E.to ?_)
      refine W.pk [(1,_),(3,_),(4,_),(67,_)] [(101,_),(102,_),(103,_)] ?_
      refine W.cond_t rfl ?_
      refine W.rg (SL.a (E.fo (W.ret (E.thr ?_))))
      refine E.inr ?_
      refine E.thr (E.thr ?_)
      refine E.inr ?_
      refine E.thr ?_
      refine E.f1 [] ?_ ?_
      ·exact iv_bool (dec_f fun q => by have q4 := q.1 i (by omega); unfold lnR at q4; obtain ⟨q5, q6, q7, q8, q9, q10, q11⟩ := q4; first | omega | (have q12 := q6 (by omega); omega) | (simp_all; done) | (simp_all; omega))
      · exact SubS.nil
     have hg5p := gP hg5
     refine WH.k hg5 (WH.k hg5 (WH.k hg5 (WH.k hg5 ?_)))
     refine WH.v (O.pt (G.ne_f hg5)) ?_
     refine WH.o rfl ?_
     have hg13 := G.ntf
     refine WH.k hg13 (WH.k hg13 (WH.k hg13 ?_))
     refine WH.v (O.pt rfl) ?_
     refine WH.o rfl ?_
     have hg14 := G.ntf
     refine WH.k hg14 (WH.k hg14 (WH.k hg14 (WH.k hg14 (WH.k hg14 (WH.k hg14 ?_)))))
     refine WH.v (O.pt rfl) ?_
     refine WH.nil (E.to ?_)
     refine W.pk [(1,_),(3,_),(4,_),(67,_)] [(101,_),(102,_),(103,_)] ?_
     refine W.cond_t rfl ?_
     refine W.rg (SL.a (E.fo (W.ret (E.thr ?_))))
     refine E.inr ?_
     refine E.thr (E.thr ?_)
     refine E.inr ?_
     refine E.thr ?_
     refine E.f1 [] ?_ ?_
     ·exact iv_bool (dec_f fun q => by have q4 := q.1 i (by omega); unfold lnR at q4; obtain ⟨q5, q6, q7, q8, q9, q10, q11⟩ := q4; first | omega | (have q12 := q6 (by omega); omega) | (simp_all; done) | (simp_all; omega))
     · exact SubS.nil
    have hg4p := gP hg4
    refine WH.k hg4 (WH.k hg4 (WH.k hg4 (WH.k hg4 ?_)))
    refine WH.v (O.pt (G.ne_f hg4)) ?_
    refine WH.o rfl ?_
    have hg15 := G.ntf
    refine WH.k hg15 (WH.k hg15 (WH.k hg15 (WH.k hg15 ?_)))
    refine WH.v (O.pt rfl) ?_
    refine WH.o rfl ?_
    have hg16 := G.ntf
    refine WH.k hg16 (WH.k hg16 (WH.k hg16 ?_))
    refine WH.v (O.pt rfl) ?_
    refine WH.o rfl ?_
    have hg17 := G.ntf
    refine WH.k hg17 (WH.k hg17 (WH.k hg17 (WH.k hg17 (WH.k hg17 (WH.k hg17 ?_)))))
    refine WH.v (O.pt rfl) ?_
    refine WH.nil (E.to ?_)
    refine W.pk [(1,_),(3,_),(4,_),(67,_)] [(101,_),(102,_),(103,_)] ?_
    refine W.cond_t rfl ?_
    refine W.rg (SL.a (E.fo (W.ret (E.thr ?_))))
    refine E.inr ?_
    refine E.thr (E.thr ?_)
    refine E.inr ?_
    refine E.thr ?_
    refine E.f1 [] ?_ ?_
    ·exact iv_bool (dec_f fun q => by have q4 := q.1 i (by omega); unfold lnR at q4; obtain ⟨q5, q6, q7, q8, q9, q10, q11⟩ := q4; first | omega | (have q12 := q6 (by omega); omega) | (simp_all; done) | (simp_all; omega))
    · exact SubS.nil
   have hg3p := gP hg3
   refine WH.k hg3 (WH.k hg3 (WH.k hg3 (WH.k hg3 (WH.k hg3 (WH.k hg3 (WH.k hg3 (WH.k hg3 (WH.k hg3 (WH.k hg3 ?_)))))))))
   refine WH.v (O.pf (G.ne_t hg3) (tY hg2)) ?_
   refine WH.v (O.pf hg2) ?_
   refine WH.o rfl ?_
   have hg18 : false = false := by decide
   refine WH.v (O.fr 1 0 u69 (tY hg18)) ?_
   refine WH.v (O.l1 u67 (tY hg18)) ?_
   refine WH.v (O.le u67 (tY hg18)) ?_
   refine WH.v (O.eql (tY hg18)) ?_
   refine WH.v (O.pf rfl) ?_
   refine WH.o rfl ?_
   refine WH.cs 26 false (fun hg19 => ?_) fun hg19 => ?_
   ·have hg19p := gP hg19
    refine WH.v (O.fr 1 0 u69 (tY hg19)) ?_
    refine WH.v (O.l1 u67 (tY hg19)) ?_
    refine WH.v (O.cp (q := refvalid_h (q := s.lns[i]!.q)) (o := hcallOk94) (hg := (tY hg19))) ?_
    refine WH.v (O.nt (tY hg19)) ?_
    refine WH.v (O.pf hg19) ?_
    refine WH.o rfl ?_
    refine WH.cs 32 false (fun hg20 => ?_) fun hg20 => ?_
    ·have hg20p := gP hg20
     refine WH.v (O.idx_ref (i := 0) (m := 1) rfl rfl (by rfl) (by decide) u56 (by kernel_rfl) rfl rfl (Taken.yes rfl rfl hg20)) ?_
     refine WH.v (O.l1 u3 (tY hg20)) ?_
     refine WH.v (O.gtr (tY hg20)) ?_
     refine WH.v (O.pf hg20) ?_
     refine WH.o rfl ?_
     refine WH.cs 37 false (fun hg21 => ?_) fun hg21 => ?_
     ·have hg21p := gP hg21
      refine WH.v (O.idx_ref (i := 1) (m := 1) rfl rfl (by rfl) (by decide) u56 (by kernel_rfl) rfl rfl (Taken.yes rfl rfl hg21)) ?_
      refine WH.v (O.l1 u3 (tY hg21)) ?_
      refine WH.v (O.idx_ref (i := 2) (m := 1) rfl rfl (by rfl) (by decide) u56 (by kernel_rfl) rfl rfl (Taken.yes rfl rfl hg21)) ?_
      refine WH.v (O.l1 u3 (tY hg21)) ?_
      refine WH.v (O.ad (tY hg21)) ?_
      refine WH.v (O.eql (tY hg21)) ?_
      refine WH.v (O.pf hg21) ?_
      refine WH.nil (E.to ?_)
      refine W.pk [(1,_),(3,_),(4,_),(67,_)] [(101,_),(102,_),(103,_)] ?_
      refine W.cc rfl (fun hc22 => ?_) fun hc22 => ?_
      ·refine W.rg (SL.a (E.fo (W.ret (E.thr ?_))))
       refine E.inr ?_
       refine E.thr (E.thr ?_)
       refine E.inr ?_
       refine E.thr ?_
       refine E.f1 [] ?_ ?_
       ·exact iv_bool (dec_f fun q => by have q4 := q.1 i (by omega); unfold lnR at q4; obtain ⟨q5, q6, q7, q8, q9, q10, q11⟩ := q4; first | omega | (have q12 := q6 (by omega); omega) | (simp_all; done) | (simp_all; omega))
       · exact SubS.nil
      refine W.skip (E.to (W.rg (SL.a (E.fo (W.block ?_)))))
      refine W.loopx1 (fun (k : Nat) => [(6, vI (k : Int))]) (fun (k : Nat) => []) (fun (k : Nat) => k ≤ s.lns[i]!.q.length ∧ ∀ m, m < k → ¬ (s.lns[i]!.q[m]!.tim > s.now ∨ hasC s.cps s.lns[i]!.work s.lns[i]!.q[m]!.pat = true)) (fun (k : Nat) => s.lns[i]!.q.length - k) (0) (rn []) (.cons (t := 1) rfl (.cons (t := 3) rfl (.cons (t := 4) rfl .nil))) (.cons (t := 101) rfl (.cons (t := 102) rfl (.cons (t := 103) rfl .nil))) rfl ?_ ?_ rfl rfl ?_ ?_
      · exact SubF.au
      · exact SubS.nil
      ·exact ⟨by omega, fun j h => by omega⟩
      intro k hinv
      obtain ⟨hk, hp⟩ := hinv
      refine W.seq (W.rg (SL.o ?_))
      refine SL.v (O.fr 1 0 u69) ?_
      refine SL.v (O.l1 u67) ?_
      refine SL.v (O.le u67) ?_
      refine SL.v (O.lss) ?_
      refine E.fo ?_
      refine W.cc rfl (fun hc23 => ?_) fun hc23 => ?_
      ·refine W.skip (E.to (W.seq (W.block (W.seq ?_))))
       refine W.dr [pW 102, pX 102, pO, pO, pO, pO, pW 101, pX 101, pO, pO, pX 101, pW 102, pX 102, pW 102, pX 102, pO, pO, pO, pO, pO, pO] ?_
       refine WH.v (O.fr 1 0 u69) ?_
       refine WH.v (O.l1 u67) ?_
       refine WH.o rfl ?_
       refine WH.v (O.ix (i := k) u67 hi121 hs121) ?_
       refine WH.v (O.ff 0 u121) ?_
       refine WH.v (O.l1f u3) ?_
       refine WH.v (O.fr 0 0 u25) ?_
       refine WH.v (O.l1 u3) ?_
       refine WH.v (O.gtr) ?_
       refine WH.o rfl ?_
       refine WH.cs 9 false (fun hg24 => ?_) fun hg24 => ?_
       ·have hg24p := gP hg24
        refine WH.v (O.n3 u25 (tY hg24)) ?_
        refine WH.v (O.fr 0 0 u69 (tY hg24)) ?_
        refine WH.v (O.l1 u3 (tY hg24)) ?_
        refine WH.v (O.fr 1 0 u69 (tY hg24)) ?_
        refine WH.v (O.l1 u67 (tY hg24)) ?_
        refine WH.v (O.mo (tY hg24)) ?_
        refine WH.v (O.ix (i := k) u67 hi121 hs121 (tY hg24)) ?_
        refine WH.v (O.ff 0 u121 (tY hg24)) ?_
        refine WH.v (O.l1f u3 (tY hg24)) ?_
        refine WH.v (O.cp (q := has_h (s := s) (wk := s.lns[i]!.work) (p := s.lns[i]!.q[k]!.pat)) (o := hcallOk47) (hg := (tY hg24))) ?_
        refine WH.v (O.pf hg24) ?_
        refine WH.nil (E.to ?_)
        refine W.pk [(1,_),(3,_),(4,_),(6,_),(95,_)] [(101,_),(102,_),(103,_)] ?_
        refine W.cc rfl (fun hc25 => ?_) fun hc25 => ?_
        ·refine W.rg (SL.a (E.fo (W.ret ?_)))
         refine E.inr ?_
         refine E.thr (E.thr ?_)
         refine E.inr ?_
         refine E.inr ?_
         refine E.thr (E.thr ?_)
         refine E.inr ?_
         refine E.thr ?_
         refine E.f1 [] ?_ ?_
         ·exact iv_bool (dec_f fun q => (q.1 i (by omega)).2.2.2.2.2.2 k (by omega) (by first | (left; omega) | (right; assumption) | (right; exact decide_eq_true (by assumption)) | (right; simp_all)))
         · exact SubS.nil
        refine W.skip (E.inn (E.to (W.region (SL.o ?_))))
        refine SL.v (O.ad) ?_
        refine SL.a (SL.nil ?_)
        refine E.ag (k + 1) [] ?_ ?_ ?_ ?_
        · exact SubF.au
        · exact SubS.au
        ·try dsimp only
         exact ⟨by omega, upto_s hp (by rintro (z | z) <;> first | omega | exact absurd (of_decide_eq_true z) (by assumption) | exact absurd z (by assumption) | (simp_all; done))⟩
        · (try dsimp only); omega
       have hg24p := gP hg24
       refine WH.k hg24 (WH.k hg24 (WH.k hg24 (WH.k hg24 (WH.k hg24 (WH.k hg24 (WH.k hg24 (WH.k hg24 (WH.k hg24 (WH.k hg24 ?_)))))))))
       refine WH.v (O.pt (G.ne_f hg24)) ?_
       refine WH.nil (E.to ?_)
       refine W.pk [(1,_),(3,_),(4,_),(6,_),(95,_)] [(101,_),(102,_),(103,_)] ?_
       refine W.cond_t rfl ?_
       refine W.rg (SL.a (E.fo (W.ret ?_)))
       refine E.inr ?_
       refine E.thr (E.thr ?_)
       refine E.inr ?_
       refine E.inr ?_
       refine E.thr (E.thr ?_)
       refine E.inr ?_
       refine E.thr ?_
       refine E.f1 [] ?_ ?_
       ·exact iv_bool (dec_f fun q => (q.1 i (by omega)).2.2.2.2.2.2 k (by omega) (by first | (left; omega) | (right; assumption) | (right; exact decide_eq_true (by assumption)) | (right; simp_all)))
       · exact SubS.nil
      refine W.exit (E.th (E.th (E.hit (E.inn (E.to (W.region (SL.o ?_)))))))
      refine SL.v (O.ad) ?_
      refine SL.a (SL.nil ?_)
      refine E.ag (i + 1) [] ?_ ?_ ?_ ?_
      · exact SubF.au
      · exact SubS.au
      ·try dsimp only
       exact ⟨by omega, upto_s hqs ⟨by first | assumption | simp_all, fun h0 => by first | omega | (simp_all; omega), by omega, by first | assumption | simp_all, by omega, by omega, fun m hm => hp m (by omega)⟩⟩
      · (try dsimp only); omega
     have hg21p := gP hg21
     refine WH.k hg21 (WH.k hg21 (WH.k hg21 (WH.k hg21 (WH.k hg21 (WH.k hg21 ?_)))))
     refine WH.v (O.pt (G.ne_f hg21)) ?_
     refine WH.nil (E.to ?_)
     refine W.pk [(1,_),(3,_),(4,_),(67,_)] [(101,_),(102,_),(103,_)] ?_
     refine W.cond_t rfl ?_
     refine W.rg (SL.a (E.fo (W.ret (E.thr ?_))))
     refine E.inr ?_
     refine E.thr (E.thr ?_)
     refine E.inr ?_
     refine E.thr ?_
     refine E.f1 [] ?_ ?_
     ·exact iv_bool (dec_f fun q => by have q4 := q.1 i (by omega); unfold lnR at q4; obtain ⟨q5, q6, q7, q8, q9, q10, q11⟩ := q4; first | omega | (have q12 := q6 (by omega); omega) | (simp_all; done) | (simp_all; omega))
     · exact SubS.nil
    have hg20p := gP hg20
    refine WH.k hg20 (WH.k hg20 (WH.k hg20 ?_))
    refine WH.v (O.pt (G.ne_f hg20)) ?_
    refine WH.o rfl ?_
    have hg26 := G.ntf
    refine WH.k hg26 (WH.k hg26 (WH.k hg26 (WH.k hg26 (WH.k hg26 (WH.k hg26 ?_)))))
    refine WH.v (O.pt rfl) ?_
    refine WH.nil (E.to ?_)
    refine W.pk [(1,_),(3,_),(4,_),(67,_)] [(101,_),(102,_),(103,_)] ?_
    refine W.cond_t rfl ?_
    refine W.rg (SL.a (E.fo (W.ret (E.thr ?_))))
    refine E.inr ?_
    refine E.thr (E.thr ?_)
    refine E.inr ?_
    refine E.thr ?_
    refine E.f1 [] ?_ ?_
    ·exact iv_bool (dec_f fun q => by have q4 := q.1 i (by omega); unfold lnR at q4; obtain ⟨q5, q6, q7, q8, q9, q10, q11⟩ := q4; first | omega | (have q12 := q6 (by omega); omega) | (simp_all; done) | (simp_all; omega))
    · exact SubS.nil
   have hg19p := gP hg19
   refine WH.k hg19 (WH.k hg19 (WH.k hg19 (WH.k hg19 ?_)))
   refine WH.v (O.pt (G.ne_f hg19)) ?_
   refine WH.o rfl ?_
   have hg27 := G.ntf
   refine WH.k hg27 (WH.k hg27 (WH.k hg27 ?_))
   refine WH.v (O.pt rfl) ?_
   refine WH.o rfl ?_
   have hg28 := G.ntf
   refine WH.k hg28 (WH.k hg28 (WH.k hg28 (WH.k hg28 (WH.k hg28 (WH.k hg28 ?_)))))
   refine WH.v (O.pt rfl) ?_
   refine WH.nil (E.to ?_)
   refine W.pk [(1,_),(3,_),(4,_),(67,_)] [(101,_),(102,_),(103,_)] ?_
   refine W.cond_t rfl ?_
   refine W.rg (SL.a (E.fo (W.ret (E.thr ?_))))
   refine E.inr ?_
   refine E.thr (E.thr ?_)
   refine E.inr ?_
   refine E.thr ?_
   refine E.f1 [] ?_ ?_
   ·exact iv_bool (dec_f fun q => by have q4 := q.1 i (by omega); unfold lnR at q4; obtain ⟨q5, q6, q7, q8, q9, q10, q11⟩ := q4; first | omega | (have q12 := q6 (by omega); omega) | (simp_all; done) | (simp_all; omega))
   · exact SubS.nil
  have hg2p := gP hg2
  refine WH.k hg2 (WH.k hg2 (WH.k hg2 ?_))
  refine WH.s2 ?_
  refine WH.s2 ?_
  refine WH.s2 ?_
  refine WH.s2 ?_
  refine WH.s2 ?_
  refine WH.s2 ?_
  refine WH.s2 ?_
  refine WH.s2 ?_
  refine WH.s2 ?_
  refine WH.s2 ?_
  refine WH.k hg2 ?_
  refine WH.v (O.pt (G.ne_f hg2)) ?_
  refine WH.o rfl ?_
  have hg29 := G.ntf
  refine WH.k hg29 (WH.k hg29 (WH.k hg29 (WH.k hg29 ?_)))
  refine WH.v (O.pt rfl) ?_
  refine WH.o rfl ?_
  have hg30 := G.ntf
  refine WH.k hg30 (WH.k hg30 (WH.k hg30 (WH.k hg30 ?_)))
  refine WH.v (O.pt rfl) ?_
  refine WH.o rfl ?_
  have hg31 := G.ntf
  refine WH.k hg31 (WH.k hg31 (WH.k hg31 ?_))
  refine WH.v (O.pt rfl) ?_
  refine WH.o rfl ?_
  have hg32 := G.ntf
  refine WH.k hg32 (WH.k hg32 (WH.k hg32 (WH.k hg32 (WH.k hg32 (WH.k hg32 ?_)))))
  refine WH.v (O.pt rfl) ?_
  refine WH.nil (E.to ?_)
  refine W.pk [(1,_),(3,_),(4,_),(67,_)] [(101,_),(102,_),(103,_)] ?_
  refine W.cond_t rfl ?_
  refine W.rg (SL.a (E.fo (W.ret (E.thr ?_))))
  refine E.inr ?_
  refine E.thr (E.thr ?_)
  refine E.inr ?_
  refine E.thr ?_
  refine E.f1 [] ?_ ?_
  ·exact iv_bool (dec_f fun q => by have q4 := q.1 i (by omega); unfold lnR at q4; obtain ⟨q5, q6, q7, q8, q9, q10, q11⟩ := q4; first | omega | (have q12 := q6 (by omega); omega) | (simp_all; done) | (simp_all; omega))
  · exact SubS.nil
 refine W.exit (E.th (E.th (E.hit (E.to (W.rg ?_)))))
 refine SL.v (O.fr 2 0 u25) ?_
 refine SL.v (O.l1 u23) ?_
 refine SL.v (O.le u23) ?_
 refine SL.v (O.leq) ?_
 refine SL.a (E.fo (W.ret ?_))
 refine E.f1 [] ?_ ?_
 ·exact iv_bool (dec_iff ⟨fun z => by have := z.2; omega, fun z => ⟨fun j hj => hqs j (by omega), by omega⟩⟩)
 · exact SubS.nil

set_option maxRecDepth 8000 in
set_option maxHeartbeats 3200000 in
theorem refvalidS_h {s : St} (hc : s.cps.length ≤ 1000) (hl : s.lns.length ≤ 1000) (hq : ∀ l ∈ s.lns, l.q.length ≤ 100) (hlb : ∀ c ∈ s.cps, c.lib.length ≤ 1000) :
    Con Tryz.prog 17 [vA [uI s.now, .sl 8 (s.cps.map eCp), .sl 2 (s.lns.map eLn)]] [] (vB (decide (validS s))) [] := by
 obtain ⟨i3, hi3, hz3, hs3, hb3⟩ := hinf3
 obtain ⟨i65, hi65, hz65, hs65, hb65⟩ := hinf65
 refine Con.en 94 Tryz.func17 fun τ w ok vs hin => ?_
 have hl0_1 := hin.lenA (i := 0) (j := 1) rfl rfl
 try rw [List.length_map] at hl0_1
 have hl0_2 := hin.lenA (i := 0) (j := 2) rfl rfl
 try rw [List.length_map] at hl0_2
 clear hin
 refine W.rg ?_
 refine SL.bx3 101 ?_
 refine SL.a (E.fo (W.seq (W.rg ?_)))
 refine SL.v (O.fr 0 0 u25) ?_
 refine SL.v (O.l1 u3) ?_
 refine SL.v (O.cp (q := refday_h (n := s.now)) (o := hcallOk45)) ?_
 refine SL.v (O.nt) ?_
 refine SL.o ?_
 refine SL.cs 4 false (fun hg1 => ?_) fun hg1 => ?_
 ·have hg1p := gP hg1
  refine SL.v (O.fr 1 0 u25 (tY hg1)) ?_
  refine SL.v (O.l1 u22 (tY hg1)) ?_
  refine SL.v (O.le u22 (tY hg1)) ?_
  refine SL.v (O.gtr (tY hg1)) ?_
  refine SL.v (O.pf hg1) ?_
  refine E.fo ?_
  refine W.cc rfl (fun hc2 => ?_) fun hc2 => ?_
  ·refine W.rg (SL.a (E.fo (W.ret (E.thr ?_))))
   refine E.f1 [] ?_ ?_
   ·exact iv_bool (dec_f fun q => by have q1 := q.1; have q2 := q.2.1; first | omega | (simp_all; done) | (simp_all; omega))
   · exact SubS.nil
  have h0 : inB s.now 0 1000000 ∧ s.cps.length ≤ 60 := ⟨by first | assumption | simp_all, by omega⟩
  have hn : 0 ≤ s.now ∧ s.now ≤ 1000000 := h0.1
  refine W.skip (E.to (W.seq (W.rg (SL.a (E.fo (W.block ?_))))))
  refine W.loopx1 (fun (k : Nat) => [(3, vI (k : Int))]) (fun (k : Nat) => []) (fun (k : Nat) => k ≤ s.cps.length ∧ ∀ j, j < k → vCpR s j) (fun (k : Nat) => s.cps.length - k) (0) (rn []) (.cons (t := 1) rfl .nil) (.cons (t := 101) rfl .nil) rfl ?_ ?_ rfl rfl ?_ ?_
  · exact SubF.au
  · exact SubS.nil
  ·exact ⟨by omega, fun j h => by omega⟩
  intro k hinv
  obtain ⟨hk, hp⟩ := hinv
  refine W.seq (W.rg (SL.o ?_))
  refine SL.v (O.fr 1 0 u25) ?_
  refine SL.v (O.l1 u22) ?_
  refine SL.v (O.le u22) ?_
  refine SL.v (O.lss) ?_
  refine E.fo ?_
  refine W.cc rfl (fun hc3 => ?_) fun hc3 => ?_
  ·have hil := ids_le (fun c => decide (c.place = 2 ∧ c.pat = s.cps[k]!.pat)) s.cps s.cps.length
   refine W.skip (E.to (W.seq (W.block (W.rg ?_))))
   refine SL.v (O.fr 1 0 u25) ?_
   refine SL.v (O.l1 u22) ?_
   refine SL.o ?_
   refine SL.v (O.ix (i := k) u22 hi65 hs65) ?_
   refine SL.v (O.lU 8 u65) ?_
   refine SL.al3 102 ?_
   refine SL.st8_8 102 ?_
   refine E.fo (W.seq (W.seq ?_))
   refine W.dr [pX 102, pW 101, pX 101, pO, pO, pO, pO, pO, pO, pW 101, pX 101, pO, pO, pO, pO, pO, pW 102, pX 102, pO, pO, pO] ?_
   refine WH.v (O.n8 u65) ?_
   refine WH.v (O.fr 0 0 u25) ?_
   refine WH.v (O.l1 u3) ?_
   refine WH.v (O.cp (q := placed_h (c := s.cps[k]!) (now := s.now) hn (hlb _ (at_mem (by omega)))) (o := hcallOk46)) ?_
   refine WH.v (O.nt) ?_
   refine WH.o rfl ?_
   refine WH.cs 5 false (fun hg4 => ?_) fun hg4 => ?_
   ·have hg4p := gP hg4
    refine WH.v (O.mo (tY hg4)) ?_
    refine WH.v (O.gtr (tY hg4)) ?_
    refine WH.v (O.mo (tY hg4)) ?_
    refine WH.cs 8 true (fun hg5 => ?_) fun hg5 => ?_
    ·have hg5p := gP hg5
     refine WH.v (O.fr 1 0 u25 (tY hg5)) ?_
     refine WH.v (O.l1 u22 (tY hg5)) ?_
     refine WH.v (O.mo (tY hg5)) ?_
     refine WH.v (O.sb (tY hg5)) ?_
     refine WH.v (O.idx_fz (i := (k - 1)) rfl rfl (by omega) (row_get (by omega)) u22 hi65 hs65 rfl (Taken.yes rfl rfl hg5)) ?_
     refine WH.v (O.ff 0 u65 (tY hg5)) ?_
     refine WH.v (O.l1f u3 (tY hg5)) ?_
     refine WH.v (O.fr 0 0 u65 (tY hg5)) ?_
     refine WH.v (O.l1 u3 (tY hg5)) ?_
     refine WH.v (O.geq (tY hg5)) ?_
     refine WH.v (O.pt hg5 (tY hg4)) ?_
     refine WH.v (O.pf hg4) ?_
     refine WH.nil (E.to ?_)
     refine W.pk [(1,_),(3,_),(4,_),(50,_)] [(101,_),(102,_)] ?_
     refine W.cc rfl (fun hc6 => ?_) fun hc6 => ?_
     ·refine W.rg (SL.a (E.fo (W.ret (E.thr ?_))))
      refine E.inr ?_
      refine E.thr (E.thr ?_)
      refine E.inr ?_
      refine E.thr ?_
      refine E.f1 [] ?_ ?_
      ·exact iv_bool (dec_f fun q => by have q4 := ((validR_iff s).2 q).2.2.1 k (by omega); unfold vCpR at q4; obtain ⟨q5, q6, q7, q8⟩ := q4; first | omega | (have q9 := q6 (by omega); omega) | (simp_all; done) | (simp_all; omega))
      · exact SubS.nil
     refine W.skip (E.to (W.rg ?_))
     refine SL.v (O.n3 u25) ?_
     refine SL.al9 103 ?_
     refine SL.st3_3 103 ?_
     refine E.fo (W.rg ?_)
     refine SL.v (O.fr 1 0 u25) ?_
     refine SL.v (O.l1 u22) ?_
     refine SL.o ?_
     refine SL.v (O.sub_fz (j := k) rfl Bnd.no (Bnd.at rfl (by first | rfl | omega)) (by first | omega | (simp only [List.length_map, Nat.le_refl, Nat.zero_le] <;> omega) | (simp <;> omega)) (by rw [List.length_map]; omega) sub_hi u22 hi65 hs65 rfl Taken.no) ?_
     refine SL.v (O.fr 1 0 u25) ?_
     refine SL.st1_3 103 ?_
     refine E.fo (W.rg ?_)
     refine SL.v (O.fr 3 0 u65) ?_
     refine SL.v (O.l1 u3) ?_
     refine SL.v (O.neq) ?_
     refine SL.o ?_
     refine SL.cs 3 true (fun hg7 => ?_) fun hg7 => ?_
     ·have hg7p := gP hg7
      refine SL.v (O.n3 u25 (tY hg7)) ?_
      refine SL.v (O.fr 1 0 u65 (tY hg7)) ?_
      refine SL.v (O.l1 u3 (tY hg7)) ?_
      refine SL.v (O.fr 4 0 u65 (tY hg7)) ?_
      refine SL.v (O.l1 u3 (tY hg7)) ?_
      refine SL.v (O.cp (q := has_h (s := (⟨s.now, s.cps.take k, s.lns⟩ : St)) (wk := s.cps[k]!.work) (p := s.cps[k]!.pat)) (o := hcallOk47) (hg := (tY hg7))) ?_
      refine SL.v (O.pt hg7) ?_
      refine SL.o ?_
      refine SL.cs 11 false (fun hg8 => ?_) fun hg8 => ?_
      ·have hg8p := gP hg8
       refine SL.v (O.n3 u25 (tY hg8)) ?_
       refine SL.v (O.fr 4 0 u65 (tY hg8)) ?_
       refine SL.v (O.l1 u3 (tY hg8)) ?_
       refine SL.v (O.cp (q := Con.fz (refLoans_h (s := s) (i := s.cps[k]!.pat) (by omega)) rfl rfl) (o := hcallOk48) (hg := (tY hg8))) ?_
       refine SL.v (O.le u61 (tY hg8)) ?_
       refine SL.v (O.gtr (tY hg8)) ?_
       refine SL.v (O.pf hg8) ?_
       refine E.fo ?_
       refine W.pk [(1,_),(3,_),(75,_)] [(101,_),(102,_),(103,_)] ?_
       refine W.cc rfl (fun hc9 => ?_) fun hc9 => ?_
       ·refine W.rg (SL.a (E.fo (W.ret ?_)))
        refine E.inr ?_
        refine E.thr (E.thr ?_)
        refine E.inr ?_
        refine E.thr ?_
        refine E.f1 [] ?_ ?_
        ·exact iv_bool (dec_f fun q => by have q4 := ((validR_iff s).2 q).2.2.1 k (by omega); unfold vCpR at q4; obtain ⟨q5, q6, q7, q8⟩ := q4; first | omega | (have q9 := q6 (by omega); omega) | (simp_all; done) | (simp_all; omega))
        · exact SubS.nil
       refine W.skip (E.inn (E.to (W.region (SL.o ?_))))
       refine SL.v (O.ad) ?_
       refine SL.a (SL.nil ?_)
       refine E.ag (k + 1) [] ?_ ?_ ?_ ?_
       · exact SubF.au
       · exact SubS.au
       ·try dsimp only
        exact ⟨by omega, upto_s hp ⟨by first | assumption | simp_all, fun h0 => by first | omega | (simp_all; omega), by first | (rintro ⟨z1, z2⟩; first | omega | (simp_all; done)) | simp_all, by omega⟩⟩
       · (try dsimp only); omega
      have hg8p := gP hg8
      refine SL.k hg8 (SL.k hg8 (SL.k hg8 (SL.k hg8 (SL.k hg8 (SL.k hg8 ?_)))))
      refine SL.v (O.pt (G.ne_f hg8)) ?_
      refine E.fo ?_
      refine W.pk [(1,_),(3,_),(75,_)] [(101,_),(102,_),(103,_)] ?_
      refine W.cond_t rfl ?_
      refine W.rg (SL.a (E.fo (W.ret ?_)))
      refine E.inr ?_
      refine E.thr (E.thr ?_)
      refine E.inr ?_
      refine E.thr ?_
      refine E.f1 [] ?_ ?_
      ·exact iv_bool (dec_f fun q => by have q4 := ((validR_iff s).2 q).2.2.1 k (by omega); unfold vCpR at q4; obtain ⟨q5, q6, q7, q8⟩ := q4; first | omega | (have q9 := q6 (by omega); omega) | (simp_all; done) | (simp_all; omega))
      · exact SubS.nil
     have hg7p := gP hg7
     refine SL.k hg7 (SL.k hg7 (SL.k hg7 (SL.k hg7 (SL.k hg7 (SL.k hg7 ?_)))))
     refine SL.v (O.pf (G.ne_t hg7)) ?_
     refine SL.o ?_
     have hg10 : false = false := by decide
     refine SL.v (O.n3 u25 (tY hg10)) ?_
     refine SL.v (O.fr 4 0 u65 (tY hg10)) ?_
     refine SL.v (O.l1 u3 (tY hg10)) ?_
     refine SL.v (O.cp (q := Con.fz (refLoans_h (s := s) (i := s.cps[k]!.pat) (by omega)) rfl rfl) (o := hcallOk48) (hg := (tY hg10))) ?_
     refine SL.v (O.le u61 (tY hg10)) ?_
     refine SL.v (O.gtr (tY hg10)) ?_
     refine SL.v (O.pf rfl) ?_
     refine E.fo ?_
     refine W.pk [(1,_),(3,_),(75,_)] [(101,_),(102,_),(103,_)] ?_
     refine W.cc rfl (fun hc11 => ?_) fun hc11 => ?_
     ·refine W.rg (SL.a (E.fo (W.ret ?_)))
      refine E.inr ?_
      refine E.thr (E.thr ?_)
      refine E.inr ?_
      refine E.thr ?_
      refine E.f1 [] ?_ ?_
      ·exact iv_bool (dec_f fun q => by have q4 := ((validR_iff s).2 q).2.2.1 k (by omega); unfold vCpR at q4; obtain ⟨q5, q6, q7, q8⟩ := q4; first | omega | (have q9 := q6 (by omega); omega) | (simp_all; done) | (simp_all; omega))
      · exact SubS.nil
     refine W.skip (E.inn (E.to (W.region (SL.o ?_))))
     refine SL.v (O.ad) ?_
     refine SL.a (SL.nil ?_)
     refine E.ag (k + 1) [] ?_ ?_ ?_ ?_
     · exact SubF.au
     · exact SubS.au
     ·try dsimp only
      exact ⟨by omega, upto_s hp ⟨by first | assumption | simp_all, fun h0 => by first | omega | (simp_all; omega), by first | (rintro ⟨z1, z2⟩; first | omega | (simp_all; done)) | simp_all, by omega⟩⟩
     · (try dsimp only); omega
    have hg5p := gP hg5
    refine WH.k hg5 (WH.k hg5 (WH.k hg5 (WH.k hg5 (WH.k hg5 (WH.k hg5 (WH.k hg5 (WH.k hg5 (WH.k hg5 (WH.k hg5 ?_)))))))))
    refine WH.v (O.pf (G.ne_t hg5) (tY hg4)) ?_
    refine WH.v (O.pf hg4) ?_
    refine WH.nil (E.to ?_)
    refine W.pk [(1,_),(3,_),(4,_),(50,_)] [(101,_),(102,_)] ?_
    refine W.cond_f rfl ?_
    refine W.skip (E.to (W.rg ?_))
    refine SL.v (O.n3 u25) ?_
    refine SL.al9 104 ?_
    refine SL.st3_3 104 ?_
    refine E.fo (W.rg ?_)
    refine SL.v (O.fr 1 0 u25) ?_
    refine SL.v (O.l1 u22) ?_
    refine SL.o ?_
    refine SL.v (O.sub_fz (j := k) rfl Bnd.no (Bnd.at rfl (by first | rfl | omega)) (by first | omega | (simp only [List.length_map, Nat.le_refl, Nat.zero_le] <;> omega) | (simp <;> omega)) (by rw [List.length_map]; omega) sub_hi u22 hi65 hs65 rfl Taken.no) ?_
    refine SL.v (O.fr 1 0 u25) ?_
    refine SL.st1_3 104 ?_
    refine E.fo (W.rg ?_)
    refine SL.v (O.fr 3 0 u65) ?_
    refine SL.v (O.l1 u3) ?_
    refine SL.v (O.neq) ?_
    refine SL.o ?_
    refine SL.cs 3 true (fun hg12 => ?_) fun hg12 => ?_
    ·have hg12p := gP hg12
     refine SL.v (O.n3 u25 (tY hg12)) ?_
     refine SL.v (O.fr 1 0 u65 (tY hg12)) ?_
     refine SL.v (O.l1 u3 (tY hg12)) ?_
     refine SL.v (O.fr 4 0 u65 (tY hg12)) ?_
     refine SL.v (O.l1 u3 (tY hg12)) ?_
     refine SL.v (O.cp (q := has_h (s := (⟨s.now, s.cps.take k, s.lns⟩ : St)) (wk := s.cps[k]!.work) (p := s.cps[k]!.pat)) (o := hcallOk47) (hg := (tY hg12))) ?_
     refine SL.v (O.pt hg12) ?_
     refine SL.o ?_
     refine SL.cs 11 false (fun hg13 => ?_) fun hg13 => ?_
     ·have hg13p := gP hg13
      refine SL.v (O.n3 u25 (tY hg13)) ?_
      refine SL.v (O.fr 4 0 u65 (tY hg13)) ?_
      refine SL.v (O.l1 u3 (tY hg13)) ?_
      refine SL.v (O.cp (q := Con.fz (refLoans_h (s := s) (i := s.cps[k]!.pat) (by omega)) rfl rfl) (o := hcallOk48) (hg := (tY hg13))) ?_
      refine SL.v (O.le u61 (tY hg13)) ?_
      refine SL.v (O.gtr (tY hg13)) ?_
      refine SL.v (O.pf hg13) ?_
      refine E.fo ?_
      refine W.pk [(1,_),(3,_),(75,_)] [(101,_),(102,_),(104,_)] ?_
      refine W.cc rfl (fun hc14 => ?_) fun hc14 => ?_
      ·refine W.rg (SL.a (E.fo (W.ret ?_)))
       refine E.inr ?_
       refine E.thr (E.thr ?_)
       refine E.inr ?_
       refine E.thr ?_
       refine E.f1 [] ?_ ?_
       ·exact iv_bool (dec_f fun q => by have q4 := ((validR_iff s).2 q).2.2.1 k (by omega); unfold vCpR at q4; obtain ⟨q5, q6, q7, q8⟩ := q4; first | omega | (have q9 := q6 (by omega); omega) | (simp_all; done) | (simp_all; omega))
       · exact SubS.nil
      refine W.skip (E.inn (E.to (W.region (SL.o ?_))))
      refine SL.v (O.ad) ?_
      refine SL.a (SL.nil ?_)
      refine E.ag (k + 1) [] ?_ ?_ ?_ ?_
      · exact SubF.au
      · exact SubS.au
      ·try dsimp only
       exact ⟨by omega, upto_s hp ⟨by first | assumption | simp_all, fun h0 => by first | omega | (simp_all; omega), by first | (rintro ⟨z1, z2⟩; first | omega | (simp_all; done)) | simp_all, by omega⟩⟩
      · (try dsimp only); omega
     have hg13p := gP hg13
     refine SL.k hg13 (SL.k hg13 (SL.k hg13 (SL.k hg13 (SL.k hg13 (SL.k hg13 ?_)))))
     refine SL.v (O.pt (G.ne_f hg13)) ?_
     refine E.fo ?_
     refine W.pk [(1,_),(3,_),(75,_)] [(101,_),(102,_),(104,_)] ?_
     refine W.cond_t rfl ?_
     refine W.rg (SL.a (E.fo (W.ret ?_)))
     refine E.inr ?_
     refine E.thr (E.thr ?_)
     refine E.inr ?_
     refine E.thr ?_
     refine E.f1 [] ?_ ?_
     ·exact iv_bool (dec_f fun q => by have q4 := ((validR_iff s).2 q).2.2.1 k (by omega); unfold vCpR at q4; obtain ⟨q5, q6, q7, q8⟩ := q4; first | omega | (have q9 := q6 (by omega); omega) | (simp_all; done) | (simp_all; omega))
     · exact SubS.nil
    have hg12p := gP hg12
    refine SL.k hg12 (SL.k hg12 (SL.k hg12 (SL.k hg12 (SL.k hg12 (SL.k hg12 ?_)))))
    refine SL.v (O.pf (G.ne_t hg12)) ?_
    refine SL.o ?_
    have hg15 : false = false := by decide
    refine SL.v (O.n3 u25 (tY hg15)) ?_
    refine SL.v (O.fr 4 0 u65 (tY hg15)) ?_
    refine SL.v (O.l1 u3 (tY hg15)) ?_
    refine SL.v (O.cp (q := Con.fz (refLoans_h (s := s) (i := s.cps[k]!.pat) (by omega)) rfl rfl) (o := hcallOk48) (hg := (tY hg15))) ?_
    refine SL.v (O.le u61 (tY hg15)) ?_
    refine SL.v (O.gtr (tY hg15)) ?_
    refine SL.v (O.pf rfl) ?_
    refine E.fo ?_
    refine W.pk [(1,_),(3,_),(75,_)] [(101,_),(102,_),(104,_)] ?_
    refine W.cc rfl (fun hc16 => ?_) fun hc16 => ?_
    ·refine W.rg (SL.a (E.fo (W.ret ?_)))
     refine E.inr ?_
     refine E.thr (E.thr ?_)
     refine E.inr ?_
     refine E.thr ?_
     refine E.f1 [] ?_ ?_
     ·exact iv_bool (dec_f fun q => by have q4 := ((validR_iff s).2 q).2.2.1 k (by omega); unfold vCpR at q4; obtain ⟨q5, q6, q7, q8⟩ := q4; first | omega | (have q9 := q6 (by omega); omega) | (simp_all; done) | (simp_all; omega))
     · exact SubS.nil
    refine W.skip (E.inn (E.to (W.region (SL.o ?_))))
    refine SL.v (O.ad) ?_
    refine SL.a (SL.nil ?_)
    refine E.ag (k + 1) [] ?_ ?_ ?_ ?_
    · exact SubF.au
    · exact SubS.au
    ·try dsimp only
     exact ⟨by omega, upto_s hp ⟨by first | assumption | simp_all, fun h0 => by first | omega | (simp_all; omega), by first | (rintro ⟨z1, z2⟩; first | omega | (simp_all; done)) | simp_all, by omega⟩⟩
    · (try dsimp only); omega
   have hg4p := gP hg4
   refine WH.k hg4 (WH.k hg4 (WH.k hg4 ?_))
   refine WH.s2 ?_
   refine WH.s2 ?_
   refine WH.s2 ?_
   refine WH.s2 ?_
   refine WH.s2 ?_
   refine WH.s2 ?_
   refine WH.s2 ?_
   refine WH.s2 ?_
   refine WH.s2 ?_
   refine WH.s2 ?_
   refine WH.k hg4 ?_
   refine WH.v (O.pt (G.ne_f hg4)) ?_
   refine WH.nil (E.to ?_)
   refine W.pk [(1,_),(3,_),(4,_),(50,_)] [(101,_),(102,_)] ?_
   refine W.cond_t rfl ?_
   refine W.rg (SL.a (E.fo (W.ret (E.thr ?_))))
   refine E.inr ?_
   refine E.thr (E.thr ?_)
   refine E.inr ?_
   refine E.thr ?_
   refine E.f1 [] ?_ ?_
   ·exact iv_bool (dec_f fun q => by have q4 := ((validR_iff s).2 q).2.2.1 k (by omega); unfold vCpR at q4; obtain ⟨q5, q6, q7, q8⟩ := q4; first | omega | (have q9 := q6 (by omega); omega) | (simp_all; done) | (simp_all; omega))
   · exact SubS.nil
  refine W.exit (E.th (E.th (E.hit (E.to (W.rg ?_)))))
  refine SL.v (O.n3 u25) ?_
  refine SL.v (O.cp (q := Con.fz (holds_h (s := s) hc hl hq) rfl rfl) (o := hcallOk49)) ?_
  refine SL.a (E.fo (W.seq (W.rg (SL.a (E.fo (W.block ?_))))))
  have hhl : (holdsL s).length ≤ 1000 + 100 * 1000 := by have z1 := hC_le s.cps s.cps.length; have z2 := hQ_le hq s.lns.length (Nat.le_refl _); rw [List.take_length] at z1 z2; rw [holdsL, List.length_append]; omega
  refine W.loopx1 (fun (i : Nat) => [(7, vI (i : Int))]) (fun (i : Nat) => []) (fun (i : Nat) => i ≤ (holdsL s).length ∧ ∀ j, j < i → ¬ (holdsL s)[j]! ∈ (holdsL s).take j) (fun (i : Nat) => (holdsL s).length - i) (0) (rn []) (.cons (t := 1) rfl (.cons (t := 6) rfl .nil)) (.cons (t := 101) rfl .nil) rfl ?_ ?_ rfl rfl ?_ ?_
  · exact SubF.au
  · exact SubS.nil
  ·exact ⟨by omega, fun j h => by omega⟩
  intro i hinv
  obtain ⟨hi, hd⟩ := hinv
  refine W.seq (W.rg (SL.o (SL.o ?_)))
  refine SL.v (O.le u61) ?_
  refine SL.v (O.lss) ?_
  refine E.fo ?_
  refine W.cc rfl (fun hc17 => ?_) fun hc17 => ?_
  ·refine W.skip (E.to (W.seq (W.block (W.seq ?_))))
   refine W.dr [pO, pO, pO, pO, pO, pO, pO, pO] ?_
   refine WH.o rfl (WH.o rfl ?_)
   refine WH.v (O.sub_fz (j := i) rfl Bnd.no (Bnd.at rfl (by first | rfl | omega)) (by first | omega | (simp only [List.length_map, Nat.le_refl, Nat.zero_le] <;> omega) | (simp <;> omega)) (by rw [List.length_map]; omega) sub_hi u61 hi3 hs3 rfl Taken.no) ?_
   refine WH.o rfl (WH.o rfl ?_)
   refine WH.v (O.ix (i := i) u61 hi3 hs3) ?_
   refine WH.v (O.l1f u3) ?_
   refine WH.v (O.cp (q := refin_h (l := (holdsL s).take i) (n := (holdsL s)[i]!)) (o := hcallOk50)) ?_
   refine WH.nil (E.to ?_)
   refine W.cc rfl (fun hc18 => ?_) fun hc18 => ?_
   ·refine W.rg (SL.a (E.fo (W.ret ?_)))
    refine E.inr ?_
    refine E.thr (E.thr ?_)
    refine E.inr ?_
    refine E.thr ?_
    refine E.f1 [] ?_ ?_
    ·exact iv_bool (dec_f fun q => ((validR_iff s).2 q).2.2.2.1 i (by omega) (by first | assumption | simp_all))
    · exact SubS.nil
   refine W.skip (E.inn (E.to (W.region (SL.o ?_))))
   refine SL.v (O.ad) ?_
   refine SL.a (SL.nil ?_)
   refine E.ag (i + 1) [] ?_ ?_ ?_ ?_
   · exact SubF.au
   · exact SubS.au
   ·try dsimp only
    exact ⟨by omega, upto_s hd (by first | assumption | simp_all)⟩
   · (try dsimp only); omega
  refine W.exit (E.th (E.th (E.hit (E.to (W.rg ?_)))))
  refine SL.v (O.n3 u25) ?_
  refine SL.v (O.cp (q := lines_h (s := s) hc hl hq) (o := hcallOk51)) ?_
  refine SL.a (E.fo (W.ret ?_))
  refine E.f1 [] ?_ ?_
  ·exact iv_bool (dec_iff ⟨fun q => ((validR_iff s).2 q).2.2.2.2, fun z => (validR_iff s).1 ⟨h0.1, h0.2, fun j hj => hp j (by omega), fun j hj => hd j (by omega), z⟩⟩)
  · exact SubS.nil
 have hg1p := gP hg1
 refine SL.k hg1 (SL.k hg1 (SL.k hg1 (SL.k hg1 ?_)))
 refine SL.v (O.pt (G.ne_f hg1)) ?_
 refine E.fo ?_
 refine W.cond_t rfl ?_
 refine W.rg (SL.a (E.fo (W.ret (E.thr ?_))))
 refine E.f1 [] ?_ ?_
 ·exact iv_bool (dec_f fun q => by have q1 := q.1; have q2 := q.2.1; first | omega | (simp_all; done) | (simp_all; omega))
 · exact SubS.nil

end Go.Proofs.YtmekkjehkcjpdaaGreat
end
section
namespace Go.Proofs.YtmekkjehkcjpdaaGreat
open Go Go.RowKit Go.H Go.D57 Go.D58


def bI : Option Nat → Int
  | none => -1
  | some i => (i : Int)






end Go.Proofs.YtmekkjehkcjpdaaGreat
end
section
namespace Go.D58
open Go Go.RowKit Go.H Go.D57
def anyP (q : List Hd) (p : Int) : Bool := q.any fun h => decide (h.pat = p)
def fewS (s : St) : Prop := (∀ k, k < s.cps.length → s.cps[k]!.lib.length ≤ 50) ∧ (∀ i, i < s.lns.length → fewQ s.lns[i]!.q) ∧ (s.cps.length ≤ 12 ∨ s.cps.length = 60 ∨ s.cps.length = 61) ∧ s.lns.length ≤ 12
instance (s : St) : Decidable (fewS s) := by unfold fewS; infer_instance
theorem valid_b {s : St} (h : validS s) : s.cps.length ≤ 1000 ∧ s.lns.length ≤ 1000 ∧ (∀ l ∈ s.lns, l.q.length ≤ 100) ∧ ∀ c ∈ s.cps, c.lib.length ≤ 1000 :=
  ⟨by have := h.2.1; omega, by have := h.2.2.1; omega, fun l hl => by have := (valid_ok h).2.2 l hl; omega, fun c hc => by have := ((valid_vld.1 h).cp c hc).2.2.1.2.1; omega⟩
theorem places {s : St} (h : validS s) {c : Cp} (hc : c ∈ s.cps) : ¬ (0 < cntP s.cps c.work 1 ∧ 0 < (queS s c.work).length) ∧ 1 ≤ cntP s.cps c.work 1 + cntP s.cps c.work 2 + cntP s.cps c.work 3 := by
  have v := valid_vld.1 h
  constructor
  · rintro ⟨h1, h2⟩
    have hx : ∃ l ∈ s.lns, l.work = c.work := by
      refine Classical.byContradiction fun hc => ?_
      rw [que_no (fun l hl e => hc ⟨l, hl, e⟩)] at h2
      exact absurd h2 (Nat.lt_irrefl 0)
    obtain ⟨l, hl, e⟩ := hx
    have := (v.cn l hl).1
    rw [e] at this
    omega
  · rcases (v.cp c hc).2.2.2 with q | q | q
    · have := cntP_pos hc ⟨rfl, q.1⟩; omega
    · have := cntP_pos hc ⟨rfl, q.1⟩; omega
    · have := cntP_pos hc ⟨rfl, q.1⟩; omega
theorem loan_mem {s : St} {c : Cp} (hc : c ∈ s.cps) (hp : c.place = 2) : c.id ∈ idsF (fun d => decide (d.place = 2 ∧ d.pat = c.pat)) s.cps := List.mem_map.2 ⟨c, List.mem_filter.2 ⟨hc, decide_eq_true ⟨hp, rfl⟩⟩, rfl⟩
def anyI (l : List Int) (n : Int) : Bool := l.any fun a => decide (a = n)
theorem anyI_s {l : List Int} {n : Int} {k : Nat} (h : k < l.length) : anyI (l.take (k + 1)) n = (anyI (l.take k) n || decide (l[k]! = n)) := by
  unfold anyI
  rw [take_s h, List.any_append]
  simp
theorem anyI_t {l : List Int} {n : Int} (h : n ∈ l) : anyI l n = true := List.any_eq_true.2 ⟨n, h, decide_eq_true rfl⟩
end Go.D58
end
section
namespace Go.Proofs.YtmekkjehkcjpdaaGreat
open Go Go.RowKit Go.H Go.D57 Go.D58

theorem hcallOk17 : G.callOk Tryz.prog 17 = true := by kernel_rfl










end Go.Proofs.YtmekkjehkcjpdaaGreat
end
section
namespace Go.D58
open Go Go.RowKit Go.H Go.D57
end Go.D58
end
section
namespace Go.Proofs.YtmekkjehkcjpdaaGreat
open Go Go.RowKit Go.H Go.D57 Go.D58

theorem hcallOk6 : G.callOk Tryz.prog 6 = true := by kernel_rfl
theorem hcallOk12 : G.callOk Tryz.prog 12 = true := by kernel_rfl
theorem hcallOk13 : G.callOk Tryz.prog 13 = true := by kernel_rfl
theorem hcallOk44 : G.callOk Tryz.prog 44 = true := by kernel_rfl

def cpV (c : Cp) : List Value := [.int .i64 c.id, .int .i64 c.work, .string (G.bs c.lib), .int .i64 c.place, .int .i64 c.pat, .int .i64 c.due, .int .i64 c.hold, .bool c.rc]





set_option maxRecDepth 8000 in
theorem theirsS_h {s : St} (hc : s.cps.length ≤ 1000) (hl : s.lns.length ≤ 1000) (hq : ∀ l ∈ s.lns, l.q.length ≤ 100) :
    Con Tryz.prog 12 [vA [uI s.now, .sl 8 (s.cps.map eCp), .sl 2 (s.lns.map eLn)]] [] (.agg [vI (s).now, vL 8 ((s).cps.map eCp), vL 2 ((s).lns.map eLn)]) [] := by
 obtain ⟨i55, hi55, hz55, hs55, hb55⟩ := hinf55
 obtain ⟨i65, hi65, hz65, hs65, hb65⟩ := hinf65
 obtain ⟨i69, hi69, hz69, hs69, hb69⟩ := hinf69
 obtain ⟨i79, hi79, hz79, hs79, hb79⟩ := hinf79
 refine Con.en 45 Tryz.func12 fun τ w ok vs hin => ?_
 have hl0_1 := hin.lenA (i := 0) (j := 1) rfl rfl
 try rw [List.length_map] at hl0_1
 have hl0_2 := hin.lenA (i := 0) (j := 2) rfl rfl
 try rw [List.length_map] at hl0_2
 clear hin
 refine W.rg ?_
 refine SL.bx3 101 ?_
 refine SL.al9 102 ?_
 refine E.fo (W.rg ?_)
 refine SL.v (O.fr 0 0 u33) ?_
 refine SL.v (O.l1 u3) ?_
 refine SL.v (O.bd6 u25) ?_
 refine SL.al9 103 ?_
 refine SL.st3_3 103 ?_
 refine E.fo (W.seq (W.rg ?_))
 refine SL.v (O.fr 1 0 u33) ?_
 refine SL.v (O.l1 u30) ?_
 refine SL.v (O.le u30) ?_
 refine SL.o (E.fo (W.block ?_))
 refine W.adoptC 103 1 105 65 8 (is' := [_, _, _]) (by decide) rfl rfl rfl rfl rfl ?_
 refine W.loopx1 (fun (k : Nat) => [(14, vI (k : Int))]) (fun (k : Nat) => [(104, .data 65 8 ((s.cps.take k).map eCp)), (103, .cells 25 [vI s.now, .own 104, .u (.sc (.slice none 0 0))])]) (fun (k : Nat) => k ≤ s.cps.length) (fun (k : Nat) => s.cps.length - k) (0) (rn [(104, 105)]) (.cons (t := 1) rfl (.cons (t := 2) rfl (.cons (t := 3) rfl (.cons (t := 12) rfl (.cons (t := 13) rfl .nil))))) (.cons (t := 101) rfl (.cons (t := 102) rfl .nil)) rfl ?_ ?_ rfl rfl ?_ ?_
 · exact SubF.au
 · exact SubS.au
 ·omega
 intro k hinv
 have hk := hinv
 have htl : (s.cps.take k).length = k := by rw [List.length_take]; omega
 refine W.rg ?_
 refine SL.v (O.lss) ?_
 refine E.fo (W.seq ?_)
 refine W.cc rfl (fun hc1 => ?_) fun hc1 => ?_
 ·refine W.skip (E.to (W.seq (W.block (W.rg ?_))))
  refine SL.v (O.ix (i := k) u30 hi55 hs55) ?_
  refine SL.v (O.lU 8 u55) ?_
  refine SL.al3 106 ?_
  refine SL.st8_8 106 ?_
  refine E.fo (W.region ?_)
  refine SL.v (O.fr 1 0 u25) ?_
  refine SL.v (O.l1 u22) ?_
  refine SL.v (O.n8 u55) ?_
  refine SL.memS (O.buildSlice 107 (rows := [s.cps[k]!].map eCp) rfl rfl u22 hi65 hz65 hs65 (by decide) rfl (by decide) rfl rfl rfl Taken.no) rfl rfl (S' := (107, .data 65 8 ([s.cps[k]!].map eCp)) :: _) rfl ?_
  refine SL.memS (O.app (k' := 108) rfl rfl (SlOf.own rfl rfl) u22 hi65 hz65 hs65 rfl rfl (by exact app_map) (by rw [hb65]; (simp only [List.length_map, List.length_singleton]; omega)) (by (simp only [List.length_map, List.length_singleton]; omega)) rfl Taken.no) rfl rfl (S' := (108, _) :: (104, .dead) :: _) rfl ?_
  refine SL.v (O.fr 1 0 u25) ?_
  refine SL.st1_3 103 ?_
  refine SL.nil (E.inn (E.to (W.region ?_)))
  refine SL.v (O.ad) ?_
  refine SL.o (SL.nil ?_)
  refine E.ag (k + 1) [(104, 108)] ?_ ?_ ?_ ?_
  · exact SubF.au
  · exact (SubS.val rfl (by (try dsimp only); exact sb_data (by rw [take_s (by omega)])) (SubS.cons rfl (SubS.cons rfl (SubS.cons rfl SubS.nil))))
  ·try dsimp only
   omega
  · (try dsimp only); omega
 refine W.exit (E.th (E.th (E.hit (E.to (W.seq (W.rg ?_))))))
 refine SL.v (O.fr 2 0 u33) ?_
 refine SL.v (O.l1 u31) ?_
 refine SL.v (O.le u31) ?_
 refine SL.o (E.fo (W.block ?_))
 refine W.adoptC 103 2 111 69 2 (is' := [_, _, _]) (by decide) rfl rfl rfl rfl rfl ?_
 refine W.loopx1 (fun (i : Nat) => [(28, vI (i : Int))]) (fun (i : Nat) => [(109, .data 65 8 (s.cps.map eCp)), (110, .data 69 2 ((s.lns.take i).map eLn)), (103, .cells 25 [vI s.now, .own 109, .own 110])]) (fun (i : Nat) => i ≤ s.lns.length) (fun (i : Nat) => s.lns.length - i) (0) (rn [(109, 104), (110, 111)]) (.cons (t := 2) rfl (.cons (t := 3) rfl (.cons (t := 26) rfl (.cons (t := 27) rfl .nil)))) (.cons (t := 101) rfl (.cons (t := 102) rfl .nil)) rfl ?_ ?_ rfl rfl ?_ ?_
 · exact SubF.au
 · exact (SubS.val rfl (by exact sb_data (by rw [show k = s.cps.length by omega, List.take_length])) (SubS.cons rfl (SubS.cons rfl SubS.nil)))
 ·omega
 intro i hinv
 have hi := hinv
 have hti : (s.lns.take i).length = i := by rw [List.length_take]; omega
 refine W.rg ?_
 refine SL.v (O.lss) ?_
 refine E.fo (W.seq ?_)
 refine W.cc rfl (fun hc2 => ?_) fun hc2 => ?_
 ·have hqi := hq s.lns[i]! (at_mem (by omega))
  refine W.skip (E.to (W.seq (W.block (W.rg ?_))))
  refine SL.v (O.ix (i := i) u31 hi79 hs79) ?_
  refine SL.v (O.lU 2 u79) ?_
  refine SL.al7 112 ?_
  refine SL.st2_2 112 ?_
  refine E.fo ?_
  refine W.dr [pW 103, ⟨[103], [], [], [110]⟩, pW 112, pX 112, pW 112, pX 112, pO, pO, ⟨[113], [113], [113], []⟩, ⟨[110, 113, 114], [110, 114], [114], []⟩, pW 103, ⟨[103, 109, 114], [103], [], []⟩] ?_
  refine WH.v (O.fr 2 0 u25) ?_
  refine WH.v (O.l1 u23) ?_
  refine WH.v (O.fr 0 0 u79) ?_
  refine WH.v (O.l1 u3) ?_
  refine WH.v (O.fr 1 0 u79) ?_
  refine WH.v (O.l1 u59) ?_
  refine WH.v (O.cp (q := theirs_h (q := s.lns[i]!.q) (by omega)) (o := hcallOk44)) ?_
  refine WH.v (O.bd5 u69) ?_
  refine WH.memS (O.buildSlice 113 (rows := [s.lns[i]!].map eLn) rfl rfl u23 hi69 hz69 hs69 (by decide) rfl (by decide) rfl rfl rfl Taken.no) rfl rfl rfl rfl rfl (S' := (113, .data 69 2 ([s.lns[i]!].map eLn)) :: _) rfl ?_
  refine WH.memS (O.app (k' := 114) rfl rfl (SlOf.own rfl rfl) u23 hi69 hz69 hs69 rfl rfl (by exact app_map) (by rw [hb69]; (simp only [List.length_map, List.length_singleton]; omega)) (by (simp only [List.length_map, List.length_singleton]; omega)) rfl Taken.no) rfl rfl rfl rfl rfl (S' := (114, _) :: (110, .dead) :: _) rfl ?_
  refine WH.v (O.fr 2 0 u25) ?_
  refine WH.st1_3 103 ?_
  refine WH.nil (E.inn (E.to (W.region ?_)))
  refine SL.v (O.ad) ?_
  refine SL.o (SL.nil ?_)
  refine E.ag (i + 1) [(110, 114)] ?_ ?_ ?_ ?_
  · exact SubF.au
  · exact (SubS.cons rfl (SubS.val rfl (by (try dsimp only); exact sb_data (by rw [take_s (by omega)])) (SubS.cons rfl (SubS.cons rfl (SubS.cons rfl SubS.nil)))))
  ·try dsimp only
   omega
  · (try dsimp only); omega
 refine W.exit (E.th (E.th (E.hit (E.to (W.rg ?_)))))
 refine SL.v (O.n3 u25) ?_
 refine SL.st3_3 102 ?_
 refine E.fo (W.ret ?_)
 refine E.freezeC 102 1 109 (is' := [_, _, _]) rfl rfl rfl rfl ?_
 refine E.freezeC 102 2 110 (is' := [_, _, _]) rfl rfl rfl rfl ?_
 refine E.g1 [] rfl (ResOne.c3 u25) ?_ ?_
 ·rw [show i = s.lns.length by omega, List.take_length]; rfl
 · exact SubS.nil




set_option maxRecDepth 8000 in
theorem lawPlaces_h {l : List Sp} :
    Con Tryz.prog 5 [vL 8 (l.map eSp)] [] (vB true) [] := by
 obtain ⟨i3, hi3, hz3, hs3, hb3⟩ := hinf3
 obtain ⟨i27, hi27, hz27, hs27, hb27⟩ := hinf27
 obtain ⟨i55, hi55, hz55, hs55, hb55⟩ := hinf55
 refine Con.en 114 Tryz.func5 fun τ w ok vs hin => ?_
 have hl0 := hin.len (i := 0) rfl
 try rw [List.length_map] at hl0
 clear hin
 refine W.rg (SL.a (E.fo (W.seq (W.rg ?_))))
 refine SL.v (O.cp (q := awake_h) (o := hcallOk6)) ?_
 refine SL.as (i' := vB true) 15 rfl (by exact iv_bool (rfl)) ?_
 refine SL.v (O.det (fun _ => G.R.mv (G.R.not rfl) rfl) rfl Taken.no) ?_
 refine SL.o ?_
 have hg1 : false = false := by decide
 refine SL.v (O.mo (tY hg1)) ?_
 refine SL.v (O.cp (q := fewSteps_h (l := l)) (o := hcallOk13) (hg := (tY hg1))) ?_
 refine SL.v (O.nt (tY hg1)) ?_
 refine SL.v (O.pf rfl) ?_
 refine E.fo ?_
 refine W.cc rfl (fun hc2 => ?_) fun hc2 => ?_
 ·refine W.rg ?_
  refine SL.v (O.cp (q := awake_h) (o := hcallOk6)) ?_
  refine SL.as (i' := vB true) 22 rfl (by exact iv_bool (rfl)) ?_
  refine SL.a (E.fo (W.ret (E.thr ?_)))
  refine E.f1 [] ?_ ?_
  ·rfl
  · exact SubS.nil
 refine W.skip (E.to (W.rg ?_))
 refine SL.al9 101 ?_
 refine E.fo (W.seq (W.rg (SL.o ?_)))
 refine SL.v (O.le u44) ?_
 refine SL.o (E.fo (W.block ?_))
 refine W.nilslC 101 1 8 (is' := [_, _, _]) rfl rfl rfl ?_
 refine W.nilslC 101 2 2 (is' := [_, _, _]) rfl rfl rfl ?_
 refine W.loopx2 (fun (k : Nat) (s : St) => [(25, vI (k : Int))]) (fun (k : Nat) (s : St) => [(101, .cells 33 [vI s.now, vL 8 (s.cps.map eCp), vL 2 (s.lns.map eLn)])]) (fun (k : Nat) (s : St) => k ≤ l.length) (fun (k : Nat) (s : St) => l.length - k) (0) (zeroS) (rn []) (.cons (t := 3) rfl (.cons (t := 23) rfl (.cons (t := 24) rfl .nil))) .nil rfl ?_ ?_ rfl rfl ?_ ?_
 · exact SubF.au
 · exact SubS.au
 ·omega
 intro k s hinv
 have hk := hinv
 refine W.rg ?_
 refine SL.v (O.lss) ?_
 refine E.fo (W.seq ?_)
 refine W.cc rfl (fun hc3 => ?_) fun hc3 => ?_
 ·refine W.skip (E.to (W.seq (W.block (W.rg ?_))))
  refine SL.v (O.ix (i := k) u44 hi27 hs27) ?_
  refine SL.v (O.lU 8 u27) ?_
  refine SL.al8 102 ?_
  refine SL.st8_8 102 ?_
  refine E.fo (W.rg ?_)
  refine SL.v (O.n3 u33) ?_
  refine SL.v (O.n8 u27) ?_
  refine SL.memS (O.call (rn []) [] rfl rfl rfl (do_h (s := s) (x := l[k]!)) (.cons (ArgOk.aggU (.cons (ArgOk.same rfl) (.cons (ArgOk.same rfl) (.cons (ArgOk.same rfl) .nil)))) (.cons (ArgOk.aggU (.cons (ArgOk.same rfl) (.cons (ArgOk.same rfl) (.cons (ArgOk.same rfl) (.cons (ArgOk.same rfl) (.cons (ArgOk.same rfl) (.cons (ArgOk.same rfl) (.cons (ArgOk.same rfl) (.cons (ArgOk.same rfl) .nil))))))))) .nil)) SubS.nil rfl rfl rfl rfl rfl (.inl rfl) hcallOk8 (r' := .tup [.agg [.u _, .u _, .u _], .u _]) rfl rfl Taken.no) rfl rfl (S' := _) rfl ?_
  refine SL.o ?_
  refine SL.v (O.ex) ?_
  refine SL.v (O.ex) ?_
  refine SL.al9 103 ?_
  refine SL.st3_3 103 ?_
  refine SL.a (E.fo (W.seq (W.rg (SL.o ?_))))
  refine SL.v (O.neq) ?_
  refine E.fo ?_
  refine W.cc rfl (fun hc4 => ?_) fun hc4 => ?_
  ·refine W.exit (E.th (E.hit (E.to (W.region ?_))))
   refine SL.v (O.ad) ?_
   refine SL.o (SL.nil ?_)
   refine E.ag ((k + 1), (s)) [] ?_ ?_ ?_ ?_
   · exact SubF.au
   · exact SubS.au
   ·try dsimp only
    omega
   · (try dsimp only); omega
  have he : doE s l[k]! = 0 := by first | assumption | omega | simp_all
  have hvn := do_valid he
  have hb4 := valid_b hvn
  have hV := do_okV he
  have hl60 := hvn.2.1
  refine W.skip (E.to (W.rg ?_))
  refine SL.v (O.n3 u33) ?_
  refine SL.st3_3 101 ?_
  refine E.fo (W.seq (W.rg ?_))
  refine SL.v (O.n3 u33) ?_
  refine SL.v (O.cp (q := stvalid_h (s := (doS s l[k]!))) (o := hcallOk18)) ?_
  refine SL.as (i' := vB true) 39 rfl (by exact iv_bool (decide_eq_true hvn)) ?_
  refine SL.v (O.det (fun _ => G.R.mv (G.R.not rfl) rfl) rfl Taken.no) ?_
  refine SL.o ?_
  have hg5 : false = false := by decide
  refine SL.v (O.n3 u33 (tY hg5)) ?_
  refine SL.memS (O.call (rn []) [] rfl rfl rfl (theirsS_h (s := (doS s l[k]!)) hb4.1 hb4.2.1 hb4.2.2.1) (.cons (ArgOk.aggU (.cons (ArgOk.same rfl) (.cons (ArgOk.same rfl) (.cons (ArgOk.same rfl) .nil)))) .nil) SubS.nil rfl rfl rfl rfl rfl (.inl rfl) hcallOk12 (r' := .agg [.u _, .u _, .u _]) rfl rfl (Taken.yes rfl rfl hg5)) rfl rfl (S' := _) rfl ?_
  refine SL.v (O.cp (q := refvalidS_h (s := (doS s l[k]!)) hb4.1 hb4.2.1 hb4.2.2.1 hb4.2.2.2) (o := hcallOk17) (hg := (tY hg5))) ?_
  refine SL.as (i' := vB true) 44 rfl (by exact iv_bool (decide_eq_true hvn)) ?_
  refine SL.v (O.det (fun _ => G.R.mv (G.R.not rfl) rfl) rfl (Taken.yes rfl rfl hg5)) ?_
  refine SL.v (O.pf rfl) ?_
  refine E.fo ?_
  refine W.pk [(3,_),(23,_),(24,_),(25,_),(46,_)] [(101,_),(102,_),(103,_)] ?_
  refine W.cond_f rfl ?_
  refine W.skip (E.to (W.rg (SL.a (E.fo (W.seq (W.rg ?_))))))
  refine SL.v (O.fr 1 0 u33) ?_
  refine SL.v (O.l1 u30) ?_
  refine SL.v (O.le u30) ?_
  refine SL.o (E.fo (W.block ?_))
  refine W.loopx2 (fun (j : Nat) (a : Nat) => [(50, vI (j : Int)), (8, vI (a : Int))]) (fun (j : Nat) (a : Nat) => []) (fun (j : Nat) (a : Nat) => j ≤ (doS s l[k]!).cps.length ∧ a ≤ j) (fun (j : Nat) (a : Nat) => (doS s l[k]!).cps.length - j) (0) (0) (rn []) (.cons (t := 3) rfl (.cons (t := 23) rfl (.cons (t := 24) rfl (.cons (t := 25) rfl (.cons (t := 48) rfl (.cons (t := 49) rfl .nil)))))) (.cons (t := 101) rfl (.cons (t := 102) rfl (.cons (t := 103) rfl .nil))) rfl ?_ ?_ rfl rfl ?_ ?_
  · exact SubF.au
  · exact SubS.nil
  ·exact ⟨by omega, by omega⟩
  intro j a hinv
  obtain ⟨hj, haj⟩ := hinv
  refine W.rg ?_
  refine SL.v (O.lss) ?_
  refine E.fo (W.seq ?_)
  refine W.cc rfl (fun hc6 => ?_) fun hc6 => ?_
  ·have hpl := places hvn (c := (doS s l[k]!).cps[j]!) (at_mem (by omega))
   have hc1_ := cnt_len (doS s l[k]!).cps (doS s l[k]!).cps[j]!.work 1
   have hc2_ := cnt_len (doS s l[k]!).cps (doS s l[k]!).cps[j]!.work 2
   have hc3_ := cnt_len (doS s l[k]!).cps (doS s l[k]!).cps[j]!.work 3
   have hil := ids_le (fun c => decide (c.place = 2 ∧ c.pat = (doS s l[k]!).cps[j]!.pat)) (doS s l[k]!).cps (doS s l[k]!).cps.length
   rw [List.take_length] at hil
   refine W.skip (E.to (W.seq (W.block (W.rg ?_))))
   refine SL.v (O.ix (i := j) u30 hi55 hs55) ?_
   refine SL.v (O.lU 8 u55) ?_
   refine SL.al3 104 ?_
   refine SL.st8_8 104 ?_
   refine E.fo (W.rg ?_)
   refine SL.v (O.n3 u33) ?_
   refine SL.v (O.fr 1 0 u55) ?_
   refine SL.v (O.l1 u3) ?_
   refine SL.memS (O.call (rn []) [] rfl rfl rfl (count_h (s := (doS s l[k]!)) (work := (doS s l[k]!).cps[j]!.work)) (.cons (ArgOk.aggU (.cons (ArgOk.same rfl) (.cons (ArgOk.same rfl) (.cons (ArgOk.same rfl) .nil)))) (.cons (ArgOk.same rfl) .nil)) SubS.nil rfl rfl rfl rfl rfl (.inl rfl) hcallOk19 (r' := .agg [.u _, .u _, .u _]) rfl rfl Taken.no) rfl rfl (S' := _) rfl ?_
   refine SL.al4 105 ?_
   refine SL.st3_3 105 ?_
   refine E.fo (W.seq (W.rg ?_))
   refine SL.v (O.idx_ref (i := 0) (m := 1) rfl rfl (by rfl) (by decide) u56 (by kernel_rfl) rfl rfl Taken.no) ?_
   refine SL.v (O.l1 u3) ?_
   refine SL.v (O.gtr) ?_
   refine SL.o ?_
   refine SL.cs 3 true (fun hg7 => ?_) fun hg7 => ?_
   ·have hg7p := gP hg7
    refine SL.v (O.n3 u33 (tY hg7)) ?_
    refine SL.v (O.fr 1 0 u55 (tY hg7)) ?_
    refine SL.v (O.l1 u3 (tY hg7)) ?_
    refine SL.v (O.cp (q := queue_h (s := (doS s l[k]!)) (i := (doS s l[k]!).cps[j]!.work) (okV_len hV)) (o := hcallOk20) (hg := (tY hg7))) ?_
    refine SL.v (O.le u59 (tY hg7)) ?_
    refine SL.v (O.det (fun _ => G.R.mv (G.R.gtr rfl rfl) (congrArg Value.bool (decide_eq_false (by have := hpl.1; omega)))) rfl (Taken.yes rfl rfl hg7)) ?_
    refine SL.v (O.pt hg7) ?_
    refine SL.o ?_
    have hg8 : false = false := by decide
    refine SL.v (O.idx_ref (i := 0) (m := 1) rfl rfl (by rfl) (by decide) u56 (by kernel_rfl) rfl rfl (Taken.yes rfl rfl hg8)) ?_
    refine SL.v (O.l1 u3 (tY hg8)) ?_
    refine SL.v (O.idx_ref (i := 1) (m := 1) rfl rfl (by rfl) (by decide) u56 (by kernel_rfl) rfl rfl (Taken.yes rfl rfl hg8)) ?_
    refine SL.v (O.l1 u3 (tY hg8)) ?_
    refine SL.v (O.ad (tY hg8)) ?_
    refine SL.v (O.idx_ref (i := 2) (m := 1) rfl rfl (by rfl) (by decide) u56 (by kernel_rfl) rfl rfl (Taken.yes rfl rfl hg8)) ?_
    refine SL.v (O.l1 u3 (tY hg8)) ?_
    refine SL.v (O.ad (tY hg8)) ?_
    refine SL.v (O.det (fun _ => G.R.mv (G.R.lss rfl rfl) (congrArg Value.bool (decide_eq_false (by have := hpl.2; omega)))) rfl (Taken.yes rfl rfl hg8)) ?_
    refine SL.v (O.pf rfl) ?_
    refine E.fo ?_
    refine W.pk [(3,_),(8,_),(10,_),(23,_),(24,_),(25,_),(48,_),(49,_),(50,_),(79,_)] [(101,_),(102,_),(103,_),(104,_),(105,_)] ?_
    refine W.cond_f rfl ?_
    refine W.skip (E.to (W.rg ?_))
    refine SL.v (O.fr 3 0 u55) ?_
    refine SL.v (O.l1 u3) ?_
    refine SL.v (O.eql) ?_
    refine E.fo ?_
    refine W.cc rfl (fun hc9 => ?_) fun hc9 => ?_
    ·refine W.region (SL.o ?_)
     refine SL.v (O.ad) ?_
     refine SL.a (SL.nil (E.inn (E.to (W.region ?_))))
     refine SL.v (O.ad) ?_
     refine SL.o (SL.nil ?_)
     refine E.ag ((j + 1), (a + 1)) [] ?_ ?_ ?_ ?_
     · exact SubF.au
     · exact SubS.au
     ·try dsimp only
      exact ⟨by omega, by omega⟩
     · (try dsimp only); omega
    refine W.rg ?_
    refine SL.v (O.fr 3 0 u55) ?_
    refine SL.v (O.l1 u3) ?_
    refine SL.v (O.eql) ?_
    refine E.fo ?_
    refine W.cc rfl (fun hc10 => ?_) fun hc10 => ?_
    ·refine W.rg (SL.a (E.fo (W.seq (W.rg ?_))))
     refine SL.v (O.n3 u33) ?_
     refine SL.v (O.fr 4 0 u55) ?_
     refine SL.v (O.l1 u3) ?_
     refine SL.v (O.cp (q := loans_h (s := (doS s l[k]!)) (i := (doS s l[k]!).cps[j]!.pat) (by omega)) (o := hcallOk21)) ?_
     refine SL.v (O.le u61) ?_
     refine SL.o (E.fo (W.block ?_))
     refine W.loopx1 (fun (m : Nat) => [(93, vI (m : Int)), (12, vB (anyI ((idsF (fun c => decide (c.place = 2 ∧ c.pat = (doS s l[k]!).cps[j]!.pat)) (doS s l[k]!).cps).take m) (doS s l[k]!).cps[j]!.id))]) (fun (m : Nat) => []) (fun (m : Nat) => m ≤ (idsF (fun c => decide (c.place = 2 ∧ c.pat = (doS s l[k]!).cps[j]!.pat)) (doS s l[k]!).cps).length) (fun (m : Nat) => (idsF (fun c => decide (c.place = 2 ∧ c.pat = (doS s l[k]!).cps[j]!.pat)) (doS s l[k]!).cps).length - m) (0) (rn []) (.cons (t := 3) rfl (.cons (t := 8) rfl (.cons (t := 10) rfl (.cons (t := 23) rfl (.cons (t := 24) rfl (.cons (t := 25) rfl (.cons (t := 48) rfl (.cons (t := 49) rfl (.cons (t := 50) rfl (.cons (t := 91) rfl (.cons (t := 92) rfl .nil))))))))))) (.cons (t := 101) rfl (.cons (t := 102) rfl (.cons (t := 103) rfl (.cons (t := 104) rfl (.cons (t := 105) rfl .nil))))) rfl ?_ ?_ rfl rfl ?_ ?_
     · exact SubF.au
     · exact SubS.nil
     ·omega
     intro m hinv
     have hm := hinv
     refine W.rg ?_
     refine SL.v (O.lss) ?_
     refine E.fo (W.seq ?_)
     refine W.cc rfl (fun hc11 => ?_) fun hc11 => ?_
     ·refine W.skip (E.to (W.seq (W.block (W.rg ?_))))
      refine SL.v (O.ix (i := m) u61 hi3 hs3) ?_
      refine SL.v (O.l1f u3) ?_
      refine SL.a (E.fo (W.region (SL.o (SL.o ?_))))
      refine SL.cs 1 false (fun hg12 => ?_) fun hg12 => ?_
      ·have hg12p := gP hg12
       refine SL.v (O.mo (tY hg12)) ?_
       refine SL.v (O.fr 0 0 u55 (tY hg12)) ?_
       refine SL.v (O.l1 u3 (tY hg12)) ?_
       refine SL.v (O.eql (tY hg12)) ?_
       refine SL.v (O.pf hg12) ?_
       refine SL.a (SL.nil (E.inn (E.to ?_)))
       refine W.pk [(3,_),(8,_),(10,_),(12,_),(23,_),(24,_),(25,_),(48,_),(49,_),(50,_),(91,_),(92,_),(93,_)] [(101,_),(102,_),(103,_),(104,_),(105,_)] ?_
       refine W.region ?_
       refine SL.v (O.ad) ?_
       refine SL.o (SL.nil ?_)
       refine E.ag (m + 1) [] ?_ ?_ ?_ ?_
       · exact (SubF.cons rfl (SubF.val rfl (by (try dsimp only); first | exact iv_bool (by rw [anyI_s (by omega)]; simp_all) | exact iv_bool (by rw [anyI_s (by omega)]; cases anyI ((idsF (fun c => decide (c.place = 2 ∧ c.pat = (doS s l[k]!).cps[j]!.pat)) (doS s l[k]!).cps).take m) (doS s l[k]!).cps[j]!.id <;> simp_all)) (SubF.cons rfl (SubF.cons rfl (SubF.cons rfl (SubF.cons rfl (SubF.cons rfl (SubF.cons rfl (SubF.cons rfl (SubF.cons rfl (SubF.cons rfl (SubF.cons rfl (SubF.cons rfl SubF.nil)))))))))))))
       · exact SubS.au
       ·try dsimp only
        omega
       · (try dsimp only); omega
      have hg12p := gP hg12
      refine SL.k hg12 (SL.k hg12 (SL.k hg12 (SL.k hg12 ?_)))
      refine SL.v (O.pt (G.ne_f hg12)) ?_
      refine SL.a (SL.nil (E.inn (E.to ?_)))
      refine W.pk [(3,_),(8,_),(10,_),(12,_),(23,_),(24,_),(25,_),(48,_),(49,_),(50,_),(91,_),(92,_),(93,_)] [(101,_),(102,_),(103,_),(104,_),(105,_)] ?_
      refine W.region ?_
      refine SL.v (O.ad) ?_
      refine SL.o (SL.nil ?_)
      refine E.ag (m + 1) [] ?_ ?_ ?_ ?_
      · exact (SubF.cons rfl (SubF.val rfl (by (try dsimp only); first | exact iv_bool (by rw [anyI_s (by omega)]; simp_all) | exact iv_bool (by rw [anyI_s (by omega)]; cases anyI ((idsF (fun c => decide (c.place = 2 ∧ c.pat = (doS s l[k]!).cps[j]!.pat)) (doS s l[k]!).cps).take m) (doS s l[k]!).cps[j]!.id <;> simp_all)) (SubF.cons rfl (SubF.cons rfl (SubF.cons rfl (SubF.cons rfl (SubF.cons rfl (SubF.cons rfl (SubF.cons rfl (SubF.cons rfl (SubF.cons rfl (SubF.cons rfl (SubF.cons rfl SubF.nil)))))))))))))
      · exact SubS.au
      ·try dsimp only
       omega
      · (try dsimp only); omega
     refine W.exit (E.th (E.th (E.hit (E.to (W.rg ?_)))))
     have hany : anyI ((idsF (fun c => decide (c.place = 2 ∧ c.pat = (doS s l[k]!).cps[j]!.pat)) (doS s l[k]!).cps).take m) (doS s l[k]!).cps[j]!.id = true := by rw [show m = (idsF (fun c => decide (c.place = 2 ∧ c.pat = (doS s l[k]!).cps[j]!.pat)) (doS s l[k]!).cps).length by omega, List.take_length]; exact anyI_t (loan_mem (at_mem (by omega)) (by omega))
     refine SL.o ?_
     refine SL.as (i' := vB true) 105 rfl (by exact iv_bool hany) ?_
     refine SL.v (O.det (fun _ => G.R.mv (G.R.not rfl) rfl) rfl Taken.no) ?_
     refine E.fo ?_
     refine W.cond_f rfl ?_
     refine W.skip (E.inn (E.to (W.region ?_)))
     refine SL.v (O.ad) ?_
     refine SL.o (SL.nil ?_)
     refine E.ag ((j + 1), (a)) [] ?_ ?_ ?_ ?_
     · exact SubF.au
     · exact SubS.au
     ·try dsimp only
      exact ⟨by omega, by omega⟩
     · (try dsimp only); omega
    refine W.skip (E.inn (E.to (W.region ?_)))
    refine SL.v (O.ad) ?_
    refine SL.o (SL.nil ?_)
    refine E.ag ((j + 1), (a)) [] ?_ ?_ ?_ ?_
    · exact SubF.au
    · exact SubS.au
    ·try dsimp only
     exact ⟨by omega, by omega⟩
    · (try dsimp only); omega
   have hg7p := gP hg7
   refine SL.k hg7 (SL.k hg7 (SL.k hg7 (SL.k hg7 (SL.k hg7 (SL.k hg7 ?_)))))
   refine SL.v (O.pf (G.ne_t hg7)) ?_
   refine SL.o ?_
   have hg13 : false = false := by decide
   refine SL.v (O.idx_ref (i := 0) (m := 1) rfl rfl (by rfl) (by decide) u56 (by kernel_rfl) rfl rfl (Taken.yes rfl rfl hg13)) ?_
   refine SL.v (O.l1 u3 (tY hg13)) ?_
   refine SL.v (O.idx_ref (i := 1) (m := 1) rfl rfl (by rfl) (by decide) u56 (by kernel_rfl) rfl rfl (Taken.yes rfl rfl hg13)) ?_
   refine SL.v (O.l1 u3 (tY hg13)) ?_
   refine SL.v (O.ad (tY hg13)) ?_
   refine SL.v (O.idx_ref (i := 2) (m := 1) rfl rfl (by rfl) (by decide) u56 (by kernel_rfl) rfl rfl (Taken.yes rfl rfl hg13)) ?_
   refine SL.v (O.l1 u3 (tY hg13)) ?_
   refine SL.v (O.ad (tY hg13)) ?_
   refine SL.v (O.det (fun _ => G.R.mv (G.R.lss rfl rfl) (congrArg Value.bool (decide_eq_false (by have := hpl.2; omega)))) rfl (Taken.yes rfl rfl hg13)) ?_
   refine SL.v (O.pf rfl) ?_
   refine E.fo ?_
   refine W.pk [(3,_),(8,_),(10,_),(23,_),(24,_),(25,_),(48,_),(49,_),(50,_),(79,_)] [(101,_),(102,_),(103,_),(104,_),(105,_)] ?_
   refine W.cond_f rfl ?_
   refine W.skip (E.to (W.rg ?_))
   refine SL.v (O.fr 3 0 u55) ?_
   refine SL.v (O.l1 u3) ?_
   refine SL.v (O.eql) ?_
   refine E.fo ?_
   refine W.cc rfl (fun hc14 => ?_) fun hc14 => ?_
   ·refine W.region (SL.o ?_)
    refine SL.v (O.ad) ?_
    refine SL.a (SL.nil (E.inn (E.to (W.region ?_))))
    refine SL.v (O.ad) ?_
    refine SL.o (SL.nil ?_)
    refine E.ag ((j + 1), (a + 1)) [] ?_ ?_ ?_ ?_
    · exact SubF.au
    · exact SubS.au
    ·try dsimp only
     exact ⟨by omega, by omega⟩
    · (try dsimp only); omega
   refine W.rg ?_
   refine SL.v (O.fr 3 0 u55) ?_
   refine SL.v (O.l1 u3) ?_
   refine SL.v (O.eql) ?_
   refine E.fo ?_
   refine W.cc rfl (fun hc15 => ?_) fun hc15 => ?_
   ·refine W.rg (SL.a (E.fo (W.seq (W.rg ?_))))
    refine SL.v (O.n3 u33) ?_
    refine SL.v (O.fr 4 0 u55) ?_
    refine SL.v (O.l1 u3) ?_
    refine SL.v (O.cp (q := loans_h (s := (doS s l[k]!)) (i := (doS s l[k]!).cps[j]!.pat) (by omega)) (o := hcallOk21)) ?_
    refine SL.v (O.le u61) ?_
    refine SL.o (E.fo (W.block ?_))
    refine W.loopx1 (fun (m : Nat) => [(93, vI (m : Int)), (12, vB (anyI ((idsF (fun c => decide (c.place = 2 ∧ c.pat = (doS s l[k]!).cps[j]!.pat)) (doS s l[k]!).cps).take m) (doS s l[k]!).cps[j]!.id))]) (fun (m : Nat) => []) (fun (m : Nat) => m ≤ (idsF (fun c => decide (c.place = 2 ∧ c.pat = (doS s l[k]!).cps[j]!.pat)) (doS s l[k]!).cps).length) (fun (m : Nat) => (idsF (fun c => decide (c.place = 2 ∧ c.pat = (doS s l[k]!).cps[j]!.pat)) (doS s l[k]!).cps).length - m) (0) (rn []) (.cons (t := 3) rfl (.cons (t := 8) rfl (.cons (t := 10) rfl (.cons (t := 23) rfl (.cons (t := 24) rfl (.cons (t := 25) rfl (.cons (t := 48) rfl (.cons (t := 49) rfl (.cons (t := 50) rfl (.cons (t := 91) rfl (.cons (t := 92) rfl .nil))))))))))) (.cons (t := 101) rfl (.cons (t := 102) rfl (.cons (t := 103) rfl (.cons (t := 104) rfl (.cons (t := 105) rfl .nil))))) rfl ?_ ?_ rfl rfl ?_ ?_
    · exact SubF.au
    · exact SubS.nil
    ·omega
    intro m hinv
    have hm := hinv
    refine W.rg ?_
    refine SL.v (O.lss) ?_
    refine E.fo (W.seq ?_)
    refine W.cc rfl (fun hc16 => ?_) fun hc16 => ?_
    ·refine W.skip (E.to (W.seq (W.block (W.rg ?_))))
     refine SL.v (O.ix (i := m) u61 hi3 hs3) ?_
     refine SL.v (O.l1f u3) ?_
     refine SL.a (E.fo (W.region (SL.o (SL.o ?_))))
     refine SL.cs 1 false (fun hg17 => ?_) fun hg17 => ?_
     ·have hg17p := gP hg17
      refine SL.v (O.mo (tY hg17)) ?_
      refine SL.v (O.fr 0 0 u55 (tY hg17)) ?_
      refine SL.v (O.l1 u3 (tY hg17)) ?_
      refine SL.v (O.eql (tY hg17)) ?_
      refine SL.v (O.pf hg17) ?_
      refine SL.a (SL.nil (E.inn (E.to ?_)))
      refine W.pk [(3,_),(8,_),(10,_),(12,_),(23,_),(24,_),(25,_),(48,_),(49,_),(50,_),(91,_),(92,_),(93,_)] [(101,_),(102,_),(103,_),(104,_),(105,_)] ?_
      refine W.region ?_
      refine SL.v (O.ad) ?_
      refine SL.o (SL.nil ?_)
      refine E.ag (m + 1) [] ?_ ?_ ?_ ?_
      · exact (SubF.cons rfl (SubF.val rfl (by (try dsimp only); first | exact iv_bool (by rw [anyI_s (by omega)]; simp_all) | exact iv_bool (by rw [anyI_s (by omega)]; cases anyI ((idsF (fun c => decide (c.place = 2 ∧ c.pat = (doS s l[k]!).cps[j]!.pat)) (doS s l[k]!).cps).take m) (doS s l[k]!).cps[j]!.id <;> simp_all)) (SubF.cons rfl (SubF.cons rfl (SubF.cons rfl (SubF.cons rfl (SubF.cons rfl (SubF.cons rfl (SubF.cons rfl (SubF.cons rfl (SubF.cons rfl (SubF.cons rfl (SubF.cons rfl SubF.nil)))))))))))))
      · exact SubS.au
      ·try dsimp only
       omega
      · (try dsimp only); omega
     have hg17p := gP hg17
     refine SL.k hg17 (SL.k hg17 (SL.k hg17 (SL.k hg17 ?_)))
     refine SL.v (O.pt (G.ne_f hg17)) ?_
     refine SL.a (SL.nil (E.inn (E.to ?_)))
     refine W.pk [(3,_),(8,_),(10,_),(12,_),(23,_),(24,_),(25,_),(48,_),(49,_),(50,_),(91,_),(92,_),(93,_)] [(101,_),(102,_),(103,_),(104,_),(105,_)] ?_
     refine W.region ?_
     refine SL.v (O.ad) ?_
     refine SL.o (SL.nil ?_)
     refine E.ag (m + 1) [] ?_ ?_ ?_ ?_
     · exact (SubF.cons rfl (SubF.val rfl (by (try dsimp only); first | exact iv_bool (by rw [anyI_s (by omega)]; simp_all) | exact iv_bool (by rw [anyI_s (by omega)]; cases anyI ((idsF (fun c => decide (c.place = 2 ∧ c.pat = (doS s l[k]!).cps[j]!.pat)) (doS s l[k]!).cps).take m) (doS s l[k]!).cps[j]!.id <;> simp_all)) (SubF.cons rfl (SubF.cons rfl (SubF.cons rfl (SubF.cons rfl (SubF.cons rfl (SubF.cons rfl (SubF.cons rfl (SubF.cons rfl (SubF.cons rfl (SubF.cons rfl (SubF.cons rfl SubF.nil)))))))))))))
     · exact SubS.au
     ·try dsimp only
      omega
     · (try dsimp only); omega
    refine W.exit (E.th (E.th (E.hit (E.to (W.rg ?_)))))
    have hany : anyI ((idsF (fun c => decide (c.place = 2 ∧ c.pat = (doS s l[k]!).cps[j]!.pat)) (doS s l[k]!).cps).take m) (doS s l[k]!).cps[j]!.id = true := by rw [show m = (idsF (fun c => decide (c.place = 2 ∧ c.pat = (doS s l[k]!).cps[j]!.pat)) (doS s l[k]!).cps).length by omega, List.take_length]; exact anyI_t (loan_mem (at_mem (by omega)) (by omega))
    refine SL.o ?_
    refine SL.as (i' := vB true) 105 rfl (by exact iv_bool hany) ?_
    refine SL.v (O.det (fun _ => G.R.mv (G.R.not rfl) rfl) rfl Taken.no) ?_
    refine E.fo ?_
    refine W.cond_f rfl ?_
    refine W.skip (E.inn (E.to (W.region ?_)))
    refine SL.v (O.ad) ?_
    refine SL.o (SL.nil ?_)
    refine E.ag ((j + 1), (a)) [] ?_ ?_ ?_ ?_
    · exact SubF.au
    · exact SubS.au
    ·try dsimp only
     exact ⟨by omega, by omega⟩
    · (try dsimp only); omega
   refine W.skip (E.inn (E.to (W.region ?_)))
   refine SL.v (O.ad) ?_
   refine SL.o (SL.nil ?_)
   refine E.ag ((j + 1), (a)) [] ?_ ?_ ?_ ?_
   · exact SubF.au
   · exact SubS.au
   ·try dsimp only
    exact ⟨by omega, by omega⟩
   · (try dsimp only); omega
  refine W.exit (E.th (E.th (E.hit (E.to (W.rg (SL.o ?_))))))
  refine SL.v (O.fr 1 0 u33) ?_
  refine SL.v (O.l1 u30) ?_
  refine SL.v (O.le u30) ?_
  refine SL.v (O.det (fun _ => G.R.mv (G.R.gtr rfl rfl) (congrArg Value.bool (decide_eq_false (by omega)))) rfl Taken.no) ?_
  refine E.fo ?_
  refine W.cond_f rfl ?_
  refine W.skip (E.inn (E.to (W.region ?_)))
  refine SL.v (O.ad) ?_
  refine SL.o (SL.nil ?_)
  refine E.ag ((k + 1), ((doS s l[k]!))) [] ?_ ?_ ?_ ?_
  · exact SubF.au
  · exact SubS.au
  ·try dsimp only
   omega
  · (try dsimp only); omega
 refine W.exit (E.th (E.th (E.hit (E.to (W.rg (SL.a (E.fo (W.ret ?_))))))))
 refine E.f1 [] ?_ ?_
 ·rfl
 · exact SubS.nil

end Go.Proofs.YtmekkjehkcjpdaaGreat
end
