/-
  One step after the other on the open sessions.
-/
import Derived.Test.YtoebjajbmkdcfaaP51
namespace Go.D51
open Go Go.RowKit Go.H
structure Opr where
  kind : Int
  num : Int
  pg : Int
  by_ : Int
  s : Sess
instance : Inhabited Opr := ⟨⟨0, 0, 0, 0, default⟩⟩
def nowD (st : Store) (o : Opr) : Int := st.time + min (max o.by_ (-1)) 1000000
def tm (st : Store) : Prop := 0 ≤ st.time ∧ st.time ≤ 1000000
def doS (st : Store) (o : Opr) : Store := if o.kind = 0 then opnS st o.s (nowD st o) else if o.kind = 1 then getS st o.num (nowD st o) else clsS st o.num (nowD st o)
def doN (st : Store) (o : Opr) : Int := if o.kind = 0 then opnN st o.s (nowD st o) else 0
def doQ (st : Store) (o : Opr) : List Hit := if o.kind = 1 then getQ st o.num o.pg (nowD st o) else []
def doE (st : Store) (o : Opr) : Int := if o.kind = 0 then opnE st o.s (nowD st o) else if o.kind = 1 then getE st o.num o.pg (nowD st o) else clsE st o.num (nowD st o)
theorem do_0 {st : Store} {o : Opr} (h : o.kind = 0) : doS st o = opnS st o.s (nowD st o) ∧ doN st o = opnN st o.s (nowD st o) ∧ doQ st o = [] ∧ doE st o = opnE st o.s (nowD st o) := ⟨if_pos h, if_pos h, if_neg (by omega), if_pos h⟩
theorem do_1 {st : Store} {o : Opr} (h : o.kind = 1) : doS st o = getS st o.num (nowD st o) ∧ doN st o = 0 ∧ doQ st o = getQ st o.num o.pg (nowD st o) ∧ doE st o = getE st o.num o.pg (nowD st o) := ⟨by rw [doS, if_neg (by omega), if_pos h], if_neg (by omega), if_pos h, by rw [doE, if_neg (by omega), if_pos h]⟩
theorem do_2 {st : Store} {o : Opr} (h : o.kind ≠ 0) (k : o.kind ≠ 1) : doS st o = clsS st o.num (nowD st o) ∧ doN st o = 0 ∧ doQ st o = [] ∧ doE st o = clsE st o.num (nowD st o) := ⟨by rw [doS, if_neg h, if_neg k], if_neg h, if_neg k, by rw [doE, if_neg h, if_neg k]⟩
/-- Every step that is accepted leaves a valid store. -/
theorem do_valid {st : Store} {o : Opr} (h : doE st o ≠ 1) : right st (nowD st o) ∧ validSt (doS st o) := by
  by_cases k0 : o.kind = 0
  · rw [(do_0 k0).1]; rw [(do_0 k0).2.2.2] at h
    exact ⟨(opn_ok h).1, opn_valid h⟩
  · by_cases k1 : o.kind = 1
    · rw [(do_1 k1).1]; rw [(do_1 k1).2.2.2] at h
      have hr : right st (nowD st o) := Decidable.byContradiction fun n => h (get_1 n).1
      exact ⟨hr, get_valid hr⟩
    · rw [(do_2 k0 k1).1]; rw [(do_2 k0 k1).2.2.2] at h
      have hr : right st (nowD st o) := Decidable.byContradiction fun n => h (cls_1 n).1
      exact ⟨hr, cls_valid hr⟩
theorem Sess.ext {a b : Sess} (h1 : a.size = b.size) (h2 : a.items = b.items) : a = b := by cases a; cases b; simp_all
instance : DecidableEq Sess := fun a b => if h : a.size = b.size ∧ a.items = b.items then .isTrue (Sess.ext h.1 h.2) else .isFalse fun e => h (by subst e; exact ⟨rfl, rfl⟩)
theorem Opn.ext {a b : Opn} (h1 : a.num = b.num) (h2 : a.used = b.used) (h3 : a.s.size = b.s.size) (h4 : a.s.items = b.s.items) : a = b := by
  have := Sess.ext h3 h4
  cases a; cases b; simp_all
instance : DecidableEq Opn := fun a b => if h : a.num = b.num ∧ a.used = b.used ∧ a.s.size = b.s.size ∧ a.s.items = b.s.items then .isTrue (Opn.ext h.1 h.2.1 h.2.2.1 h.2.2.2) else .isFalse fun e => h (by subst e; exact ⟨rfl, rfl, rfl, rfl⟩)
theorem Store.ext {a b : Store} (h1 : a.next = b.next) (h2 : a.time = b.time) (h3 : a.opn = b.opn) : a = b := by cases a; cases b; simp_all
instance : DecidableEq Store := fun a b => if h : a.next = b.next ∧ a.time = b.time ∧ a.opn = b.opn then .isTrue (Store.ext h.1 h.2.1 h.2.2) else .isFalse fun e => h (by subst e; exact ⟨rfl, rfl, rfl⟩)
def fewO (l : List Opr) : Prop := l.length ≤ 60 ∧ ∀ i, i < l.length → l[i]!.s.items.length ≤ 12
instance (l : List Opr) : Decidable (fewO l) := by unfold fewO; infer_instance
/-! ### The example -/
def exL : List Hit := [⟨9, 0⟩, ⟨3, 0⟩, ⟨4, 0⟩, ⟨8, 0⟩, ⟨7, 0⟩]
def exS : Sess := ⟨2, exL⟩
theorem ex_valid : validS exS := by decide
theorem ex_start : startE exL 2 = 0 ∧ startS exL 2 = exS := start_0 ex_valid
theorem ex_pages : pagesN exS = 3 := by decide
theorem ex_find : findE exS 7 = 0 ∧ findP exS 7 = 3 ∧ findK exS 7 = 0 := by decide
theorem ex_show : showQ exS 3 [⟨7, 3⟩] = [⟨7, 0, 3, true⟩] ∧ showE exS 3 [⟨7, 3⟩] = 0 := by
  have h : showE exS 3 [⟨7, 3⟩] = 0 := by decide
  exact ⟨by rw [showQ, if_pos h]; rfl, h⟩
theorem ex_opn : opnE newSt exS 5 = 0 ∧ opnN newSt exS 5 = 1 ∧ opnS newSt exS 5 = ⟨2, 5, [⟨1, 5, exS⟩]⟩ := by decide
theorem ex_leads : validL [] := by decide
/-! ### Idle -/
theorem new_right {a : Int} (h : 0 ≤ a) (k : a ≤ 1000000) : right newSt a := ⟨new_valid, h, k⟩
theorem new_opn {s : Sess} {a : Int} (hv : validS s) (h : 0 ≤ a) (k : a ≤ 1000000) : opnE newSt s a = 0 ∧ opnN newSt s a = 1 ∧ opnS newSt s a = ⟨2, a, [⟨1, a, s⟩]⟩ :=
  opn_0 (st := newSt) ⟨new_right h k, hv⟩ (by show ¬ ((0 : Nat) = 50 ∨ (1 : Int) = 1000000000); decide)
theorem idle_right {s : Sess} {a b : Int} (hv : validS s) (h : 0 ≤ a) (hb : 0 ≤ b) (k : a + b ≤ 1000000) : right ⟨2, a, [⟨1, a, s⟩]⟩ (a + b) := by
  have h1 := new_opn hv h (by omega)
  have := opn_valid (st := newSt) (s := s) (now := a) (by rw [h1.1]; decide)
  rw [h1.2.2] at this
  exact ⟨this, by show a ≤ a + b; omega, k⟩
theorem idle_no {s : Sess} {a b i : Int} (hv : validS s) (h : 0 ≤ a) (hb : 30 < b) (k : a + b ≤ 1000000) : getE ⟨2, a, [⟨1, a, s⟩]⟩ 1 i (a + b) = 9 ∧ clsE ⟨2, a, [⟨1, a, s⟩]⟩ 1 (a + b) = 9 := by
  have hr := idle_right hv h (b := b) (by omega) k
  have hq : laterQ ⟨2, a, [⟨1, a, s⟩]⟩ (a + b) = [] := by
    unfold laterQ liveO
    rw [List.filter_cons, if_neg (by rw [decide_eq_true_eq]; show ¬ a + b - 30 ≤ a; omega)]; rfl
  have hx : atO ⟨2, a, [⟨1, a, s⟩]⟩ 1 (a + b) = -1 := by rw [atO, hq]; rfl
  exact ⟨(get_9 (i := i) hr (by omega)).1, (cls_9 hr (by omega)).1⟩
theorem idle_yes {s : Sess} {a b i : Int} (hv : validS s) (h : 0 ≤ a) (hb : 0 ≤ b) (hb2 : b ≤ 30) (k : a + b ≤ 1000000) : getE ⟨2, a, [⟨1, a, s⟩]⟩ 1 i (a + b) = pageE s i ∧ clsE ⟨2, a, [⟨1, a, s⟩]⟩ 1 (a + b) = 0 := by
  have hr := idle_right hv h (b := b) (by omega) k
  have hq : laterQ ⟨2, a, [⟨1, a, s⟩]⟩ (a + b) = [⟨1, a, s⟩] := by
    unfold laterQ liveO
    rw [List.filter_cons, if_pos (by rw [decide_eq_true_eq]; show a + b - 30 ≤ a; omega)]; rfl
  have hx : atO ⟨2, a, [⟨1, a, s⟩]⟩ 1 (a + b) = 0 := by rw [atO, hq]; rfl
  refine ⟨?_, (cls_0 hr (by omega)).1⟩
  rw [(get_0 (i := i) hr (by omega)).1, hx, hq]; rfl
theorem page_one {s : Sess} (hv : validS s) : pageE s 1 = 0 ∨ (pageE s 1 = 23 ∧ s.items.length = 0) := by
  by_cases c : 0 < nP s
  · exact .inl (page_in hv c).1
  · have h1 := mt (nP_iff hv.1.1 0).2 (by omega)
    exact .inr ⟨(page_23 (i := 1) hv (by omega)).1, by omega⟩
/-! ### Lengths -/
theorem showQ_len (s : Sess) (i : Int) (l : List Lead) : (showQ s i l).length ≤ s.items.length := by
  unfold showQ
  split
  · rw [outK_len]; exact pageQ_len s i
  · exact Nat.zero_le _
theorem opnS_len (st : Store) (s : Sess) (now : Int) : (opnS st s now).opn.length ≤ st.opn.length + 1 := by
  have := laterQ_len st now
  unfold opnS later
  split
  · exact Nat.zero_le _
  · split
    · exact Nat.le_succ_of_le this
    · show (laterQ st now ++ [_]).length ≤ _
      rw [List.length_append, List.length_singleton]; omega
theorem getS_len (st : Store) (num now : Int) : (getS st num now).opn.length ≤ st.opn.length := by
  have := laterQ_len st now
  unfold getS later
  split
  · exact Nat.zero_le _
  · split
    · exact this
    · show ((laterQ st now).set _ _).length ≤ _
      rw [List.length_set]; exact this
theorem clsS_len (st : Store) (num now : Int) : (clsS st num now).opn.length ≤ st.opn.length + 1 := by
  have := laterQ_len st now
  unfold clsS later
  split
  · exact Nat.zero_le _
  · split
    · exact Nat.le_succ_of_le this
    · show ((laterQ st now).take _ ++ (laterQ st now).drop _).length ≤ _
      rw [List.length_append, List.length_take, List.length_drop]; omega
end Go.D51
