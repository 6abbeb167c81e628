/-
  Stores of open sessions.
-/
import Derived.Test.YtoebjajbmkdcfaaM51
namespace Go.D51
open Go Go.RowKit Go.H
def okO (st : Store) (o : Opn) : Prop := 1 ≤ o.num ∧ o.num < st.next ∧ 0 ≤ o.used ∧ st.time - 30 ≤ o.used ∧ o.used ≤ st.time ∧ validS o.s
instance (st : Store) (o : Opn) : Decidable (okO st o) := by unfold okO; infer_instance
def okN (st : Store) (i : Nat) : Prop := okO st st.opn[i]! ∧ (0 < i → st.opn[i - 1]!.num < st.opn[i]!.num)
instance (st : Store) (i : Nat) : Decidable (okN st i) := by unfold okN; infer_instance
def validSt (st : Store) : Prop := (1 ≤ st.next ∧ st.next ≤ 1000000000 ∧ 0 ≤ st.time ∧ st.time ≤ 1000000 ∧ st.opn.length ≤ 50) ∧ ∀ i, i < st.opn.length → okN st i
instance (st : Store) : Decidable (validSt st) := by unfold validSt; infer_instance
theorem okN_step {l : Store} {k : Nat} (h : ∀ j, j < k → okN l j) (hb : okN l k) : ∀ j, j < k + 1 → okN l j := fun j hj => by
  rcases Nat.lt_succ_iff_lt_or_eq.1 hj with h1 | h1
  · exact h j h1
  · subst h1; exact hb
theorem validSt_no {st : Store} {k : Nat} (hk : k < st.opn.length) (hb : ¬ okN st k) : decide (validSt st) = false := decide_eq_false fun h => hb (h.2 k hk)
theorem num_lt {st : Store} (h : ∀ i, i < st.opn.length → okN st i) : ∀ {j i : Nat}, i < j → j < st.opn.length → st.opn[i]!.num < st.opn[j]!.num
  | 0, _, hi, _ => by omega
  | j + 1, i, hi, hj => by
    have h1 := (h (j + 1) hj).2 (by omega)
    rw [Nat.add_sub_cancel] at h1
    by_cases e : i = j
    · subst e; exact h1
    · have := num_lt h (show i < j by omega) (by omega); omega
/-- As lists say it. -/
theorem valid_pw (st : Store) : (∀ i, i < st.opn.length → okN st i) ↔ (∀ o ∈ st.opn, okO st o) ∧ st.opn.Pairwise (fun a b => a.num < b.num) := by
  constructor
  · intro h
    refine ⟨fun o ho => ?_, ?_⟩
    · obtain ⟨i, hi, rfl⟩ := List.getElem_of_mem ho
      have := (h i hi).1
      rwa [getElem!_pos st.opn i hi] at this
    · rw [List.pairwise_iff_getElem]
      intro i j hi hj hij
      have := num_lt h hij hj
      rwa [getElem!_pos st.opn i hi, getElem!_pos st.opn j hj] at this
  · rintro ⟨h1, h2⟩ i hi
    refine ⟨h1 _ (by rw [getElem!_pos st.opn i hi]; exact List.getElem_mem _), fun h0 => ?_⟩
    rw [List.pairwise_iff_getElem] at h2
    have := h2 (i - 1) i (by omega) hi (by omega)
    rwa [getElem!_pos st.opn i hi, getElem!_pos st.opn (i - 1) (by omega)]
def right (st : Store) (now : Int) : Prop := validSt st ∧ st.time ≤ now ∧ now ≤ 1000000
instance (st : Store) (now : Int) : Decidable (right st now) := by unfold right; infer_instance
def liveO (now : Int) (o : Opn) : Bool := decide (now - 30 ≤ o.used)
def laterQ (st : Store) (now : Int) : List Opn := st.opn.filter (liveO now)
def later (st : Store) (now : Int) : Store := ⟨st.next, now, laterQ st now⟩
def zeroSt : Store := ⟨0, 0, []⟩
theorem later_valid {st : Store} {now : Int} (h : right st now) : validSt (later st now) := by
  obtain ⟨⟨h1, h2⟩, h3, h4⟩ := h
  obtain ⟨q1, q2⟩ := (valid_pw st).1 h2
  have hl : (laterQ st now).length ≤ st.opn.length := List.length_filter_le _ _
  refine ⟨⟨h1.1, h1.2.1, show 0 ≤ now by omega, h4, by show (laterQ st now).length ≤ 50; omega⟩, (valid_pw _).2 ⟨fun o ho => ?_, q2.filter _⟩⟩
  obtain ⟨m1, m2⟩ := List.mem_filter.1 ho
  have := q1 o m1
  have m2 := of_decide_eq_true m2
  unfold okO at *
  simp only [later]
  refine ⟨this.1, this.2.1, this.2.2.1, m2, by omega, this.2.2.2.2.2⟩
/-! ### Opening -/
def opnE (st : Store) (s : Sess) (now : Int) : Int := if ¬ (right st now ∧ validS s) then 1 else if (laterQ st now).length = 50 ∨ st.next = 1000000000 then 20 else 0
def opnN (st : Store) (s : Sess) (now : Int) : Int := if opnE st s now = 0 then st.next else 0
def opnS (st : Store) (s : Sess) (now : Int) : Store := if opnE st s now = 1 then zeroSt else if opnE st s now = 20 then later st now else ⟨st.next + 1, now, laterQ st now ++ [⟨st.next, now, s⟩]⟩
theorem opn_1 {st : Store} {s : Sess} {now : Int} (h : ¬ (right st now ∧ validS s)) : opnE st s now = 1 ∧ opnN st s now = 0 ∧ opnS st s now = zeroSt := by
  have e : opnE st s now = 1 := by rw [opnE, if_pos h]
  exact ⟨e, by rw [opnN, e, if_neg (by decide)], by rw [opnS, e, if_pos rfl]⟩
theorem opn_20 {st : Store} {s : Sess} {now : Int} (h : right st now ∧ validS s) (k : (laterQ st now).length = 50 ∨ st.next = 1000000000) : opnE st s now = 20 ∧ opnN st s now = 0 ∧ opnS st s now = later st now := by
  have e : opnE st s now = 20 := by rw [opnE, if_neg (fun n => n h), if_pos k]
  exact ⟨e, by rw [opnN, e, if_neg (by decide)], by rw [opnS, e, if_neg (by decide), if_pos rfl]⟩
theorem opn_0 {st : Store} {s : Sess} {now : Int} (h : right st now ∧ validS s) (k : ¬ ((laterQ st now).length = 50 ∨ st.next = 1000000000)) : opnE st s now = 0 ∧ opnN st s now = st.next ∧ opnS st s now = ⟨st.next + 1, now, laterQ st now ++ [⟨st.next, now, s⟩]⟩ := by
  have e : opnE st s now = 0 := by rw [opnE, if_neg (fun n => n h), if_neg k]
  exact ⟨e, by rw [opnN, e, if_pos rfl], by rw [opnS, e, if_neg (by decide), if_neg (by decide)]⟩
theorem opn_ok {st : Store} {s : Sess} {now : Int} (h : opnE st s now ≠ 1) : right st now ∧ validS s := Decidable.byContradiction fun n => h (opn_1 n).1
theorem opn_valid {st : Store} {s : Sess} {now : Int} (h : opnE st s now ≠ 1) : validSt (opnS st s now) := by
  have hr := opn_ok h
  have hv := later_valid hr.1
  by_cases k : (laterQ st now).length = 50 ∨ st.next = 1000000000
  · rw [(opn_20 hr k).2.2]; exact hv
  · rw [(opn_0 hr k).2.2]
    obtain ⟨h1, h2⟩ := hv
    obtain ⟨q1, q2⟩ := (valid_pw _).1 h2
    have h3 := hr.1.1.1
    simp only [later] at h1 q1 q2
    refine ⟨⟨by show 1 ≤ st.next + 1; omega, by show st.next + 1 ≤ 1000000000; omega, h1.2.2.1, h1.2.2.2.1, ?_⟩, (valid_pw _).2 ⟨fun o ho => ?_, ?_⟩⟩
    · show (laterQ st now ++ [(⟨st.next, now, s⟩ : Opn)]).length ≤ 50
      rw [List.length_append]; simp; omega
    · rcases List.mem_append.1 ho with ho | ho
      · have := q1 o ho
        unfold okO at *
        simp only at this ⊢
        exact ⟨this.1, by omega, this.2.2⟩
      · simp at ho; subst ho
        exact ⟨h3.1, by show st.next < st.next + 1; omega, by show 0 ≤ now; omega, by show now - 30 ≤ now; omega, Int.le_refl _, hr.2⟩
    · rw [List.pairwise_append]
      exact ⟨q2, by simp, fun a ha b hb => by simp at hb; subst hb; exact (q1 a ha).2.1⟩
/-! ### Asking -/
def atO (st : Store) (num now : Int) : Int := idxF (fun o => decide (o.num = num)) (laterQ st now)
def usedNow (now : Int) (o : Opn) : Opn := { o with used := now }
def getE (st : Store) (num i now : Int) : Int := if ¬ right st now then 1 else if atO st num now < 0 then 9 else pageE (laterQ st now)[(atO st num now).toNat]!.s i
def getQ (st : Store) (num i now : Int) : List Hit := if ¬ right st now then [] else if atO st num now < 0 then [] else pageQ (laterQ st now)[(atO st num now).toNat]!.s i
def getS (st : Store) (num now : Int) : Store := if ¬ right st now then zeroSt else if atO st num now < 0 then later st now else ⟨st.next, now, (laterQ st now).set (atO st num now).toNat (usedNow now (laterQ st now)[(atO st num now).toNat]!)⟩
theorem get_1 {st : Store} {num i now : Int} (h : ¬ right st now) : getE st num i now = 1 ∧ getQ st num i now = [] ∧ getS st num now = zeroSt := ⟨by rw [getE, if_pos h], by rw [getQ, if_pos h], by rw [getS, if_pos h]⟩
theorem get_9 {st : Store} {num i now : Int} (h : right st now) (k : atO st num now < 0) : getE st num i now = 9 ∧ getQ st num i now = [] ∧ getS st num now = later st now := ⟨by rw [getE, if_neg (fun n => n h), if_pos k], by rw [getQ, if_neg (fun n => n h), if_pos k], by rw [getS, if_neg (fun n => n h), if_pos k]⟩
theorem get_0 {st : Store} {num i now : Int} (h : right st now) (k : ¬ atO st num now < 0) : getE st num i now = pageE (laterQ st now)[(atO st num now).toNat]!.s i ∧ getQ st num i now = pageQ (laterQ st now)[(atO st num now).toNat]!.s i ∧
    getS st num now = ⟨st.next, now, (laterQ st now).set (atO st num now).toNat (usedNow now (laterQ st now)[(atO st num now).toNat]!)⟩ := ⟨by rw [getE, if_neg (fun n => n h), if_neg k], by rw [getQ, if_neg (fun n => n h), if_neg k], by rw [getS, if_neg (fun n => n h), if_neg k]⟩
theorem at_lt {st : Store} {num now : Int} (k : ¬ atO st num now < 0) : (atO st num now).toNat < (laterQ st now).length ∧ (laterQ st now)[(atO st num now).toNat]!.num = num := by
  obtain ⟨h1, h2, _⟩ := idxF_spec (p := fun o : Opn => decide (o.num = num)) (l := laterQ st now) (show 0 ≤ atO st num now by omega)
  exact ⟨h1, of_decide_eq_true h2⟩
theorem get_valid {st : Store} {num now : Int} (h : right st now) : validSt (getS st num now) := by
  have hv := later_valid h
  by_cases k : atO st num now < 0
  · rw [getS, if_neg (fun n => n h), if_pos k]; exact hv
  · rw [getS, if_neg (fun n => n h), if_neg k]
    obtain ⟨hp, _⟩ := at_lt k
    obtain ⟨h1, h2⟩ := hv
    simp only [later] at h1
    have hl : ((laterQ st now).set (atO st num now).toNat (usedNow now (laterQ st now)[(atO st num now).toNat]!)).length = (laterQ st now).length := List.length_set
    refine ⟨⟨h1.1, h1.2.1, h1.2.2.1, h1.2.2.2.1, by show List.length _ ≤ 50; rw [hl]; exact h1.2.2.2.2⟩, fun i hi => ?_⟩
    replace hi : i < (laterQ st now).length := by rw [← hl]; exact hi
    have key : ∀ j, j < (laterQ st now).length → ((laterQ st now).set (atO st num now).toNat (usedNow now (laterQ st now)[(atO st num now).toNat]!))[j]! = if (atO st num now).toNat = j then usedNow now (laterQ st now)[j]! else (laterQ st now)[j]! := fun j hj => by
      rw [getElem!_pos _ j (by rw [hl]; exact hj), getElem!_pos _ j hj, List.getElem_set]
      split
      · rename_i e; subst e; rw [getElem!_pos (laterQ st now) _ hj]
      · rfl
    have g := h2 i hi
    unfold okN okO at *
    simp only [later] at g ⊢
    rw [key i hi]
    refine ⟨?_, fun h0 => ?_⟩
    · split
      · exact ⟨g.1.1, g.1.2.1, h1.2.2.1, by show now - 30 ≤ now; omega, Int.le_refl _, g.1.2.2.2.2.2⟩
      · exact g.1
    · rw [key (i - 1) (by omega)]
      have := g.2 h0
      split <;> split <;> exact this
/-! ### Closing -/
def clsE (st : Store) (num now : Int) : Int := if ¬ right st now then 1 else if atO st num now < 0 then 9 else 0
def clsS (st : Store) (num now : Int) : Store := if ¬ right st now then zeroSt else if atO st num now < 0 then later st now else ⟨st.next, now, (laterQ st now).take (atO st num now).toNat ++ (laterQ st now).drop ((atO st num now).toNat + 1)⟩
theorem cls_1 {st : Store} {num now : Int} (h : ¬ right st now) : clsE st num now = 1 ∧ clsS st num now = zeroSt := ⟨by rw [clsE, if_pos h], by rw [clsS, if_pos h]⟩
theorem cls_9 {st : Store} {num now : Int} (h : right st now) (k : atO st num now < 0) : clsE st num now = 9 ∧ clsS st num now = later st now := ⟨by rw [clsE, if_neg (fun n => n h), if_pos k], by rw [clsS, if_neg (fun n => n h), if_pos k]⟩
theorem cls_0 {st : Store} {num now : Int} (h : right st now) (k : ¬ atO st num now < 0) : clsE st num now = 0 ∧ clsS st num now = ⟨st.next, now, (laterQ st now).take (atO st num now).toNat ++ (laterQ st now).drop ((atO st num now).toNat + 1)⟩ := ⟨by rw [clsE, if_neg (fun n => n h), if_neg k], by rw [clsS, if_neg (fun n => n h), if_neg k]⟩
theorem cls_valid {st : Store} {num now : Int} (h : right st now) : validSt (clsS st num now) := by
  have hv := later_valid h
  by_cases k : atO st num now < 0
  · rw [(cls_9 h k).2]; exact hv
  · rw [(cls_0 h k).2]
    obtain ⟨h1, h2⟩ := hv
    obtain ⟨q1, q2⟩ := (valid_pw _).1 h2
    simp only [later] at h1 q1 q2
    have hs : ((laterQ st now).take (atO st num now).toNat ++ (laterQ st now).drop ((atO st num now).toNat + 1)).Sublist (laterQ st now) := by
      have h3 := List.Sublist.append (List.Sublist.refl ((laterQ st now).take (atO st num now).toNat)) (List.drop_sublist 1 ((laterQ st now).drop (atO st num now).toNat))
      rw [List.drop_drop, List.take_append_drop] at h3
      exact h3
    refine ⟨⟨h1.1, h1.2.1, h1.2.2.1, h1.2.2.2.1, Nat.le_trans hs.length_le h1.2.2.2.2⟩, (valid_pw _).2 ⟨fun o ho => q1 o (hs.subset ho), q2.sublist hs⟩⟩
/-! ### Starting -/
def startE (l : List Hit) (size : Int) : Int := if 2000 < l.length then 3 else if ¬ validS ⟨size, l⟩ then 1 else 0
def startS (l : List Hit) (size : Int) : Sess := if startE l size = 0 then ⟨size, l⟩ else ⟨0, []⟩
theorem start_3 {l : List Hit} {size : Int} (h : 2000 < l.length) : startE l size = 3 ∧ startS l size = ⟨0, []⟩ := by
  have e : startE l size = 3 := by rw [startE, if_pos h]
  exact ⟨e, by rw [startS, e, if_neg (by decide)]⟩
theorem start_1 {l : List Hit} {size : Int} (h : ¬ 2000 < l.length) (k : ¬ validS ⟨size, l⟩) : startE l size = 1 ∧ startS l size = ⟨0, []⟩ := by
  have e : startE l size = 1 := by rw [startE, if_neg h, if_pos k]
  exact ⟨e, by rw [startS, e, if_neg (by decide)]⟩
theorem start_0 {l : List Hit} {size : Int} (k : validS ⟨size, l⟩) : startE l size = 0 ∧ startS l size = ⟨size, l⟩ := by
  have h2 : l.length ≤ 2000 := k.1.2.2
  have e : startE l size = 0 := by rw [startE, if_neg (by omega), if_neg (fun n => n k)]
  exact ⟨e, by rw [startS, e, if_pos rfl]⟩
theorem start_ok {l : List Hit} {size : Int} (h : startE l size = 0) : validS ⟨size, l⟩ := by
  unfold startE at h
  split at h
  · cases h
  · split at h
    · cases h
    · exact Decidable.not_not.1 ‹_›
/-! ### The pages, one after the other -/
theorem ixS_at {s : Sess} (h : validS s) {i : Nat} (hi : i < s.items.length) : ixS s s.items[i]!.id = i :=
  idxF_here hi (fun j hj => decide_eq_false ((h.2 i hi).2.2.2 j hj)) (decide_eq_true rfl)
theorem page_app (s : Sess) (i : Nat) : s.items.take (i * s.size.toNat) ++ chunk s i = s.items.take ((i + 1) * s.size.toNat) := by
  rw [Nat.add_mul, Nat.one_mul, List.take_add, chunk]
theorem pages_all {s : Sess} (h : 1 ≤ s.size) : s.items.take (nP s * s.size.toNat) = s.items := by
  apply List.take_of_length_le
  have := mt (nP_iff h (nP s)).2 (by omega)
  omega
theorem page_in {s : Sess} (h : validS s) {i : Nat} (hi : i < nP s) : pageE s ((i : Int) + 1) = 0 ∧ pageQ s ((i : Int) + 1) = chunk s i := by
  obtain ⟨a, b⟩ := page_0 (s := s) (i := (i : Int) + 1) h (by omega)
  exact ⟨a, by rw [b, show ((i : Int) + 1 - 1).toNat = i by omega]⟩
theorem chunk_full {s : Sess} (h : 1 ≤ s.size) {i : Nat} (hi : i < nP s) : 0 < (chunk s i).length ∧ (chunk s i).length ≤ s.size.toNat ∧ (i + 1 < nP s → (chunk s i).length = s.size.toNat) := by
  have h1 := (nP_iff h i).1 hi
  rw [chunk_len]
  refine ⟨by omega, by omega, fun h2 => ?_⟩
  have h3 := (nP_iff h (i + 1)).1 h2
  rw [Nat.add_mul, Nat.one_mul] at h3
  omega
theorem find_in {s : Sess} (h : validS s) {i k : Nat} (hi : i < nP s) (hk : k < (chunk s i).length) : findE s (chunk s i)[k]!.id = 0 ∧ findP s (chunk s i)[k]!.id = (i : Int) + 1 ∧ findK s (chunk s i)[k]!.id = k := by
  have h1 := (nP_iff h.1.1 i).1 hi
  have h2 := chunk_len s i
  have h3 := ixS_at h (i := i * s.size.toNat + k) (by omega)
  rw [← chunk_get hk] at h3
  have hs := h.1.1
  obtain ⟨a, b, c⟩ := find_0 (id := (chunk s i)[k]!.id) h (by rw [h3]; omega)
  obtain ⟨m, hm⟩ : ∃ m : Nat, s.size = m := ⟨s.size.toNat, by omega⟩
  have hm2 : s.size.toNat = m := by omega
  rw [hm2] at h2 h3
  rw [hm] at hs
  refine ⟨a, ?_, ?_⟩
  · rw [b, h3, hm, ← Int.natCast_ediv, Nat.add_comm (i * _) k, Nat.add_mul_div_right _ _ (by omega), Nat.div_eq_of_lt (by omega)]; omega
  · rw [c, h3, hm, ← Int.natCast_emod, Nat.add_comm (i * _) k, Nat.add_mul_mod_self_right, Nat.mod_eq_of_lt (by omega)]
theorem out_app (s : Sess) (l : List Lead) (a b : Nat) : outK s l 0 a ++ outK s l a b = outK s l 0 (a + b) := by
  unfold outK
  rw [← List.map_append, ← List.range'_append_1, Nat.zero_add]
theorem out_get {s : Sess} {l : List Lead} {n k : Nat} (h : k < n) : (outK s l 0 n)[k]! = entryAt s l k := by
  rw [getElem!_pos _ k (by rw [outK_len]; exact h)]; simp [outK]
def earK (s : Sess) (l : List Lead) (i : Nat) : Nat → Bool
  | 0 => false
  | k + 1 => earK s l i k || (decide (nowF s l k = nowF s l i) && decide (nowF s l i ≠ 0))
theorem earK_all (s : Sess) (l : List Lead) (i : Nat) : earK s l i i = againB s l i := by
  have key : ∀ n, earK s l i n = agK s l i n := fun n => by
    induction n with
    | zero => rfl
    | succ n ih => rw [earK, agK, ih, Bool.and_comm]
  rw [key, agK_all]
/-! ### A session that is used -/
def newSt : Store := ⟨1, 0, []⟩
theorem new_valid : validSt newSt := by decide
def has (st : Store) (n : Int) (s : Sess) : Prop := ∃ o ∈ st.opn, o.num = n ∧ o.s = s
theorem num_uniq {st : Store} (h : validSt st) {a b : Opn} (ha : a ∈ st.opn) (hb : b ∈ st.opn) (e : a.num = b.num) : a = b := by
  obtain ⟨i, hi, rfl⟩ := List.getElem_of_mem ha
  obtain ⟨j, hj, rfl⟩ := List.getElem_of_mem hb
  rcases Nat.lt_trichotomy i j with c | c | c
  · have := num_lt h.2 c hj
    rw [getElem!_pos _ i hi, getElem!_pos _ j hj] at this; omega
  · subst c; rfl
  · have := num_lt h.2 c hi
    rw [getElem!_pos _ i hi, getElem!_pos _ j hj] at this; omega
/-- Found where it lies. -/
theorem at_has {st : Store} {now n : Int} {s : Sess} (hr : right st now) (h : has (later st now) n s) : ¬ atO st n now < 0 ∧ (laterQ st now)[(atO st n now).toNat]!.s = s ∧ (laterQ st now)[(atO st n now).toNat]!.num = n := by
  obtain ⟨o, h1, h2, h3⟩ := h
  have h1' : o ∈ laterQ st now := h1
  have hn : ¬ atO st n now < 0 := fun e => by
    obtain ⟨i, hi, rfl⟩ := List.getElem_of_mem h1'
    have := idxF_neg e i hi
    rw [getElem!_pos _ i hi] at this
    exact of_decide_eq_false this h2
  obtain ⟨q1, q2⟩ := at_lt hn
  have hm : (laterQ st now)[(atO st n now).toNat]! ∈ (later st now).opn := by rw [getElem!_pos (laterQ st now) _ q1]; exact List.getElem_mem _
  have := num_uniq (later_valid hr) hm h1 (q2.trans h2.symm)
  exact ⟨hn, by rw [this]; exact h3, q2⟩
theorem has_later {st : Store} {now n : Int} {s : Sess} (_ : right st now) (h : ∃ o ∈ st.opn, o.num = n ∧ o.s = s ∧ now - 30 ≤ o.used) : has (later st now) n s := by
  obtain ⟨o, h1, h2, h3, h4⟩ := h
  exact ⟨o, List.mem_filter.2 ⟨h1, decide_eq_true h4⟩, h2, h3⟩
theorem has_self {st : Store} {n : Int} {s : Sess} (hv : validSt st) (h : has st n s) : right st st.time ∧ has (later st st.time) n s := by
  have hr : right st st.time := ⟨hv, Int.le_refl _, hv.1.2.2.2.1⟩
  obtain ⟨o, h1, h2, h3⟩ := h
  exact ⟨hr, has_later hr ⟨o, h1, h2, h3, (((valid_pw st).1 hv.2).1 o h1).2.2.2.1⟩⟩
theorem has_opn {st : Store} {s' : Sess} {now n : Int} {s : Sess} (h : opnE st s' now ≠ 1) (hh : has (later st now) n s) : has (opnS st s' now) n s := by
  have hr := opn_ok h
  by_cases k : (laterQ st now).length = 50 ∨ st.next = 1000000000
  · rw [(opn_20 hr k).2.2]; exact hh
  · rw [(opn_0 hr k).2.2]
    obtain ⟨o, h1, h2⟩ := hh
    exact ⟨o, List.mem_append_left _ h1, h2⟩
theorem has_get {st : Store} {num now n : Int} {s : Sess} (hr : right st now) (hh : has (later st now) n s) : has (getS st num now) n s := by
  by_cases k : atO st num now < 0
  · rw [getS, if_neg (fun n => n hr), if_pos k]; exact hh
  · rw [getS, if_neg (fun n => n hr), if_neg k]
    obtain ⟨o, h1, h2, h3⟩ := hh
    have h1' : o ∈ laterQ st now := h1
    obtain ⟨i, hi, rfl⟩ := List.getElem_of_mem h1'
    by_cases c : (atO st num now).toNat = i
    · refine ⟨usedNow now (laterQ st now)[(atO st num now).toNat]!, ?_, ?_, ?_⟩
      · exact List.mem_set (l := laterQ st now) (i := (atO st num now).toNat) (by rw [c]; exact hi) _
      · rw [c, getElem!_pos _ i hi]; exact h2
      · rw [c, getElem!_pos _ i hi]; exact h3
    · refine ⟨(laterQ st now)[i], ?_, h2, h3⟩
      refine List.mem_of_getElem? (i := i) ?_
      show ((laterQ st now).set _ _)[i]? = _
      rw [List.getElem?_set_ne c, List.getElem?_eq_getElem hi]
theorem has_cls {st : Store} {num now n : Int} {s : Sess} (hr : right st now) (hne : num ≠ n) (hh : has (later st now) n s) : has (clsS st num now) n s := by
  by_cases k : atO st num now < 0
  · rw [(cls_9 hr k).2]; exact hh
  · rw [(cls_0 hr k).2]
    obtain ⟨o, h1, h2, h3⟩ := hh
    have h1' : o ∈ laterQ st now := h1
    obtain ⟨q1, q2⟩ := at_lt k
    refine ⟨o, ?_, h2, h3⟩
    show o ∈ (laterQ st now).take _ ++ (laterQ st now).drop _
    have e : laterQ st now = (laterQ st now).take (atO st num now).toNat ++ (laterQ st now)[(atO st num now).toNat]! :: (laterQ st now).drop ((atO st num now).toNat + 1) := by
      rw [getElem!_pos (laterQ st now) _ q1, ← List.drop_eq_getElem_cons q1, List.take_append_drop]
    rw [e] at h1'
    rcases List.mem_append.1 h1' with m | m
    · exact List.mem_append_left _ m
    · rcases List.mem_cons.1 m with m | m
      · subst m; exact absurd (q2.symm.trans h2) hne
      · exact List.mem_append_right _ m
theorem used_get {st : Store} {n now : Int} (hr : right st now) (k : ¬ atO st n now < 0) : ∃ o ∈ (getS st n now).opn, o.num = n ∧ o.s = (laterQ st now)[(atO st n now).toNat]!.s ∧ o.used = now := by
  rw [getS, if_neg (fun n => n hr), if_neg k]
  obtain ⟨q1, q2⟩ := at_lt k
  exact ⟨usedNow now (laterQ st now)[(atO st n now).toNat]!, List.mem_set q1 _, q2, rfl, rfl⟩
/-! ### Striking in place -/
def kpt {α : Type} (q : List α) (p : α → Bool) (j : Nat) : List α := (q.take j).filter fun x => !p x
def dfR {α : Type} (q : List α) (p : α → Bool) (j : Nat) : List α := kpt q p j ++ q.drop (kpt q p j).length
theorem kpt_le {α : Type} (q : List α) (p : α → Bool) (j : Nat) : (kpt q p j).length ≤ j := by
  have := List.length_filter_le (fun x => !p x) (q.take j)
  rw [List.length_take] at this
  unfold kpt; omega
theorem kpt_len {α : Type} (q : List α) (p : α → Bool) (j : Nat) : (kpt q p j).length ≤ q.length := by
  have := List.length_filter_le (fun x => !p x) (q.take j)
  rw [List.length_take] at this
  unfold kpt; omega
theorem kpt_yes {α : Type} [Inhabited α] {q : List α} {p : α → Bool} {j : Nat} (h : j < q.length) (e : p q[j]! = true) : kpt q p (j + 1) = kpt q p j := by
  rw [kpt, snocT h, List.filter_append, show [q[j]!].filter (fun x => !p x) = [] by rw [List.filter_cons, e]; rfl, List.append_nil]; rfl
theorem kpt_no {α : Type} [Inhabited α] {q : List α} {p : α → Bool} {j : Nat} (h : j < q.length) (e : p q[j]! = false) : kpt q p (j + 1) = kpt q p j ++ [q[j]!] := by
  rw [kpt, snocT h, List.filter_append, show [q[j]!].filter (fun x => !p x) = [q[j]!] by rw [List.filter_cons, e]; rfl]; rfl
theorem dfR_len {α : Type} (q : List α) (p : α → Bool) (j : Nat) : (dfR q p j).length = q.length := by
  have := kpt_len q p j
  rw [dfR, List.length_append, List.length_drop]; omega
theorem dfR_get {α : Type} [Inhabited α] {q : List α} {p : α → Bool} {j : Nat} (h : j < q.length) : (dfR q p j)[j]! = q[j]! := by
  have h1 := kpt_le q p j
  have h2 := dfR_len q p j
  rw [getElem!_pos _ j (by omega), getElem!_pos q j h]
  simp only [dfR]
  rw [List.getElem_append_right h1, List.getElem_drop]
  congr 1; omega
theorem dfR_no {α : Type} [Inhabited α] {q : List α} {p : α → Bool} {j : Nat} (h : j < q.length) (e : p q[j]! = false) : dfR q p (j + 1) = (dfR q p j).set (kpt q p j).length q[j]! := by
  have h1 := kpt_le q p j
  rw [dfR, dfR, kpt_no h e, List.set_append_right _ _ (Nat.le_refl _), Nat.sub_self, List.length_append, List.drop_eq_getElem_cons (show (kpt q p j).length < q.length by omega), List.set_cons_zero, List.append_assoc]
  rfl
theorem dfR_yes {α : Type} [Inhabited α] {q : List α} {p : α → Bool} {j : Nat} (h : j < q.length) (e : p q[j]! = true) : dfR q p (j + 1) = dfR q p j := by rw [dfR, dfR, kpt_yes h e]
theorem kpt_first {α : Type} [Inhabited α] {q : List α} {p : α → Bool} (h : 0 ≤ idxF p q) : kpt q p ((idxF p q).toNat + 1) = q.take (idxF p q).toNat := by
  obtain ⟨h1, h2, h3⟩ := idxF_spec h
  rw [kpt_yes h1 h2, kpt, List.filter_eq_self]
  intro x hx
  obtain ⟨i, hi, rfl⟩ := List.getElem_of_mem hx
  rw [List.length_take] at hi
  have := h3 i (by omega)
  rw [getElem!_pos q i (by omega)] at this
  rw [List.getElem_take, this]; rfl
theorem dfR_first {α : Type} [Inhabited α] {q : List α} {p : α → Bool} (h : 0 ≤ idxF p q) : dfR q p ((idxF p q).toNat + 1) = q ∧ (kpt q p ((idxF p q).toNat + 1)).length = (idxF p q).toNat := by
  obtain ⟨h1, _⟩ := idxF_spec h
  have hl : (q.take (idxF p q).toNat).length = (idxF p q).toNat := by rw [List.length_take]; omega
  rw [dfR, kpt_first h, hl]
  exact ⟨List.take_append_drop _ _, rfl⟩
theorem kpt_all {α : Type} (q : List α) (p : α → Bool) : kpt q p q.length = q.filter fun x => !p x := by rw [kpt, List.take_length]
theorem filter_none {α : Type} [Inhabited α] {q : List α} {p : α → Bool} (h : idxF p q < 0) : (q.filter fun x => !p x) = q := by
  rw [List.filter_eq_self]
  intro x hx
  obtain ⟨i, hi, rfl⟩ := List.getElem_of_mem hx
  have := idxF_neg h i hi
  rw [getElem!_pos q i hi] at this
  rw [this]; rfl
theorem df_clear {α β : Type} {q : List α} {p : α → Bool} {f : α → β} {z : β} {n : Nat} (hn : n = q.length) : ((dfR q p q.length).map f).take (kpt q p q.length).length ++ List.replicate (n - (kpt q p q.length).length) z ++ ((dfR q p q.length).map f).drop n = (kpt q p q.length).map f ++ List.replicate (q.length - (kpt q p q.length).length) z := by
  have hl := dfR_len q p q.length
  subst hn
  rw [← List.map_drop, List.drop_eq_nil_of_le (by omega), List.map_nil, List.append_nil, ← List.map_take, dfR, List.take_left' rfl]
theorem delete_clear {α β : Type} {q : List α} {i j : Nat} {f : α → β} {z : β} (hij : i < j) (hj : j ≤ q.length) :
    ((q.take i ++ q.drop j ++ q.drop (i + (q.length - j))).map f).take (i + (q.length - j)) ++ List.replicate (q.length - (i + (q.length - j))) z ++ ((q.take i ++ q.drop j ++ q.drop (i + (q.length - j))).map f).drop q.length = (q.take i ++ q.drop j).map f ++ List.replicate (j - i) z := by
  have h1 : (q.take i ++ q.drop j).length = i + (q.length - j) := by simp; omega
  have h2 : (q.take i ++ q.drop j ++ q.drop (i + (q.length - j))).length ≤ q.length := by rw [List.length_append, h1, List.length_drop]; omega
  rw [← List.map_take, ← List.map_drop, List.take_left' h1, List.drop_eq_nil_of_le h2, show q.length - (i + (q.length - j)) = j - i by omega]
  simp
theorem later_filter (q : List Opn) (now : Int) : (q.filter fun x => !decide (x.used < now - 30)) = q.filter (liveO now) := by
  congr 1; funext x
  unfold liveO
  rw [Bool.eq_iff_iff]; simp
theorem live_y {q : List Opn} {now : Int} {k : Nat} (h : k < q.length) (e : now - 30 ≤ q[k]!.used) : (q.take (k + 1)).filter (liveO now) = (q.take k).filter (liveO now) ++ [q[k]!] := by
  have e' : liveO now q[k]! = true := decide_eq_true e
  rw [snocT h, List.filter_append, show [q[k]!].filter (liveO now) = [q[k]!] by rw [List.filter_cons, e']; rfl]
theorem live_n {q : List Opn} {now : Int} {k : Nat} (h : k < q.length) (e : ¬ now - 30 ≤ q[k]!.used) : (q.take (k + 1)).filter (liveO now) = (q.take k).filter (liveO now) := by
  have e' : liveO now q[k]! = false := decide_eq_false e
  rw [snocT h, List.filter_append, show [q[k]!].filter (liveO now) = [] by rw [List.filter_cons, e']; rfl, List.append_nil]
def prcQ (st : Store) (now : Int) : List Opn := if right st now then laterQ st now else []
def prcN (st : Store) (now : Int) : Int := if right st now then st.next else 0
def prcT (st : Store) (now : Int) : Int := if right st now then now else 0
theorem prc_y {st : Store} {now : Int} (h : right st now) : prcQ st now = laterQ st now ∧ prcN st now = st.next ∧ prcT st now = now := ⟨if_pos h, if_pos h, if_pos h⟩
theorem prc_n {st : Store} {now : Int} (h : ¬ right st now) : prcQ st now = [] ∧ prcN st now = 0 ∧ prcT st now = 0 := ⟨if_neg h, if_neg h, if_neg h⟩
theorem laterQ_len (st : Store) (now : Int) : (laterQ st now).length ≤ st.opn.length := List.length_filter_le _ _
theorem set_get {α : Type} [Inhabited α] {l : List α} {i : Nat} {x : α} (h : i < l.length) : (l.set i x)[i]! = x := by
  rw [getElem!_pos _ i (by rw [List.length_set]; exact h)]; simp
end Go.D51
