/-
  Trees of words: what the laws on changes and sets lean on.
-/
import Derived.Test.YtfmgpocbpbfalaaV41
namespace Go.D41
open Go Go.RowKit Go.H
noncomputable instance instDecTr (a b : Tr) : Decidable (a = b) := Classical.propDecidable _
theorem tr_eq {a b : Tr} (h1 : a.lab = b.lab) (h2 : a.wd = b.wd) (h3 : a.kids.length = b.kids.length) (h : ∀ j, j < a.kids.length → a.kids[j]! = b.kids[j]!) : a = b := by
  rw [← Tr.eta a, ← Tr.eta b, h1, h2, ext_get h3 h]
theorem tr_eq3 {a b : Tr} (h1 : a.lab = b.lab) (h2 : a.wd = b.wd) (h3 : a.kids = b.kids) : a = b := by
  rw [← Tr.eta a, ← Tr.eta b, h1, h2, h3]
theorem kids_ne {a b : Tr} {k : Nat} (h : ¬ a.kids[k]! = b.kids[k]!) : a ≠ b := fun e => h (by rw [e])
/-! ### Taking out -/
def remP (t : Tr) (s : Str) : Tr := if wrd s ∧ s ∈ t.inn then remT t s else t
def remO (t : Tr) (s : Str) : Bool := decide (wrd s ∧ s ∈ t.inn)
theorem remP_no {t : Tr} {s : Str} (h : ¬ (wrd s ∧ s ∈ t.inn)) : remP t s = t ∧ remO t s = false := ⟨if_neg h, decide_eq_false h⟩
theorem remP_yes {t : Tr} {s : Str} (h : wrd s ∧ s ∈ t.inn) : remP t s = remT t s ∧ remO t s = true := ⟨if_pos h, decide_eq_true h⟩
theorem filt_none {w : Str} {I : List Str} (h : w ∉ I) : I.filter (fun x => decide (x ≠ w)) = I := List.filter_eq_self.2 fun _ hx => decide_eq_true fun e => h (e ▸ hx)
theorem remP_mk {lab s : Str} {I : List Str} (h : Asc I) : remP (mkT lab I) s = mkT lab (remW s I) := by
  unfold remP remW
  rw [mkT_inn lab h]
  by_cases hw : wrd s
  · rw [if_pos hw]
    by_cases hm : s ∈ I
    · rw [if_pos ⟨hw, hm⟩, remT_mk h]
    · rw [if_neg fun q => hm q.2, filt_none hm]
  · rw [if_neg fun q => hw q.1, if_neg hw]
/-! ### Trees of words as the reference has them -/
def gd (t : Tr) : Prop := bd 800 t ∧ t.lab = [] ∧ wrds t.inn ∧ Asc t.inn ∧ t = mkT [] t.inn
theorem sort_asc {I : List Str} (h : Asc I) : sortS I = I := asc_ext (sortS_asc I) h fun _ => sortS_mem
theorem gd_of {l : List Str} (hl : l.length ≤ 800) (h : ofE l = 0) : gd (ofT l) := by
  obtain ⟨h1, h2, h3, h4, h5, h6, h7⟩ := of_facts (show l.length ≤ 900 by omega) h
  exact ⟨by rw [h7]; exact bd_mono (of_bd h5) hl, h2, fun w hw => h5 w (by rw [h4] at hw; exact sortS_mem.1 hw), h6, by rw [h4]; exact h7⟩
theorem ins_of {t : Tr} (h : gd t) {s : Str} (hw : wrd s) : ofT (t.inn ++ [s]) = insT t s ∧ ofE (t.inn ++ [s]) = 0 := by
  obtain ⟨_, h2, h3, h4, h5⟩ := h
  have hws : wrds (t.inn ++ [s]) := fun w hm => by
    rcases List.mem_append.1 hm with q | q
    · exact h3 w q
    · rw [List.mem_singleton.1 q]; exact hw
  refine ⟨?_, (of_0 hws).1⟩
  rw [(of_0 hws).2, insT, h2]
  congr 1
  refine asc_ext (sortS_asc _) (insS_asc h4) fun x => ?_
  rw [sortS_mem, insS_mem, List.mem_append, List.mem_singleton]
  exact or_comm
theorem rem_of {t : Tr} (h : gd t) (s : Str) : ofT (t.inn.filter fun x => decide (x ≠ s)) = remT t s ∧ ofE (t.inn.filter fun x => decide (x ≠ s)) = 0 := by
  obtain ⟨_, h2, h3, h4, h5⟩ := h
  have hws : wrds (t.inn.filter fun x => decide (x ≠ s)) := fun w hm => h3 w (List.mem_filter.1 hm).1
  refine ⟨?_, (of_0 hws).1⟩
  rw [(of_0 hws).2, remT, h2, sort_asc (h4.filter _)]
theorem rm_y {s : Str} {l : List Str} {k : Nat} (h : k < l.length) (e : ¬ l[k]! = s) : (l.take (k + 1)).filter (fun x => decide (x ≠ s)) = (l.take k).filter (fun x => decide (x ≠ s)) ++ [l[k]!] := by
  rw [snocT h, List.filter_append, List.filter_cons, if_pos (by simpa using e)]; rfl
theorem rm_n {s : Str} {l : List Str} {k : Nat} (h : k < l.length) (e : l[k]! = s) : (l.take (k + 1)).filter (fun x => decide (x ≠ s)) = (l.take k).filter (fun x => decide (x ≠ s)) := by
  rw [snocT h, List.filter_append, List.filter_cons, if_neg (by simpa using e), List.filter_nil, List.append_nil]
theorem rm_len (s : Str) (l : List Str) : (l.filter fun x => decide (x ≠ s)).length ≤ l.length := List.length_filter_le _ _
theorem gd_wd {t : Tr} (h : gd t) {s : Str} (hm : s ∈ t.inn) : wrd s := h.2.2.1 s hm
theorem remP_gd {t : Tr} (h : gd t) {s : Str} (hm : s ∈ t.inn) : remP t s = remT t s ∧ remO t s = true := remP_yes ⟨gd_wd h hm, hm⟩
theorem remP_gd_no {t : Tr} {s : Str} (hm : s ∉ t.inn) : remP t s = t ∧ remO t s = false := remP_no fun q => hm q.2
/-! ### Putting in and taking out -/
theorem ins_rem {t : Tr} (h : gd t) {w : Str} (hw : wrd w ∧ w ∉ t.inn) : remO (insP t w) w = true ∧ remP (insP t w) w = t ∧ w ∈ (insP t w).inn := by
  obtain ⟨_, h2, h3, h4, h5⟩ := h
  have hin : ∀ x, x ∈ (insP t w).inn ↔ x = w ∨ x ∈ t.inn := by
    rw [(insP_yes hw).1]
    exact (insT_ok (by rw [h5]; exact (mkT_ok [] h4).1) w).2.1
  have hm : w ∈ (insP t w).inn := (hin w).2 (.inl rfl)
  have hy := remP_yes ⟨hw.1, hm⟩
  refine ⟨hy.2, ?_, hm⟩
  have e : insP t w = mkT [] (insS w t.inn) := by rw [(insP_yes hw).1, insT, h2]
  rw [hy.1, e, remT_mk (insS_asc h4)]
  conv => rhs; rw [h5]
  congr 1
  refine asc_ext ((insS_asc h4).filter _) h4 fun x => ?_
  rw [List.mem_filter, insS_mem, decide_eq_true_eq]
  exact ⟨fun q => q.1.resolve_left q.2, fun q => ⟨.inr q, fun e => hw.2 (e ▸ q)⟩⟩
/-! ### Sets -/
def wds (_ : List Str) (I : List Str) : Prop := Asc I ∧ ∀ x ∈ I, wrd x
theorem bd_I {I : List Str} {l : List Str} {n : Nat} (h : wds l I) (hn : I.length ≤ n) : bd n (mkT [] I) := bd_mk h.1 (fun x hx => by have := (h.2 x hx).2; omega) hn
theorem wds_ins {l : List Str} {I : List Str} (h : wds l I) (s : Str) : wds l (insW s I) := ⟨insW_asc h.1, fun x hx => by
  rcases insW_mem.1 hx with q | q
  · rw [q.2]; exact q.1
  · exact h.2 x q⟩
theorem wds_rem {l : List Str} {I : List Str} (h : wds l I) (s : Str) : wds l (remW s I) := ⟨remW_asc h.1, fun x hx => h.2 x (remW_mem.1 hx).1⟩
theorem insW_len (s : Str) (I : List Str) : (insW s I).length ≤ I.length + 1 := by
  unfold insW
  split
  · exact insS_len
  · omega
theorem remW_len (s : Str) (I : List Str) : (remW s I).length ≤ I.length := by
  unfold remW
  split
  · exact List.length_filter_le _ _
  · exact Nat.le_refl _
theorem take_mem {l : List Str} {k : Nat} (h : k < l.length) {x : Str} : x ∈ l.take (k + 1) ↔ x ∈ l.take k ∨ x = l[k]! := by
  rw [snocT h, List.mem_append, List.mem_singleton]
def set1 (o : List Str) (k : Nat) (I : List Str) : Prop := wds o I ∧ I.length ≤ k ∧ ∀ x, x ∈ I ↔ wrd x ∧ x ∈ o.take k
def set2 (l o : List Str) (m : Nat) (I : List Str) : Prop := wds o I ∧ I.length + m ≤ o.length + l.length ∧ ∀ x, x ∈ I ↔ (wrd x ∧ x ∈ o) ∨ x ∈ l.drop m
def set3 (l o : List Str) (k : Nat) (I : List Str) : Prop := wds o I ∧ I.length ≤ o.length + l.length ∧ ∀ x, x ∈ I ↔ x ∈ l ∨ (wrd x ∧ x ∈ o ∧ x ∉ o.take k)
theorem set1_0 (o : List Str) : set1 o 0 [] := ⟨⟨List.Pairwise.nil, fun x h => by cases h⟩, Nat.le_refl _, fun x => by simp⟩
theorem set1_s {o : List Str} {k : Nat} {I : List Str} (h : set1 o k I) (hk : k < o.length) : set1 o (k + 1) (insW o[k]! I) := by
  refine ⟨wds_ins h.1 _, by have := insW_len o[k]! I; have := h.2.1; omega, fun x => ?_⟩
  rw [insW_mem, h.2.2, take_mem hk]
  constructor
  · rintro (q | q)
    · rw [q.2]; exact ⟨q.1, .inr rfl⟩
    · exact ⟨q.1, .inl q.2⟩
  · rintro ⟨q, r | r⟩
    · exact .inr ⟨q, r⟩
    · exact .inl ⟨r ▸ q, r⟩
theorem set2_0 {l o : List Str} {k : Nat} {I : List Str} (h : set1 o k I) (hk : k = o.length) : set2 l o l.length I := by
  subst hk
  refine ⟨h.1, by have := h.2.1; omega, fun x => ?_⟩
  rw [h.2.2, List.take_length, List.drop_length]; simp
theorem set2_s {l o : List Str} {m : Nat} {I : List Str} (hw : wrds l) (h : set2 l o (m + 1) I) (hm : m < l.length) : set2 l o m (insW l[m]! I) := by
  have hx : wrd l[m]! := hw _ (by rw [getElem!_pos l m hm]; exact List.getElem_mem _)
  refine ⟨wds_ins h.1 _, by have := insW_len l[m]! I; have := h.2.1; omega, fun x => ?_⟩
  rw [insW_mem, h.2.2, drop_c hm, List.mem_cons]
  constructor
  · rintro (q | q | q)
    · exact .inr (.inl q.2)
    · exact .inl q
    · exact .inr (.inr q)
  · rintro (q | q | q)
    · exact .inr (.inl q)
    · exact .inl ⟨hx, q⟩
    · exact .inr (.inr q)
theorem set3_0 {l o : List Str} {I : List Str} (h : set2 l o 0 I) : set3 l o 0 I := ⟨h.1, by have := h.2.1; omega, fun x => by
  rw [h.2.2, List.drop_zero, List.take_zero]
  constructor
  · rintro (q | q)
    · exact .inr ⟨q.1, q.2, by simp⟩
    · exact .inl q
  · rintro (q | q)
    · exact .inr q
    · exact .inl ⟨q.1, q.2.1⟩⟩
theorem set3_k {l o : List Str} {k : Nat} {I : List Str} (h : set3 l o k I) (hk : k < o.length) (hm : o[k]! ∈ l) : set3 l o (k + 1) I := ⟨h.1, h.2.1, fun x => by
  rw [h.2.2, take_mem hk]
  constructor
  · rintro (q | ⟨q1, q2, q3⟩)
    · exact .inl q
    · by_cases e : x = o[k]!
      · exact .inl (e ▸ hm)
      · exact .inr ⟨q1, q2, fun r => r.elim q3 e⟩
  · rintro (q | ⟨q1, q2, q3⟩)
    · exact .inl q
    · exact .inr ⟨q1, q2, fun r => q3 (.inl r)⟩⟩
theorem set3_r {l o : List Str} {k : Nat} {I : List Str} (h : set3 l o k I) (hk : k < o.length) (hm : o[k]! ∉ l) : set3 l o (k + 1) (remW o[k]! I) := ⟨wds_rem h.1 _, by have := remW_len o[k]! I; have := h.2.1; omega, fun x => by
  rw [remW_mem, h.2.2, take_mem hk]
  constructor
  · rintro ⟨q | ⟨q1, q2, q3⟩, r⟩
    · exact .inl q
    · exact .inr ⟨q1, q2, fun s => s.elim q3 fun e => r (e ▸ q1) e⟩
  · rintro (q | ⟨q1, q2, q3⟩)
    · exact ⟨.inl q, fun _ e => hm (e ▸ q)⟩
    · exact ⟨.inr ⟨q1, q2, fun r => q3 (.inl r)⟩, fun _ e => q3 (.inr e)⟩⟩
theorem set3_e {l o : List Str} {k : Nat} {I : List Str} (h : set3 l o k I) (hk : k = o.length) : I = sortS l := asc_ext h.1.1 (sortS_asc l) fun x => by
  rw [h.2.2, sortS_mem, hk, List.take_length]
  exact ⟨fun q => q.elim id fun r => absurd r.2.1 r.2.2, .inl⟩
theorem kept_s {l : List Str} {w : Str} {j : Nat} (h : j < l.length) : decide (w ∈ l.take (j + 1)) = (decide (w ∈ l.take j) || decide (l[j]! = w)) := by
  rw [Bool.eq_iff_iff, Bool.or_eq_true, decide_eq_true_eq, decide_eq_true_eq, decide_eq_true_eq, take_mem h]
  exact or_congr Iff.rfl eq_comm
/-! ### Taking out of a node -/
def rK (t : Tr) (s : Str) : Tr := remT t.kids[kpos t.kids s[0]!]! (s.drop t.kids[kpos t.kids s[0]!]!.lab.length)
theorem rK_eq {t : Tr} {c : UInt8} {x : Str} {s : Str} (e : s = c :: x) : rK t s = remK t c x := by subst e; rfl
section
variable {t : Tr} (h : canL t.kids) {s : Str} (hs : s ≠ []) (hw : s ∈ t.inn)
include h hs hw
theorem remB_at : kfnd t.kids s[0]! = true ∧ kpos t.kids s[0]! < t.kids.length ∧ t.kids[kpos t.kids s[0]!]!.lab <+: s ∧ s.drop t.kids[kpos t.kids s[0]!]!.lab.length ∈ t.kids[kpos t.kids s[0]!]!.inn := by
  have e := ne_cons hs
  generalize hz : s.drop 1 = z at e
  generalize hcc : s[0]! = c at *
  subst e
  obtain ⟨a, b, c, d, _⟩ := rem_at h hw
  exact ⟨a, b, c, d⟩
theorem remB_del (h1 : (rK t s).wd = false) (h2 : (rK t s).kids = []) : Tr.nd t.lab t.wd (t.kids.take (kpos t.kids s[0]!) ++ t.kids.drop (kpos t.kids s[0]! + 1)) = remT t s := by
  have e := ne_cons hs
  rw [rK_eq e] at h1 h2
  generalize hz : s.drop 1 = z at e h1 h2
  generalize hcc : s[0]! = c at *
  subst e
  exact rem_del h hw h1 h2
theorem remB_one (h1 : (rK t s).wd = false) (h2 : (rK t s).kids.length = 1) : Tr.nd t.lab t.wd (t.kids.set (kpos t.kids s[0]!) (.nd ((rK t s).lab ++ (rK t s).kids[0]!.lab) (rK t s).kids[0]!.wd (rK t s).kids[0]!.kids)) = remT t s := by
  have e := ne_cons hs
  have h3 : (rK t s).kids = [(rK t s).kids[0]!] := by
    match hq : (rK t s).kids, h2 with
    | [o], _ => rfl
  rw [rK_eq e] at h1 h2 h3 ⊢
  generalize (remK t s[0]! (s.drop 1)).kids[0]! = o at h3 ⊢
  generalize hz : s.drop 1 = z at *
  generalize hcc : s[0]! = c at *
  subst e
  exact rem_one h hw h1 h3
theorem remB_in (h1 : (rK t s).wd = true ∨ 2 ≤ (rK t s).kids.length) : Tr.nd t.lab t.wd (t.kids.set (kpos t.kids s[0]!) (.nd (rK t s).lab (rK t s).wd (rK t s).kids)) = remT t s := by
  have e := ne_cons hs
  rw [Tr.eta]
  rw [rK_eq e] at h1 ⊢
  generalize hz : s.drop 1 = z at *
  generalize hcc : s[0]! = c at *
  subst e
  exact rem_in h hw h1
end
theorem rK_bd {n : Nat} {t : Tr} (hb : bd n t) (s : Str) (hk : kpos t.kids s[0]! < t.kids.length) : bd n (rK t s) ∧ (rK t s).lab.length ≤ 1000 := by
  have h := bd_kid hb (at_mem hk)
  exact ⟨bd_rem h.1 _, h.2.1⟩
theorem len_nil {ks : List Tr} (h : ks.length = 0) : ks = [] := List.eq_nil_of_length_eq_zero h
theorem eq_f {a b : Bool} (h : ¬ a = b) : (a == b) = false := by cases a <;> cases b <;> simp_all
/-! ### Whole laws -/
theorem zero_bd : bd 900 zeroT := by
  rw [zero_mk]
  exact bd_mk List.Pairwise.nil (fun x h => by cases h) (Nat.zero_le _)
theorem ofT_bd {l : List Str} (hl : l.length ≤ 900) : bd 900 (ofT l) := by
  by_cases h : wrds l
  · rw [(of_0 h).2]; exact bd_mono (of_bd h) hl
  · rw [(of_1 h).2]; exact zero_bd
theorem ofT_valid {l : List Str} (h : ofE l = 0) : validT (ofT l) := by
  by_cases hw : wrds l
  · rw [(of_0 hw).2]; exact of_valid hw
  · rw [(of_1 hw).1] at h; exact absurd h (by decide)
theorem insP_bd {n : Nat} {t : Tr} {s : Str} (h : bd n t) (hs : s.length ≤ 1000) : bd (n + 1) (insP t s) := by
  unfold insP
  split
  · exact bd_ins h hs
  · exact bd_mono h (Nat.le_succ n)
theorem remP_bd {n : Nat} {t : Tr} (h : bd n t) (s : Str) : bd n (remP t s) := by
  unfold remP
  split
  · exact bd_rem h s
  · exact h
theorem of_nil : ofE [] = 0 ∧ ofT [] = mkT [] [] := of_0 (fun w h => by cases h)
theorem set2_p {l o : List Str} {m : Nat} {I : List Str} (hw : wrds l) (h : set2 l o m I) (h0 : 0 < m) (hm : m ≤ l.length) : set2 l o (m - 1) (insW l[m - 1]! I) := by
  obtain ⟨k, rfl⟩ : ∃ k, m = k + 1 := ⟨m - 1, by omega⟩
  exact set2_s hw h (by omega)
theorem insO_t {t : Tr} {s : Str} (h : insO t s = true) : wrd s ∧ s ∉ t.inn := of_decide_eq_true h
theorem insP_same {t : Tr} {s : Str} (h : ¬ insO t s = true) : insP t s = t := (insP_no fun q => h (decide_eq_true q)).1
/-! ### Any tree -/
mutual
def Tr.szW : Tr → Int
  | .nd _ _ ks => szWL ks 1
termination_by structural t => t
def szWL : List Tr → Int → Int
  | [], a => a
  | k :: r, a => szWL r (IntKind.i64.wrap (a + k.szW))
termination_by structural l => l
end
theorem Tr.szW_eq (t : Tr) : t.szW = szWL t.kids 1 := by cases t; rw [Tr.szW]; rfl
theorem szWL_app : ∀ (a b : List Tr) (n : Int), szWL (a ++ b) n = szWL b (szWL a n)
  | [], b, n => by rw [szWL]; rfl
  | k :: r, b, n => by rw [List.cons_append, szWL, szWL_app r b, szWL]
theorem szWL_s {ks : List Tr} {k : Nat} (h : k < ks.length) (n : Int) : szWL (ks.take (k + 1)) n = IntKind.i64.wrap (szWL (ks.take k) n + ks[k]!.szW) := by
  rw [snocT h, szWL_app, szWL, szWL]
end Go.D41
