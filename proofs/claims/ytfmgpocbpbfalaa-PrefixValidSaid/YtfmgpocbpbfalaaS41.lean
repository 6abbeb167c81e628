/-
  What the further walks of trees lean on.
-/
import Derived.Test.YtfmgpocbpbfalaaR41
namespace Go.D41
def insP (t : Tr) (s : Str) : Tr := if wrd s ∧ s ∉ t.inn then insT t s else t
def insO (t : Tr) (s : Str) : Bool := decide (wrd s ∧ s ∉ t.inn)
theorem insP_no {t : Tr} {s : Str} (h : ¬ (wrd s ∧ s ∉ t.inn)) : insP t s = t ∧ insO t s = false := ⟨if_neg h, decide_eq_false h⟩
theorem insP_yes {t : Tr} {s : Str} (h : wrd s ∧ s ∉ t.inn) : insP t s = insT t s ∧ insO t s = true := ⟨if_pos h, decide_eq_true h⟩
theorem insP_mk {lab s : Str} {I : List Str} (h : Asc I) : insP (mkT lab I) s = mkT lab (insW s I) := by
  unfold insP insW
  rw [mkT_inn lab h]
  by_cases hw : wrd s
  · rw [if_pos hw]
    by_cases hm : s ∈ I
    · rw [if_neg (fun q => q.2 hm), insS_same h hm]
    · rw [if_pos ⟨hw, hm⟩, insT_mk h]
  · rw [if_neg (fun q => hw q.1), if_neg hw]
theorem of_step {l : List Str} (h : wrds l) {k : Nat} (hk : k < l.length) : insP (mkT [] (sortS (l.take k))) l[k]! = mkT [] (sortS (l.take (k + 1))) := by
  have hw : wrd l[k]! := h _ (by rw [getElem!_pos l k hk]; exact List.getElem_mem _)
  rw [insP_mk (sortS_asc _), insW, if_pos hw, ← sortS_snoc hk]
theorem wrds_take {l : List Str} (h : wrds l) (k : Nat) : wrds (l.take k) := fun w hw => h w (List.mem_of_mem_take hw)
theorem not_wrds {l : List Str} : (∃ x ∈ l, (!decide (wrd x)) = true) ↔ ¬ wrds l := by
  constructor
  · rintro ⟨x, hx, e⟩ h
    simp [h x hx] at e
  · intro h
    apply Classical.byContradiction
    intro n
    exact h fun w hw => Classical.byContradiction fun hn => n ⟨w, hw, by simp [hn]⟩
theorem bd_mono {n m : Nat} {t : Tr} (h : bd n t) (hn : n ≤ m) : bd m t := ⟨h.1, h.2.1, by have := h.2.2; omega⟩
theorem of_bdk {l : List Str} (h : wrds l) (k : Nat) (hl : l.length ≤ 900) : bd 900 (mkT [] (sortS (l.take k))) := by
  have := of_bd (wrds_take h k)
  exact bd_mono this (by rw [List.length_take]; omega)
theorem okAt_step {ks : List Tr} {n : Int} {k : Nat} (h : ∀ j, j < k → okAt ks n j) (hb : okAt ks n k) : ∀ j, j < k + 1 → okAt ks n j := fun j hj => by
  rcases Nat.lt_succ_iff_lt_or_eq.1 hj with h1 | h1
  · exact h j h1
  · subst h1; exact hb
/-! ### The longest word: ways out -/
theorem lon_x1 {s : Str} {W : List Str} {x : Tr} {a n : Nat} (h : lonI s W x a n) (he : ¬ a < s.length) : n = lonN s W := lonI_end h fun y _ hp => by
  rw [List.drop_eq_nil_of_le (by omega)] at hp
  exact List.prefix_nil.1 hp
theorem lon_x2 {s : Str} {W : List Str} {x : Tr} {a n : Nat} (hc : canL x.kids) (h : lonI s W x a n) (ha : a < s.length) (hf : kfnd x.kids s[a]! = false) : n = lonN s W := lonI_end h fun y hy hp => by
  rw [drop_at ha] at hp
  cases y with
  | nil => rfl
  | cons c z =>
    obtain ⟨u, hu⟩ := hp
    injection hu with hu _
    subst hu
    exact absurd hy (has_none hc hf)
theorem lon_x3 {s : Str} {W : List Str} {x : Tr} {a n : Nat} (hc : canL x.kids) (h : lonI s W x a n) (ha : a < s.length) (hf : kfnd x.kids s[a]! = true) (hn : ¬ x.kids[kpos x.kids s[a]!]!.lab <+: s.drop a) : n = lonN s W := lonI_end h fun y hy hp => by
  have hp0 := hp
  rw [drop_at ha] at hp
  cases y with
  | nil => rfl
  | cons c z =>
    obtain ⟨u, hu⟩ := hp
    injection hu with hu _
    subst hu
    exact absurd ((ws_pre.1 (kid_ws hc hf hy)).1.trans hp0) hn
theorem lon_step {s : Str} {W : List Str} {x : Tr} {a n : Nat} (hc : canL x.kids) (h : lonI s W x a n) (ha : a < s.length) (hf : kfnd x.kids s[a]! = true) (hp : x.kids[kpos x.kids s[a]!]!.lab <+: s.drop a) :
    lonI s W x.kids[kpos x.kids s[a]!]! (a + x.kids[kpos x.kids s[a]!]!.lab.length) (if x.kids[kpos x.kids s[a]!]!.wd then a + x.kids[kpos x.kids s[a]!]!.lab.length else n) := lonI_step hc h (drop_at ha) hf hp
/-! ### The words, one kid after the other -/
def bwK (t : Tr) (b : Str) (k : Nat) : List Str := ((if t.wd then [[]] else []) ++ wsL (t.kids.take k)).map (b ++ ·)
def bw (t : Tr) (b : Str) : List Str := t.inn.map (b ++ ·)
theorem bwK_0 (t : Tr) (b : Str) : bwK t b 0 = if t.wd then [b] else [] := by
  rw [bwK, List.take_zero, wsL, List.append_nil]
  cases t.wd <;> simp
theorem bwK_all (t : Tr) (b : Str) {k : Nat} (h : k = t.kids.length) : bwK t b k = bw t b := by rw [bwK, h, List.take_length]; rfl
theorem bwK_step {t : Tr} {b : Str} {k : Nat} (h : k < t.kids.length) : bwK t b (k + 1) = bwK t b k ++ bw t.kids[k]! (b ++ t.kids[k]!.lab) := by
  rw [bwK, snocT h, wsL_app, bwK, bw, wsL, wsL, List.append_nil, ← List.append_assoc, List.map_append, Tr.ws_eq, List.map_map]
  congr 1
  apply List.map_congr_left
  intro x _
  simp
/-- Up to the first that is not less. -/
def cntL (s : Str) (l : List Str) : Nat := (l.takeWhile fun x => decide (lt x s)).length
def allL (s : Str) (l : List Str) : Bool := l.all fun x => decide (lt x s)
theorem tw_all {p : Str → Bool} : ∀ {a : List Str}, (∀ x ∈ a, p x = true) → a.takeWhile p = a
  | [], _ => rfl
  | x :: a, h => by rw [List.takeWhile_cons, h x (by simp), if_pos rfl, tw_all fun y hy => h y (by simp [hy])]
theorem cntL_app_t {s : Str} {a b : List Str} (h : allL s a = true) : cntL s (a ++ b) = cntL s a + cntL s b ∧ allL s (a ++ b) = allL s b := by
  unfold cntL allL at *
  constructor
  · rw [List.takeWhile_append_of_pos (fun x hx => List.all_eq_true.1 h x hx), List.length_append]
    congr 1
    rw [show a.takeWhile (fun x => decide (lt x s)) = a from tw_all (fun x hx => List.all_eq_true.1 h x hx)]
  · rw [List.all_append, h, Bool.true_and]
theorem cntL_app_f {s : Str} {a b : List Str} (h : allL s a = false) : cntL s (a ++ b) = cntL s a ∧ allL s (a ++ b) = false := by
  induction a with
  | nil => simp [allL] at h
  | cons x a ih =>
    unfold cntL allL at *
    rw [List.all_cons] at h
    rw [List.cons_append, List.takeWhile_cons, List.takeWhile_cons, List.all_cons]
    cases e : decide (lt x s) with
    | false => simp
    | true =>
      rw [e, Bool.true_and] at h
      obtain ⟨h1, h2⟩ := ih h
      simp only [if_true, List.length_cons, h1, Bool.true_and]
      exact ⟨trivial, h2⟩
theorem cntL_one (s x : Str) : cntL s [x] = (if lt x s then 1 else 0) ∧ allL s [x] = decide (lt x s) := by
  unfold cntL allL
  by_cases h : lt x s <;> simp [h]
theorem cntL_nil (s : Str) : cntL s [] = 0 ∧ allL s [] = true := ⟨rfl, rfl⟩
theorem cntL_rnk {s : Str} {l : List Str} (h : Asc l) : cntL s l = rnk s l := rnk_take h
/-! ### On the way down to the words with a beginning -/
theorem drop_ne {p b : Str} (h : b.length < p.length) : p.drop b.length ≠ [] := fun e => by
  have := congrArg List.length e
  rw [List.length_drop, List.length_nil] at this; omega
theorem wthB_none {p : Str} {W : List Str} {t : Tr} {b : Str} (ht : canL t.kids) (h : wthI p W t b) (hl : b.length < p.length) (hf : kfnd t.kids (p.drop b.length)[0]! = false) : wthL p W = [] := wthI_none ht h hl (ne_cons (drop_ne hl)) hf
theorem wthB_diff {p : Str} {W : List Str} {t : Tr} {b : Str} (ht : canL t.kids) (h : wthI p W t b) (hl : b.length < p.length) (hf : kfnd t.kids (p.drop b.length)[0]! = true)
    (hc : comm (p.drop b.length) t.kids[kpos t.kids (p.drop b.length)[0]!]!.lab < min (p.drop b.length).length t.kids[kpos t.kids (p.drop b.length)[0]!]!.lab.length) : wthL p W = [] := by
  have e := ne_cons (drop_ne hl)
  refine wthI_diff ht h hl e hf ?_
  rw [← e]; exact hc
theorem wthB_step {p : Str} {W : List Str} {t : Tr} {b : Str} (ht : canL t.kids) (h : wthI p W t b) (hl : b.length < p.length) (hf : kfnd t.kids (p.drop b.length)[0]! = true)
    (hc : ¬ comm (p.drop b.length) t.kids[kpos t.kids (p.drop b.length)[0]!]!.lab < min (p.drop b.length).length t.kids[kpos t.kids (p.drop b.length)[0]!]!.lab.length) : wthI p W t.kids[kpos t.kids (p.drop b.length)[0]!]! (b ++ t.kids[kpos t.kids (p.drop b.length)[0]!]!.lab) := by
  have e := ne_cons (drop_ne hl)
  refine wthI_step ht h hl e hf ?_
  rw [← e]; exact hc
theorem bw_end {p : Str} {W : List Str} {t : Tr} {b : Str} (h : wthI p W t b) (hl : ¬ b.length < p.length) : [] ++ bw t b = wthL p W := by
  rw [List.nil_append]; exact (wthI_end h (by omega)).symm
theorem bw_len (t : Tr) (b : Str) : (bw t b).length = t.inn.length := by rw [bw, List.length_map]
theorem bwK_le (t : Tr) (b : Str) (k : Nat) : (bwK t b k).length ≤ t.inn.length := by
  have e : wsL t.kids = wsL (t.kids.take k) ++ wsL (t.kids.drop k) := by rw [← wsL_app, List.take_append_drop]
  have : (wsL t.kids).length = (wsL (t.kids.take k)).length + (wsL (t.kids.drop k)).length := by rw [e, List.length_append]
  rw [bwK, List.length_map, List.length_append, Tr.inn, List.length_append]; omega
theorem bwK_len {t : Tr} {b : Str} {k : Nat} (h : k < t.kids.length) : (bwK t b k).length + t.kids[k]!.inn.length ≤ t.inn.length := by
  have h1 := bwK_le t b (k + 1)
  rw [bwK_step h, List.length_append, bw_len] at h1
  exact h1
theorem bw_nil (t : Tr) : bw t [] = t.inn := by
  rw [bw]; simp
/-- The words below a node with what stands ahead of them are not great. -/
def short (b : Str) (t : Tr) : Prop := b.length ≤ 100000 ∧ ∀ y ∈ t.inn, b.length + y.length ≤ 100000
theorem short_kid {b : Str} {t : Tr} {n : Nat} (hb : bd n t) (h : short b t) {k : Tr} (hk : k ∈ t.kids) : short (b ++ k.lab) k ∧ b.length + k.lab.length ≤ 100000 := by
  have hc := ((canL_iff _).1 hb.1).1 k hk
  have key : ∀ y ∈ k.inn, b.length + (k.lab.length + y.length) ≤ 100000 := fun y hy => by
    have := h.2 (k.lab ++ y) (Tr.inn_mem.2 (.inr (wsL_mem.2 ⟨k, hk, Tr.ws_mem.2 ⟨y, hy, rfl⟩⟩)))
    rwa [List.length_append] at this
  obtain ⟨y, hy⟩ := ws_some k hc
  have h0 := key y hy
  exact ⟨⟨by rw [List.length_append]; omega, fun y hy => by have := key y hy; rw [List.length_append]; omega⟩, by omega⟩
theorem short_0 {t : Tr} {n : Nat} (hb : bd n t) : short [] t := ⟨by decide, fun y hy => by have := hb.2.1 y hy; simp; omega⟩
/-! ### By number -/
def nthO (l : List Str) (i : Int) : Bool := decide (0 ≤ i ∧ i < l.length)
def nthT (l : List Str) (i : Int) : Str := if 0 ≤ i ∧ i < l.length then l[i.toNat]! else []
theorem nth_no {l : List Str} {i : Int} (h : ¬ (0 ≤ i ∧ i < l.length)) : nthO l i = false ∧ nthT l i = [] := ⟨decide_eq_false h, if_neg h⟩
theorem nth_yes {l : List Str} {i : Int} (h : 0 ≤ i ∧ i < l.length) : nthO l i = true ∧ nthT l i = l[i.toNat]! := ⟨decide_eq_true h, if_pos h⟩
theorem wthL_nil (l : List Str) : wthL [] l = l := by
  rw [wthL, List.filter_eq_self]
  intro x _
  exact decide_eq_true List.nil_prefix
theorem wthL_len (p : Str) (l : List Str) : (wthL p l).length ≤ l.length := List.length_filter_le _ _
theorem lt_b (x s : Str) : decide (lt x s) = Op.bytesLess x s := by
  rw [Bool.eq_iff_iff, decide_eq_true_eq]; rfl
theorem cnt1 (s x : Str) : cntL s [x] = (if Op.bytesLess x s = true then 1 else 0) ∧ allL s [x] = Op.bytesLess x s := by
  obtain ⟨a, b⟩ := cntL_one s x
  exact ⟨a, by rw [b, lt_b]⟩
theorem bw_eq (t : Tr) (b : Str) (k : Nat) (_ : k ≤ t.kids.length) : bw t b = bwK t b k ++ (wsL (t.kids.drop k)).map (b ++ ·) := by
  rw [bwK, ← List.map_append, List.append_assoc, ← wsL_app, List.take_append_drop]; rfl
theorem one_f {n : Nat} {t : Tr} (_ : bd n t) {b s : Str} (hw : t.wd = true) (h : allL s [b] = false) : cntL s (bw t b) = cntL s [b] ∧ allL s (bw t b) = false := by
  have e := bw_eq t b 0 (Nat.zero_le _)
  rw [bwK_0, if_pos hw] at e
  rw [e]
  exact cntL_app_f h
theorem kid_f {t : Tr} {b s : Str} {k : Nat} (hk : k < t.kids.length) (hal : allL s (bwK t b k) = true) (h : allL s (bw t.kids[k]! (b ++ t.kids[k]!.lab)) = false) : cntL s (bw t b) = cntL s (bwK t b k) + cntL s (bw t.kids[k]! (b ++ t.kids[k]!.lab)) ∧ allL s (bw t b) = false := by
  have e := bw_eq t b (k + 1) hk
  rw [bwK_step hk, List.append_assoc] at e
  rw [e, (cntL_app_t hal).1, (cntL_app_t hal).2, (cntL_app_f h).1, (cntL_app_f h).2]
  exact ⟨rfl, rfl⟩
theorem cntL_le (s : Str) (l : List Str) : cntL s l ≤ l.length := (List.takeWhile_sublist _).length_le
end Go.D41
