/-
  Bounds, validity, the tree of any words.
-/
import Derived.Test.YtfmgpocbpbfalaaP41
namespace Go.D41
/-! ### Bounds -/
mutual
def Tr.sm : Tr → Prop
  | .nd _ _ ks => ks.length ≤ 2932031007317 ∧ smL ks
termination_by structural t => t
def smL : List Tr → Prop
  | [] => True
  | k :: r => k.sm ∧ smL r
termination_by structural l => l
end
theorem smL_iff : ∀ ks : List Tr, smL ks ↔ ∀ k ∈ ks, k.sm
  | [] => by simp [smL]
  | k :: r => by rw [smL, smL_iff r]; simp
theorem Tr.sm_iff (t : Tr) : t.sm ↔ t.kids.length ≤ 2932031007317 ∧ ∀ k ∈ t.kids, k.sm := by
  cases t with
  | nd l w ks => rw [Tr.sm, smL_iff]; rfl
theorem ws_len (t : Tr) : t.ws.length = t.inn.length := by rw [Tr.ws_eq, List.length_map]
theorem wsL_len {k : Tr} : ∀ {ks : List Tr}, k ∈ ks → k.ws.length ≤ (wsL ks).length
  | [], h => by cases h
  | a :: r, h => by
    rw [wsL, List.length_append]
    rcases List.mem_cons.1 h with e | m
    · subst e; omega
    · have := wsL_len m; omega
theorem kids_le : ∀ {ks : List Tr}, canL ks → ks.length ≤ (wsL ks).length
  | [], _ => Nat.zero_le _
  | k :: r, h => by
    have h0 := h
    rw [canL] at h
    have := kids_le h.2.2
    obtain ⟨x, hx⟩ := ws_some k h.1
    have hp := List.length_pos_of_mem hx
    rw [wsL, List.length_append, List.length_cons, ws_len]; omega
/-- At most so many words, none of them great. -/
def bd (n : Nat) (t : Tr) : Prop := canL t.kids ∧ (∀ x ∈ t.inn, x.length ≤ 1000) ∧ t.inn.length ≤ n
theorem inn_len (t : Tr) : (wsL t.kids).length ≤ t.inn.length := by rw [Tr.inn, List.length_append]; omega
theorem at_mem {ks : List Tr} {i : Nat} (hi : i < ks.length) : ks[i]! ∈ ks := by rw [getElem!_pos ks i hi]; exact List.getElem_mem _
theorem bd_kids {n : Nat} {t : Tr} (h : bd n t) : t.kids.length ≤ n := by
  have h1 := kids_le h.1
  have h2 := inn_len t
  have h3 := h.2.2
  omega
theorem bd_kid {n : Nat} {t : Tr} (h : bd n t) {k : Tr} (hk : k ∈ t.kids) : bd n k ∧ k.lab.length ≤ 1000 ∧ ∀ y ∈ k.inn, k.lab.length + y.length ≤ 1000 := by
  have hc := ((canL_iff _).1 h.1).1 k hk
  have hw : ∀ y ∈ k.inn, k.lab.length + y.length ≤ 1000 := fun y hy => by
    have := h.2.1 (k.lab ++ y) (Tr.inn_mem.2 (.inr (wsL_mem.2 ⟨k, hk, Tr.ws_mem.2 ⟨y, hy, rfl⟩⟩)))
    rwa [List.length_append] at this
  obtain ⟨y, hy⟩ := ws_some k hc
  have h1 := wsL_len hk
  have h2 := inn_len t
  have h3 := h.2.2
  rw [ws_len] at h1
  exact ⟨⟨((Tr.can_iff _).1 hc).2.2, fun x hx => by have := hw x hx; omega, by omega⟩, by have := hw y hy; omega, hw⟩
theorem bd_sm {n : Nat} (hn : n ≤ 1000000) (t : Tr) : bd n t → t.sm := Tr.ind (p := fun t => bd n t → t.sm) (fun t ih h => (Tr.sm_iff t).2 ⟨by have := bd_kids h; omega, fun k hk => ih k hk (bd_kid h hk).1⟩) t
theorem bd_mk {n : Nat} {lab : Str} {I : List Str} (hI : Asc I) (h1 : ∀ x ∈ I, x.length ≤ 1000) (h2 : I.length ≤ n) : bd n (mkT lab I) := by
  refine ⟨(mkT_ok lab hI).1, fun x hx => h1 x (((mkT_ok lab hI).2 x).1 hx), ?_⟩
  rw [mkT_inn lab hI]; exact h2
theorem insS_len {w : Str} : ∀ {l : List Str}, (insS w l).length ≤ l.length + 1
  | [] => Nat.le_refl _
  | x :: r => by
    rw [insS]
    split
    · have := insS_len (w := w) (l := r)
      rw [List.length_cons, List.length_cons]; omega
    · split
      · rw [List.length_cons]; omega
      · simp
theorem bd_ins {n : Nat} {t : Tr} (h : bd n t) {w : Str} (hw : w.length ≤ 1000) : bd (n + 1) (insT t w) := by
  refine bd_mk (insS_asc (inn_asc t h.1)) (fun x hx => ?_) ?_
  · rcases insS_mem.1 hx with e | m
    · rw [e]; exact hw
    · exact h.2.1 x m
  · have := insS_len (w := w) (l := t.inn)
    have := h.2.2
    omega
theorem bd_spl {n : Nat} {k : Tr} (hk : k.can) (h : bd n k) (hl : ∀ y ∈ k.inn, k.lab.length + y.length ≤ 1000) {m : Nat} (hm : m < k.lab.length) : bd n (splT k m) := by
  refine ⟨splT_ok hk hm, fun x hx => ?_, ?_⟩
  · obtain ⟨y, hy, rfl⟩ := splT_inn.1 hx
    have := hl y hy
    rw [List.length_append, List.length_drop]; omega
  · have : (splT k m).inn = [] ++ ((Tr.nd (k.lab.drop m) k.wd k.kids).ws ++ []) := rfl
    rw [this, List.nil_append, List.append_nil, ws_len]
    exact h.2.2
theorem bd_rem {n : Nat} {t : Tr} (h : bd n t) (w : Str) : bd n (remT t w) := by
  refine bd_mk ((inn_asc t h.1).filter _) (fun x hx => h.2.1 x (List.mem_filter.1 hx).1) ?_
  have := List.length_filter_le (fun x => decide (x ≠ w)) t.inn
  have := h.2.2
  omega
/-! ### Validity -/
/-- As the machine adds. -/
def plus (n : Int) (l : Str) : Int := IntKind.i64.wrap (n + (l.length : Int))
theorem plus_eq {n : Int} {l : Str} (h : 0 ≤ n) (k : n + (l.length : Int) ≤ 100) : plus n l = n + (l.length : Int) := by rw [plus, IntKind.wrap_i64]; omega
mutual
def Tr.okT : Tr → Int → Prop
  | .nd _ _ ks, n => okK ks n (-1)
termination_by structural t => t
def okK : List Tr → Int → Int → Prop
  | [], _, _ => True
  | k :: r, n, p => k.lab ≠ [] ∧ plus n k.lab ≤ 100 ∧ p < fstI k ∧ (k.wd = false → 2 ≤ k.kids.length) ∧ k.okT (plus n k.lab) ∧ okK r n (fstI k)
termination_by structural l => l
end
def okAt (ks : List Tr) (n : Int) (i : Nat) : Prop := ks[i]!.lab ≠ [] ∧ plus n ks[i]!.lab ≤ 100 ∧ (0 < i → fstI ks[i - 1]! < fstI ks[i]!) ∧ (ks[i]!.wd = false → 2 ≤ ks[i]!.kids.length) ∧ ks[i]!.okT (plus n ks[i]!.lab)
theorem okK_iff (n : Int) : ∀ (ks : List Tr) (p : Int), okK ks n p ↔ (0 < ks.length → p < fstI ks[0]!) ∧ ∀ i, i < ks.length → okAt ks n i
  | [], p => by simp [okK]
  | k :: r, p => by
    rw [okK, okK_iff n r]
    constructor
    · rintro ⟨h1, h2, h3, h4, h5, h6, h7⟩
      refine ⟨fun _ => h3, fun i hi => ?_⟩
      cases i with
      | zero => exact ⟨h1, h2, fun h => absurd h (by omega), h4, h5⟩
      | succ i =>
        rw [List.length_cons] at hi
        obtain ⟨a, b, c, d, e⟩ := h7 i (by omega)
        refine ⟨a, b, fun _ => ?_, d, e⟩
        rw [Nat.add_sub_cancel, List.getElem!_cons_succ]
        cases i with
        | zero => exact h6 (by omega)
        | succ i => exact c (by omega)
    · rintro ⟨h, g⟩
      obtain ⟨a, b, c, d, e⟩ := g 0 (by simp)
      refine ⟨a, b, h (by simp), d, e, fun hl => ?_, fun i hi => ?_⟩
      · exact (g 1 (by rw [List.length_cons]; omega)).2.2.1 (by omega)
      · obtain ⟨a', b', c', d', e'⟩ := g (i + 1) (by rw [List.length_cons]; omega)
        refine ⟨a', b', fun h0 => ?_, d', e'⟩
        have := c' (by omega)
        rw [Nat.add_sub_cancel, List.getElem!_cons_succ] at this
        obtain ⟨j, rfl⟩ : ∃ j, i = j + 1 := ⟨i - 1, by omega⟩
        exact this
theorem fst_ge (t : Tr) : -1 ≤ fstI t := by
  unfold fstI
  split <;> omega
theorem fst_ne {t : Tr} (h : t.lab ≠ []) : -1 < fstI t := by rw [fstI_hd h]; omega
theorem Tr.okT_iff (t : Tr) (n : Int) : t.okT n ↔ ∀ i, i < t.kids.length → okAt t.kids n i := by
  cases t with
  | nd l w ks =>
    rw [Tr.okT, okK_iff]
    exact ⟨fun h => h.2, fun h => ⟨fun h0 => fst_ne (h 0 h0).1, h⟩⟩
theorem okT_of (t : Tr) : ∀ n : Int, 0 ≤ n → canL t.kids → (∀ x ∈ t.inn, n + (x.length : Int) ≤ 100) → t.okT n := by
  refine Tr.ind (p := fun t => ∀ n : Int, 0 ≤ n → canL t.kids → (∀ x ∈ t.inn, n + (x.length : Int) ≤ 100) → t.okT n) (fun t ih n h0n hc h => ?_) t
  rw [Tr.okT_iff]
  intro i hi
  have hm := at_mem hi
  have hk := can_at hc hi
  obtain ⟨q1, q2, q3⟩ := (Tr.can_iff _).1 hk
  obtain ⟨y, hy⟩ := ws_some _ hk
  have hw : ∀ y ∈ t.kids[i]!.inn, n + ((t.kids[i]!.lab.length : Int) + (y.length : Int)) ≤ 100 := fun y hy => by
    have := h (t.kids[i]!.lab ++ y) (Tr.inn_mem.2 (.inr (wsL_mem.2 ⟨_, hm, Tr.ws_mem.2 ⟨y, hy, rfl⟩⟩)))
    rw [List.length_append] at this; omega
  have hp : plus n t.kids[i]!.lab = n + (t.kids[i]!.lab.length : Int) := plus_eq h0n (by have := hw y hy; omega)
  unfold okAt
  rw [hp]
  refine ⟨q1, by have := hw y hy; omega, fun h0 => ?_, q2, ih _ hm _ (by omega) q3 fun x hx => by have := hw x hx; omega⟩
  have := hd_lt hc (show i - 1 < i by omega) hi
  rw [fst_at hc (by omega), fst_at hc hi]
  rw [u8_lt] at this; omega
def validT (t : Tr) : Prop := t.lab = [] ∧ t.wd = false ∧ t.okT 0
noncomputable instance (t : Tr) (n : Int) : Decidable (t.okT n) := Classical.propDecidable _
noncomputable instance (t : Tr) : Decidable (validT t) := by unfold validT; infer_instance
/-! ### The tree of any words -/
def wrd (w : Str) : Prop := 1 ≤ w.length ∧ w.length ≤ 100
instance (w : Str) : Decidable (wrd w) := by unfold wrd; infer_instance
def wrds (l : List Str) : Prop := ∀ w ∈ l, wrd w
instance (l : List Str) : Decidable (wrds l) := by unfold wrds; infer_instance
def zeroT : Tr := .nd [] false []
def ofE (l : List Str) : Int := if wrds l then 0 else 1
def ofT (l : List Str) : Tr := if wrds l then mkT [] (sortS l) else zeroT
theorem of_1 {l : List Str} (h : ¬ wrds l) : ofE l = 1 ∧ ofT l = zeroT := ⟨if_neg h, if_neg h⟩
theorem of_0 {l : List Str} (h : wrds l) : ofE l = 0 ∧ ofT l = mkT [] (sortS l) := ⟨if_pos h, if_pos h⟩
theorem sortF_snoc (a r : List Str) (w : Str) : sortF a (r ++ [w]) = insS w (sortF a r) := by
  induction r generalizing a with
  | nil => rfl
  | cons v r ih => rw [List.cons_append, sortF, ih, sortF]
theorem sortS_snoc {l : List Str} {k : Nat} (h : k < l.length) : sortS (l.take (k + 1)) = insS l[k]! (sortS (l.take k)) := by
  rw [sortS, sortS, ← sortF_snoc, List.take_add_one, List.getElem?_eq_getElem h, getElem!_pos l k h]; rfl
theorem insS_same {w : Str} {l : List Str} (ha : Asc l) (h : w ∈ l) : insS w l = l := asc_ext (insS_asc ha) ha fun x => by
  rw [insS_mem]
  exact ⟨fun q => q.elim (fun e => by rw [e]; exact h) id, .inr⟩
theorem insT_mk {lab w : Str} {I : List Str} (h : Asc I) : insT (mkT lab I) w = mkT lab (insS w I) := by
  rw [insT, mkT_inn lab h]; rfl
theorem remT_mk {lab w : Str} {I : List Str} (h : Asc I) : remT (mkT lab I) w = mkT lab (I.filter fun x => decide (x ≠ w)) := by
  rw [remT, mkT_inn lab h]; rfl
theorem mk_wd {lab : Str} {I : List Str} (h : [] ∉ I) : (mkT lab I).wd = false := decide_eq_false h
theorem zero_mk : zeroT = mkT [] [] := rfl
theorem sort_ne {l : List Str} (h : wrds l) : [] ∉ sortS l := fun q => by
  have := (h [] (sortS_mem.1 q)).1
  simp at this
theorem sort_len {l : List Str} : (sortS l).length ≤ l.length := by
  have key : ∀ (r a : List Str), (sortF a r).length ≤ a.length + r.length := fun r => by
    induction r with
    | nil => intro a; simp [sortF]
    | cons w r ih =>
      intro a
      have h1 := ih (insS w a)
      have h2 := insS_len (w := w) (l := a)
      rw [sortF, List.length_cons]; omega
  have := key l []
  rw [List.length_nil, Nat.zero_add] at this
  exact this
theorem of_bd {l : List Str} (h : wrds l) : bd l.length (mkT [] (sortS l)) := bd_mk (sortS_asc l) (fun x hx => by have := (h x (sortS_mem.1 hx)).2; omega) sort_len
theorem of_valid {l : List Str} (h : wrds l) : validT (mkT [] (sortS l)) := by
  refine ⟨rfl, mk_wd (sort_ne h), okT_of _ 0 (Int.le_refl _) (mkT_ok [] (sortS_asc l)).1 fun x hx => ?_⟩
  rw [mkT_inn [] (sortS_asc l)] at hx
  have := (h x (sortS_mem.1 hx)).2
  omega
/-- Putting words in, and taking them out, as the program does. -/
def insW (w : Str) (I : List Str) : List Str := if wrd w then insS w I else I
def remW (w : Str) (I : List Str) : List Str := if wrd w then I.filter fun x => decide (x ≠ w) else I
theorem insW_asc {w : Str} {I : List Str} (h : Asc I) : Asc (insW w I) := by
  unfold insW; split
  · exact insS_asc h
  · exact h
theorem remW_asc {w : Str} {I : List Str} (h : Asc I) : Asc (remW w I) := by
  unfold remW; split
  · exact h.filter _
  · exact h
theorem insW_mem {w x : Str} {I : List Str} : x ∈ insW w I ↔ (wrd w ∧ x = w) ∨ x ∈ I := by
  unfold insW; split
  · rename_i h; rw [insS_mem]; simp [h]
  · rename_i h; simp [h]
theorem remW_mem {w x : Str} {I : List Str} : x ∈ remW w I ↔ x ∈ I ∧ (wrd w → x ≠ w) := by
  unfold remW; split
  · rename_i h; simp [h]
  · rename_i h; simp [h]
end Go.D41
