/-
  Trees of words: the longest word, the words with a beginning, places.
-/
import Derived.Test.YtfmgpocbpbfalaaO41
namespace Go.D41
/-! ### The longest word -/
def lonN (s : Str) : List Str → Nat
  | [] => 0
  | w :: r => max (if w <+: s then w.length else 0) (lonN s r)
theorem lonN_ge {s : Str} : ∀ {l : List Str} {w : Str}, w ∈ l → w <+: s → w.length ≤ lonN s l
  | [], _, h, _ => by cases h
  | v :: r, w, h, hp => by
    rw [lonN]
    rcases List.mem_cons.1 h with e | m
    · subst e; rw [if_pos hp]; omega
    · have := lonN_ge m hp; omega
theorem lonN_in {s : Str} : ∀ {l : List Str}, lonN s l = 0 ∨ (lonN s l ≤ s.length ∧ s.take (lonN s l) ∈ l)
  | [] => .inl rfl
  | w :: r => by
    rw [lonN]
    by_cases hp : w <+: s
    · rw [if_pos hp]
      have hl := hp.length_le
      have e : s.take w.length = w := (List.prefix_iff_eq_take.1 hp).symm
      rcases lonN_in (s := s) (l := r) with q | q
      · rw [q, Nat.max_eq_left (Nat.zero_le _)]
        exact .inr ⟨hl, by rw [e]; simp⟩
      · rcases Nat.le_total w.length (lonN s r) with k | k
        · rw [Nat.max_eq_right k]; exact .inr ⟨q.1, by simp [q.2]⟩
        · rw [Nat.max_eq_left k]; exact .inr ⟨hl, by rw [e]; simp⟩
    · rw [if_neg hp, Nat.max_eq_right (Nat.zero_le _)]
      rcases lonN_in (s := s) (l := r) with q | q
      · exact .inl q
      · exact .inr ⟨q.1, by simp [q.2]⟩
theorem lonN_le (s : Str) (l : List Str) : lonN s l ≤ s.length := by
  rcases lonN_in (s := s) (l := l) with q | q
  · omega
  · exact q.1
theorem lonN_eq {s : Str} {l : List Str} {n : Nat} (h : n = 0 ∨ (n ≤ s.length ∧ s.take n ∈ l)) (hm : ∀ w ∈ l, w <+: s → w.length ≤ n) : n = lonN s l := by
  apply Nat.le_antisymm
  · rcases h with h | h
    · omega
    · have := lonN_ge h.2 (List.take_prefix n s)
      rw [List.length_take] at this; omega
  · rcases lonN_in (s := s) (l := l) with q | q
    · omega
    · have := hm _ q.2 (List.take_prefix _ s)
      rw [List.length_take] at this; omega
theorem lonN_snoc (s : Str) (l : List Str) (w : Str) : lonN s (l ++ [w]) = max (lonN s l) (if w <+: s then w.length else 0) := by
  induction l with
  | nil => simp [lonN]
  | cons v l ih => rw [List.cons_append, lonN, ih, lonN]; omega
/-- On the way down: what is known of the words that are not longer than the place. -/
def lonI (s : Str) (W : List Str) (t : Tr) (at_ n : Nat) : Prop :=
  at_ ≤ s.length ∧ (n = 0 ∨ (n ≤ at_ ∧ s.take n ∈ W)) ∧ (∀ w ∈ W, w <+: s → w.length ≤ at_ → w.length ≤ n) ∧ ∀ w, (w ∈ W ∧ s.take at_ <+: w) ↔ ∃ y ∈ t.inn, w = s.take at_ ++ y
theorem lonI_0 {s : Str} {t : Tr} (_ : canL t.kids) (_ : t.wd = false) : lonI s t.inn t 0 0 := by
  refine ⟨Nat.zero_le _, .inl rfl, fun w hw' _ hl => hl, fun w => ?_⟩
  simp
theorem lonI_end {s : Str} {W : List Str} {t : Tr} {at_ n : Nat} (h : lonI s W t at_ n) (he : ∀ y ∈ t.inn, y <+: s.drop at_ → y = []) : n = lonN s W := by
  obtain ⟨h1, h2, h3, h4⟩ := h
  refine lonN_eq (h2.imp_right fun q => ⟨by omega, q.2⟩) fun w hw hp => ?_
  by_cases hl : w.length ≤ at_
  · exact h3 w hw hp hl
  · exfalso
    have hp2 : s.take at_ <+: w := by
      have := List.prefix_of_prefix_length_le (List.take_prefix at_ s) hp (by rw [List.length_take]; omega)
      exact this
    obtain ⟨y, hy, e⟩ := (h4 w).1 ⟨hw, hp2⟩
    have : y <+: s.drop at_ := by
      obtain ⟨z, hz⟩ := hp
      refine ⟨z, ?_⟩
      have e2 : s.take at_ ++ (y ++ z) = s := by rw [← List.append_assoc, ← e, hz]
      have e3 : s.take at_ ++ (y ++ z) = s.take at_ ++ s.drop at_ := by rw [e2, List.take_append_drop]
      exact List.append_cancel_left e3
    have := he y hy this
    subst this
    rw [e, List.append_nil, List.length_take] at hl
    omega
theorem lonI_step {s : Str} {W : List Str} {t : Tr} {at_ n : Nat} {c : UInt8} {x : Str} (ht : canL t.kids) (h : lonI s W t at_ n) (hs : s.drop at_ = c :: x) (hf : kfnd t.kids c = true) (hp : t.kids[kpos t.kids c]!.lab <+: s.drop at_) :
    lonI s W t.kids[kpos t.kids c]! (at_ + t.kids[kpos t.kids c]!.lab.length) (if t.kids[kpos t.kids c]!.wd then at_ + t.kids[kpos t.kids c]!.lab.length else n) := by
  obtain ⟨h1, h2, h3, h4⟩ := h
  obtain ⟨k1, k2⟩ := kid_yes ht hf
  have hck := can_kids ht k1
  have hlab := ((Tr.can_iff _).1 (can_at ht k1)).1
  have hmk : ∀ y, y ∈ t.kids[kpos t.kids c]!.ws → y ∈ t.inn := fun y hy => Tr.inn_mem.2 (.inr (sub_kid k1 hy))
  have hmk2 : ∀ y, t.kids[kpos t.kids c]!.lab <+: y → y ∈ t.inn → y ∈ t.kids[kpos t.kids c]!.ws := fun y hy hm => by
    obtain ⟨z, e⟩ := Tr.lab_hd hlab
    obtain ⟨u, rfl⟩ := hy
    rw [e, List.cons_append, k2] at hm ⊢
    rw [inn_cons] at hm
    have := (mem_kid ht k1 (x := z ++ u)).1 (by rw [k2]; exact hm)
    rwa [k2] at this
  have hmk3 : ∀ v, c :: v ∈ t.inn → c :: v ∈ t.kids[kpos t.kids c]!.ws := fun v hv => by
    have := (mem_kid ht k1 (x := v)).1 (by rw [k2]; exact inn_cons.1 hv)
    rwa [k2] at this
  generalize t.kids[kpos t.kids c]! = k at *
  have hl : at_ + k.lab.length ≤ s.length := by
    have := hp.length_le
    rw [List.length_drop] at this; omega
  have htk : s.take (at_ + k.lab.length) = s.take at_ ++ k.lab := by
    rw [List.take_add]
    congr 1
    exact (List.prefix_iff_eq_take.1 hp).symm
  have h4' : ∀ w, (w ∈ W ∧ s.take (at_ + k.lab.length) <+: w) ↔ ∃ y ∈ k.inn, w = s.take (at_ + k.lab.length) ++ y := fun w => by
    rw [htk]
    constructor
    · rintro ⟨hw, hpw⟩
      obtain ⟨y, hy, e⟩ := (h4 w).1 ⟨hw, (List.prefix_append _ _).trans hpw⟩
      have hly : k.lab <+: y := by
        rw [e] at hpw
        exact (List.prefix_append_right_inj _).1 hpw
      obtain ⟨z, hz, e2⟩ := Tr.ws_mem.1 (hmk2 y hly hy)
      exact ⟨z, hz, by rw [e, e2, List.append_assoc]⟩
    · rintro ⟨y, hy, e⟩
      have := (h4 w).2 ⟨k.lab ++ y, hmk _ (Tr.ws_mem.2 ⟨y, hy, rfl⟩), by rw [e, List.append_assoc]⟩
      exact ⟨this.1, by rw [e]; exact List.prefix_append _ _⟩
  refine ⟨hl, ?_, ?_, h4'⟩
  · split
    · rename_i hw
      exact .inr ⟨Nat.le_refl _, ((h4' _).2 ⟨[], (has_nil hck).2 hw, (List.append_nil _).symm⟩).1⟩
    · exact h2.imp_right fun q => ⟨by omega, q.2⟩
  · intro w hw hpw hlw
    by_cases hl2 : w.length ≤ at_
    · have := h3 w hw hpw hl2
      have hn : n ≤ at_ := by rcases h2 with q | q <;> omega
      split <;> omega
    · have hp2 : s.take at_ <+: w := List.prefix_of_prefix_length_le (List.take_prefix at_ s) hpw (by rw [List.length_take]; omega)
      obtain ⟨y, hy, e⟩ := (h4 w).1 ⟨hw, hp2⟩
      have hys : y <+: s.drop at_ := by
        obtain ⟨z, hz⟩ := hpw
        refine ⟨z, ?_⟩
        have e2 : s.take at_ ++ (y ++ z) = s := by rw [← List.append_assoc, ← e, hz]
        have e3 : s.take at_ ++ (y ++ z) = s.take at_ ++ s.drop at_ := by rw [e2, List.take_append_drop]
        exact List.append_cancel_left e3
      have hly : y.length ≤ k.lab.length := by
        rw [e, List.length_append, List.length_take] at hlw; omega
      have hyp : y <+: k.lab := List.prefix_of_prefix_length_le hys hp hly
      have hyne : y ≠ [] := fun q => by
        rw [e, q, List.append_nil, List.length_take] at hl2; omega
      have hyk : y ∈ k.ws := by
        cases y with
        | nil => exact absurd rfl hyne
        | cons d v =>
          obtain ⟨u, hu⟩ := hys
          rw [hs, List.cons_append] at hu
          injection hu with hu _
          subst hu
          exact hmk3 v hy
      obtain ⟨z, hz, e2⟩ := Tr.ws_mem.1 hyk
      have hz0 : z = [] := by
        have := congrArg List.length e2
        rw [List.length_append] at this
        exact List.eq_nil_of_length_eq_zero (by omega)
      have hwk : k.wd = true := (has_nil hck).1 (hz0 ▸ hz)
      rw [if_pos hwk]; exact hlw
/-- The reference's way. -/
def lonO (s : Str) (l : List Str) : Str := s.take (lonN s l)
theorem lonO_snoc (s : Str) (l : List Str) (w : Str) : lonO s (l ++ [w]) = if w <+: s ∧ (lonO s l).length < w.length then w else lonO s l := by
  have hle := lonN_le s l
  have hlen : (lonO s l).length = lonN s l := by rw [lonO, List.length_take]; omega
  rw [hlen, lonO, lonN_snoc]
  by_cases hp : w <+: s
  · rw [if_pos hp]
    have e : s.take w.length = w := (List.prefix_iff_eq_take.1 hp).symm
    split
    · rename_i q; rw [Nat.max_eq_right (by omega), e]
    · rename_i q
      rw [Nat.max_eq_left (by
        by_cases k : lonN s l < w.length
        · exact absurd ⟨hp, k⟩ q
        · omega)]; rfl
  · rw [if_neg hp, if_neg (fun q => hp q.1), Nat.max_eq_left (Nat.zero_le _)]; rfl
theorem lonO_ne (s : Str) (l : List Str) : decide (lonO s l ≠ []) = decide (0 < lonN s l) := by
  have hle := lonN_le s l
  have hlen : (lonO s l).length = lonN s l := by rw [lonO, List.length_take]; omega
  rw [decide_eq_decide]
  constructor
  · intro h
    rcases Nat.eq_zero_or_pos (lonN s l) with q | q
    · exact absurd (List.eq_nil_of_length_eq_zero (by omega)) h
    · exact q
  · intro h e
    rw [e, List.length_nil] at hlen; omega
/-! ### The words with a beginning -/
def wthL (p : Str) (l : List Str) : List Str := l.filter fun w => decide (p <+: w)
/-- On the way down: the words are below, behind what has been gone. -/
def wthI (p : Str) (W : List Str) (t : Tr) (b : Str) : Prop := (b <+: p ∨ p <+: b) ∧ wthL p W = wthL p (t.inn.map (b ++ ·))
theorem wthI_0 (p : Str) (t : Tr) : wthI p t.inn t [] := by
  refine ⟨.inl List.nil_prefix, ?_⟩
  rw [show (t.inn.map ([] ++ ·)) = t.inn by simp]
theorem wthL_app (b r : Str) (l : List Str) : wthL (b ++ r) (l.map (b ++ ·)) = (wthL r l).map (b ++ ·) := by
  rw [wthL, wthL, List.filter_map]
  congr 1
  apply List.filter_congr
  intro x _
  simp [List.prefix_append_right_inj]
theorem wthI_end {p : Str} {W : List Str} {t : Tr} {b : Str} (h : wthI p W t b) (hl : p.length ≤ b.length) : wthL p W = t.inn.map (b ++ ·) := by
  have hpb : p <+: b := by
    rcases h.1 with ⟨z, hz⟩ | q
    · have : z = [] := by
        have := congrArg List.length hz
        rw [List.length_append] at this
        exact List.eq_nil_of_length_eq_zero (by omega)
      subst this
      rw [List.append_nil] at hz; rw [hz]; exact List.prefix_refl _
    · exact q
  rw [h.2, wthL, List.filter_eq_self]
  intro x hx
  obtain ⟨y, _, rfl⟩ := List.mem_map.1 hx
  exact decide_eq_true (hpb.trans (List.prefix_append _ _))
theorem wth_split {p b : Str} (h : b <+: p ∨ p <+: b) (hl : b.length < p.length) : p = b ++ p.drop b.length := by
  rcases h with ⟨z, rfl⟩ | q
  · rw [List.drop_left]
  · have := q.length_le; omega
theorem wthI_none {p : Str} {W : List Str} {t : Tr} {b : Str} {c : UInt8} {x : Str} (ht : canL t.kids) (h : wthI p W t b) (hl : b.length < p.length) (hs : p.drop b.length = c :: x) (hf : kfnd t.kids c = false) : wthL p W = [] := by
  have e := wth_split h.1 hl
  rw [h.2, e, wthL_app, hs]
  have : wthL (c :: x) t.inn = [] := by
    rw [wthL, List.filter_eq_nil_iff]
    intro y hy
    simp only [decide_eq_true_eq]
    rintro ⟨z, rfl⟩
    exact has_none ht hf hy
  rw [this]; rfl
/-- What two strings have in common, if one is not the other's beginning. -/
theorem comm_pre {a b y : Str} (ha : a <+: y) (hb : b <+: y) : comm a b = min a.length b.length := by
  obtain ⟨t1, t2, t3⟩ := comm_take a b
  rcases Nat.lt_or_ge (comm a b) (min a.length b.length) with q | q
  · exfalso
    obtain ⟨c, d, u, v, hn, e1, e2⟩ := comm_next a b (by omega) (by omega)
    obtain ⟨z, hz⟩ := ha
    obtain ⟨z', hz'⟩ := hb
    have f1 : y.drop (comm a b) = c :: (u ++ z) := by
      rw [← hz, List.drop_append_of_le_length t2, e1]; rfl
    have f2 : y.drop (comm a b) = d :: (v ++ z') := by
      rw [← hz', List.drop_append_of_le_length t3, e2]; rfl
    rw [f1] at f2; injection f2 with f2 _
    exact hn f2
  · omega
theorem kid_ws {t : Tr} (ht : canL t.kids) {c : UInt8} (hf : kfnd t.kids c = true) {v : Str} (hv : c :: v ∈ t.inn) : c :: v ∈ t.kids[kpos t.kids c]!.ws := by
  obtain ⟨k1, k2⟩ := kid_yes ht hf
  have := (mem_kid ht k1 (x := v)).1 (by rw [k2]; exact inn_cons.1 hv)
  rwa [k2] at this
theorem wthI_diff {p : Str} {W : List Str} {t : Tr} {b : Str} {c : UInt8} {x : Str} (ht : canL t.kids) (h : wthI p W t b) (hl : b.length < p.length) (hs : p.drop b.length = c :: x) (hf : kfnd t.kids c = true)
    (hc : comm (c :: x) t.kids[kpos t.kids c]!.lab < min (c :: x).length t.kids[kpos t.kids c]!.lab.length) : wthL p W = [] := by
  have e := wth_split h.1 hl
  rw [h.2, e, wthL_app, hs]
  have : wthL (c :: x) t.inn = [] := by
    rw [wthL, List.filter_eq_nil_iff]
    intro y hy
    simp only [decide_eq_true_eq]
    intro hp
    obtain ⟨z, hz⟩ := hp
    have hk := kid_ws ht hf (v := x ++ z) (by rw [← List.cons_append, hz]; exact hy)
    rw [← List.cons_append, hz] at hk
    have := comm_pre (a := c :: x) (b := t.kids[kpos t.kids c]!.lab) (y := y) ⟨z, hz⟩ (ws_pre.1 hk).1
    omega
  rw [this]; rfl
theorem wthI_step {p : Str} {W : List Str} {t : Tr} {b : Str} {c : UInt8} {x : Str} (ht : canL t.kids) (h : wthI p W t b) (hl : b.length < p.length) (hs : p.drop b.length = c :: x) (hf : kfnd t.kids c = true)
    (hc : ¬ comm (c :: x) t.kids[kpos t.kids c]!.lab < min (c :: x).length t.kids[kpos t.kids c]!.lab.length) : wthI p W t.kids[kpos t.kids c]! (b ++ t.kids[kpos t.kids c]!.lab) := by
  obtain ⟨k1, k2⟩ := kid_yes ht hf
  have e := wth_split h.1 hl
  have hck := can_kids ht k1
  obtain ⟨t1, t2, t3⟩ := comm_take (c :: x) t.kids[kpos t.kids c]!.lab
  constructor
  · rw [e, hs]
    rcases Nat.le_total (c :: x).length t.kids[kpos t.kids c]!.lab.length with q | q
    · right
      have : comm (c :: x) t.kids[kpos t.kids c]!.lab = (c :: x).length := by omega
      rw [this, List.take_length] at t1
      rw [List.prefix_append_right_inj, t1]
      exact List.take_prefix _ _
    · left
      have : comm (c :: x) t.kids[kpos t.kids c]!.lab = t.kids[kpos t.kids c]!.lab.length := by omega
      rw [List.prefix_append_right_inj]
      exact comm_full.1 this
  · rw [h.2]
    apply asc_ext
    · exact (asc_map b (inn_asc t ht)).filter _
    · exact (asc_map _ (inn_asc _ hck)).filter _
    · intro y
      rw [wthL, wthL, List.mem_filter, List.mem_filter]
      constructor
      · rintro ⟨hy, hp⟩
        obtain ⟨v, hv, rfl⟩ := List.mem_map.1 hy
        have hp' := of_decide_eq_true hp
        rw [e, hs, List.prefix_append_right_inj] at hp'
        obtain ⟨z, hz⟩ := hp'
        have hk := kid_ws ht hf (v := x ++ z) (by rw [← List.cons_append, hz]; exact hv)
        rw [← List.cons_append, hz] at hk
        obtain ⟨u, hu, e2⟩ := Tr.ws_mem.1 hk
        exact ⟨List.mem_map.2 ⟨u, hu, by rw [e2]; exact List.append_assoc _ _ _⟩, hp⟩
      · rintro ⟨hy, hp⟩
        obtain ⟨u, hu, rfl⟩ := List.mem_map.1 hy
        refine ⟨List.mem_map.2 ⟨t.kids[kpos t.kids c]!.lab ++ u, Tr.inn_mem.2 (.inr (sub_kid k1 (Tr.ws_mem.2 ⟨u, hu, rfl⟩))), (List.append_assoc _ _ _).symm⟩, hp⟩
/-! ### Places -/
def rnk (w : Str) (l : List Str) : Nat := (l.filter fun x => decide (lt x w)).length
theorem rnk_take {w : Str} : ∀ {l : List Str}, Asc l → (l.takeWhile fun x => decide (lt x w)).length = rnk w l
  | [], _ => rfl
  | x :: r, h => by
    obtain ⟨h1, h2⟩ := List.pairwise_cons.1 h
    rw [rnk, List.takeWhile_cons, List.filter_cons]
    split
    · rw [List.length_cons, List.length_cons, rnk_take h2]; rfl
    · rename_i q
      have q : ¬ lt x w := by simpa using q
      have : (r.filter fun x => decide (lt x w)) = [] := by
        rw [List.filter_eq_nil_iff]
        intro y hy
        simp only [decide_eq_true_eq]
        exact fun k => q (lt_trans (h1 y hy) k)
      rw [this]
theorem rnk_at {w : Str} : ∀ {l : List Str}, Asc l → rnk w l < l.length → ¬ lt l[rnk w l]! w
  | [], _, h => absurd h (by simp)
  | x :: r, h, hl => by
    obtain ⟨h1, h2⟩ := List.pairwise_cons.1 h
    rw [← rnk_take h, List.takeWhile_cons] at hl ⊢
    split
    · rename_i q
      rw [if_pos q, List.length_cons, List.length_cons] at hl
      rw [List.length_cons, List.getElem!_cons_succ, rnk_take h2]
      exact rnk_at h2 (by rw [← rnk_take h2]; omega)
    · rename_i q
      simpa using q
theorem rnk_mem {w : Str} : ∀ {l : List Str}, Asc l → (w ∈ l ↔ rnk w l < l.length ∧ l[rnk w l]! = w)
  | [], _ => by simp
  | x :: r, h => by
    obtain ⟨h1, h2⟩ := List.pairwise_cons.1 h
    rw [← rnk_take h, List.takeWhile_cons]
    split
    · rename_i q
      have q : lt x w := of_decide_eq_true q
      rw [List.length_cons, List.length_cons, List.getElem!_cons_succ, rnk_take h2, List.mem_cons, rnk_mem h2]
      constructor
      · rintro (e | e)
        · subst e; exact absurd q (lt_irrefl _)
        · exact ⟨by omega, e.2⟩
      · rintro ⟨a, b⟩
        exact .inr ⟨by omega, b⟩
    · rename_i q
      have q : ¬ lt x w := by simpa using q
      rw [List.length_nil, List.length_cons, List.mem_cons]
      constructor
      · rintro (e | e)
        · exact ⟨by omega, e.symm⟩
        · exact absurd (h1 w e) q
      · rintro ⟨_, b⟩
        exact .inl b.symm
end Go.D41
