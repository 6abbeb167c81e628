/-
  What becomes of a tree: putting in, taking out, looking for.
-/
import Derived.Test.YtfmgpocbpbfalaaN41
namespace Go.D41
/-! ### The kid for a byte -/
def posB (p : Nat → Bool) : Nat → Nat
  | 0 => 0
  | k + 1 => if p k then k + 1 else posB p k
theorem posB_le (p : Nat → Bool) : ∀ k, posB p k ≤ k
  | 0 => Nat.le_refl _
  | k + 1 => by
    rw [posB]
    split
    · exact Nat.le_refl _
    · have := posB_le p k; omega
theorem posB_spec {p : Nat → Bool} {n : Nat} (hm : ∀ i j, i < j → j < n → p j = true → p i = true) : ∀ k, k ≤ n → (∀ j, j < posB p k → p j = true) ∧ (∀ j, posB p k ≤ j → j < k → p j = false)
  | 0, _ => ⟨fun j hj => by simp [posB] at hj, fun j _ hj => by omega⟩
  | k + 1, hk => by
    obtain ⟨h1, h2⟩ := posB_spec hm k (by omega)
    cases e : p k with
    | true =>
      rw [posB, if_pos e]
      refine ⟨fun j hj => ?_, fun j hj hj2 => by omega⟩
      by_cases ej : j = k
      · subst ej; exact e
      · exact hm j k (by omega) (by omega) e
    | false =>
      rw [posB, if_neg (by rw [e]; decide)]
      refine ⟨h1, fun j hj hj2 => ?_⟩
      by_cases ej : j = k
      · subst ej; exact e
      · exact h2 j hj (by omega)
theorem posB_eq {p : Nat → Bool} {n i : Nat} (hm : ∀ i j, i < j → j < n → p j = true → p i = true) (hi : i ≤ n) (h1 : ∀ j, j < i → p j = true) (h2 : ∀ j, i ≤ j → j < n → p j = false) : i = posB p n := by
  have hl := posB_le p n
  obtain ⟨q1, q2⟩ := posB_spec hm n (Nat.le_refl _)
  rcases Nat.lt_trichotomy i (posB p n) with e | e | e
  · have := q1 i e; rw [h2 i (Nat.le_refl _) (by omega)] at this; cases this
  · exact e
  · have := h1 _ e; rw [q2 _ (Nat.le_refl _) (by omega)] at this; cases this
def fstI (t : Tr) : Int := match t.lab with
  | [] => -1
  | c :: _ => (c.toNat : Int)
theorem fstI_hd {t : Tr} (h : t.lab ≠ []) : fstI t = (t.hd.toNat : Int) := by
  obtain ⟨x, e⟩ := Tr.lab_hd h
  rw [fstI, e]
def ltK (ks : List Tr) (c : UInt8) (j : Nat) : Bool := decide (fstI ks[j]! - (c.toNat : Int) < 0)
def kpos (ks : List Tr) (c : UInt8) : Nat := posB (ltK ks c) ks.length
def kfnd (ks : List Tr) (c : UInt8) : Bool := decide ((kpos ks c : Int) < ks.length) && decide (fstI ks[kpos ks c]! - (c.toNat : Int) = 0)
theorem can_at {ks : List Tr} (h : canL ks) {i : Nat} (hi : i < ks.length) : ks[i]!.can := by
  rw [getElem!_pos ks i hi]; exact ((canL_iff ks).1 h).1 _ (List.getElem_mem _)
theorem hd_lt {ks : List Tr} (h : canL ks) {i j : Nat} (hij : i < j) (hj : j < ks.length) : ks[i]!.hd < ks[j]!.hd := by
  rw [getElem!_pos ks i (by omega), getElem!_pos ks j hj]
  exact (List.pairwise_iff_getElem.1 ((canL_iff ks).1 h).2) i j (by omega) hj hij
theorem fst_at {ks : List Tr} (h : canL ks) {i : Nat} (hi : i < ks.length) : fstI ks[i]! = (ks[i]!.hd.toNat : Int) := fstI_hd ((Tr.can_iff _).1 (can_at h hi)).1
theorem u8_lt {a b : UInt8} : a < b ↔ a.toNat < b.toNat := UInt8.lt_iff_toNat_lt
theorem ltK_iff {ks : List Tr} (h : canL ks) {c : UInt8} {j : Nat} (hj : j < ks.length) : ltK ks c j = true ↔ ks[j]!.hd < c := by
  rw [ltK, decide_eq_true_eq, fst_at h hj, u8_lt]; omega
theorem ltK_mono {ks : List Tr} (h : canL ks) (c : UInt8) : ∀ i j, i < j → j < ks.length → ltK ks c j = true → ltK ks c i = true := fun i j hij hj e => by
  rw [ltK_iff h hj] at e
  rw [ltK_iff h (by omega)]
  exact UInt8.lt_trans (hd_lt h hij hj) e
theorem kpos_le (ks : List Tr) (c : UInt8) : kpos ks c ≤ ks.length := posB_le _ _
theorem kpos_lo {ks : List Tr} (h : canL ks) {c : UInt8} {j : Nat} (hj : j < kpos ks c) : ks[j]!.hd < c := by
  have hl := kpos_le ks c
  exact (ltK_iff h (by omega)).1 ((posB_spec (ltK_mono h c) _ (Nat.le_refl _)).1 j hj)
theorem kpos_hi {ks : List Tr} (h : canL ks) {c : UInt8} {j : Nat} (hj : kpos ks c ≤ j) (hl : j < ks.length) : ¬ ks[j]!.hd < c := fun e => by
  have := (posB_spec (ltK_mono h c) _ (Nat.le_refl _)).2 j hj hl
  rw [(ltK_iff h hl).2 e] at this; cases this
theorem kid_yes {ks : List Tr} (h : canL ks) {c : UInt8} (hf : kfnd ks c = true) : kpos ks c < ks.length ∧ ks[kpos ks c]!.hd = c := by
  rw [kfnd, Bool.and_eq_true, decide_eq_true_eq, decide_eq_true_eq] at hf
  have hl : kpos ks c < ks.length := by omega
  refine ⟨hl, ?_⟩
  rw [fst_at h hl] at hf
  exact UInt8.toNat_inj.1 (by omega)
theorem kid_no {ks : List Tr} (h : canL ks) {c : UInt8} (hf : kfnd ks c = false) {j : Nat} (hj : kpos ks c ≤ j) (hl : j < ks.length) : c < ks[j]!.hd := by
  have hp : kpos ks c < ks.length := by omega
  have h0 : c < ks[kpos ks c]!.hd := by
    rw [kfnd, decide_eq_true (by omega), Bool.true_and, decide_eq_false_iff_not, fst_at h hp] at hf
    have := kpos_hi h (c := c) (Nat.le_refl _) hp
    rw [u8_lt] at this ⊢; omega
  rcases Nat.lt_or_eq_of_le hj with q | q
  · exact UInt8.lt_trans h0 (hd_lt h q hl)
  · rw [← q]; exact h0
theorem mem_idx {ks : List Tr} {k : Tr} (hk : k ∈ ks) : ∃ i, i < ks.length ∧ ks[i]! = k := by
  obtain ⟨i, hi, e⟩ := List.getElem_of_mem hk
  exact ⟨i, hi, by rw [getElem!_pos ks i hi]; exact e⟩
theorem mem_none {ks : List Tr} (h : canL ks) {c : UInt8} (hf : kfnd ks c = false) {x : Str} : c :: x ∉ wsL ks := fun hx => by
  obtain ⟨k, hk, _, y, e⟩ := wsL_hd h hx
  cases e
  obtain ⟨i, hi, rfl⟩ := mem_idx hk
  by_cases q : i < kpos ks ks[i]!.hd
  · exact absurd (kpos_lo h q) (UInt8.lt_irrefl _)
  · exact absurd (kid_no h hf (by omega) hi) (UInt8.lt_irrefl _)
theorem hd_inj {ks : List Tr} (h : canL ks) {i j : Nat} (hi : i < ks.length) (hj : j < ks.length) (e : ks[i]!.hd = ks[j]!.hd) : i = j := by
  rcases Nat.lt_trichotomy i j with q | q | q
  · have := hd_lt h q hj; rw [e] at this; exact absurd this (UInt8.lt_irrefl _)
  · exact q
  · have := hd_lt h q hi; rw [e] at this; exact absurd this (UInt8.lt_irrefl _)
/-- A word lies below the kid with its first byte. -/
theorem mem_kid {ks : List Tr} (h : canL ks) {i : Nat} (hi : i < ks.length) {x : Str} : ks[i]!.hd :: x ∈ wsL ks ↔ ks[i]!.hd :: x ∈ ks[i]!.ws := by
  constructor
  · intro hx
    obtain ⟨k, hk, hw, y, e⟩ := wsL_hd h hx
    obtain ⟨j, hj, rfl⟩ := mem_idx hk
    injection e with e _
    rw [hd_inj h hi hj e] at hw ⊢
    exact hw
  · intro hx
    exact wsL_mem.2 ⟨ks[i]!, by rw [getElem!_pos ks i hi]; exact List.getElem_mem _, hx⟩
theorem ws_pre {t : Tr} {x : Str} : x ∈ t.ws ↔ t.lab <+: x ∧ x.drop t.lab.length ∈ t.inn := by
  rw [Tr.ws_mem]
  constructor
  · rintro ⟨y, hy, rfl⟩
    exact ⟨List.prefix_append _ _, by rw [List.drop_left]; exact hy⟩
  · rintro ⟨⟨z, rfl⟩, hy⟩
    rw [List.drop_left] at hy
    exact ⟨z, hy, rfl⟩
/-! ### Looking -/
theorem has_nil {t : Tr} (h : canL t.kids) : [] ∈ t.inn ↔ t.wd = true := by
  rw [Tr.inn_mem]
  constructor
  · rintro (⟨_, q⟩ | q)
    · exact q
    · exact absurd q (wsL_ne h)
  · exact fun q => .inl ⟨rfl, q⟩
theorem inn_cons {t : Tr} {c : UInt8} {x : Str} : c :: x ∈ t.inn ↔ c :: x ∈ wsL t.kids := by rw [Tr.inn_mem]; simp
theorem has_none {t : Tr} (h : canL t.kids) {c : UInt8} {x : Str} (hf : kfnd t.kids c = false) : c :: x ∉ t.inn := by rw [inn_cons]; exact mem_none h hf
theorem has_kid {t : Tr} (h : canL t.kids) {c : UInt8} {x : Str} (hf : kfnd t.kids c = true) : c :: x ∈ t.inn ↔ t.kids[kpos t.kids c]!.lab <+: c :: x ∧ (c :: x).drop t.kids[kpos t.kids c]!.lab.length ∈ t.kids[kpos t.kids c]!.inn := by
  obtain ⟨h1, h2⟩ := kid_yes h hf
  have := mem_kid h h1 (x := x)
  rw [inn_cons, ← ws_pre]
  rw [h2] at this
  exact this
theorem can_kids {ks : List Tr} (h : canL ks) {i : Nat} (hi : i < ks.length) : canL ks[i]!.kids := ((Tr.can_iff _).1 (can_at h hi)).2.2
/-! ### A kid is another one -/
theorem set_ok {ks : List Tr} (h : canL ks) {i : Nat} (hi : i < ks.length) {k : Tr} (hk : k.can) (hh : k.hd = ks[i]!.hd) : canL (ks.set i k) ∧ ∀ x, x ∈ wsL (ks.set i k) ↔ x ∈ k.ws ∨ (x ∈ wsL ks ∧ x ∉ ks[i]!.ws) := by
  obtain ⟨h1, h2⟩ := (canL_iff ks).1 h
  constructor
  · rw [canL_iff]
    refine ⟨fun x hx => ?_, ?_⟩
    · rcases List.mem_or_eq_of_mem_set hx with m | m
      · exact h1 x m
      · rw [m]; exact hk
    · rw [List.pairwise_iff_getElem]
      intro a b ha hb hab
      rw [List.length_set] at ha hb
      have := (List.pairwise_iff_getElem.1 h2) a b ha hb hab
      rw [getElem!_pos ks i hi] at hh
      rw [List.getElem_set, List.getElem_set]
      split
      · rename_i e; subst e
        rw [if_neg (by omega), hh]; exact this
      · split
        · rename_i e; subst e
          rw [hh]; exact this
        · exact this
  · intro x
    rw [wsL_mem, wsL_mem]
    constructor
    · rintro ⟨y, hy, hx⟩
      obtain ⟨j, hj, e⟩ := List.getElem_of_mem hy
      rw [List.length_set] at hj
      rw [List.getElem_set] at e
      split at e
      · rw [e]; exact .inl hx
      · rename_i hij
        refine .inr ⟨⟨y, by rw [← e]; exact List.getElem_mem _, hx⟩, fun hx2 => ?_⟩
        have hy : y = ks[j]! := by rw [getElem!_pos ks j hj]; exact e.symm
        rw [hy] at hx
        obtain ⟨z, e1⟩ := ws_hd (can_at h hj) hx
        obtain ⟨z', e2⟩ := ws_hd (can_at h hi) hx2
        rw [e1] at e2; injection e2 with e2 _
        exact hij (hd_inj h hi hj e2.symm)
    · rintro (hx | ⟨⟨y, hy, hx⟩, hn⟩)
      · exact ⟨k, List.mem_iff_getElem.2 ⟨i, by rw [List.length_set]; exact hi, by rw [List.getElem_set, if_pos rfl]⟩, hx⟩
      · obtain ⟨j, hj, e⟩ := List.getElem_of_mem hy
        have hij : i ≠ j := fun q => by subst q; rw [getElem!_pos ks _ hi, e] at hn; exact hn hx
        exact ⟨y, List.mem_iff_getElem.2 ⟨j, by rw [List.length_set]; exact hj, by rw [List.getElem_set, if_neg hij]; exact e⟩, hx⟩
theorem del_ok {ks : List Tr} (h : canL ks) {i : Nat} (hi : i < ks.length) : canL (ks.take i ++ ks.drop (i + 1)) ∧ ∀ x, x ∈ wsL (ks.take i ++ ks.drop (i + 1)) ↔ x ∈ wsL ks ∧ x ∉ ks[i]!.ws := by
  obtain ⟨h1, h2⟩ := (canL_iff ks).1 h
  have hs : (ks.take i ++ ks.drop (i + 1)).Sublist ks := by
    have h3 := List.Sublist.append (List.Sublist.refl (ks.take i)) (List.drop_sublist 1 (ks.drop i))
    rw [List.drop_drop, List.take_append_drop] at h3
    exact h3
  refine ⟨(canL_iff _).2 ⟨fun x hx => h1 x (hs.subset hx), h2.sublist hs⟩, fun x => ?_⟩
  have e : wsL ks = wsL (ks.take i) ++ (ks[i]!.ws ++ wsL (ks.drop (i + 1))) := by
    rw [← wsL, ← wsL_app]
    congr 1
    rw [getElem!_pos ks i hi, ← List.drop_eq_getElem_cons hi, List.take_append_drop]
  have ha := wsL_asc ks h
  rw [e] at ha ⊢
  obtain ⟨a1, a2, a3⟩ := List.pairwise_append.1 ha
  obtain ⟨b1, b2, b3⟩ := List.pairwise_append.1 a2
  rw [wsL_app, List.mem_append, List.mem_append, List.mem_append]
  constructor
  · rintro (q | q)
    · exact ⟨.inl q, fun k => lt_irrefl _ (a3 x q x (List.mem_append_left _ k))⟩
    · exact ⟨.inr (.inr q), fun k => lt_irrefl _ (b3 x k x q)⟩
  · rintro ⟨q | q | q, k⟩
    · exact .inl q
    · exact absurd q k
    · exact .inr q
/-! ### Putting in -/
def insT (t : Tr) (w : Str) : Tr := mkT t.lab (insS w t.inn)
theorem insT_ok {t : Tr} (h : canL t.kids) (w : Str) : canL (insT t w).kids ∧ (∀ x, x ∈ (insT t w).inn ↔ x = w ∨ x ∈ t.inn) ∧ (insT t w).lab = t.lab := by
  obtain ⟨a, b⟩ := mkT_ok t.lab (insS_asc (w := w) (inn_asc t h))
  exact ⟨a, fun x => by rw [← insS_mem]; exact b x, rfl⟩
theorem ins_eq {t : Tr} {lab : Str} {wd : Bool} {ks : List Tr} {w : Str} (ht : canL t.kids) (hl : lab = t.lab) (hc : canL ks) (h : ∀ x, x ∈ (Tr.nd lab wd ks).inn ↔ x = w ∨ x ∈ t.inn) : Tr.nd lab wd ks = insT t w := by
  subst hl
  exact eqT hc (insS_asc (inn_asc t ht)) fun x => by rw [h, insS_mem]
theorem ins_nil {t : Tr} (h : canL t.kids) : Tr.nd t.lab true t.kids = insT t [] := ins_eq h rfl h fun x => by
  rw [Tr.inn_mem, Tr.inn_mem]
  show (x = [] ∧ true = true) ∨ x ∈ wsL t.kids ↔ _
  constructor
  · rintro (⟨q, _⟩ | q)
    · exact .inl q
    · exact .inr (.inr q)
  · rintro (q | ⟨q, _⟩ | q)
    · exact .inl ⟨q, rfl⟩
    · exact .inl ⟨q, rfl⟩
    · exact .inr q
theorem inn_set {t : Tr} {ks : List Tr} {x : Str} : x ∈ (Tr.nd t.lab t.wd ks).inn ↔ (x = [] ∧ t.wd = true) ∨ x ∈ wsL ks := Tr.inn_mem
theorem ins_new {t : Tr} (h : canL t.kids) {c : UInt8} {x : Str} (hf : kfnd t.kids c = false) :
    Tr.nd t.lab t.wd (t.kids.take (kpos t.kids c) ++ .nd (c :: x) true [] :: t.kids.drop (kpos t.kids c)) = insT t (c :: x) := by
  have hl := kpos_le t.kids c
  have hleaf : (Tr.nd (c :: x) true []).can := by rw [Tr.can]; exact ⟨by simp, by simp, trivial⟩
  obtain ⟨h1, h2⟩ := (canL_iff _).1 h
  have hp : (t.kids.take (kpos t.kids c) ++ t.kids.drop (kpos t.kids c)).Pairwise (fun a b => a.hd < b.hd) := by rw [List.take_append_drop]; exact h2
  obtain ⟨p1, p2, p3⟩ := List.pairwise_append.1 hp
  have hlo : ∀ a ∈ t.kids.take (kpos t.kids c), a.hd < c := fun a ha => by
    obtain ⟨j, hj, e⟩ := List.getElem_of_mem ha
    rw [List.length_take] at hj
    rw [List.getElem_take] at e
    have := kpos_lo h (c := c) (j := j) (by omega)
    rw [getElem!_pos t.kids j (by omega), e] at this; exact this
  have hhi : ∀ a ∈ t.kids.drop (kpos t.kids c), c < a.hd := fun a ha => by
    obtain ⟨j, hj, e⟩ := List.getElem_of_mem ha
    rw [List.length_drop] at hj
    rw [List.getElem_drop] at e
    have := kid_no h hf (j := kpos t.kids c + j) (by omega) (by omega)
    rw [getElem!_pos t.kids _ (by omega), e] at this; exact this
  refine ins_eq h rfl ((canL_iff _).2 ⟨fun a ha => ?_, ?_⟩) fun y => ?_
  · rcases List.mem_append.1 ha with m | m
    · exact h1 a (List.take_subset _ _ m)
    · rcases List.mem_cons.1 m with m | m
      · rw [m]; exact hleaf
      · exact h1 a (List.drop_subset _ _ m)
  · refine List.pairwise_append.2 ⟨p1, List.pairwise_cons.2 ⟨hhi, p2⟩, fun a ha b hb => ?_⟩
    rcases List.mem_cons.1 hb with m | m
    · rw [m]; exact hlo a ha
    · exact p3 a ha b m
  · have e : y ∈ wsL t.kids ↔ y ∈ wsL (t.kids.take (kpos t.kids c)) ∨ y ∈ wsL (t.kids.drop (kpos t.kids c)) := by
      rw [← List.mem_append, ← wsL_app, List.take_append_drop]
    have e2 : y ∈ (Tr.nd (c :: x) true []).ws ↔ y = c :: x := by
      rw [Tr.ws_mem]
      constructor
      · rintro ⟨z, hz, rfl⟩
        rcases Tr.inn_mem.1 hz with ⟨q, _⟩ | q
        · rw [q, List.append_nil]; rfl
        · exact absurd q (by show z ∉ wsL []; simp [wsL])
      · rintro rfl
        exact ⟨[], Tr.inn_mem.2 (.inl ⟨rfl, rfl⟩), by rw [List.append_nil]; rfl⟩
    rw [inn_set, Tr.inn_mem, wsL_app, List.mem_append, wsL, List.mem_append, e, e2]
    constructor
    · rintro (q | q | q | q)
      · exact .inr (.inl q)
      · exact .inr (.inr (.inl q))
      · exact .inl q
      · exact .inr (.inr (.inr q))
    · rintro (q | q | q | q)
      · exact .inr (.inr (.inl q))
      · exact .inl q
      · exact .inr (.inl q)
      · exact .inr (.inr (.inr q))
/-- A kid below which there is one word more. -/
theorem ins_set {t : Tr} (h : canL t.kids) {i : Nat} (hi : i < t.kids.length) {k : Tr} {w : Str} (hk : k.can) (hh : k.hd = t.kids[i]!.hd) (hw : ∀ x, x ∈ k.ws ↔ x = w ∨ x ∈ t.kids[i]!.ws) :
    Tr.nd t.lab t.wd (t.kids.set i k) = insT t w := by
  obtain ⟨a, b⟩ := set_ok h hi hk hh
  refine ins_eq h rfl a fun x => ?_
  rw [inn_set, b, hw, Tr.inn_mem]
  have hsub : x ∈ t.kids[i]!.ws → x ∈ wsL t.kids := fun q => wsL_mem.2 ⟨_, by rw [getElem!_pos t.kids i hi]; exact List.getElem_mem _, q⟩
  constructor
  · rintro (q | (q | q) | q)
    · exact .inr (.inl q)
    · exact .inl q
    · exact .inr (.inr (hsub q))
    · exact .inr (.inr q.1)
  · rintro (q | q | q)
    · exact .inr (.inl (.inl q))
    · exact .inl q
    · by_cases m : x ∈ t.kids[i]!.ws
      · exact .inr (.inl (.inr m))
      · exact .inr (.inr ⟨q, m⟩)
theorem can_of {t : Tr} (hc : canL t.kids) (hl : t.lab ≠ []) (h : [] ∉ t.inn → ∃ c d x y, c ≠ d ∧ c :: x ∈ t.inn ∧ d :: y ∈ t.inn) : t.can := by
  refine (Tr.can_iff t).2 ⟨hl, fun e => ?_, hc⟩
  obtain ⟨c, d, x, y, hn, hx, hy⟩ := h (fun q => by rw [has_nil hc, e] at q; cases q)
  exact two_kids hc (inn_cons.1 hx) (inn_cons.1 hy) hn
theorem insT_hd {t : Tr} {w : Str} : (insT t w).hd = t.hd := rfl
theorem insT_can {k : Tr} (hk : k.can) (w : Str) : (insT k w).can := by
  obtain ⟨q1, q2, q3⟩ := (Tr.can_iff k).1 hk
  obtain ⟨a, b, c⟩ := insT_ok q3 w
  refine can_of a (by rw [c]; exact q1) fun hn => ?_
  have hw : k.wd = false := by
    cases e : k.wd with
    | false => rfl
    | true => exact absurd ((b []).2 (.inr ((has_nil q3).2 e))) hn
  obtain ⟨c, d, x, y, h1, h2, h3⟩ := kids_two q3 (q2 hw)
  exact ⟨c, d, x, y, h1, (b _).2 (.inr (inn_cons.2 h2)), (b _).2 (.inr (inn_cons.2 h3))⟩
theorem ins_in {t : Tr} (h : canL t.kids) {c : UInt8} {x : Str} (hf : kfnd t.kids c = true) (hp : t.kids[kpos t.kids c]!.lab <+: c :: x) :
    Tr.nd t.lab t.wd (t.kids.set (kpos t.kids c) (insT t.kids[kpos t.kids c]! ((c :: x).drop t.kids[kpos t.kids c]!.lab.length))) = insT t (c :: x) := by
  obtain ⟨h1, h2⟩ := kid_yes h hf
  obtain ⟨a, b, l⟩ := insT_ok (can_kids h h1) ((c :: x).drop t.kids[kpos t.kids c]!.lab.length)
  refine ins_set h h1 (insT_can (can_at h h1) _) insT_hd fun y => ?_
  rw [Tr.ws_mem, l, Tr.ws_mem]
  have hp' := hp
  obtain ⟨z, hz⟩ := hp
  have ez : (c :: x).drop t.kids[kpos t.kids c]!.lab.length = z := by rw [← hz]; exact List.drop_left
  constructor
  · rintro ⟨v, hv, rfl⟩
    rcases (b v).1 hv with q | q
    · rw [q, ez, hz]; exact .inl rfl
    · exact .inr ⟨v, q, rfl⟩
  · rintro (q | ⟨v, hv, q⟩)
    · exact ⟨_, (b _).2 (.inl rfl), by rw [ez, hz]; exact q⟩
    · exact ⟨v, (b _).2 (.inr hv), q⟩
/-- The kid that is divided. -/
def splT (k : Tr) (n : Nat) : Tr := .nd (k.lab.take n) false [.nd (k.lab.drop n) k.wd k.kids]
theorem splT_ok {k : Tr} (hk : k.can) {n : Nat} (h : n < k.lab.length) : canL (splT k n).kids := by
  obtain ⟨q1, q2, q3⟩ := (Tr.can_iff k).1 hk
  refine (canL_iff _).2 ⟨fun x hx => ?_, by simp [splT, Tr.kids]⟩
  have : x = .nd (k.lab.drop n) k.wd k.kids := by simpa [splT, Tr.kids] using hx
  subst this
  rw [Tr.can]
  exact ⟨fun e => by have := congrArg List.length e; rw [List.length_drop, List.length_nil] at this; omega, q2, q3⟩
theorem splT_inn {k : Tr} {n : Nat} {x : Str} : x ∈ (splT k n).inn ↔ ∃ y ∈ k.inn, x = k.lab.drop n ++ y := by
  rw [Tr.inn_mem]
  show (x = [] ∧ false = true) ∨ x ∈ wsL [.nd (k.lab.drop n) k.wd k.kids] ↔ _
  rw [wsL, wsL, List.append_nil, Tr.ws_mem]
  constructor
  · rintro (⟨_, q⟩ | ⟨y, hy, q⟩)
    · cases q
    · exact ⟨y, hy, q⟩
  · rintro ⟨y, hy, q⟩
    exact .inr ⟨y, hy, q⟩
theorem ins_split {t : Tr} (h : canL t.kids) {c : UInt8} {x : Str} (hf : kfnd t.kids c = true) (hn : comm (c :: x) t.kids[kpos t.kids c]!.lab < t.kids[kpos t.kids c]!.lab.length) :
    Tr.nd t.lab t.wd (t.kids.set (kpos t.kids c) (insT (splT t.kids[kpos t.kids c]! (comm (c :: x) t.kids[kpos t.kids c]!.lab)) ((c :: x).drop (comm (c :: x) t.kids[kpos t.kids c]!.lab)))) = insT t (c :: x) := by
  obtain ⟨h1, h2⟩ := kid_yes h hf
  have hk := can_at h h1
  have hl := ((Tr.can_iff _).1 hk).1
  generalize hki : t.kids[kpos t.kids c]! = k at *
  obtain ⟨z, el⟩ := Tr.lab_hd hl
  have hpos : 0 < comm (c :: x) k.lab := by rw [el, h2]; exact comm_pos
  obtain ⟨t1, t2, t3⟩ := comm_take (c :: x) k.lab
  obtain ⟨a, b, l⟩ := insT_ok (splT_ok hk hn) ((c :: x).drop (comm (c :: x) k.lab))
  have hlab : (splT k (comm (c :: x) k.lab)).lab = k.lab.take (comm (c :: x) k.lab) := rfl
  have hne : k.lab.take (comm (c :: x) k.lab) ≠ [] := fun e => by
    have := congrArg List.length e
    rw [List.length_take, List.length_nil] at this; omega
  refine ins_set h h1 (can_of a (by rw [l, hlab]; exact hne) fun hnn => ?_) ?_ fun y => ?_
  · have hlt : comm (c :: x) k.lab < (c :: x).length := by
      rcases Nat.lt_or_eq_of_le t2 with q | q
      · exact q
      · exact absurd ((b []).2 (.inl (by rw [q, List.drop_length]))) hnn
    obtain ⟨d, e, u, v, q1, q2, q3⟩ := comm_next _ _ hlt hn
    obtain ⟨s, hs⟩ := ws_some k hk
    exact ⟨d, e, u, v ++ s, q1, (b _).2 (.inl q2.symm), (b _).2 (.inr (splT_inn.2 ⟨s, hs, by rw [q3]; rfl⟩))⟩
  · rw [insT_hd, hki]
    show (k.lab.take _).headD 0 = k.lab.headD 0
    obtain ⟨m, e⟩ : ∃ m, comm (c :: x) k.lab = m + 1 := ⟨_, (Nat.succ_pred_eq_of_pos hpos).symm⟩
    rw [e, el]; rfl
  · rw [Tr.ws_mem, l, hlab, hki, Tr.ws_mem]
    constructor
    · rintro ⟨v, hv, rfl⟩
      rcases (b v).1 hv with q | q
      · rw [q, ← t1, List.take_append_drop]; exact .inl rfl
      · obtain ⟨u, hu, rfl⟩ := splT_inn.1 q
        rw [← List.append_assoc, List.take_append_drop]
        exact .inr ⟨u, hu, rfl⟩
    · rintro (q | ⟨v, hv, q⟩)
      · exact ⟨_, (b _).2 (.inl rfl), by rw [← t1, List.take_append_drop]; exact q⟩
      · exact ⟨_, (b _).2 (.inr (splT_inn.2 ⟨v, hv, rfl⟩)), by rw [← List.append_assoc, List.take_append_drop]; exact q⟩
/-! ### Taking out -/
def remT (t : Tr) (w : Str) : Tr := mkT t.lab (t.inn.filter fun x => decide (x ≠ w))
theorem remT_ok {t : Tr} (h : canL t.kids) (w : Str) : canL (remT t w).kids ∧ (∀ x, x ∈ (remT t w).inn ↔ x ∈ t.inn ∧ x ≠ w) ∧ (remT t w).lab = t.lab := by
  obtain ⟨a, b⟩ := mkT_ok t.lab ((inn_asc t h).filter fun x => decide (x ≠ w))
  exact ⟨a, fun x => by rw [show (x ∈ t.inn ∧ x ≠ w) ↔ x ∈ t.inn.filter fun x => decide (x ≠ w) by simp [List.mem_filter]]; exact b x, rfl⟩
theorem rem_eq {t : Tr} {lab : Str} {wd : Bool} {ks : List Tr} {w : Str} (ht : canL t.kids) (hl : lab = t.lab) (hc : canL ks) (h : ∀ x, x ∈ (Tr.nd lab wd ks).inn ↔ x ∈ t.inn ∧ x ≠ w) : Tr.nd lab wd ks = remT t w := by
  subst hl
  exact eqT hc ((inn_asc t ht).filter _) fun x => by rw [h]; simp [List.mem_filter]
theorem rem_nil {t : Tr} (h : canL t.kids) : Tr.nd t.lab false t.kids = remT t [] := rem_eq h rfl h fun x => by
  rw [Tr.inn_mem, Tr.inn_mem]
  show (x = [] ∧ false = true) ∨ x ∈ wsL t.kids ↔ _
  constructor
  · rintro (⟨_, q⟩ | q)
    · cases q
    · exact ⟨.inr q, fun e => wsL_ne h (e ▸ q)⟩
  · rintro ⟨q | q, n⟩
    · exact absurd q.1 n
    · exact .inr q
theorem sub_kid {t : Tr} {i : Nat} (hi : i < t.kids.length) {x : Str} (hx : x ∈ t.kids[i]!.ws) : x ∈ wsL t.kids := wsL_mem.2 ⟨_, by rw [getElem!_pos t.kids i hi]; exact List.getElem_mem _, hx⟩
theorem rem_set {t : Tr} (h : canL t.kids) {i : Nat} (hi : i < t.kids.length) {k : Tr} {w : Str} (hk : k.can) (hh : k.hd = t.kids[i]!.hd) (hwn : w ∈ t.kids[i]!.ws) (hw : ∀ x, x ∈ k.ws ↔ x ∈ t.kids[i]!.ws ∧ x ≠ w) :
    Tr.nd t.lab t.wd (t.kids.set i k) = remT t w := by
  obtain ⟨a, b⟩ := set_ok h hi hk hh
  have hwne : w ≠ [] := fun e => wsL_ne h (e ▸ sub_kid hi hwn)
  refine rem_eq h rfl a fun x => ?_
  rw [inn_set, b, hw, Tr.inn_mem]
  constructor
  · rintro (q | q | q)
    · exact ⟨.inl q, fun e => hwne (by rw [← e]; exact q.1)⟩
    · exact ⟨.inr (sub_kid hi q.1), q.2⟩
    · exact ⟨.inr q.1, fun e => q.2 (e ▸ hwn)⟩
  · rintro ⟨q | q, n⟩
    · exact .inl q
    · by_cases m : x ∈ t.kids[i]!.ws
      · exact .inr (.inl ⟨m, n⟩)
      · exact .inr (.inr ⟨q, m⟩)
theorem remT_hd {t : Tr} {w : Str} : (remT t w).hd = t.hd := rfl
theorem rem_ws {k : Tr} (h : canL k.kids) {w : Str} (hp : k.lab <+: w) : ∀ x, x ∈ (remT k (w.drop k.lab.length)).ws ↔ x ∈ k.ws ∧ x ≠ w := fun x => by
  obtain ⟨a, b, l⟩ := remT_ok h (w.drop k.lab.length)
  rw [Tr.ws_mem, l, Tr.ws_mem]
  obtain ⟨z, rfl⟩ := hp
  rw [List.drop_left] at b ⊢
  constructor
  · rintro ⟨v, hv, rfl⟩
    obtain ⟨q1, q2⟩ := (b v).1 hv
    exact ⟨⟨v, q1, rfl⟩, fun e => q2 (List.append_cancel_left e)⟩
  · rintro ⟨⟨v, hv, rfl⟩, n⟩
    exact ⟨v, (b v).2 ⟨hv, fun e => n (by rw [e])⟩, rfl⟩
section
variable {t : Tr} (h : canL t.kids) {c : UInt8} {x : Str} (hw : c :: x ∈ t.inn)
include h hw
theorem rem_at : kfnd t.kids c = true ∧ kpos t.kids c < t.kids.length ∧ t.kids[kpos t.kids c]!.lab <+: c :: x ∧ (c :: x).drop t.kids[kpos t.kids c]!.lab.length ∈ t.kids[kpos t.kids c]!.inn ∧ c :: x ∈ t.kids[kpos t.kids c]!.ws := by
  have hf : kfnd t.kids c = true := by
    cases e : kfnd t.kids c with
    | true => rfl
    | false => exact absurd hw (has_none h e)
  have h3 := (has_kid h hf).1 hw
  exact ⟨hf, (kid_yes h hf).1, h3.1, h3.2, ws_pre.2 h3⟩
abbrev remK (t : Tr) (c : UInt8) (x : Str) : Tr := remT t.kids[kpos t.kids c]! ((c :: x).drop t.kids[kpos t.kids c]!.lab.length)
theorem rem_del (h1 : (remK t c x).wd = false) (h2 : (remK t c x).kids = []) : Tr.nd t.lab t.wd (t.kids.take (kpos t.kids c) ++ t.kids.drop (kpos t.kids c + 1)) = remT t (c :: x) := by
  obtain ⟨r1, r2, r3, r4, r5⟩ := rem_at h hw
  obtain ⟨a, b⟩ := del_ok h r2
  have hk := rem_ws (can_kids h r2) r3
  have hnone : ∀ y, y ∉ (remK t c x).ws := fun y hy => by
    obtain ⟨z, hz, _⟩ := Tr.ws_mem.1 hy
    rcases Tr.inn_mem.1 hz with ⟨_, q⟩ | q
    · rw [h1] at q; cases q
    · rw [h2] at q; simp [wsL] at q
  refine rem_eq h rfl a fun y => ?_
  rw [inn_set, b, Tr.inn_mem]
  constructor
  · rintro (q | q)
    · exact ⟨.inl q, fun e => by rw [q.1] at e; cases e⟩
    · exact ⟨.inr q.1, fun e => q.2 (e ▸ r5)⟩
  · rintro ⟨q | q, n⟩
    · exact .inl q
    · exact .inr ⟨q, fun m => hnone y ((hk y).2 ⟨m, n⟩)⟩
theorem rem_one {o : Tr} (h1 : (remK t c x).wd = false) (h2 : (remK t c x).kids = [o]) : Tr.nd t.lab t.wd (t.kids.set (kpos t.kids c) (.nd ((remK t c x).lab ++ o.lab) o.wd o.kids)) = remT t (c :: x) := by
  obtain ⟨r1, r2, r3, r4, r5⟩ := rem_at h hw
  have hk := rem_ws (can_kids h r2) r3
  obtain ⟨a, b, l⟩ := remT_ok (can_kids h r2) ((c :: x).drop t.kids[kpos t.kids c]!.lab.length)
  have ho : o.can := by
    have := ((canL_iff _).1 a).1 o
    exact this (by rw [show (remT t.kids[kpos t.kids c]! ((c :: x).drop t.kids[kpos t.kids c]!.lab.length)).kids = [o] from h2]; simp)
  obtain ⟨o1, o2, o3⟩ := (Tr.can_iff o).1 ho
  have hl := ((Tr.can_iff _).1 (can_at h r2)).1
  refine rem_set h r2 (by rw [Tr.can]; exact ⟨by simp [o1], o2, o3⟩) ?_ r5 fun y => ?_
  · show ((remK t c x).lab ++ o.lab).headD 0 = (t.kids[kpos t.kids c]!).lab.headD 0
    rw [show (remK t c x).lab = t.kids[kpos t.kids c]!.lab from rfl]
    obtain ⟨z, e⟩ := Tr.lab_hd hl
    rw [e]; rfl
  · rw [← hk, Tr.ws_mem, Tr.ws_mem]
    have e : ∀ z, z ∈ (remK t c x).inn ↔ ∃ v ∈ o.inn, z = o.lab ++ v := fun z => by
      rw [Tr.inn_mem, h1, h2, wsL, wsL, List.append_nil, Tr.ws_mem]; simp
    constructor
    · rintro ⟨v, hv, rfl⟩
      exact ⟨o.lab ++ v, (e _).2 ⟨v, hv, rfl⟩, List.append_assoc _ _ _⟩
    · rintro ⟨z, hz, rfl⟩
      obtain ⟨v, hv, rfl⟩ := (e z).1 hz
      exact ⟨v, hv, (List.append_assoc _ _ _).symm⟩
theorem rem_in (h1 : (remK t c x).wd = true ∨ 2 ≤ (remK t c x).kids.length) : Tr.nd t.lab t.wd (t.kids.set (kpos t.kids c) (remK t c x)) = remT t (c :: x) := by
  obtain ⟨r1, r2, r3, r4, r5⟩ := rem_at h hw
  obtain ⟨a, b, l⟩ := remT_ok (can_kids h r2) ((c :: x).drop t.kids[kpos t.kids c]!.lab.length)
  have hl := ((Tr.can_iff _).1 (can_at h r2)).1
  exact rem_set h r2 ((Tr.can_iff _).2 ⟨hl, fun e => h1.resolve_left (by rw [show (remK t c x).wd = false from e]; decide), a⟩) remT_hd r5 (rem_ws (can_kids h r2) r3)
end
end Go.D41
