/-
  Stable pages, as functions on lists: what the walks compute.
-/
import Derived.Test.YtoebjajbmkdcfaaHMap
namespace Go.D51
open Go Go.RowKit Go.H
structure Hit where
  id : Int
  sc : Int
instance : Inhabited Hit := ⟨⟨0, 0⟩⟩
theorem Hit.ext {a b : Hit} (h1 : a.id = b.id) (h2 : a.sc = b.sc) : a = b := by cases a; cases b; simp_all
instance : DecidableEq Hit := fun a b => if h : a.id = b.id ∧ a.sc = b.sc then .isTrue (Hit.ext h.1 h.2) else .isFalse fun e => h (by subst e; exact ⟨rfl, rfl⟩)
structure Sess where
  size : Int
  items : List Hit
instance : Inhabited Sess := ⟨⟨0, []⟩⟩
structure Opn where
  num : Int
  used : Int
  s : Sess
instance : Inhabited Opn := ⟨⟨0, 0, default⟩⟩
structure Store where
  next : Int
  time : Int
  opn : List Opn
instance : Inhabited Store := ⟨⟨0, 0, []⟩⟩
structure Lead where
  fr : Int
  to : Int
instance : Inhabited Lead := ⟨⟨0, 0⟩⟩
structure Entry where
  id : Int
  sc : Int
  now : Int
  again : Bool
instance : Inhabited Entry := ⟨⟨0, 0, 0, false⟩⟩
theorem dec_iff {p q : Prop} [Decidable p] [Decidable q] (h : p ↔ q) : decide p = decide q := decide_eq_decide.2 h
theorem dec_t {q : Prop} [Decidable q] (h : q) : decide q = true := decide_eq_true h
theorem dec_f {q : Prop} [Decidable q] (h : ¬ q) : decide q = false := decide_eq_false h
theorem ext_get {α : Type} [Inhabited α] {a b : List α} (hl : a.length = b.length) (h : ∀ j, j < a.length → a[j]! = b[j]!) : a = b := by
  apply List.ext_getElem hl
  intro i h1 h2
  have := h i h1
  rwa [getElem!_pos a i h1, getElem!_pos b i h2] at this
theorem snocT {α : Type} [Inhabited α] {q : List α} {k : Nat} (h : k < q.length) : q.take (k + 1) = q.take k ++ [q[k]!] := by
  rw [List.take_add_one, List.getElem?_eq_getElem h, getElem!_pos q k h]; rfl
/-- The first place at which something is of a kind, or -1. -/
def idxF {α : Type} (p : α → Bool) (l : List α) : Int := match l.findIdx? p with
  | some i => (i : Int)
  | none => -1
theorem idxF_here {α : Type} [Inhabited α] {p : α → Bool} {l : List α} {k : Nat} (hk : k < l.length) (h : ∀ j, j < k → p l[j]! = false) (e : p l[k]! = true) : idxF p l = k := by
  have : l.findIdx? p = some k := by
    rw [List.findIdx?_eq_some_iff_getElem]
    refine ⟨hk, by rw [← getElem!_pos l k hk]; exact e, fun j hj => ?_⟩
    have := h j hj
    rw [getElem!_pos l j (by omega)] at this
    simp [this]
  rw [idxF, this]
theorem idxF_none {α : Type} [Inhabited α] {p : α → Bool} {l : List α} {k : Nat} (hk : l.length ≤ k) (h : ∀ j, j < k → p l[j]! = false) : idxF p l = -1 := by
  have : l.findIdx? p = none := by
    rw [List.findIdx?_eq_none_iff]
    intro x hx
    obtain ⟨i, hi, rfl⟩ := List.getElem_of_mem hx
    rw [← getElem!_pos l i hi]
    exact h i (by omega)
  rw [idxF, this]
theorem idxF_range {α : Type} (p : α → Bool) (l : List α) : -1 ≤ idxF p l ∧ idxF p l < l.length := by
  unfold idxF
  split
  · rename_i i h
    have := (List.findIdx?_eq_some_iff_getElem.1 h).1
    omega
  · omega
theorem idxF_spec {α : Type} [Inhabited α] {p : α → Bool} {l : List α} (h : 0 ≤ idxF p l) : (idxF p l).toNat < l.length ∧ p l[(idxF p l).toNat]! = true ∧ ∀ j, j < (idxF p l).toNat → p l[j]! = false := by
  unfold idxF at *
  cases hf : l.findIdx? p with
  | none => rw [hf] at h; simp at h
  | some j =>
    obtain ⟨h1, h2, h3⟩ := List.findIdx?_eq_some_iff_getElem.1 hf
    refine ⟨by simpa using h1, by simp only [Int.toNat_natCast]; rw [getElem!_pos l j h1]; exact h2, fun i hi => ?_⟩
    simp only [Int.toNat_natCast] at hi
    have := h3 i hi
    rw [getElem!_pos l i (by omega)]
    simpa using this
theorem idxF_neg {α : Type} [Inhabited α] {p : α → Bool} {l : List α} (h : idxF p l < 0) : ∀ j, j < l.length → p l[j]! = false := by
  unfold idxF at h
  cases hf : l.findIdx? p with
  | some j => rw [hf] at h; simp at h; omega
  | none =>
    rw [List.findIdx?_eq_none_iff] at hf
    exact fun j hj => hf _ (by rw [getElem!_pos l j hj]; exact List.getElem_mem _)
/-! ### Sessions -/
def okI (l : List Hit) (i : Nat) : Prop := 1 ≤ l[i]!.id ∧ l[i]!.id ≤ 1000000000 ∧ 0 ≤ l[i]!.sc ∧ ∀ k, k < i → l[k]!.id ≠ l[i]!.id
instance (l : List Hit) (i : Nat) : Decidable (okI l i) := by unfold okI; infer_instance
def itemsOk (l : List Hit) : Prop := ∀ i, i < l.length → okI l i
instance (l : List Hit) : Decidable (itemsOk l) := by unfold itemsOk; infer_instance
def validS (s : Sess) : Prop := (1 ≤ s.size ∧ s.size ≤ 100 ∧ s.items.length ≤ 2000) ∧ itemsOk s.items
instance (s : Sess) : Decidable (validS s) := by unfold validS; infer_instance
/-- What has been seen, in the order in which it came. -/
def seenF (f : Nat → Int) : Nat → List (Int × Bool)
  | 0 => []
  | k + 1 => mset (seenF f k) (f k) true
theorem seenF_iff (f : Nat → Int) (a : Int) : ∀ k, mget (seenF f k) a false = true ↔ ∃ j, j < k ∧ f j = a
  | 0 => by simp [seenF]
  | k + 1 => by
    rw [seenF, mget_mset]
    by_cases e : a = f k
    · rw [if_pos e]; exact ⟨fun _ => ⟨k, by omega, e.symm⟩, fun _ => rfl⟩
    · rw [if_neg e, seenF_iff f a k]
      exact ⟨fun ⟨j, h1, h2⟩ => ⟨j, by omega, h2⟩, fun ⟨j, h1, h2⟩ => ⟨j, by rcases Nat.lt_succ_iff_lt_or_eq.1 h1 with h | h; exact h; subst h; exact absurd h2.symm e, h2⟩⟩
theorem seenF_no {f : Nat → Int} {a : Int} {k : Nat} (h : mget (seenF f k) a false = false) : ∀ j, j < k → f j ≠ a := fun j hj e => by
  rw [(seenF_iff f a k).2 ⟨j, hj, e⟩] at h; cases h
theorem ok_step {l : List Hit} {k : Nat} (h : ∀ j, j < k → okI l j) (hb : okI l k) : ∀ j, j < k + 1 → okI l j := fun j hj => by
  rcases Nat.lt_succ_iff_lt_or_eq.1 hj with h1 | h1
  · exact h j h1
  · subst h1; exact hb
theorem valid_no {s : Sess} {k : Nat} (hk : k < s.items.length) (hb : ¬ okI s.items k) : decide (validS s) = false := decide_eq_false fun h => hb (h.2 k hk)
theorem valid_yes {s : Sess} (h : ∀ j, j < s.items.length → okI s.items j) : validS s ↔ (1 ≤ s.size ∧ s.size ≤ 100 ∧ s.items.length ≤ 2000) := ⟨fun v => v.1, fun v => ⟨v, h⟩⟩
/-! ### Pages -/
def chunk (s : Sess) (i : Nat) : List Hit := (s.items.drop (i * s.size.toNat)).take s.size.toNat
def nP (s : Sess) : Nat := (s.items.length + s.size.toNat - 1) / s.size.toNat
def pagesL (s : Sess) : List (List Hit) := (List.range (nP s)).map (chunk s)
theorem pagesL_len (s : Sess) : (pagesL s).length = nP s := by simp [pagesL]
theorem pagesL_get {s : Sess} {i : Nat} (h : i < nP s) : (pagesL s)[i]! = chunk s i := by
  rw [getElem!_pos _ i (by rw [pagesL_len]; exact h)]; simp [pagesL]
theorem nP_iff {s : Sess} (h : 1 ≤ s.size) (i : Nat) : i < nP s ↔ i * s.size.toNat < s.items.length := by
  unfold nP
  have h1 : 0 < s.size.toNat := by omega
  rw [Nat.lt_div_iff_mul_lt h1]
  omega
theorem nP_le {s : Sess} (h : 1 ≤ s.size) : nP s ≤ s.items.length := by
  rcases Nat.eq_zero_or_pos (nP s) with e | e
  · omega
  · have := (nP_iff h (nP s - 1)).1 (by omega)
    have h2 : (nP s - 1) * 1 ≤ (nP s - 1) * s.size.toNat := Nat.mul_le_mul_left _ (by omega)
    omega
theorem chunk_eq (s : Sess) (i : Nat) (m : Nat) (hm : m = min ((i + 1) * s.size.toNat) s.items.length) : (s.items.take m).drop (i * s.size.toNat) = chunk s i := by
  subst hm
  have e : (i + 1) * s.size.toNat = i * s.size.toNat + s.size.toNat := by rw [Nat.add_mul, Nat.one_mul]
  rw [← List.take_eq_take_min, List.drop_take, e, Nat.add_sub_cancel_left, chunk]
theorem chunk_len (s : Sess) (i : Nat) : (chunk s i).length = min s.size.toNat (s.items.length - i * s.size.toNat) := by simp [chunk]
theorem chunk_get {s : Sess} {i k : Nat} (h : k < (chunk s i).length) : (chunk s i)[k]! = s.items[i * s.size.toNat + k]! := by
  have h1 := chunk_len s i
  rw [getElem!_pos _ k h, getElem!_pos s.items _ (by omega)]
  simp [chunk]
def pageE (s : Sess) (i : Int) : Int := if ¬ validS s then 1 else if i < 1 ∨ (nP s : Int) < i then 23 else 0
def pageQ (s : Sess) (i : Int) : List Hit := if pageE s i = 0 then chunk s (i - 1).toNat else []
theorem page_1 {s : Sess} {i : Int} (h : ¬ validS s) : pageE s i = 1 ∧ pageQ s i = [] := by
  have e : pageE s i = 1 := by rw [pageE, if_pos h]
  exact ⟨e, by rw [pageQ, e, if_neg (by decide)]⟩
theorem page_23 {s : Sess} {i : Int} (h : validS s) (k : i < 1 ∨ (nP s : Int) < i) : pageE s i = 23 ∧ pageQ s i = [] := by
  have e : pageE s i = 23 := by rw [pageE, if_neg (fun n => n h), if_pos k]
  exact ⟨e, by rw [pageQ, e, if_neg (by decide)]⟩
theorem page_0 {s : Sess} {i : Int} (h : validS s) (k : ¬ (i < 1 ∨ (nP s : Int) < i)) : pageE s i = 0 ∧ pageQ s i = chunk s (i - 1).toNat := by
  have e : pageE s i = 0 := by rw [pageE, if_neg (fun n => n h), if_neg k]
  exact ⟨e, by rw [pageQ, e, if_pos rfl]⟩
theorem page_ok {s : Sess} {i : Int} (h : pageE s i = 0) : validS s ∧ 1 ≤ i ∧ i ≤ nP s ∧ pageQ s i = chunk s (i - 1).toNat := by
  unfold pageE at h
  split at h
  · cases h
  · rename_i h1
    split at h
    · cases h
    · rename_i h2
      exact ⟨Decidable.not_not.1 h1, by omega, by omega, (page_0 (Decidable.not_not.1 h1) h2).2⟩
theorem pageQ_len (s : Sess) (i : Int) : (pageQ s i).length ≤ s.items.length := by
  unfold pageQ
  split
  · rw [chunk_len]; omega
  · simp
def ixS (s : Sess) (id : Int) : Int := idxF (fun x => decide (x.id = id)) s.items
def findE (s : Sess) (id : Int) : Int := if ¬ validS s then 1 else if ixS s id < 0 then 9 else 0
def findP (s : Sess) (id : Int) : Int := if findE s id = 0 then ixS s id / s.size + 1 else 0
def findK (s : Sess) (id : Int) : Int := if findE s id = 0 then ixS s id % s.size else 0
theorem find_1 {s : Sess} {id : Int} (h : ¬ validS s) : findE s id = 1 ∧ findP s id = 0 ∧ findK s id = 0 := by
  have e : findE s id = 1 := by rw [findE, if_pos h]
  exact ⟨e, by rw [findP, e, if_neg (by decide)], by rw [findK, e, if_neg (by decide)]⟩
theorem find_9 {s : Sess} {id : Int} (h : validS s) (k : ixS s id < 0) : findE s id = 9 ∧ findP s id = 0 ∧ findK s id = 0 := by
  have e : findE s id = 9 := by rw [findE, if_neg (fun n => n h), if_pos k]
  exact ⟨e, by rw [findP, e, if_neg (by decide)], by rw [findK, e, if_neg (by decide)]⟩
theorem find_0 {s : Sess} {id : Int} (h : validS s) (k : ¬ ixS s id < 0) : findE s id = 0 ∧ findP s id = ixS s id / s.size + 1 ∧ findK s id = ixS s id % s.size := by
  have e : findE s id = 0 := by rw [findE, if_neg (fun n => n h), if_neg k]
  exact ⟨e, by rw [findP, e, if_pos rfl], by rw [findK, e, if_pos rfl]⟩
/-! ### Binary search -/
def posB (p : Nat → Bool) : Nat → Nat
  | 0 => 0
  | k + 1 => if p k then k + 1 else posB p k
theorem posB_le (p : Nat → Bool) : ∀ k, posB p k ≤ k
  | 0 => Nat.le_refl _
  | k + 1 => by
    rw [posB]
    split
    · exact Nat.le_refl _
    · have := posB_le p k; omega
theorem posB_spec {p : Nat → Bool} {n : Nat} (hm : ∀ i j, i < j → j < n → p j = true → p i = true) : ∀ k, k ≤ n → (∀ j, j < posB p k → p j = true) ∧ (∀ j, posB p k ≤ j → j < k → p j = false)
  | 0, _ => ⟨fun j hj => by simp [posB] at hj, fun j _ hj => by omega⟩
  | k + 1, hk => by
    obtain ⟨h1, h2⟩ := posB_spec hm k (by omega)
    cases e : p k with
    | true =>
      rw [posB, if_pos e]
      refine ⟨fun j hj => ?_, fun j hj hj2 => by omega⟩
      by_cases ej : j = k
      · subst ej; exact e
      · exact hm j k (by omega) (by omega) e
    | false =>
      rw [posB, if_neg (by rw [e]; decide)]
      refine ⟨h1, fun j hj hj2 => ?_⟩
      by_cases ej : j = k
      · subst ej; exact e
      · exact h2 j hj (by omega)
theorem posB_eq {p : Nat → Bool} {n i : Nat} (hm : ∀ i j, i < j → j < n → p j = true → p i = true) (hi : i ≤ n) (h1 : ∀ j, j < i → p j = true) (h2 : ∀ j, i ≤ j → j < n → p j = false) : i = posB p n := by
  have hl := posB_le p n
  obtain ⟨q1, q2⟩ := posB_spec hm n (Nat.le_refl _)
  rcases Nat.lt_trichotomy i (posB p n) with e | e | e
  · have := q1 i e; rw [h2 i (Nat.le_refl _) (by omega)] at this; cases this
  · exact e
  · have := h1 _ e; rw [q2 _ (Nat.le_refl _) (by omega)] at this; cases this
def cmpI (a b : Int) : Int := if a < b then -1 else if b < a then 1 else 0
theorem cmpI_lt {a b : Int} (h : a < b) : cmpI a b = -1 := by rw [cmpI, if_pos h]
theorem cmpI_gt {a b : Int} (h : b < a) : cmpI a b = 1 := by rw [cmpI, if_neg (by omega), if_pos h]
theorem cmpI_eq {a b : Int} (h : ¬ a < b) (k : ¬ b < a) : cmpI a b = 0 := by rw [cmpI, if_neg h, if_neg k]
theorem cmpI_neg {a b : Int} : cmpI a b < 0 ↔ a < b := by
  unfold cmpI
  split
  · omega
  · split <;> omega
theorem cmpI_zero {a b : Int} : cmpI a b = 0 ↔ a = b := by
  unfold cmpI
  split
  · omega
  · split <;> omega
/-! ### Leads -/
def okL (l : List Lead) (i : Nat) : Prop := (1 ≤ l[i]!.fr ∧ l[i]!.fr ≤ 1000000000 ∧ 0 ≤ l[i]!.to ∧ l[i]!.to ≤ 1000000000 ∧ l[i]!.fr ≠ l[i]!.to) ∧ (0 < i → l[i - 1]!.fr < l[i]!.fr)
instance (l : List Lead) (i : Nat) : Decidable (okL l i) := by unfold okL; infer_instance
def validL (l : List Lead) : Prop := ∀ i, i < l.length → okL l i
instance (l : List Lead) : Decidable (validL l) := by unfold validL; infer_instance
theorem okL_step {l : List Lead} {k : Nat} (h : ∀ j, j < k → okL l j) (hb : okL l k) : ∀ j, j < k + 1 → okL l j := fun j hj => by
  rcases Nat.lt_succ_iff_lt_or_eq.1 hj with h1 | h1
  · exact h j h1
  · subst h1; exact hb
theorem validL_no {l : List Lead} {k : Nat} (hk : k < l.length) (hb : ¬ okL l k) : decide (validL l) = false := decide_eq_false fun h => hb (h k hk)
theorem lead_lt {l : List Lead} (h : validL l) : ∀ {j i : Nat}, i < j → j < l.length → l[i]!.fr < l[j]!.fr
  | 0, _, hi, _ => by omega
  | j + 1, i, hi, hj => by
    have h1 := (h (j + 1) hj).2 (by omega)
    rw [Nat.add_sub_cancel] at h1
    by_cases e : i = j
    · subst e; exact h1
    · have := lead_lt h (show i < j by omega) (by omega); omega
def leadF (l : List Lead) (id : Int) : Int := if idxF (fun x => decide (x.fr = id)) l < 0 then id else l[(idxF (fun x => decide (x.fr = id)) l).toNat]!.to
def ltL (l : List Lead) (id : Int) (k : Nat) : Bool := decide (l[k]!.fr < id)
theorem ltL_mono {l : List Lead} (h : validL l) (id : Int) : ∀ i j, i < j → j < l.length → ltL l id j = true → ltL l id i = true := fun i j hij hj e => by
  have := lead_lt h hij hj
  have e := of_decide_eq_true e
  exact decide_eq_true (by omega)
def posL (l : List Lead) (id : Int) : Nat := posB (ltL l id) l.length
def foundL (l : List Lead) (id : Int) : Bool := decide ((posL l id : Int) < l.length) && decide (cmpI l[posL l id]!.fr id = 0)
theorem posL_le (l : List Lead) (id : Int) : posL l id ≤ l.length := posB_le _ _
theorem lead_found {l : List Lead} (h : validL l) {id : Int} (hf : foundL l id = true) : posL l id < l.length ∧ leadF l id = l[posL l id]!.to := by
  unfold foundL at hf
  rw [Bool.and_eq_true, decide_eq_true_eq, decide_eq_true_eq, cmpI_zero] at hf
  have hp : posL l id < l.length := by omega
  obtain ⟨q1, _⟩ := posB_spec (ltL_mono h id) l.length (Nat.le_refl _)
  have hx : idxF (fun x => decide (x.fr = id)) l = (posL l id : Nat) := idxF_here hp (fun j hj => by
    have := of_decide_eq_true (q1 j hj)
    exact decide_eq_false (by omega)) (decide_eq_true (by omega))
  exact ⟨hp, by rw [leadF, hx, if_neg (by omega), Int.toNat_natCast]⟩
theorem lead_none {l : List Lead} (h : validL l) {id : Int} (hf : foundL l id = false) : leadF l id = id := by
  obtain ⟨q1, q2⟩ := posB_spec (ltL_mono h id) l.length (Nat.le_refl _)
  have hx : idxF (fun x => decide (x.fr = id)) l = -1 := idxF_none (Nat.le_refl l.length) fun j hj => decide_eq_false fun e => by
    by_cases c : j < posL l id
    · have := of_decide_eq_true (q1 j c); omega
    · have h2 : ¬ l[posL l id]!.fr < id := of_decide_eq_false (q2 (posL l id) (Nat.le_refl _) (by omega))
      by_cases c2 : j = posL l id
      · have : foundL l id = true := by
          unfold foundL
          rw [← c2, Bool.and_eq_true, decide_eq_true_eq, decide_eq_true_eq, cmpI_zero]; omega
        rw [this] at hf; cases hf
      · have := lead_lt h (show posL l id < j by omega) hj; omega
  rw [leadF, hx, if_pos (by decide)]
/-! ### What is shown -/
def nowF (s : Sess) (l : List Lead) (k : Nat) : Int := leadF l s.items[k]!.id
def againB (s : Sess) (l : List Lead) (k : Nat) : Bool := decide (nowF s l k ≠ 0) && decide (∃ j, j < k ∧ nowF s l j = nowF s l k)
def entryAt (s : Sess) (l : List Lead) (k : Nat) : Entry := ⟨s.items[k]!.id, s.items[k]!.sc, nowF s l k, againB s l k⟩
def outK (s : Sess) (l : List Lead) (b n : Nat) : List Entry := (List.range' b n).map (entryAt s l)
theorem outK_succ (s : Sess) (l : List Lead) (b n : Nat) : outK s l b (n + 1) = outK s l b n ++ [entryAt s l (b + n)] := by
  unfold outK
  rw [List.range'_1_concat, List.map_append]; rfl
theorem outK_len (s : Sess) (l : List Lead) (b n : Nat) : (outK s l b n).length = n := by simp [outK]
def showE (s : Sess) (i : Int) (l : List Lead) : Int := if ¬ (validS s ∧ validL l) then 1 else pageE s i
def bgn (s : Sess) (i : Int) : Nat := (i - 1).toNat * s.size.toNat
def showQ (s : Sess) (i : Int) (l : List Lead) : List Entry := if showE s i l = 0 then outK s l (bgn s i) (pageQ s i).length else []
theorem show_1 {s : Sess} {i : Int} {l : List Lead} (h : ¬ (validS s ∧ validL l)) : showE s i l = 1 ∧ showQ s i l = [] := by
  have e : showE s i l = 1 := by rw [showE, if_pos h]
  exact ⟨e, by rw [showQ, e, if_neg (by decide)]⟩
theorem show_e {s : Sess} {i : Int} {l : List Lead} (h : validS s ∧ validL l) (k : pageE s i ≠ 0) : showE s i l = pageE s i ∧ showQ s i l = [] := by
  have e : showE s i l = pageE s i := by rw [showE, if_neg (fun n => n h)]
  exact ⟨e, by rw [showQ, e, if_neg k]⟩
theorem show_0 {s : Sess} {i : Int} {l : List Lead} (h : validS s ∧ validL l) (k : pageE s i = 0) : showE s i l = 0 ∧ showQ s i l = outK s l (bgn s i) (pageQ s i).length := by
  have e : showE s i l = 0 := by rw [showE, if_neg (fun n => n h), k]
  exact ⟨e, by rw [showQ, e, if_pos rfl]⟩
/-- Up to n: whether an item ahead leads there. -/
def agK (s : Sess) (l : List Lead) (k : Nat) : Nat → Bool
  | 0 => false
  | n + 1 => agK s l k n || (decide (nowF s l k ≠ 0) && decide (nowF s l n = nowF s l k))
theorem agK_iff (s : Sess) (l : List Lead) (k : Nat) : ∀ n, agK s l k n = true ↔ nowF s l k ≠ 0 ∧ ∃ j, j < n ∧ nowF s l j = nowF s l k
  | 0 => by simp [agK]
  | n + 1 => by
    rw [agK, Bool.or_eq_true, agK_iff s l k n, Bool.and_eq_true, decide_eq_true_eq, decide_eq_true_eq]
    refine ⟨?_, fun ⟨h1, j, h2, h3⟩ => ?_⟩
    · rintro (⟨h1, j, h2, h3⟩ | ⟨h1, h2⟩)
      · exact ⟨h1, j, by omega, h3⟩
      · exact ⟨h1, n, by omega, h2⟩
    · rcases Nat.lt_succ_iff_lt_or_eq.1 h2 with h | h
      · exact .inl ⟨h1, j, h, h3⟩
      · subst h; exact .inr ⟨h1, h3⟩
theorem agK_all (s : Sess) (l : List Lead) (k : Nat) : agK s l k k = againB s l k := by
  rw [Bool.eq_iff_iff, agK_iff, againB, Bool.and_eq_true, decide_eq_true_eq, decide_eq_true_eq]
theorem again_seen (s : Sess) (l : List Lead) (k : Nat) : (decide (nowF s l k ≠ 0) && mget (seenF (nowF s l) k) (nowF s l k) false) = againB s l k := by
  rw [Bool.eq_iff_iff, againB, Bool.and_eq_true, Bool.and_eq_true, seenF_iff, decide_eq_true_eq, decide_eq_true_eq]
theorem bgn_le {s : Sess} {i : Int} (h : pageE s i = 0) : bgn s i + (pageQ s i).length ≤ s.items.length ∧ 0 < (pageQ s i).length := by
  obtain ⟨h1, h2, h3, h4⟩ := page_ok h
  have hs := h1.1.1
  have h5 := (nP_iff hs (i - 1).toNat).1 (by omega)
  rw [h4, chunk_len]
  unfold bgn
  omega
theorem page_at {s : Sess} {i : Int} (h : pageE s i = 0) {k : Nat} (hk : k < (pageQ s i).length) : (pageQ s i)[k]! = s.items[bgn s i + k]! := by
  obtain ⟨h1, h2, h3, h4⟩ := page_ok h
  rw [h4] at hk ⊢
  exact chunk_get hk
theorem bsL_lo {l : List Lead} (hv : validL l) {id : Int} {m : Nat} (hm : m < l.length) (e : l[m]!.fr < id) : ∀ j, j < m + 1 → ltL l id j = true := fun j hj => by
  by_cases ej : j = m
  · subst ej; exact decide_eq_true e
  · have := lead_lt hv (show j < m by omega) hm
    exact decide_eq_true (by omega)
theorem bsL_hi {l : List Lead} (hv : validL l) {id : Int} {m : Nat} (e : ¬ l[m]!.fr < id) : ∀ j, m ≤ j → j < l.length → ltL l id j = false := fun j hj hl => by
  by_cases ej : j = m
  · subst ej; exact decide_eq_false e
  · have := lead_lt hv (show m < j by omega) hl
    exact decide_eq_false (by omega)
theorem take_get {α : Type} [Inhabited α] {l : List α} {n k : Nat} (h : k < n) (hn : n ≤ l.length) : (l.take n)[k]! = l[k]! := by
  rw [getElem!_pos _ k (by rw [List.length_take]; omega), getElem!_pos l k (by omega), List.getElem_take]
def pagesN (s : Sess) : Int := if validS s then nP s else 0
theorem nP_int {s : Sess} (h : 1 ≤ s.size) : ((s.items.length : Int) + s.size - 1) / s.size = (nP s : Int) := by
  obtain ⟨m, hm⟩ : ∃ m : Nat, s.size = m := ⟨s.size.toNat, by omega⟩
  have h2 : s.size.toNat = m := by omega
  unfold nP
  rw [hm] at h ⊢
  rw [Int.toNat_natCast, Int.natCast_ediv]
  congr 1
  omega
theorem bgn_eq {s : Sess} {i : Int} (h : 1 ≤ s.size) (hi : 1 ≤ i) : (i - 1) * s.size = (bgn s i : Int) := by
  unfold bgn
  rw [Int.natCast_mul]
  congr 1 <;> omega
theorem end_eq {s : Sess} {i : Int} (h : 1 ≤ s.size) (hi : 1 ≤ i) : i * s.size = ((((i - 1).toNat + 1) * s.size.toNat : Nat) : Int) := by
  rw [Int.natCast_mul]
  congr 1 <;> omega
theorem end_bgn (s : Sess) (i : Int) : ((i - 1).toNat + 1) * s.size.toNat = bgn s i + s.size.toNat := by
  rw [Nat.add_mul, Nat.one_mul]; rfl
end Go.D51
