/-
  Queues of holds: putting, the order's laws, overtaking.
-/
import Derived.Test.YtlodmhiemndegaaM57
namespace Go.D57
open Go Go.RowKit Go.G
/-! ### Putting -/
def h0 (h : Hd) : Hd := { h with ov := 0 }
def posR (q : List Hd) (h : Hd) : Nat → Nat
  | 0 => 0
  | k + 1 => if earl q[k]! h then k + 1 else posR q h k
theorem posR_le (q : List Hd) (h : Hd) : ∀ k, posR q h k ≤ k
  | 0 => Nat.le_refl _
  | k + 1 => by
    rw [posR]
    split
    · exact Nat.le_refl _
    · have := posR_le q h k; omega
/-- The place of a hold among the sorted ones. -/
theorem posR_spec {q : List Hd} (hv : validQ q) (h : Hd) : ∀ k, k ≤ q.length → (∀ j, j < posR q h k → earl q[j]! h) ∧ (∀ j, posR q h k ≤ j → j < k → ¬ earl q[j]! h)
  | 0, _ => ⟨fun j hj => by simp [posR] at hj, fun j _ hj => by omega⟩
  | k + 1, hk => by
    obtain ⟨h1, h2⟩ := posR_spec hv h k (by omega)
    by_cases e : earl q[k]! h
    · rw [posR, if_pos e]
      refine ⟨fun j hj => ?_, fun j hj hj2 => by omega⟩
      by_cases ej : j = k
      · subst ej; exact e
      · exact earl_trans (sorted hv (show j < k by omega) (by omega)) e
    · rw [posR, if_neg e]
      refine ⟨h1, fun j hj hj2 => ?_⟩
      by_cases ej : j = k
      · subst ej; exact e
      · exact h2 j hj (by omega)
def posI (q : List Hd) (h : Hd) : Nat := posR q h q.length
theorem posI_le (q : List Hd) (h : Hd) : posI q h ≤ q.length := posR_le q h _
theorem posI_lo {q : List Hd} (hv : validQ q) {h : Hd} {j : Nat} (hj : j < posI q h) : earl q[j]! h := (posR_spec hv h _ (Nat.le_refl _)).1 j hj
theorem posI_hi {q : List Hd} (hv : validQ q) {h : Hd} {j : Nat} (hj : posI q h ≤ j) (hl : j < q.length) : ¬ earl q[j]! h := (posR_spec hv h _ (Nat.le_refl _)).2 j hj hl
theorem posI_eq {q : List Hd} (hv : validQ q) {h : Hd} {i : Nat} (hi : i ≤ q.length) (h1 : ∀ j, j < i → earl q[j]! h) (h2 : ∀ j, i ≤ j → j < q.length → ¬ earl q[j]! h) : i = posI q h := by
  have hl := posI_le q h
  rcases Nat.lt_trichotomy i (posI q h) with e | e | e
  · exact absurd (posI_lo hv e) (h2 i (Nat.le_refl _) (by omega))
  · exact e
  · exact absurd (h1 _ e) (posI_hi hv (Nat.le_refl _) (by omega))
theorem bs_lo {q : List Hd} (hv : validQ q) {h : Hd} {m : Nat} (hm : m < q.length) (e : earl q[m]! h) : ∀ j, j < m + 1 → earl q[j]! h := fun j hj => by
  by_cases ej : j = m
  · subst ej; exact e
  · exact earl_trans (sorted hv (show j < m by omega) hm) e
theorem bs_hi {q : List Hd} (hv : validQ q) {h : Hd} {m : Nat} (e : ¬ earl q[m]! h) : ∀ j, m ≤ j → j < q.length → ¬ earl q[j]! h := fun j hj hl k => by
  by_cases ej : j = m
  · subst ej; exact e k
  · exact e (earl_trans (sorted hv (show m < j by omega) hl) k)
def likeQ (q : List Hd) (h : Hd) : Prop := ∃ j, j < q.length ∧ likeH q[j]! h
theorem likeQ_iff (q : List Hd) (h : Hd) : 0 ≤ idxF (fun x => decide (likeH x h)) q ↔ likeQ q h := by
  unfold idxF
  split
  · rename_i i hf
    obtain ⟨h1, h2, _⟩ := List.findIdx?_eq_some_iff_getElem.1 hf
    exact ⟨fun _ => ⟨i, h1, by rw [getElem!_pos q i h1]; exact of_decide_eq_true h2⟩, fun _ => by omega⟩
  · rename_i hf
    rw [List.findIdx?_eq_none_iff] at hf
    refine ⟨fun h => by omega, fun ⟨j, hj, hl⟩ => ?_⟩
    have := of_decide_eq_false (hf q[j]! (by rw [getElem!_pos q j hj]; exact List.getElem_mem _))
    exact absurd hl this
instance (q : List Hd) (h : Hd) : Decidable (likeQ q h) := decidable_of_iff _ (likeQ_iff q h)
def putL (q : List Hd) (h : Hd) : List Hd := q.take (posI q (h0 h)) ++ [h0 h] ++ q.drop (posI q (h0 h))
def putE (q : List Hd) (h : Hd) : Int := if ¬ (validQ q ∧ goodH (h0 h)) then 1 else if likeQ q (h0 h) then 10 else if q.length = 60 then 20 else 0
def putQ (q : List Hd) (h : Hd) : List Hd := if putE q h = 0 then putL q h else []
theorem put_1 {q : List Hd} {h : Hd} (k : ¬ (validQ q ∧ goodH (h0 h))) : putE q h = 1 ∧ putQ q h = [] := by
  have e : putE q h = 1 := by rw [putE, if_pos k]
  exact ⟨e, by rw [putQ, e, if_neg (by decide)]⟩
theorem put_10 {q : List Hd} {h : Hd} (k : validQ q ∧ goodH (h0 h)) (l : likeQ q (h0 h)) : putE q h = 10 ∧ putQ q h = [] := by
  have e : putE q h = 10 := by rw [putE, if_neg (fun n => n k), if_pos l]
  exact ⟨e, by rw [putQ, e, if_neg (by decide)]⟩
theorem put_20 {q : List Hd} {h : Hd} (k : validQ q ∧ goodH (h0 h)) (l : ¬ likeQ q (h0 h)) (m : q.length = 60) : putE q h = 20 ∧ putQ q h = [] := by
  have e : putE q h = 20 := by rw [putE, if_neg (fun n => n k), if_neg l, if_pos m]
  exact ⟨e, by rw [putQ, e, if_neg (by decide)]⟩
theorem put_0 {q : List Hd} {h : Hd} (k : validQ q ∧ goodH (h0 h)) (l : ¬ likeQ q (h0 h)) (m : q.length ≠ 60) : putE q h = 0 ∧ putQ q h = putL q h := by
  have e : putE q h = 0 := by rw [putE, if_neg (fun n => n k), if_neg l, if_neg m]
  exact ⟨e, by rw [putQ, e, if_pos rfl]⟩
theorem put_ok {q : List Hd} {h : Hd} (e : putE q h = 0) : validQ q ∧ goodH (h0 h) ∧ ¬ likeQ q (h0 h) ∧ q.length ≠ 60 ∧ putQ q h = putL q h := by
  unfold putE at e
  split at e
  · cases e
  · rename_i k
    split at e
    · cases e
    · split at e
      · cases e
      · exact ⟨(Decidable.not_not.1 k).1, (Decidable.not_not.1 k).2, ‹_›, ‹_›, (put_0 (Decidable.not_not.1 k) ‹_› ‹_›).2⟩
def bsB (q : List Hd) (h : Hd) : Bool := decide ((posI q h : Int) < q.length) && decide (cmpH q[posI q h]! h = 0)
theorem put_rows {β : Type} {f : Hd → β} {q : List Hd} {p : Nat} {x : Hd} (hp : p ≤ q.length) :
    (((q.take p ++ List.replicate (q.length + 1 - p) zeroH).set p x).map f).take (p + 1) ++ (q.drop p).map f ++ (((q.take p ++ List.replicate (q.length + 1 - p) zeroH).set p x).map f).drop (p + 1 + ((q.drop p).map f).length) = (q.take p ++ [x] ++ q.drop p).map f := by
  have h1 : (q.take p).length = p := by simp; omega
  have h2 : (q.take p ++ List.replicate (q.length + 1 - p) zeroH).set p x = (q.take p ++ [x]) ++ List.replicate (q.length - p) zeroH := by
    rw [List.set_append_right _ _ (by omega), h1, Nat.sub_self, show q.length + 1 - p = (q.length - p) + 1 by omega, List.replicate_succ, List.set_cons_zero]; simp
  have h3 : (q.take p ++ [x]).length = p + 1 := by simp [h1]
  have h4 : ((q.take p ++ [x]) ++ List.replicate (q.length - p) zeroH).drop (p + 1 + (q.drop p).length) = [] := List.drop_eq_nil_of_le (by rw [List.length_append, h3]; simp)
  rw [h2, ← List.map_take, ← List.map_drop, List.take_left' h3, List.length_map, h4, List.map_nil, List.append_nil, ← List.map_append]
theorem putL_len (q : List Hd) (h : Hd) : (putL q h).length = q.length + 1 := by
  have := posI_le q (h0 h)
  simp [putL]; omega
theorem putL_get {q : List Hd} {h : Hd} {i : Nat} (hi : i ≤ q.length) : (putL q h)[i]! = if i < posI q (h0 h) then q[i]! else if i = posI q (h0 h) then h0 h else q[i - 1]! := by
  have hp := posI_le q (h0 h)
  have hl := putL_len q h
  rw [getElem!_pos _ i (by omega)]
  simp only [putL, List.append_assoc, List.singleton_append]
  have h1 : (q.take (posI q (h0 h))).length = posI q (h0 h) := by simp; omega
  by_cases e : i < posI q (h0 h)
  · rw [if_pos e, List.getElem_append_left (by omega), List.getElem_take, getElem!_pos q i (by omega)]
  · rw [if_neg e, List.getElem_append_right (by omega)]
    by_cases e2 : i = posI q (h0 h)
    · rw [if_pos e2]
      simp [h1, e2]
    · rw [if_neg e2]
      obtain ⟨d, hd⟩ : ∃ d, i - posI q (h0 h) = d + 1 := ⟨i - posI q (h0 h) - 1, by omega⟩
      simp only [h1, hd, List.getElem_cons_succ, List.getElem_drop]
      rw [getElem!_pos q (i - 1) (by omega)]
      congr 1
      omega
theorem earl_tot {a b : Hd} (h : a.id ≠ b.id) (k : ¬ earl a b) : earl b a := by unfold earl at *; omega
theorem put_valid {q : List Hd} {h : Hd} (e : putE q h = 0) : validQ (putL q h) := by
  obtain ⟨hv, hg, hk, h60, _⟩ := put_ok e
  have hl := putL_len q h
  have h61 := hv.2
  have hp := posI_le q (h0 h)
  have nl : ∀ j, j < q.length → ¬ likeH q[j]! (h0 h) := fun j hj hh => hk ⟨j, hj, hh⟩
  have sym : ∀ a b : Hd, likeH a b → likeH b a := fun a b h => by unfold likeH at *; rcases h with h | h <;> simp [h]
  have nid : ∀ j, j < q.length → q[j]!.id ≠ (h0 h).id := fun j hj hh => nl j hj (.inl hh)
  refine ⟨fun i hi => ?_, by omega⟩
  rw [hl] at hi
  unfold before
  rw [putL_get (by omega)]
  refine ⟨?_, fun i0 => ?_, fun k hki => ?_⟩
  · split
    · exact (hv.1 i (by omega)).1
    · split
      · exact hg
      · exact (hv.1 (i - 1) (by omega)).1
  · rw [putL_get (by omega)]
    by_cases e1 : i < posI q (h0 h)
    · rw [if_pos e1, if_pos (by omega)]; exact (hv.1 i (by omega)).2.1 i0
    · rw [if_neg e1]
      by_cases e2 : i = posI q (h0 h)
      · rw [if_pos e2, if_pos (by omega)]; exact posI_lo hv (by omega)
      · rw [if_neg e2]
        by_cases e3 : i - 1 = posI q (h0 h)
        · rw [if_neg (by omega), if_pos e3]
          exact earl_tot (nid _ (by omega)) (posI_hi hv (by omega) (by omega))
        · rw [if_neg (by omega), if_neg e3]
          exact (hv.1 (i - 1) (by omega)).2.1 (by omega)
  · rw [putL_get (by omega)]
    by_cases e1 : i < posI q (h0 h)
    · rw [if_pos e1, if_pos (by omega)]; exact (hv.1 i (by omega)).2.2 k hki
    · rw [if_neg e1]
      by_cases e2 : i = posI q (h0 h)
      · rw [if_pos e2, if_pos (by omega)]; exact nl k (by omega)
      · rw [if_neg e2]
        by_cases k1 : k < posI q (h0 h)
        · rw [if_pos k1]; exact (hv.1 (i - 1) (by omega)).2.2 k (by omega)
        · rw [if_neg k1]
          by_cases k2 : k = posI q (h0 h)
          · rw [if_pos k2]; exact fun hh => nl (i - 1) (by omega) (sym _ _ hh)
          · rw [if_neg k2]; exact (hv.1 (i - 1) (by omega)).2.2 (k - 1) (by omega)
/-! ### Back -/
theorem ixI_here {q : List Hd} (hv : validQ q) {i : Nat} (hi : i < q.length) : ixI q q[i]!.id = i := idx_id hv hi
theorem back {q : List Hd} {h : Hd} (e : putE q h = 0) : canE (putL q h) h.id = 0 ∧ canQ (putL q h) h.id = q := by
  have hpv := put_valid e
  have hp := posI_le q (h0 h)
  have hl := putL_len q h
  have hx := ixI_here hpv (i := posI q (h0 h)) (by omega)
  rw [putL_get hp, if_neg (by omega), if_pos rfl] at hx
  have hx' : ixI (putL q h) h.id = (posI q (h0 h) : Nat) := hx
  obtain ⟨a, b⟩ := can_0 (id := h.id) hpv (by rw [hx']; omega)
  refine ⟨a, ?_⟩
  rw [b, hx', Int.toNat_natCast, putL]
  have h1 : (q.take (posI q (h0 h))).length = posI q (h0 h) := by simp; omega
  have h2 : (q.take (posI q (h0 h)) ++ [h0 h] ++ q.drop (posI q (h0 h))).drop (posI q (h0 h) + 1) = q.drop (posI q (h0 h)) := List.drop_left' (by rw [List.length_append, h1]; rfl)
  have h3 : (q.take (posI q (h0 h)) ++ [h0 h] ++ q.drop (posI q (h0 h))).take (posI q (h0 h)) = q.take (posI q (h0 h)) := by rw [List.append_assoc, List.take_left' h1]
  rw [h2, h3, List.take_append_drop]
def canL (q : List Hd) (i : Nat) : List Hd := q.take i ++ q.drop (i + 1)
theorem canL_len {q : List Hd} {i : Nat} (h : i < q.length) : (canL q i).length = q.length - 1 := by simp [canL]; omega
theorem canL_get {q : List Hd} {n i : Nat} (h : n < q.length) (hi : i < q.length - 1) : (canL q n)[i]! = if i < n then q[i]! else q[i + 1]! := by
  have hl := canL_len h
  have h1 : (q.take n).length = n := by simp; omega
  rw [getElem!_pos _ i (by omega)]
  simp only [canL]
  by_cases e : i < n
  · rw [if_pos e, List.getElem_append_left (by omega), List.getElem_take, getElem!_pos q i (by omega)]
  · rw [if_neg e, List.getElem_append_right (by omega), List.getElem_drop, getElem!_pos q (i + 1) (by omega)]
    congr 1
    omega
theorem canL_valid {q : List Hd} (h : validQ q) {n : Nat} (hn : n < q.length) : validQ (canL q n) := by
  have hl := canL_len hn
  have h60 := h.2
  refine ⟨fun i hi => ?_, by omega⟩
  rw [hl] at hi
  unfold before
  rw [canL_get hn hi]
  refine ⟨?_, fun h0 => ?_, fun k hk => ?_⟩
  · split
    · exact (h.1 i (by omega)).1
    · exact (h.1 (i + 1) (by omega)).1
  · rw [canL_get hn (by omega)]
    by_cases e : i < n
    · rw [if_pos e, if_pos (by omega)]; exact (h.1 i (by omega)).2.1 h0
    · rw [if_neg e]
      have key : ∀ m, m < i + 1 → earl q[m]! q[i + 1]! := fun m hm => sorted h hm (by omega)
      split
      · exact key _ (by omega)
      · exact key _ (by omega)
  · rw [canL_get hn (by omega)]
    by_cases e : i < n
    · rw [if_pos e, if_pos (by omega)]; exact (h.1 i (by omega)).2.2 k hk
    · rw [if_neg e]
      split
      · exact (h.1 (i + 1) (by omega)).2.2 k (by omega)
      · exact (h.1 (i + 1) (by omega)).2.2 (k + 1) (by omega)
theorem can_next {q : List Hd} (hv : validQ q) (hl : 0 < q.length) : canE q (nextH q).id = 0 ∧ canQ q (nextH q).id = canL q (nextI q) := by
  have hx : ixI q (nextH q).id = (nextI q : Nat) := idx_next hv hl
  obtain ⟨a, b⟩ := can_0 (id := (nextH q).id) hv (by rw [hx]; omega)
  exact ⟨a, by rw [b, hx, Int.toNat_natCast]; rfl⟩
/-! ### Overtaking -/
def agree (q : List Hd) (o : List (Int × Int)) : Prop := ∀ e ∈ o, ∃ j, j < q.length ∧ q[j]!.id = e.1 ∧ q[j]!.ov = e.2
def agreeK (q : List Hd) (h : Hd) (k : Nat) (o : List (Int × Int)) : Prop := ∀ e ∈ o, ∃ j, j < q.length ∧ q[j]!.id = e.1 ∧ e.2 = q[j]!.ov + (if j < k ∧ earl q[j]! h then 1 else 0)
def incE (id : Int) (e : Int × Int) : Int × Int := if e.1 = id then (e.1, e.2 + 1) else e
def incO (id : Int) (o : List (Int × Int)) : List (Int × Int) := o.map (incE id)
def wo (id : Int) (o : List (Int × Int)) : List (Int × Int) := o.filter fun e => decide (e.1 ≠ id)
theorem agree_le {q : List Hd} {o : List (Int × Int)} (hv : validQ q) (h : agree q o) {k : Nat} (hk : k < o.length) : (o[k]!).2 ≤ 2 := by
  obtain ⟨j, h1, _, h3⟩ := h o[k]! (by rw [getElem!_pos o k hk]; exact List.getElem_mem _)
  have := (hv.1 j h1).1
  unfold goodH at this
  omega
theorem agree_put {q : List Hd} {h : Hd} {o : List (Int × Int)} (_ : putE q h = 0) (ha : agree q o) : agree (putL q h) (o ++ [(h.id, 0)]) := by
  have hp := posI_le q (h0 h)
  have hl := putL_len q h
  intro x hx
  rcases List.mem_append.1 hx with hx | hx
  · obtain ⟨j, h1, h2, h3⟩ := ha x hx
    by_cases c : j < posI q (h0 h)
    · exact ⟨j, by omega, by rw [putL_get (by omega), if_pos c]; exact h2, by rw [putL_get (by omega), if_pos c]; exact h3⟩
    · refine ⟨j + 1, by omega, ?_, ?_⟩
      · rw [putL_get (by omega), if_neg (by omega), if_neg (by omega)]; exact h2
      · rw [putL_get (by omega), if_neg (by omega), if_neg (by omega)]; exact h3
  · simp at hx
    subst hx
    refine ⟨posI q (h0 h), by omega, ?_, ?_⟩
    · rw [putL_get hp, if_neg (by omega), if_pos rfl]; rfl
    · rw [putL_get hp, if_neg (by omega), if_pos rfl]; rfl
theorem agree_can {q : List Hd} {id : Int} {n : Nat} {o : List (Int × Int)} (hn : n < q.length) (hi : q[n]!.id = id) (ha : agree q o) : agree (canL q n) (wo id o) := by
  have hl := canL_len hn
  intro x hx
  obtain ⟨hx, hne⟩ := List.mem_filter.1 hx
  have hne := of_decide_eq_true hne
  obtain ⟨j, h1, h2, h3⟩ := ha x hx
  have hj : j ≠ n := fun e => by subst e; exact hne (h2.symm.trans hi)
  by_cases c : j < n
  · exact ⟨j, by omega, by rw [canL_get hn (by omega), if_pos c]; exact h2, by rw [canL_get hn (by omega), if_pos c]; exact h3⟩
  · refine ⟨j - 1, by omega, ?_, ?_⟩
    · rw [canL_get hn (by omega), if_neg (by omega), show j - 1 + 1 = j by omega]; exact h2
    · rw [canL_get hn (by omega), if_neg (by omega), show j - 1 + 1 = j by omega]; exact h3
theorem agreeK_0 {q : List Hd} {h : Hd} {o : List (Int × Int)} (ha : agree q o) : agreeK q h 0 o := fun x hx => by
  obtain ⟨j, h1, h2, h3⟩ := ha x hx
  exact ⟨j, h1, h2, by rw [if_neg (by omega)]; omega⟩
theorem agreeK_no {q : List Hd} {h : Hd} {k : Nat} {o : List (Int × Int)} (e : ¬ earl q[k]! h) (ha : agreeK q h k o) : agreeK q h (k + 1) o := fun x hx => by
  obtain ⟨j, h1, h2, h3⟩ := ha x hx
  refine ⟨j, h1, h2, ?_⟩
  rw [h3]
  by_cases c : j = k
  · subst c; rw [if_neg (fun n => e n.2), if_neg (fun n => e n.2)]
  · have : (j < k ∧ earl q[j]! h) ↔ (j < k + 1 ∧ earl q[j]! h) := ⟨fun n => ⟨by omega, n.2⟩, fun n => ⟨by omega, n.2⟩⟩
    simp only [this]
theorem agreeK_yes {q : List Hd} (hv : validQ q) {h : Hd} {k : Nat} {o : List (Int × Int)} (hk : k < q.length) (e : earl q[k]! h) (ha : agreeK q h k o) : agreeK q h (k + 1) (incO q[k]!.id o) := fun x hx => by
  obtain ⟨y, hy, rfl⟩ := List.mem_map.1 hx
  obtain ⟨j, h1, h2, h3⟩ := ha y hy
  by_cases c : j = k
  · subst c
    refine ⟨j, h1, ?_, ?_⟩
    · rw [incE, if_pos h2.symm]; exact h2
    · rw [incE, if_pos h2.symm, if_pos ⟨by omega, e⟩]
      rw [if_neg (fun n => by omega)] at h3
      simp only; omega
  · have hne : ¬ y.1 = q[k]!.id := fun n => before_ids hv h1 hk c (h2.trans n)
    refine ⟨j, h1, ?_, ?_⟩
    · rw [incE, if_neg hne]; exact h2
    · rw [incE, if_neg hne, h3]
      have : (j < k ∧ earl q[j]! h) ↔ (j < k + 1 ∧ earl q[j]! h) := ⟨fun n => ⟨by omega, n.2⟩, fun n => ⟨by omega, n.2⟩⟩
      simp only [this]
theorem agreeK_le {q : List Hd} (hv : validQ q) {h : Hd} {k : Nat} {o : List (Int × Int)} (ha : agreeK q h k o) {i : Nat} (hi : i < o.length) : 0 ≤ (o[i]!).2 ∧ (o[i]!).2 ≤ 3 := by
  obtain ⟨j, h1, _, h3⟩ := ha o[i]! (by rw [getElem!_pos o i hi]; exact List.getElem_mem _)
  have := (hv.1 j h1).1
  unfold goodH at this
  split at h3 <;> omega
theorem agree_srv {q : List Hd} (hv : validQ q) {n : Nat} (hn : n < q.length) {o : List (Int × Int)} (ha : agreeK q q[n]! q.length o) : agree (srvL q n) (wo q[n]!.id o) := by
  have hl := srvL_len hn
  intro x hx
  obtain ⟨hx, hne⟩ := List.mem_filter.1 hx
  have hne := of_decide_eq_true hne
  obtain ⟨j, h1, h2, h3⟩ := ha x hx
  have hj : j ≠ n := fun e => by subst e; exact hne h2.symm
  by_cases c : j < n
  · rw [if_pos ⟨h1, sorted hv c hn⟩] at h3
    exact ⟨j, by omega, by rw [srvL_get hn (by omega), if_pos c]; exact h2, by rw [srvL_get hn (by omega), if_pos c]; simp only [incH]; omega⟩
  · rw [if_neg (fun k => by have := earl_lt hv h1 hn k.2; omega)] at h3
    refine ⟨j - 1, by omega, ?_, ?_⟩
    · rw [srvL_get hn (by omega), if_neg (by omega), show j - 1 + 1 = j by omega]; exact h2
    · rw [srvL_get hn (by omega), if_neg (by omega), show j - 1 + 1 = j by omega]; omega
def incK (id : Int) (o : List (Int × Int)) (i : Nat) : List (Int × Int) := (o.take i).map (incE id) ++ o.drop i
theorem incK_0 (id : Int) (o : List (Int × Int)) : incK id o 0 = o := by simp [incK]
theorem incK_all (id : Int) (o : List (Int × Int)) : incK id o o.length = incO id o := by simp [incK, incO]
theorem incK_len (id : Int) (o : List (Int × Int)) (i : Nat) : (incK id o i).length = o.length := by simp [incK]; omega
theorem incK_get {id : Int} {o : List (Int × Int)} {i : Nat} (h : i < o.length) : (incK id o i)[i]! = o[i]! := by
  rw [getElem!_pos _ i (by rw [incK_len]; omega), getElem!_pos o i h]
  have h1 : ((o.take i).map (incE id)).length = i := by simp; omega
  simp only [incK]
  rw [List.getElem_append_right (by omega)]
  simp only [h1, Nat.sub_self, List.getElem_drop, Nat.add_zero]
theorem incK_succ {id : Int} {o : List (Int × Int)} {i : Nat} (h : i < o.length) : incK id o (i + 1) = (incK id o i).set i (incE id o[i]!) := by
  have h1 : ((o.take i).map (incE id)).length = i := by simp; omega
  rw [incK, incK, List.set_append_right _ _ (by omega), h1, Nat.sub_self, List.drop_eq_getElem_cons h, List.set_cons_zero, List.take_add_one, List.getElem?_eq_getElem h, getElem!_pos o i h, List.map_append, List.append_assoc]
  rfl
theorem incK_no {id : Int} {o : List (Int × Int)} {i : Nat} (h : i < o.length) (e : ¬ (o[i]!).1 = id) : incK id o (i + 1) = incK id o i := by
  rw [incK_succ h, incE, if_neg e, ← incK_get (id := id) h]
  rw [getElem!_pos _ i (by rw [incK_len]; omega)]
  exact List.set_getElem_self _
theorem wo_take {id : Int} {o : List (Int × Int)} {k : Nat} (h : k < o.length) : wo id (o.take (k + 1)) = if (o[k]!).1 ≠ id then wo id (o.take k) ++ [o[k]!] else wo id (o.take k) := by
  rw [wo, List.take_add_one, List.getElem?_eq_getElem h, getElem!_pos o k h, List.filter_append]
  by_cases e : (o[k]).1 ≠ id
  · rw [if_pos e]; simp [wo, e]
  · rw [if_neg e]; simp [wo, e]
theorem wo_len (id : Int) (o : List (Int × Int)) : (wo id o).length ≤ o.length := List.length_filter_le _ _
theorem ixI_at {q : List Hd} {id : Int} (_ : validQ q) (h : ¬ ixI q id < 0) : q[(ixI q id).toNat]!.id = id := by
  unfold ixI idxF at *
  cases hf : q.findIdx? (fun x => decide (x.id = id)) with
  | none => rw [hf] at h; simp at h
  | some j =>
    obtain ⟨h1, h2, h3⟩ := List.findIdx?_eq_some_iff_getElem.1 hf
    simp only [Int.toNat_natCast]
    rw [getElem!_pos q j h1]
    exact of_decide_eq_true h2
/-! ### Everyone -/
def mono (q : List Hd) : Prop := ∀ i j, i < j → j < q.length → q[j]!.ov ≤ q[i]!.ov
theorem mono_srv {q : List Hd} (hl : 0 < q.length) (h : mono q) : mono (srvL q (nextI q)) := by
  have hn := nextI_lt hl
  have hlen := srvL_len hn
  intro i j hij hj
  rw [hlen] at hj
  rw [srvL_get hn (by omega), srvL_get hn (by omega)]
  by_cases e : j < nextI q
  · rw [if_pos e, if_pos (by omega)]
    have := h i j hij (by omega)
    simp only [incH]; omega
  · rw [if_neg e]
    split
    · have := h i (j + 1) (by omega) (by omega)
      simp only [incH]; omega
    · exact h (i + 1) (j + 1) (by omega) (by omega)
theorem served_first {q : List Hd} (hv : validQ q) (hm : mono q) {i : Nat} (hi : i < nextI q) (hl : 0 < q.length) : q[i]!.cls ≠ q[nextI q]!.cls := by
  have hn := nextI_lt hl
  by_cases c : idxF (fun x => decide (x.ov = 2)) q < 0
  · have h4 : nextI q = bestI q q.length := by rw [nextI, if_pos c]
    rw [h4] at hi ⊢
    have := (bestI_min q q.length i (by omega)).2 hi
    omega
  · have h1 := idxF_at (q := q) (by omega)
    have h4 : nextI q = (idxF (fun x => decide (x.ov = 2)) q).toNat := by rw [nextI, if_neg c]
    rw [← h4] at h1
    have h2 := hm i (nextI q) hi hn
    have h3 := ov_lt hv hi hl
    omega
def core (a b : Hd) : Prop := a.id = b.id ∧ a.cls = b.cls ∧ a.tim = b.tim
theorem core_srv {q : List Hd} {n j : Nat} (hn : n < q.length) (hj : j < (srvL q n).length) : ∃ m, m < q.length ∧ m ≠ n ∧ core q[m]! (srvL q n)[j]! := by
  rw [srvL_len hn] at hj
  by_cases e : j < n
  · exact ⟨j, by omega, by omega, by rw [srvL_get hn hj, if_pos e]; exact ⟨rfl, rfl, rfl⟩⟩
  · exact ⟨j + 1, by omega, by omega, by rw [srvL_get hn hj, if_neg e]; exact ⟨rfl, rfl, rfl⟩⟩
theorem core_tr {a b c : Hd} (h : core a b) (k : core b c) : core a c := ⟨h.1.trans k.1, h.2.1.trans k.2.1, h.2.2.trans k.2.2⟩
theorem core_in {q : List Hd} (hv : validQ q) : ∀ k, k ≤ q.length → ∀ j, j < (ordS q k).length → ∃ m, m < q.length ∧ core q[m]! (ordS q k)[j]!
  | 0, _, j, hj => ⟨j, hj, ⟨rfl, rfl, rfl⟩⟩
  | k + 1, hk, j, hj => by
    obtain ⟨h1, h2⟩ := ordS_ok hv k (by omega)
    obtain ⟨m, a, _, b⟩ := core_srv (nextI_lt (q := ordS q k) (by omega)) hj
    obtain ⟨m', a', b'⟩ := core_in hv k (by omega) m a
    exact ⟨m', a', core_tr b' b⟩
theorem core_later {q : List Hd} (hv : validQ q) (k : Nat) : ∀ d, k + 1 + d ≤ q.length → ∀ j, j < (ordS q (k + 1 + d)).length → ∃ m, m < (ordS q k).length ∧ m ≠ nextI (ordS q k) ∧ core (ordS q k)[m]! (ordS q (k + 1 + d))[j]!
  | 0, hk, j, hj => by
    obtain ⟨h1, h2⟩ := ordS_ok hv k (by omega)
    exact core_srv (nextI_lt (q := ordS q k) (by omega)) hj
  | d + 1, hk, j, hj => by
    obtain ⟨h1, h2⟩ := ordS_ok hv (k + 1 + d) (by omega)
    obtain ⟨m, a, _, b⟩ := core_srv (nextI_lt (q := ordS q (k + 1 + d)) (by omega)) (show j < (srvL _ _).length from hj)
    obtain ⟨m', a', c', b'⟩ := core_later hv k d (by omega) m a
    exact ⟨m', a', c', core_tr b' b⟩
theorem ord_ne {q : List Hd} (hv : validQ q) {j i : Nat} (hji : j < i) (hi : i < q.length) : ordAt q j ≠ ordAt q i := by
  obtain ⟨d, rfl⟩ : ∃ d, i = j + 1 + d := ⟨i - (j + 1), by omega⟩
  obtain ⟨h1, h2⟩ := ordS_ok hv j (by omega)
  obtain ⟨h3, h4⟩ := ordS_ok hv (j + 1 + d) (by omega)
  obtain ⟨m, a, b, c⟩ := core_later hv j d (by omega) _ (nextI_lt (q := ordS q (j + 1 + d)) (by omega))
  intro e
  exact before_ids h1 a (nextI_lt (by omega)) b (c.1.trans e.symm)
theorem ord_idx {q : List Hd} (hv : validQ q) {i : Nat} (hi : i < q.length) : ∃ m, m < q.length ∧ q[m]!.id = ordAt q i ∧ core q[m]! (ordS q i)[nextI (ordS q i)]! := by
  obtain ⟨h1, h2⟩ := ordS_ok hv i (by omega)
  obtain ⟨m, a, b⟩ := core_in hv i (by omega) _ (nextI_lt (q := ordS q i) (by omega))
  exact ⟨m, a, b.1, b⟩
theorem mono_ord {q : List Hd} (hv : validQ q) (hm : mono q) : ∀ k, k ≤ q.length → mono (ordS q k)
  | 0, _ => hm
  | k + 1, hk => by
    obtain ⟨h1, h2⟩ := ordS_ok hv k (by omega)
    exact mono_srv (by omega) (mono_ord hv hm k (by omega))
/-- Of the same class: in the queue's order. -/
theorem everyone {q : List Hd} (hv : validQ q) (hm : mono q) {j i a b : Nat} (hji : j < i) (hi : i < q.length) (ha : a < q.length) (hb : b < q.length) (ea : q[a]!.id = ordAt q j) (eb : q[b]!.id = ordAt q i) (hc : q[a]!.cls = q[b]!.cls) : a < b := by
  obtain ⟨a', ha', ea', ca⟩ := ord_idx hv (show j < q.length by omega)
  obtain ⟨b', hb', eb', cb⟩ := ord_idx hv hi
  have : a = a' := Decidable.byContradiction fun n => before_ids hv ha ha' n (ea.trans ea'.symm)
  subst this
  have : b = b' := Decidable.byContradiction fun n => before_ids hv hb hb' n (eb.trans eb'.symm)
  subst this
  obtain ⟨d, rfl⟩ : ∃ d, i = j + 1 + d := ⟨i - (j + 1), by omega⟩
  obtain ⟨h1, h2⟩ := ordS_ok hv j (by omega)
  obtain ⟨h3, h4⟩ := ordS_ok hv (j + 1 + d) (by omega)
  obtain ⟨m, x, y, z⟩ := core_later hv j d (by omega) _ (nextI_lt (q := ordS q (j + 1 + d)) (by omega))
  have hcl : (ordS q j)[m]!.cls = (ordS q j)[nextI (ordS q j)]!.cls := by rw [z.2.1, ← cb.2.1, ← hc, ca.2.1]
  have hmn : nextI (ordS q j) < m := by
    rcases Nat.lt_trichotomy m (nextI (ordS q j)) with e | e | e
    · exact absurd hcl (served_first h1 (mono_ord hv hm j (by omega)) e (by omega))
    · exact absurd e y
    · exact e
  have he := sorted h1 hmn x
  refine earl_lt hv ha hb ?_
  have c2 := core_tr cb ⟨z.1.symm, z.2.1.symm, z.2.2.symm⟩
  unfold earl at he ⊢
  rw [← ca.1, ← ca.2.2, ← c2.1, ← c2.2.2] at he
  exact he
theorem mono_fresh {q : List Hd} (h : ∀ i, i < q.length → q[i]!.ov = 0) : mono q := fun i j hij hj => by rw [h i (by omega), h j hj]; omega
theorem rank_is {q : List Hd} (hv : validQ q) {i : Nat} (hi : i < q.length) : rankN q (ordAt q i) = i ∧ rankE q (ordAt q i) = 0 := by
  have ho : ordQ q = ordI q q.length := by rw [ordQ, if_pos hv]
  have hg : ∀ j, j < q.length → (ordI q q.length)[j]! = ordAt q j := fun j hj => by
    rw [getElem!_pos _ j (by rw [ordI_len]; omega)]; simp [ordI]
  have hx : idxF (fun x => decide (x = ordAt q i)) (ordQ q) = i := by
    rw [ho]
    refine idxF_here (by rw [ordI_len]; exact hi) (fun j hj => ?_) ?_
    · rw [hg j (by omega)]; exact decide_eq_false (ord_ne hv hj hi)
    · rw [hg i hi]; exact decide_eq_true rfl
  obtain ⟨a, b⟩ := rank_0 (q := q) (id := ordAt q i) (by rw [ordE, if_pos hv]; decide) (by rw [hx]; omega)
  exact ⟨by rw [a, hx], b⟩
theorem ordQ_get {q : List Hd} (hv : validQ q) {i : Nat} (hi : i < q.length) : (ordQ q)[i]! = ordAt q i := by
  rw [ordQ, if_pos hv, getElem!_pos _ i (by rw [ordI_len]; omega)]; simp [ordI]
theorem ordQ_length {q : List Hd} (hv : validQ q) : (ordQ q).length = q.length := by rw [ordQ, if_pos hv, ordI_len]
theorem putQ_len (q : List Hd) (h : Hd) : (putQ q h).length ≤ q.length + 1 := by
  unfold putQ
  split
  · rw [putL_len]; exact Nat.le_refl _
  · simp
theorem canQ_len (q : List Hd) (id : Int) : (canQ q id).length ≤ q.length := by
  unfold canQ
  split
  · simp
  · split
    · simp
    · rename_i h1 h2
      have := ixI_range q id
      rw [List.length_append, List.length_take, List.length_drop]; omega
theorem srvQ_len (q : List Hd) : (srvQ q).length ≤ q.length := by
  unfold srvQ
  split
  · rename_i z; rw [srvL_len (nextI_lt z.2)]; omega
  · simp
theorem srvQ_valid {q : List Hd} (h : srvE q = 0) : validQ (srvQ q) := by
  by_cases hv : validQ q
  · by_cases hl : 0 < q.length
    · rw [(srv_0 hv hl).2.1]; exact srv_valid hv hl
    · exact absurd (h.symm.trans (srv_9 hv hl).1) (by decide)
  · exact absurd (h.symm.trans (srv_1 hv).1) (by decide)
/-- The last place of an ID among the first holds. -/
def fnd (q : List Hd) (id : Int) : Nat → Int
  | 0 => -1
  | m + 1 => if q[m]!.id = id then m else fnd q id m
theorem fnd_none {q : List Hd} {id : Int} : ∀ {m : Nat}, (∀ j, j < m → q[j]!.id ≠ id) → fnd q id m = -1
  | 0, _ => rfl
  | m + 1, h => by rw [fnd, if_neg (h m (by omega)), fnd_none fun j hj => h j (by omega)]
theorem fnd_is {q : List Hd} (hv : validQ q) {a : Nat} (ha : a < q.length) : ∀ {m : Nat}, a < m → m ≤ q.length → fnd q q[a]!.id m = a
  | m + 1, h, hm => by
    by_cases e : m = a
    · subst e; rw [fnd, if_pos rfl]
    · rw [fnd, if_neg (before_ids hv (by omega) ha e), fnd_is hv ha (by omega) (by omega)]
def frsh (q : List Hd) (k : Nat) : Bool := (q.take k).all fun x => decide (x.ov = 0)
theorem frsh_succ {q : List Hd} {k : Nat} (h : k < q.length) : frsh q (k + 1) = (frsh q k && decide (q[k]!.ov = 0)) := by
  rw [frsh, snocT h, List.all_append]; simp [frsh]
theorem frsh_mono {q : List Hd} (h : frsh q q.length = true) : mono q := mono_fresh fun i hi => by
  rw [frsh, List.take_length, List.all_eq_true] at h
  have := h q[i]! (by rw [getElem!_pos q i hi]; exact List.getElem_mem _)
  exact of_decide_eq_true this
def lastOk (q : List Hd) (L : Nat → Int) (k : Nat) : Prop := ∀ c, L c = 0 ∨ ∃ j a : Nat, j < k ∧ a < q.length ∧ q[a]!.id = ordAt q j ∧ q[a]!.cls = c ∧ L c = a + 1
theorem last_0 (q : List Hd) : lastOk q (fun _ => 0) 0 := fun _ => .inl rfl
def upd (L : Nat → Int) (c : Nat) (v : Int) : Nat → Int := fun d => if d = c then v else L d
theorem last_up {q : List Hd} {L : Nat → Int} {k a : Nat} (h : lastOk q L k) (ha : a < q.length) (hi : q[a]!.id = ordAt q k) (hc : 0 ≤ q[a]!.cls) : lastOk q (upd L q[a]!.cls.toNat (a + 1)) (k + 1) := fun c => by
  by_cases e : c = q[a]!.cls.toNat
  · exact .inr ⟨k, a, by omega, ha, hi, by omega, by rw [upd, if_pos e]⟩
  · rcases h c with h | ⟨j, b, h1, h2, h3, h4, h5⟩
    · exact .inl (by rw [upd, if_neg e]; exact h)
    · exact .inr ⟨j, b, by omega, h2, h3, h4, by rw [upd, if_neg e]; exact h5⟩
theorem last_lt {q : List Hd} (hv : validQ q) {L : Nat → Int} {k a : Nat} (h : lastOk q L k) (hk : k < q.length) (ha : a < q.length) (hi : q[a]!.id = ordAt q k) (hf : frsh q q.length = true) (hc : 0 ≤ q[a]!.cls) : ¬ ((a : Int) + 1 ≤ L q[a]!.cls.toNat) := by
  rcases h q[a]!.cls.toNat with h | ⟨j, b, h1, h2, h3, h4, h5⟩
  · omega
  · have := everyone hv (frsh_mono hf) h1 hk h2 ha h3 hi (by omega)
    omega
theorem back_get {q : List Hd} {n i : Nat} (hn : n < q.length) (hi : i < q.length - 1) : ((srvL q n)[i]!.ov = (canL q n)[i]!.ov ∨ (srvL q n)[i]!.ov = (canL q n)[i]!.ov + 1) ∧ { (srvL q n)[i]! with ov := (canL q n)[i]!.ov } = (canL q n)[i]! := by
  rw [srvL_get hn hi, canL_get hn hi]
  split
  · exact ⟨.inr rfl, rfl⟩
  · exact ⟨.inl rfl, rfl⟩
end Go.D57
