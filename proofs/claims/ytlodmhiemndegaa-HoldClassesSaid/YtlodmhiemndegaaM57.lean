/-
  Queues of holds, as functions on lists: what the walks compute.
-/
import Derived.Test.YtlodmhiemndegaaGWrit
namespace Go.D57
open Go Go.RowKit Go.G
structure Hd where
  id : Int
  pat : Int
  cls : Int
  tim : Int
  ov : Int
instance : Inhabited Hd := ⟨⟨0, 0, 0, 0, 0⟩⟩
theorem Hd.ext {a b : Hd} (h1 : a.id = b.id) (h2 : a.pat = b.pat) (h3 : a.cls = b.cls) (h4 : a.tim = b.tim) (h5 : a.ov = b.ov) : a = b := by
  cases a; cases b; simp_all
instance : DecidableEq Hd := fun a b =>
  if h : a.id = b.id ∧ a.pat = b.pat ∧ a.cls = b.cls ∧ a.tim = b.tim ∧ a.ov = b.ov then .isTrue (Hd.ext h.1 h.2.1 h.2.2.1 h.2.2.2.1 h.2.2.2.2) else .isFalse fun e => h (by subst e; exact ⟨rfl, rfl, rfl, rfl, rfl⟩)
theorem dec_iff {p q : Prop} [Decidable p] [Decidable q] (h : p ↔ q) : decide p = decide q := decide_eq_decide.2 h
theorem dec_t {q : Prop} [Decidable q] (h : q) : decide q = true := decide_eq_true h
theorem dec_f {q : Prop} [Decidable q] (h : ¬ q) : decide q = false := decide_eq_false h
def rng (n : Int) : Prop := -9223372036854775808 ≤ n ∧ n ≤ 9223372036854775807
/-- What any hold of the machine is. -/
def Hd.ok (h : Hd) : Prop := rng h.id ∧ rng h.pat ∧ rng h.cls ∧ rng h.tim ∧ rng h.ov
def goodH (h : Hd) : Prop := 1 ≤ h.id ∧ h.id ≤ 1000000000 ∧ 1 ≤ h.pat ∧ h.pat ≤ 1000000000 ∧ 1 ≤ h.cls ∧ h.cls ≤ 3 ∧ 0 ≤ h.tim ∧ h.tim ≤ 1000000 ∧ 0 ≤ h.ov ∧ h.ov ≤ 2
instance (h : Hd) : Decidable (goodH h) := by unfold goodH; infer_instance
def earl (a b : Hd) : Prop := a.tim < b.tim ∨ a.tim = b.tim ∧ a.id < b.id
instance (a b : Hd) : Decidable (earl a b) := by unfold earl; infer_instance
def likeH (a b : Hd) : Prop := a.id = b.id ∨ a.pat = b.pat
instance (a b : Hd) : Decidable (likeH a b) := by unfold likeH; infer_instance
def cmpI (a b : Int) : Int := if a < b then -1 else if b < a then 1 else 0
def cmpH (a b : Hd) : Int := if cmpI a.tim b.tim ≠ 0 then cmpI a.tim b.tim else cmpI a.id b.id
theorem cmpI_lt {a b : Int} (h : a < b) : cmpI a b = -1 := by rw [cmpI, if_pos h]
theorem cmpI_gt {a b : Int} (h : b < a) : cmpI a b = 1 := by rw [cmpI, if_neg (by omega), if_pos h]
theorem cmpI_eq {a b : Int} (h : ¬ a < b) (k : ¬ b < a) : cmpI a b = 0 := by rw [cmpI, if_neg h, if_neg k]
theorem cmpH_ge (a b : Hd) : 0 ≤ cmpH a b ↔ ¬ earl a b := by
  unfold cmpH cmpI earl
  repeat' split
  all_goals omega
theorem cmpH_lt (a b : Hd) : cmpH a b < 0 ↔ earl a b := by rw [← Int.not_le, cmpH_ge, Decidable.not_not]
/-- The first place at which a hold is of a kind, or -1. -/
def idxF {α : Type} (p : α → Bool) (l : List α) : Int := match l.findIdx? p with
  | some i => (i : Int)
  | none => -1
theorem idxF_here {α : Type} [Inhabited α] {p : α → Bool} {l : List α} {k : Nat} (hk : k < l.length) (h : ∀ j, j < k → p l[j]! = false) (e : p l[k]! = true) : idxF p l = k := by
  have : l.findIdx? p = some k := by
    rw [List.findIdx?_eq_some_iff_getElem]
    refine ⟨hk, by rw [← getElem!_pos l k hk]; exact e, fun j hj => ?_⟩
    have := h j hj
    rw [getElem!_pos l j (by omega)] at this
    simp [this]
  rw [idxF, this]
theorem idxF_none {α : Type} [Inhabited α] {p : α → Bool} {l : List α} {k : Nat} (hk : l.length ≤ k) (h : ∀ j, j < k → p l[j]! = false) : idxF p l = -1 := by
  have : l.findIdx? p = none := by
    rw [List.findIdx?_eq_none_iff]
    intro x hx
    obtain ⟨i, hi, rfl⟩ := List.getElem_of_mem hx
    rw [← getElem!_pos l i hi]
    exact h i (by omega)
  rw [idxF, this]
def before (q : List Hd) (i : Nat) : Prop := goodH q[i]! ∧ (0 < i → earl q[i - 1]! q[i]!) ∧ ∀ k, k < i → ¬ likeH q[k]! q[i]!
instance (q : List Hd) (i : Nat) : Decidable (before q i) := by unfold before; infer_instance
def validQ (q : List Hd) : Prop := (∀ i, i < q.length → before q i) ∧ q.length ≤ 60
instance (q : List Hd) : Decidable (validQ q) := by unfold validQ; infer_instance
theorem or_step {l : List Int} {k : Nat} (hk : k < l.length) : (l.drop k).find? (fun x => decide (x ≠ 0)) = if l[k]! ≠ 0 then some l[k]! else (l.drop (k + 1)).find? (fun x => decide (x ≠ 0)) := by
  rw [List.drop_eq_getElem_cons hk, getElem!_pos l k hk, List.find?_cons]
  by_cases h : l[k] ≠ 0
  · rw [if_pos h]; simp [h]
  · rw [if_neg h]; simp [h]
theorem or_two (a b : Int) : (([a, b] : List Int).find? (fun x => decide (x ≠ 0))).getD 0 = if a ≠ 0 then a else b := by
  by_cases h : a = 0
  · subst h
    by_cases k : b = 0
    · subst k; rfl
    · simp [k]
  · simp [h]
/-- The best of the first holds, by class. -/
def bestI (q : List Hd) : Nat → Nat
  | 0 => 0
  | k + 1 => if q[k]!.cls < q[bestI q k]!.cls then k else bestI q k
theorem bestI_1 (q : List Hd) : bestI q 1 = 0 := by simp [bestI]
theorem bestI_lt (q : List Hd) : ∀ {k}, 0 < k → bestI q k < k
  | 1, _ => by rw [bestI_1]; omega
  | k + 2, _ => by
    rw [bestI]
    split
    · omega
    · have := bestI_lt q (k := k + 1) (by omega); omega
theorem bestI_t {q : List Hd} {k : Nat} (h : q[k]!.cls < q[bestI q k]!.cls) : bestI q (k + 1) = k := by rw [bestI, if_pos h]
theorem bestI_f {q : List Hd} {k : Nat} (h : ¬ q[k]!.cls < q[bestI q k]!.cls) : bestI q (k + 1) = bestI q k := by rw [bestI, if_neg h]
theorem cmpI_neg {a b : Int} : cmpI a b < 0 ↔ a < b := by
  unfold cmpI
  split
  · omega
  · split <;> omega
def nextI (q : List Hd) : Nat := if idxF (fun x => decide (x.ov = 2)) q < 0 then bestI q q.length else (idxF (fun x => decide (x.ov = 2)) q).toNat
theorem idxF_range {α : Type} (p : α → Bool) (l : List α) : -1 ≤ idxF p l ∧ idxF p l < l.length := by
  unfold idxF
  split
  · rename_i i h
    have := (List.findIdx?_eq_some_iff_getElem.1 h).1
    omega
  · omega
theorem nextI_lt {q : List Hd} (h : 0 < q.length) : nextI q < q.length := by
  unfold nextI
  split
  · exact bestI_lt q h
  · have := idxF_range (fun x : Hd => decide (x.ov = 2)) q; omega
theorem valid_step {q : List Hd} {k : Nat} (h : ∀ j, j < k → before q j) (hb : before q k) : ∀ j, j < k + 1 → before q j := fun j hj => by
  rcases Nat.lt_succ_iff_lt_or_eq.1 hj with h1 | h1
  · exact h j h1
  · subst h1; exact hb
theorem valid_no {q : List Hd} {k : Nat} (hk : k < q.length) (hb : ¬ before q k) : decide (validQ q) = false := decide_eq_false fun h => hb (h.1 k hk)
theorem valid_yes {q : List Hd} (h : ∀ j, j < q.length → before q j) : decide (validQ q) = decide ((q.length : Int) ≤ 60) := by
  apply decide_eq_decide.2
  exact ⟨fun v => by have := v.2; omega, fun v => ⟨h, by omega⟩⟩
theorem like_take {q : List Hd} {k : Nat} (hk : k < q.length) : (0 ≤ idxF (fun x => decide (likeH x q[k]!)) (q.take k)) ↔ ∃ j, j < k ∧ likeH q[j]! q[k]! := by
  unfold idxF
  split
  · rename_i i h
    obtain ⟨h1, h2, _⟩ := List.findIdx?_eq_some_iff_getElem.1 h
    have hi : i < k := by simp at h1; omega
    refine ⟨fun _ => ⟨i, hi, ?_⟩, fun _ => by omega⟩
    rw [List.getElem_take] at h2
    rw [getElem!_pos q i (by omega)]
    exact of_decide_eq_true h2
  · rename_i h
    rw [List.findIdx?_eq_none_iff] at h
    refine ⟨fun h => by omega, fun ⟨j, hj, hl⟩ => ?_⟩
    have := of_decide_eq_false (h q[j]! (by
      rw [getElem!_pos q j (by omega)]
      exact List.mem_take_iff_getElem.2 ⟨j, by omega, rfl⟩))
    exact absurd hl this
theorem next_over {q : List Hd} {k : Nat} (hk : k < q.length) (h : ∀ j, j < k → decide (q[j]!.ov = 2) = false) (e : q[k]!.ov = 2) : nextI q = k := by
  have := idxF_here (p := fun x : Hd => decide (x.ov = 2)) hk h (decide_eq_true e)
  unfold nextI
  rw [this, if_neg (by omega)]; simp
theorem next_best {q : List Hd} (h : ∀ j, j < q.length → decide (q[j]!.ov = 2) = false) : nextI q = bestI q q.length := by
  have := idxF_none (p := fun x : Hd => decide (x.ov = 2)) (Nat.le_refl q.length) h
  unfold nextI
  rw [this, if_pos (by omega)]
def zeroH : Hd := ⟨0, 0, 0, 0, 0⟩
/-- The hold that is served next. -/
def nextH (q : List Hd) : Hd := if validQ q ∧ 0 < q.length then q[nextI q]! else zeroH
theorem nextH_no {q : List Hd} (h : ¬ (validQ q ∧ 0 < q.length)) : nextH q = zeroH := by rw [nextH, if_neg h]
theorem nextH_yes {q : List Hd} (h : validQ q ∧ 0 < q.length) : nextH q = q[nextI q]! := by rw [nextH, if_pos h]
theorem delete_clear {β : Type} {q : List Hd} {i j : Nat} {f : Hd → β} (hij : i < j) (hj : j ≤ q.length) :
    ((q.take i ++ q.drop j ++ q.drop (i + (q.length - j))).map f).take (i + (q.length - j)) ++ List.replicate (q.length - (i + (q.length - j))) (f zeroH) ++ ((q.take i ++ q.drop j ++ q.drop (i + (q.length - j))).map f).drop q.length = (q.take i ++ q.drop j ++ List.replicate (j - i) zeroH).map f := by
  have h1 : (q.take i ++ q.drop j).length = i + (q.length - j) := by simp; omega
  have h2 : (q.take i ++ q.drop j ++ q.drop (i + (q.length - j))).length ≤ q.length := by rw [List.length_append, h1, List.length_drop]; omega
  rw [← List.map_take, ← List.map_drop, List.take_left' h1, List.drop_eq_nil_of_le h2, show q.length - (i + (q.length - j)) = j - i by omega]
  simp
/-! ### Serving -/
def incH (h : Hd) : Hd := { h with ov := h.ov + 1 }
def srvR (q : List Hd) (n : Nat) : Nat → List Hd
  | 0 => []
  | k + 1 => if k = n then srvR q n k else srvR q n k ++ [if k < n then incH q[k]! else q[k]!]
def srvL (q : List Hd) (n : Nat) : List Hd := (q.take n).map incH ++ q.drop (n + 1)
theorem snocT {q : List Hd} {k : Nat} (h : k < q.length) : q.take (k + 1) = q.take k ++ [q[k]!] := by
  rw [List.take_add_one, List.getElem?_eq_getElem h, getElem!_pos q k h]; rfl
theorem srvR_lo {q : List Hd} {n : Nat} : ∀ {k : Nat}, k ≤ n → k ≤ q.length → srvR q n k = (q.take k).map incH
  | 0, _, _ => rfl
  | k + 1, h, hk => by
    rw [srvR, if_neg (by omega), if_pos (by omega), srvR_lo (by omega) (by omega), snocT (by omega)]; simp
theorem srvR_hi {q : List Hd} {n : Nat} : ∀ {k : Nat}, n < k → k ≤ q.length → srvR q n k = (q.take n).map incH ++ (q.take k).drop (n + 1)
  | 0, h, _ => by omega
  | k + 1, h, hk => by
    by_cases e : k = n
    · subst e
      rw [srvR, if_pos rfl, srvR_lo (Nat.le_refl _) (by omega), List.drop_eq_nil_of_le (by simp; omega), List.append_nil]
    · rw [srvR, if_neg e, if_neg (by omega), srvR_hi (by omega) (by omega), snocT (by omega), List.drop_append_of_le_length (by simp; omega), List.append_assoc]
theorem srvR_all {q : List Hd} {n : Nat} (h : n < q.length) : srvR q n q.length = srvL q n := by
  rw [srvR_hi h (Nat.le_refl _), List.take_length, srvL]
/-- In place: what has been counted up so far. -/
def srvK (q : List Hd) (n k : Nat) : List Hd := (q.take k).map incH ++ (q.take n ++ q.drop (n + 1)).drop k
theorem srvK_0 (q : List Hd) (n : Nat) : srvK q n 0 = q.take n ++ q.drop (n + 1) := by simp [srvK]
theorem srvK_n {q : List Hd} {n : Nat} (h : n < q.length) : srvK q n n = srvL q n := by
  rw [srvK, srvL, List.drop_left' (by simp; omega)]
theorem srvK_get {q : List Hd} {n k : Nat} (hk : k < n) (hn : n < q.length) : (srvK q n k)[k]! = q[k]! ∧ k < (srvK q n k).length := by
  have hl : k < (srvK q n k).length := by simp [srvK]; omega
  refine ⟨?_, hl⟩
  rw [getElem!_pos _ k hl, getElem!_pos q k (by omega)]
  have h1 : ((q.take k).map incH).length = k := by simp; omega
  simp only [srvK]
  rw [List.getElem_append_right (by omega)]
  simp only [h1, Nat.sub_self, List.getElem_drop, Nat.add_zero]
  rw [List.getElem_append_left (by simp; omega), List.getElem_take]
theorem srvK_step {q : List Hd} {n k : Nat} (hk : k < n) (hn : n < q.length) : (srvK q n k).set k (incH (srvK q n k)[k]!) = srvK q n (k + 1) := by
  rw [(srvK_get hk hn).1]
  have h1 : ((q.take k).map incH).length = k := by simp; omega
  have h2 : (q.take n ++ q.drop (n + 1)).drop k = q[k]! :: (q.take n ++ q.drop (n + 1)).drop (k + 1) := by
    have hl : k < (q.take n ++ q.drop (n + 1)).length := by simp; omega
    rw [List.drop_eq_getElem_cons hl, List.getElem_append_left (by simp; omega), List.getElem_take, getElem!_pos q k (by omega)]
  rw [srvK, srvK, List.set_append_right _ _ (by omega), h1, Nat.sub_self, h2, List.set_cons_zero, snocT (by omega), List.map_append, List.append_assoc]
  rfl
theorem before_ids {q : List Hd} (h : validQ q) {i j : Nat} (hi : i < q.length) (hj : j < q.length) (hij : i ≠ j) : q[i]!.id ≠ q[j]!.id := by
  rcases Nat.lt_or_gt_of_ne hij with h1 | h1
  · exact fun e => (h.1 j hj).2.2 i h1 (.inl e)
  · exact fun e => (h.1 i hi).2.2 j h1 (.inl e.symm)
theorem idx_id {q : List Hd} (h : validQ q) {i : Nat} (hi : i < q.length) : idxF (fun x => decide (x.id = q[i]!.id)) q = i :=
  idxF_here hi (fun j hj => decide_eq_false (before_ids h (by omega) hi (by omega))) (decide_eq_true rfl)
theorem idx_next {q : List Hd} (h : validQ q) (hl : 0 < q.length) : idxF (fun x => decide (x.id = (nextH q).id)) q = nextI q := by
  rw [nextH_yes ⟨h, hl⟩]; exact idx_id h (nextI_lt hl)
def srvE (q : List Hd) : Int := if ¬ validQ q then 1 else if q.length = 0 then 9 else 0
def srvQ (q : List Hd) : List Hd := if validQ q ∧ 0 < q.length then srvL q (nextI q) else []
theorem srv_1 {q : List Hd} (h : ¬ validQ q) : srvE q = 1 ∧ srvQ q = [] ∧ nextH q = zeroH := ⟨by rw [srvE, if_pos h], by rw [srvQ, if_neg (fun k => h k.1)], nextH_no fun k => h k.1⟩
theorem srv_9 {q : List Hd} (h : validQ q) (hl : ¬ 0 < q.length) : srvE q = 9 ∧ srvQ q = [] ∧ nextH q = zeroH := ⟨by rw [srvE, if_neg (fun k => k h), if_pos (by omega)], by rw [srvQ, if_neg (fun k => hl k.2)], nextH_no fun k => hl k.2⟩
theorem srv_0 {q : List Hd} (h : validQ q) (hl : 0 < q.length) : srvE q = 0 ∧ srvQ q = srvL q (nextI q) ∧ nextH q = q[nextI q]! := ⟨by rw [srvE, if_neg (fun k => k h), if_neg (by omega)], by rw [srvQ, if_pos ⟨h, hl⟩], nextH_yes ⟨h, hl⟩⟩
theorem srvR_len (q : List Hd) (n : Nat) : ∀ k, (srvR q n k).length ≤ k
  | 0 => Nat.le_refl _
  | k + 1 => by
    have := srvR_len q n k
    rw [srvR]
    split
    · omega
    · rw [List.length_append]; simp; omega
theorem srvL_len {q : List Hd} {n : Nat} (h : n < q.length) : (srvL q n).length = q.length - 1 := by simp [srvL]; omega
theorem srvL_get {q : List Hd} {n i : Nat} (h : n < q.length) (hi : i < q.length - 1) : (srvL q n)[i]! = if i < n then incH q[i]! else q[i + 1]! := by
  have hl := srvL_len h
  have h1 : ((q.take n).map incH).length = n := by simp; omega
  rw [getElem!_pos _ i (by omega)]
  simp only [srvL]
  by_cases e : i < n
  · rw [if_pos e, List.getElem_append_left (by omega), List.getElem_map, List.getElem_take, getElem!_pos q i (by omega)]
  · rw [if_neg e, List.getElem_append_right (by omega), List.getElem_drop, getElem!_pos q (i + 1) (by omega)]
    congr 1
    omega
theorem earl_trans {a b c : Hd} (h1 : earl a b) (h2 : earl b c) : earl a c := by unfold earl at *; omega
/-- Which holds are not overdue. -/
theorem ov_lt {q : List Hd} (h : validQ q) {i : Nat} (hi : i < nextI q) (hl : 0 < q.length) : q[i]!.ov < 2 := by
  have hn := nextI_lt hl
  have hg := (h.1 i (by omega)).1.2.2.2.2.2.2.2.2.2
  by_cases e : q[i]!.ov = 2
  · exfalso
    have hle : idxF (fun x => decide (x.ov = 2)) q ≤ i ∧ 0 ≤ idxF (fun x => decide (x.ov = 2)) q := by
      unfold idxF
      cases hf : q.findIdx? (fun x => decide (x.ov = 2)) with
      | none =>
        rw [List.findIdx?_eq_none_iff] at hf
        exact absurd e (of_decide_eq_false (hf q[i]! (by rw [getElem!_pos q i (by omega)]; exact List.getElem_mem _)))
      | some j =>
        obtain ⟨h1, h2, h3⟩ := List.findIdx?_eq_some_iff_getElem.1 hf
        refine ⟨?_, by simp⟩
        rcases Nat.lt_or_ge i j with hlt | hge
        · have := h3 i hlt
          rw [← getElem!_pos q i (by omega)] at this
          exact absurd (decide_eq_true e) this
        · simp; omega
    unfold nextI at hi
    rw [if_neg (by omega)] at hi
    omega
  · omega
theorem srv_valid {q : List Hd} (h : validQ q) (hl : 0 < q.length) : validQ (srvL q (nextI q)) := by
  have hn := nextI_lt hl
  have hlen := srvL_len hn
  have h60 := h.2
  refine ⟨fun i hi => ?_, by omega⟩
  rw [hlen] at hi
  have hgi := srvL_get hn hi
  unfold before
  rw [hgi]
  have like : ∀ a b : Hd, (likeH (incH a) b ↔ likeH a b) ∧ (likeH a (incH b) ↔ likeH a b) := fun a b => ⟨Iff.rfl, Iff.rfl⟩
  have ear : ∀ a b : Hd, (earl (incH a) b ↔ earl a b) ∧ (earl a (incH b) ↔ earl a b) := fun a b => ⟨Iff.rfl, Iff.rfl⟩
  refine ⟨?_, fun h0 => ?_, fun k hk => ?_⟩
  · split
    · rename_i e
      have h1 := (h.1 i (by omega)).1
      have h2 := ov_lt h e hl
      unfold goodH at *
      simp only [incH]
      omega
    · exact (h.1 (i + 1) (by omega)).1
  · rw [srvL_get hn (by omega)]
    by_cases e : i < nextI q
    · rw [if_pos e, if_pos (by omega), (ear _ _).1, (ear _ _).2]
      exact (h.1 i (by omega)).2.1 h0
    · rw [if_neg e]
      by_cases e2 : i - 1 < nextI q
      · rw [if_pos e2, (ear _ _).1]
        have h1 := (h.1 i (by omega)).2.1 h0
        have h2 := (h.1 (i + 1) (by omega)).2.1 (by omega)
        exact earl_trans h1 h2
      · rw [if_neg e2, show i - 1 + 1 = i by omega]
        exact (h.1 (i + 1) (by omega)).2.1 (by omega)
  · rw [srvL_get hn (by omega)]
    by_cases e : i < nextI q
    · rw [if_pos e, if_pos (by omega), (like _ _).1, (like _ _).2]
      exact (h.1 i (by omega)).2.2 k hk
    · rw [if_neg e]
      split
      · rw [(like _ _).1]; exact (h.1 (i + 1) (by omega)).2.2 k (by omega)
      · exact (h.1 (i + 1) (by omega)).2.2 (k + 1) (by omega)
/-! ### The order -/
def ordS (q : List Hd) : Nat → List Hd
  | 0 => q
  | k + 1 => srvL (ordS q k) (nextI (ordS q k))
def ordAt (q : List Hd) (k : Nat) : Int := (ordS q k)[nextI (ordS q k)]!.id
def ordI (q : List Hd) (k : Nat) : List Int := (List.range k).map (ordAt q)
theorem ordI_len (q : List Hd) (k : Nat) : (ordI q k).length = k := by simp [ordI]
theorem ordI_succ (q : List Hd) (k : Nat) : ordI q (k + 1) = ordI q k ++ [ordAt q k] := by simp [ordI, List.range_succ]
theorem ordS_ok {q : List Hd} (h : validQ q) : ∀ k, k ≤ q.length → validQ (ordS q k) ∧ (ordS q k).length = q.length - k
  | 0, _ => ⟨h, rfl⟩
  | k + 1, hk => by
    obtain ⟨h1, h2⟩ := ordS_ok h k (by omega)
    refine ⟨srv_valid h1 (by omega), ?_⟩
    rw [ordS, srvL_len (nextI_lt (by omega)), h2]; omega
def ordQ (q : List Hd) : List Int := if validQ q then ordI q q.length else []
def ordE (q : List Hd) : Int := if validQ q then 0 else 1
def rankE (q : List Hd) (id : Int) : Int := if ¬ validQ q then 1 else if idxF (fun x => decide (x = id)) (ordQ q) < 0 then 9 else 0
def rankN (q : List Hd) (id : Int) : Int := if ¬ validQ q then 0 else if idxF (fun x => decide (x = id)) (ordQ q) < 0 then 0 else idxF (fun x => decide (x = id)) (ordQ q)
theorem ordE_iff (q : List Hd) : ordE q ≠ 0 ↔ ¬ validQ q := by
  unfold ordE
  by_cases h : validQ q
  · rw [if_pos h]; simp [h]
  · rw [if_neg h]; simp [h]
theorem rank_1 {q : List Hd} (id : Int) (h : ordE q ≠ 0) : rankN q id = 0 ∧ rankE q id = ordE q := by
  have hv := (ordE_iff q).1 h
  exact ⟨by rw [rankN, if_pos hv], by rw [rankE, if_pos hv, ordE, if_neg hv]⟩
theorem rank_9 {q : List Hd} {id : Int} (h : ¬ ordE q ≠ 0) (k : idxF (fun x => decide (x = id)) (ordQ q) < 0) : rankN q id = 0 ∧ rankE q id = 9 := by
  have hv : ¬ ¬ validQ q := fun e => h ((ordE_iff q).2 e)
  exact ⟨by rw [rankN, if_neg hv, if_pos k], by rw [rankE, if_neg hv, if_pos k]⟩
theorem rank_0 {q : List Hd} {id : Int} (h : ¬ ordE q ≠ 0) (k : ¬ idxF (fun x => decide (x = id)) (ordQ q) < 0) : rankN q id = idxF (fun x => decide (x = id)) (ordQ q) ∧ rankE q id = 0 := by
  have hv : ¬ ¬ validQ q := fun e => h ((ordE_iff q).2 e)
  exact ⟨by rw [rankN, if_neg hv, if_neg k], by rw [rankE, if_neg hv, if_neg k]⟩
def fewQ (q : List Hd) : Prop := q.length ≤ 12 ∨ q.length = 60 ∨ q.length = 61
instance (q : List Hd) : Decidable (fewQ q) := by unfold fewQ; infer_instance
theorem ext_get {α : Type} [Inhabited α] {a b : List α} (hl : a.length = b.length) (h : ∀ j, j < a.length → a[j]! = b[j]!) : a = b := by
  apply List.ext_getElem hl
  intro i h1 h2
  have := h i h1
  rwa [getElem!_pos a i h1, getElem!_pos b i h2] at this
theorem ordQ_len (q : List Hd) : (ordQ q).length ≤ 60 := by
  unfold ordQ
  split
  · rename_i h; rw [ordI_len]; exact h.2
  · simp
/-! ### Cancelling -/
def ixI (q : List Hd) (id : Int) : Int := idxF (fun x => decide (x.id = id)) q
def canE (q : List Hd) (id : Int) : Int := if ¬ validQ q then 1 else if ixI q id < 0 then 9 else 0
def canQ (q : List Hd) (id : Int) : List Hd := if ¬ validQ q then [] else if ixI q id < 0 then [] else q.take (ixI q id).toNat ++ q.drop ((ixI q id).toNat + 1)
theorem can_1 {q : List Hd} (id : Int) (h : ¬ validQ q) : canE q id = 1 ∧ canQ q id = [] := ⟨by rw [canE, if_pos h], by rw [canQ, if_pos h]⟩
theorem can_9 {q : List Hd} {id : Int} (h : validQ q) (k : ixI q id < 0) : canE q id = 9 ∧ canQ q id = [] := ⟨by rw [canE, if_neg (fun e => e h), if_pos k], by rw [canQ, if_neg (fun e => e h), if_pos k]⟩
theorem can_0 {q : List Hd} {id : Int} (h : validQ q) (k : ¬ ixI q id < 0) : canE q id = 0 ∧ canQ q id = q.take (ixI q id).toNat ++ q.drop ((ixI q id).toNat + 1) := ⟨by rw [canE, if_neg (fun e => e h), if_neg k], by rw [canQ, if_neg (fun e => e h), if_neg k]⟩
theorem ixI_range (q : List Hd) (id : Int) : -1 ≤ ixI q id ∧ ixI q id < q.length := idxF_range _ _
/-! ### The example of the document -/
def exQ : List Hd := [⟨1, 1, 3, 1, 0⟩, ⟨2, 2, 1, 2, 0⟩, ⟨3, 3, 1, 3, 0⟩, ⟨4, 4, 1, 4, 0⟩]
theorem ex_valid : validQ exQ := by decide
theorem ex_ord : ordQ exQ = [2, 3, 1, 4] := by rw [ordQ, if_pos ex_valid]; decide
theorem ex_ordE : ordE exQ = 0 := by rw [ordE, if_pos ex_valid]
theorem ex_rank : rankN exQ 1 = 2 ∧ rankE exQ 1 = 0 := by
  have h : idxF (fun x => decide (x = 1)) (ordQ exQ) = 2 := by rw [ex_ord]; decide
  obtain ⟨a, b⟩ := rank_0 (q := exQ) (id := 1) (by rw [ex_ordE]; decide) (by rw [h]; decide)
  exact ⟨by rw [a, h], b⟩
/-! ### Classes -/
theorem sorted {q : List Hd} (h : validQ q) : ∀ {j i : Nat}, i < j → j < q.length → earl q[i]! q[j]!
  | 0, _, hi, _ => by omega
  | j + 1, i, hi, hj => by
    have h1 := (h.1 (j + 1) hj).2.1 (by omega)
    rw [Nat.add_sub_cancel] at h1
    by_cases e : i = j
    · subst e; exact h1
    · exact earl_trans (sorted h (by omega) (by omega)) h1
theorem earl_lt {q : List Hd} (h : validQ q) {i j : Nat} (hi : i < q.length) (_ : j < q.length) (e : earl q[i]! q[j]!) : i < j := by
  rcases Nat.lt_trichotomy i j with h1 | h1 | h1
  · exact h1
  · subst h1; unfold earl at e; omega
  · have := sorted h h1 hi
    unfold earl at e this; omega
theorem bestI_min (q : List Hd) : ∀ (m k : Nat), k < m → q[bestI q m]!.cls ≤ q[k]!.cls ∧ (k < bestI q m → q[bestI q m]!.cls < q[k]!.cls)
  | 0, k, h => by omega
  | m + 1, k, h => by
    by_cases c : q[m]!.cls < q[bestI q m]!.cls
    · rw [bestI_t c]
      by_cases e : k = m
      · subst e; omega
      · have := (bestI_min q m k (by omega)).1
        omega
    · rw [bestI_f c]
      by_cases e : k = m
      · subst e
        refine ⟨by omega, fun hk => ?_⟩
        by_cases h0 : k = 0
        · subst h0; simp [bestI] at hk
        · have := bestI_lt q (k := k) (by omega); omega
      · exact bestI_min q m k (by omega)
def ovd (q : List Hd) (k : Nat) : Bool := (q.take k).any fun x => decide (x.ov = 2)
theorem ovd_0 (q : List Hd) : ovd q 0 = false := rfl
theorem ovd_succ {q : List Hd} {k : Nat} (h : k < q.length) : ovd q (k + 1) = (ovd q k || decide (q[k]!.ov = 2)) := by
  rw [ovd, snocT h, List.any_append]; simp [ovd]
theorem ovd_iff (q : List Hd) : ovd q q.length = true ↔ 0 ≤ idxF (fun x => decide (x.ov = 2)) q := by
  rw [ovd, List.take_length, List.any_eq_true]
  unfold idxF
  cases hf : q.findIdx? (fun x => decide (x.ov = 2)) with
  | none =>
    rw [List.findIdx?_eq_none_iff] at hf
    refine ⟨fun ⟨x, hx, h⟩ => ?_, fun h => absurd h (by simp)⟩
    rw [hf x hx] at h; cases h
  | some j =>
    obtain ⟨h1, h2, h3⟩ := List.findIdx?_eq_some_iff_getElem.1 hf
    exact ⟨fun _ => by simp, fun _ => ⟨q[j], List.getElem_mem h1, h2⟩⟩
theorem idxF_at {q : List Hd} (h : 0 ≤ idxF (fun x => decide (x.ov = 2)) q) : q[(idxF (fun x => decide (x.ov = 2)) q).toNat]!.ov = 2 := by
  unfold idxF at *
  cases hf : q.findIdx? (fun x => decide (x.ov = 2)) with
  | none => rw [hf] at h; simp at h
  | some j =>
    obtain ⟨h1, h2, h3⟩ := List.findIdx?_eq_some_iff_getElem.1 hf
    simp only [Int.toNat_natCast]
    rw [getElem!_pos q j h1]
    exact of_decide_eq_true h2
theorem next_ov {q : List Hd} (hv : validQ q) (hl : 0 < q.length) (h : ovd q q.length = true) : (nextH q).ov = 2 := by
  have h1 := (ovd_iff q).1 h
  rw [nextH_yes ⟨hv, hl⟩, nextI, if_neg (by omega)]
  exact idxF_at h1
theorem classes {q : List Hd} (hv : validQ q) {k : Nat} (hk : k < q.length) (he : earl q[k]! (nextH q)) : ¬ ((ovd q q.length = true ∧ q[k]!.ov = 2) ∨ (ovd q q.length = false ∧ q[k]!.cls ≤ (nextH q).cls)) := by
  have hl : 0 < q.length := by omega
  have hn := nextI_lt hl
  rw [nextH_yes ⟨hv, hl⟩] at he ⊢
  have hlt := earl_lt hv hk hn he
  rintro (⟨_, h2⟩ | ⟨h1, h2⟩)
  · have := ov_lt hv hlt hl; omega
  · have h3 : ¬ 0 ≤ idxF (fun x => decide (x.ov = 2)) q := fun e => by rw [(ovd_iff q).2 e] at h1; cases h1
    have h4 : nextI q = bestI q q.length := by rw [nextI, if_pos (by omega)]
    rw [h4] at hlt h2
    have := (bestI_min q q.length k hk).2 hlt
    omega
end Go.D57
