/-
  What the walks of trees lean on.
-/
import Derived.Test.YtfmgpocbpbfalaaQ41
namespace Go.D41
theorem dec_iff {p q : Prop} [Decidable p] [Decidable q] (h : p ↔ q) : decide p = decide q := decide_eq_decide.2 h
theorem dec_t {q : Prop} [Decidable q] (h : q) : decide q = true := decide_eq_true h
theorem dec_f {q : Prop} [Decidable q] (h : ¬ q) : decide q = false := decide_eq_false h
theorem snocT {α : Type} [Inhabited α] {q : List α} {k : Nat} (h : k < q.length) : q.take (k + 1) = q.take k ++ [q[k]!] := by
  rw [List.take_add_one, List.getElem?_eq_getElem h, getElem!_pos q k h]; rfl
/-- The first place at which something is of a kind, or -1. -/
def idxF {α : Type} (p : α → Bool) (l : List α) : Int := match l.findIdx? p with
  | some i => (i : Int)
  | none => -1
theorem idxF_here {α : Type} [Inhabited α] {p : α → Bool} {l : List α} {k : Nat} (hk : k < l.length) (h : ∀ j, j < k → p l[j]! = false) (e : p l[k]! = true) : idxF p l = k := by
  have : l.findIdx? p = some k := by
    rw [List.findIdx?_eq_some_iff_getElem]
    refine ⟨hk, by rw [← getElem!_pos l k hk]; exact e, fun j hj => ?_⟩
    have := h j hj
    rw [getElem!_pos l j (by omega)] at this
    simp [this]
  rw [idxF, this]
theorem idxF_none {α : Type} [Inhabited α] {p : α → Bool} {l : List α} {k : Nat} (hk : l.length ≤ k) (h : ∀ j, j < k → p l[j]! = false) : idxF p l = -1 := by
  have : l.findIdx? p = none := by
    rw [List.findIdx?_eq_none_iff]
    intro x hx
    obtain ⟨i, hi, rfl⟩ := List.getElem_of_mem hx
    rw [← getElem!_pos l i hi]
    exact h i (by omega)
  rw [idxF, this]
theorem any_iff {α : Type} [Inhabited α] {p : α → Bool} {l : List α} : (∃ x ∈ l, p x = true) ↔ 0 ≤ idxF p l := by
  constructor
  · rintro ⟨x, hx, e⟩
    unfold idxF
    split
    · omega
    · rename_i h
      rw [List.findIdx?_eq_none_iff] at h
      rw [h x hx] at e; cases e
  · intro h
    unfold idxF at h
    split at h
    · rename_i i hi
      obtain ⟨h1, h2, _⟩ := List.findIdx?_eq_some_iff_getElem.1 hi
      exact ⟨l[i], List.getElem_mem _, h2⟩
    · omega
theorem fst_le (t : Tr) : fstI t ≤ 255 := by
  unfold fstI
  split
  · omega
  · rename_i c _ _
    have := UInt8.toNat_lt c
    omega
theorem fst_0 {t : Tr} (h : t.lab = []) : fstI t = -1 := by rw [fstI, h]
theorem fst_1 {t : Tr} (h : ¬ t.lab = []) : fstI t = ((t.lab[0]!).toNat : Int) := by
  rw [fstI_hd h]
  obtain ⟨x, e⟩ := Tr.lab_hd h
  rw [e]; rfl
theorem bsK_lo {ks : List Tr} {c : UInt8} (hv : canL ks) {m : Nat} (hm : m < ks.length) (e : fstI ks[m]! - (c.toNat : Int) < 0) : ∀ j, j < m + 1 → ltK ks c j = true := fun j hj => by
  by_cases ej : j = m
  · subst ej; exact decide_eq_true e
  · exact ltK_mono hv c j m (by omega) hm (decide_eq_true e)
theorem bsK_hi {ks : List Tr} {c : UInt8} (hv : canL ks) {m : Nat} (e : ¬ fstI ks[m]! - (c.toNat : Int) < 0) : ∀ j, m ≤ j → j < ks.length → ltK ks c j = false := fun j hj hl => by
  cases q : ltK ks c j with
  | false => rfl
  | true =>
    by_cases ej : j = m
    · subst ej; exact absurd (of_decide_eq_true q) e
    · exact absurd (of_decide_eq_true (ltK_mono hv c m j (by omega) hl q)) e
theorem pre_iff {p s : Str} : s.take p.length = p ↔ p <+: s := by rw [List.prefix_iff_eq_take]; exact eq_comm
theorem pre_no {p s : Str} (h : ¬ p.length ≤ s.length) : ¬ p <+: s := fun q => h q.length_le
/-! ### What is common, byte by byte -/
def commI (a b : Str) (n : Nat) : Prop := comm a b = n + comm (a.drop n) (b.drop n)
theorem commI_0 (a b : Str) : commI a b 0 := by simp [commI]
theorem drop_at {a : Str} {n : Nat} (h : n < a.length) : a.drop n = a[n]! :: a.drop (n + 1) := by rw [getElem!_pos a n h]; exact List.drop_eq_getElem_cons h
theorem u8_eq {a b : UInt8} : ((a.toNat : Int) = (b.toNat : Int)) ↔ a = b := by
  constructor
  · exact fun h => UInt8.toNat_inj.1 (by omega)
  · rintro rfl; rfl
theorem commI_step {a b : Str} {n : Nat} (h : n < a.length) (k : n < b.length) (e : ((a[n]!).toNat : Int) = ((b[n]!).toNat : Int)) (i : commI a b n) : commI a b (n + 1) := by
  rw [commI, drop_at h, drop_at k, comm, if_pos (u8_eq.1 e)] at i
  rw [commI, i]; omega
theorem commI_a {a b : Str} {n : Nat} (h : n = a.length) (i : commI a b n) : comm a b = n := by
  rw [commI, h, List.drop_length] at i
  rw [i, h]; simp [comm]
theorem commI_b {a b : Str} {n : Nat} (h : n = b.length) (i : commI a b n) : comm a b = n := by
  rw [commI, h, List.drop_length] at i
  rw [i, h]; cases a.drop b.length <;> simp [comm]
theorem commI_n {a b : Str} {n : Nat} (h : n < a.length) (k : n < b.length) (e : ¬ ((a[n]!).toNat : Int) = ((b[n]!).toNat : Int)) (i : commI a b n) : comm a b = n := by
  rw [commI, drop_at h, drop_at k, comm, if_neg (fun q => e (u8_eq.2 q))] at i
  omega
/-! ### In terms of the first byte -/
theorem ne_cons {y : Str} (h : y ≠ []) : y = y[0]! :: y.drop 1 := by
  cases y with
  | nil => exact absurd rfl h
  | cons c z => rfl
theorem ne_pos {y : Str} (h : y ≠ []) : 0 < y.length := List.length_pos_iff.2 h
theorem hasB {x : Tr} (hc : canL x.kids) {y : Str} (hy : y ≠ []) (hf : kfnd x.kids y[0]! = true) : y ∈ x.inn ↔ x.kids[kpos x.kids y[0]!]!.lab <+: y ∧ y.drop x.kids[kpos x.kids y[0]!]!.lab.length ∈ x.kids[kpos x.kids y[0]!]!.inn := by
  have e := ne_cons hy
  generalize hz : y.drop 1 = z at e
  generalize hcc : y[0]! = c at *
  subst e
  exact has_kid hc hf
theorem hasB_no {x : Tr} (hc : canL x.kids) {y : Str} (hy : y ≠ []) (hf : kfnd x.kids y[0]! = false) : y ∉ x.inn := by
  have e := ne_cons hy
  generalize hz : y.drop 1 = z at e
  generalize hcc : y[0]! = c at *
  subst e
  exact has_none hc hf
theorem kid_lab {n : Nat} {x : Tr} (hb : bd n x) {c : UInt8} (hf : kfnd x.kids c = true) : kpos x.kids c < x.kids.length ∧ bd n x.kids[kpos x.kids c]! ∧ 0 < x.kids[kpos x.kids c]!.lab.length ∧ x.kids[kpos x.kids c]!.lab.length ≤ 1000 := by
  have h1 := (kid_yes hb.1 hf).1
  have h2 := bd_kid hb (at_mem h1)
  exact ⟨h1, h2.1, List.length_pos_iff.2 ((Tr.can_iff _).1 (can_at hb.1 h1)).1, h2.2.1⟩
theorem insB_new {t : Tr} (h : canL t.kids) {y : Str} (hy : y ≠ []) (hf : kfnd t.kids y[0]! = false) : Tr.nd t.lab t.wd (t.kids.take (kpos t.kids y[0]!) ++ .nd y true [] :: t.kids.drop (kpos t.kids y[0]!)) = insT t y := by
  have e := ne_cons hy
  generalize hz : y.drop 1 = z at e
  generalize hcc : y[0]! = c at *
  subst e
  exact ins_new h hf
theorem insB_in {t : Tr} (h : canL t.kids) {y : Str} (hy : y ≠ []) (hf : kfnd t.kids y[0]! = true) (hp : comm y t.kids[kpos t.kids y[0]!]!.lab = t.kids[kpos t.kids y[0]!]!.lab.length) :
    Tr.nd t.lab t.wd (t.kids.set (kpos t.kids y[0]!) (insT t.kids[kpos t.kids y[0]!]! (y.drop (comm y t.kids[kpos t.kids y[0]!]!.lab)))) = insT t y := by
  rw [hp]
  have hq := comm_full.1 hp
  clear hp
  have e := ne_cons hy
  generalize hz : y.drop 1 = z at e
  generalize hcc : y[0]! = c at *
  subst e
  exact ins_in h hf hq
theorem insB_split {t : Tr} (h : canL t.kids) {y : Str} (hy : y ≠ []) (hf : kfnd t.kids y[0]! = true) (hn : comm y t.kids[kpos t.kids y[0]!]!.lab < t.kids[kpos t.kids y[0]!]!.lab.length) :
    Tr.nd t.lab t.wd (t.kids.set (kpos t.kids y[0]!) (insT (splT t.kids[kpos t.kids y[0]!]! (comm y t.kids[kpos t.kids y[0]!]!.lab)) (y.drop (comm y t.kids[kpos t.kids y[0]!]!.lab)))) = insT t y := by
  have e := ne_cons hy
  generalize hz : y.drop 1 = z at e
  generalize hcc : y[0]! = c at *
  subst e
  exact ins_split h hf hn
theorem commB_pos {t : Tr} (h : canL t.kids) {y : Str} (hy : y ≠ []) (hf : kfnd t.kids y[0]! = true) : 0 < comm y t.kids[kpos t.kids y[0]!]!.lab := by
  obtain ⟨h1, h2⟩ := kid_yes h hf
  obtain ⟨z, e⟩ := Tr.lab_hd ((Tr.can_iff _).1 (can_at h h1)).1
  rw [e, h2, ne_cons hy]
  exact comm_pos
theorem delete_clear {α β : Type} {q : List α} {i j : Nat} {f : α → β} {z : β} (hij : i < j) (hj : j ≤ q.length) :
    ((q.take i ++ q.drop j ++ q.drop (i + (q.length - j))).map f).take (i + (q.length - j)) ++ List.replicate (q.length - (i + (q.length - j))) z ++ ((q.take i ++ q.drop j ++ q.drop (i + (q.length - j))).map f).drop q.length = (q.take i ++ q.drop j).map f ++ List.replicate (j - i) z := by
  have h1 : (q.take i ++ q.drop j).length = i + (q.length - j) := by simp; omega
  have h2 : (q.take i ++ q.drop j ++ q.drop (i + (q.length - j))).length ≤ q.length := by rw [List.length_append, h1, List.length_drop]; omega
  rw [← List.map_take, ← List.map_drop, List.take_left' h1, List.drop_eq_nil_of_le h2, show q.length - (i + (q.length - j)) = j - i by omega]
  simp
end Go.D41
