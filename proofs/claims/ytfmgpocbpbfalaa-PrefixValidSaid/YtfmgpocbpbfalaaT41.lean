/-
  The example; what the reference says of words.
-/
import Derived.Test.YtfmgpocbpbfalaaS41
namespace Go.D41
/-! ### The example -/
def exL : List Str := [[99, 97, 114], [99, 97, 114, 116], [99, 97, 116]]
def exT : Tr := .nd [] false [.nd [99, 97] false [.nd [114] true [.nd [116] true []], .nd [116] true []]]
theorem ex_words : wrds exL := by decide
theorem ex_sort : sortS exL = exL := by decide
theorem ex_mk : mkT [] exL = exT := by rfl
theorem ex_of : ofE exL = 0 ∧ ofT exL = exT := by
  obtain ⟨a, b⟩ := of_0 ex_words
  exact ⟨a, by rw [b, ex_sort, ex_mk]⟩
theorem ex_bd : bd 1000 exT := by
  have := of_bd ex_words
  rw [ex_sort, ex_mk] at this
  exact bd_mono this (by decide)
theorem ex_inn : exT.inn = exL := by
  rw [← ex_mk]
  exact mkT_inn [] (by rw [← ex_sort]; exact sortS_asc _)
theorem ex_lon : lonO [99, 97, 114, 116, 115] exT.inn = [99, 97, 114, 116] ∧ 0 < lonN [99, 97, 114, 116, 115] exT.inn := by rw [ex_inn]; decide
theorem ex_with : (wthL [99, 97, 114] exT.inn).length = 2 := by rw [ex_inn]; decide
theorem ex_rank : rnk [99, 97, 116] exT.inn = 2 := by rw [ex_inn]; decide
theorem ex_valid : validT exT := by
  have := of_valid ex_words
  rwa [ex_sort, ex_mk] at this
/-! ### Few, and the same -/
def fewS (l : List Str) : Prop := l.length ≤ 40 ∧ ∀ i, i < l.length → l[i]!.length ≤ 120
instance (l : List Str) : Decidable (fewS l) := by unfold fewS; infer_instance
theorem ext_get {α : Type} [Inhabited α] {a b : List α} (hl : a.length = b.length) (h : ∀ j, j < a.length → a[j]! = b[j]!) : a = b := by
  apply List.ext_getElem hl
  intro i h1 h2
  have := h i h1
  rwa [getElem!_pos a i h1, getElem!_pos b i h2] at this
/-! ### Loops over the words -/
theorem has_idx {w : Str} {l : List Str} {k : Nat} (hk : k < l.length) (e : l[k]! = w) : w ∈ l := by
  rw [getElem!_pos l k hk] at e
  rw [← e]; exact List.getElem_mem _
theorem has_no {w : Str} {l : List Str} (h : ∀ j, j < l.length → ¬ l[j]! = w) : w ∉ l := fun q => by
  obtain ⟨i, hi, e⟩ := List.getElem_of_mem q
  exact h i hi (by rw [getElem!_pos l i hi]; exact e)
theorem wth_y {p : Str} {l : List Str} {k : Nat} (h : k < l.length) (e : p <+: l[k]!) : wthL p (l.take (k + 1)) = wthL p (l.take k) ++ [l[k]!] := by
  rw [snocT h, wthL, List.filter_append, show [l[k]!].filter (fun w => decide (p <+: w)) = [l[k]!] by rw [List.filter_cons, decide_eq_true e]; rfl]; rfl
theorem wth_n {p : Str} {l : List Str} {k : Nat} (h : k < l.length) (e : ¬ p <+: l[k]!) : wthL p (l.take (k + 1)) = wthL p (l.take k) := by
  rw [snocT h, wthL, List.filter_append, show [l[k]!].filter (fun w => decide (p <+: w)) = [] by rw [List.filter_cons, decide_eq_false e]; rfl, List.append_nil]; rfl
theorem rnk_y {s : Str} {l : List Str} {k : Nat} (h : k < l.length) (e : lt l[k]! s) : rnk s (l.take (k + 1)) = rnk s (l.take k) + 1 := by
  rw [snocT h, rnk, List.filter_append, show [l[k]!].filter (fun x => decide (lt x s)) = [l[k]!] by rw [List.filter_cons, decide_eq_true e]; rfl, List.length_append]; rfl
theorem rnk_n {s : Str} {l : List Str} {k : Nat} (h : k < l.length) (e : ¬ lt l[k]! s) : rnk s (l.take (k + 1)) = rnk s (l.take k) := by
  rw [snocT h, rnk, List.filter_append, show [l[k]!].filter (fun x => decide (lt x s)) = [] by rw [List.filter_cons, decide_eq_false e]; rfl, List.append_nil]; rfl
theorem rnk_le (s : Str) (l : List Str) : rnk s l ≤ l.length := List.length_filter_le _ _
theorem lon_y {s : Str} {l : List Str} {k : Nat} (h : k < l.length) (e : l[k]! <+: s) (g : (lonO s (l.take k)).length < l[k]!.length) : lonO s (l.take (k + 1)) = l[k]! := by
  rw [snocT h, lonO_snoc, if_pos ⟨e, g⟩]
theorem lon_n {s : Str} {l : List Str} {k : Nat} (h : k < l.length) (e : ¬ (l[k]! <+: s ∧ (lonO s (l.take k)).length < l[k]!.length)) : lonO s (l.take (k + 1)) = lonO s (l.take k) := by
  rw [snocT h, lonO_snoc, if_neg e]
theorem lon_0 (s : Str) : lonO s [] = [] := by rw [lonO, lonN, List.take_zero]
theorem root_ws {t : Tr} (h : t.lab = []) : bw t ([] ++ t.lab) = t.inn := by
  rw [h]; exact bw_nil t
/-! ### Sorting in the reference -/
theorem insS_at {w : Str} : ∀ {l : List Str} {a : Nat}, a ≤ l.length → (∀ j, j < a → lt l[j]! w) → (a < l.length → ¬ lt l[a]! w) → insS w l = if a < l.length ∧ l[a]! = w then l else l.take a ++ w :: l.drop a
  | [], a, ha, _, _ => by
    obtain rfl : a = 0 := by simpa using ha
    simp [insS]
  | x :: r, 0, _, _, h2 => by
    have h2 : ¬ lt x w := h2 (by simp)
    rw [insS, if_neg h2]
    by_cases e : x = w
    · rw [if_pos e, if_pos ⟨by simp, e⟩]
    · rw [if_neg e, if_neg (fun q => e q.2)]; rfl
  | x :: r, a + 1, ha, h1, h2 => by
    have h0 : lt x w := h1 0 (by omega)
    have ih := insS_at (w := w) (l := r) (a := a) (by simpa using ha) (fun j hj => h1 (j + 1) (by omega)) (fun hl => h2 (by simpa using hl))
    rw [insS, if_pos h0, ih]
    by_cases e : a < r.length ∧ r[a]! = w
    · rw [if_pos e, if_pos ⟨by have := e.1; simp; omega, e.2⟩]
    · rw [if_neg e, if_neg (fun q => e ⟨by have := q.1; simp at this; omega, q.2⟩)]; rfl
theorem sort_len_k (l : List Str) (k : Nat) : (sortS (l.take k)).length ≤ l.length := by
  have := sort_len (l := l.take k)
  rw [List.length_take] at this; omega
end Go.D41
