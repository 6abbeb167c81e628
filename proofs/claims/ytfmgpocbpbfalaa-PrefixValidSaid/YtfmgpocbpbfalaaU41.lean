/-
  The laws of trees of words, without any program.
-/
import Derived.Test.YtfmgpocbpbfalaaT41
namespace Go.D41
theorem of_facts {l : List Str} (hl : l.length ≤ 900) (h : ofE l = 0) : bd 900 (ofT l) ∧ (ofT l).lab = [] ∧ (ofT l).wd = false ∧ (ofT l).inn = sortS l ∧ wrds l ∧ Asc (ofT l).inn ∧ ofT l = mkT [] (sortS l) := by
  have hw : wrds l := Classical.byContradiction fun n => by rw [(of_1 n).1] at h; cases h
  have e := (of_0 hw).2
  rw [e]
  exact ⟨bd_mono (of_bd hw) hl, rfl, mk_wd (sort_ne hw), mkT_inn [] (sortS_asc l), hw, by rw [mkT_inn [] (sortS_asc l)]; exact sortS_asc l, rfl⟩
/-! ### Longest -/
theorem lon_nil {s : Str} {I : List Str} (h : ¬ 0 < lonN s I) : lonO s I = [] := by
  rw [lonO, show lonN s I = 0 by omega, List.take_zero]
theorem lon_mem {s : Str} {I : List Str} (h : 0 < lonN s I) : lonO s I ∈ I := by
  rcases lonN_in (s := s) (l := I) with q | q
  · omega
  · exact q.2
theorem lon_pre (s : Str) (I : List Str) : lonO s I <+: s := List.take_prefix _ _
theorem lon_len (s : Str) (I : List Str) : (lonO s I).length = lonN s I := by
  have := lonN_le s I
  rw [lonO, List.length_take]; omega
theorem lon_no {s : Str} {I : List Str} {n : Nat} (h : lonN s I < n) (hn : n ≤ s.length) : s.take n ∉ I := fun q => by
  have := lonN_ge q (List.take_prefix n s)
  rw [List.length_take] at this; omega
/-! ### Places -/
theorem nth_rnk {s : Str} {I : List Str} (h : nthO I (rnk s I : Nat) = true) : rnk s I < I.length ∧ nthT I (rnk s I : Nat) = I[rnk s I]! := by
  have h' := of_decide_eq_true h
  refine ⟨by omega, ?_⟩
  rw [(nth_yes h').2]; rfl
theorem rk_y {s : Str} {I : List Str} (hA : Asc I) (h : nthO I (rnk s I : Nat) = true) : decide (nthT I (rnk s I : Nat) = s) = decide (s ∈ I) := by
  obtain ⟨a, b⟩ := nth_rnk h
  rw [b, decide_eq_decide, rnk_mem hA]
  exact ⟨fun q => ⟨a, q⟩, fun q => q.2⟩
theorem rk_n {s : Str} {I : List Str} (hA : Asc I) (h : ¬ nthO I (rnk s I : Nat) = true) : decide (s ∈ I) = false := decide_eq_false fun q => h (decide_eq_true ⟨by omega, by have := ((rnk_mem hA).1 q).1; omega⟩)
theorem rk_lt {s : Str} {I : List Str} (hA : Asc I) (h : nthO I (rnk s I : Nat) = true) : Op.bytesLess (nthT I (rnk s I : Nat)) s = false := by
  obtain ⟨a, b⟩ := nth_rnk h
  rw [b]
  have := rnk_at hA a
  unfold lt at this
  simpa using this
/-! ### By the next byte -/
def ordK (s : Str) (I : List Str) : Nat → List Str
  | 0 => if s ∈ I then [s] else []
  | c + 1 => ordK s I c ++ wthL (s ++ [UInt8.ofNat c]) I
theorem ordK_len (s : Str) (I : List Str) : ∀ c, (ordK s I c).length ≤ 1 + c * I.length
  | 0 => by rw [ordK]; split <;> simp
  | c + 1 => by
    have := ordK_len s I c
    have h2 := wthL_len (s ++ [UInt8.ofNat c]) I
    rw [ordK, List.length_append, Nat.add_mul, Nat.one_mul]; omega
theorem wthL_mem {p x : Str} {I : List Str} : x ∈ wthL p I ↔ x ∈ I ∧ p <+: x := by rw [wthL, List.mem_filter, decide_eq_true_eq]
theorem ordK_mem {s x : Str} {I : List Str} : ∀ c, x ∈ ordK s I c ↔ (x = s ∧ s ∈ I) ∨ ∃ d, d < c ∧ x ∈ I ∧ s ++ [UInt8.ofNat d] <+: x
  | 0 => by
    rw [ordK]
    split
    · rename_i h; simp [h]
    · rename_i h; simp [h]
  | c + 1 => by
    rw [ordK, List.mem_append, ordK_mem c, wthL_mem]
    constructor
    · rintro ((h | ⟨d, h1, h2⟩) | h)
      · exact .inl h
      · exact .inr ⟨d, by omega, h2⟩
      · exact .inr ⟨c, by omega, h⟩
    · rintro (h | ⟨d, h1, h2⟩)
      · exact .inl (.inl h)
      · rcases Nat.lt_succ_iff_lt_or_eq.1 h1 with q | q
        · exact .inl (.inr ⟨d, q, h2⟩)
        · subst q; exact .inr h2
theorem ordK_asc {s : Str} {I : List Str} (hA : Asc I) : ∀ c, c ≤ 256 → Asc (ordK s I c)
  | 0, _ => by rw [ordK]; split <;> simp
  | c + 1, hc => by
    rw [ordK]
    refine asc_app (ordK_asc hA c (by omega)) (hA.filter _) fun x hx y hy => ?_
    obtain ⟨_, z, rfl⟩ := wthL_mem.1 hy
    rw [List.append_assoc]
    rcases (ordK_mem c).1 hx with ⟨rfl, _⟩ | ⟨d, hd, _, u, rfl⟩
    · have := (lt_app x [] ([UInt8.ofNat c] ++ z)).2 rfl
      rwa [List.append_nil] at this
    · rw [List.append_assoc, lt_app]
      refine lt_cons.2 (.inl ?_)
      rw [u8_lt, UInt8.toNat_ofNat', UInt8.toNat_ofNat']; omega
theorem ord_all {s : Str} {I : List Str} (hA : Asc I) : wthL s I = ordK s I 256 := by
  refine asc_ext (hA.filter _) (ordK_asc hA 256 (Nat.le_refl _)) fun x => ?_
  rw [ordK_mem, wthL_mem]
  constructor
  · rintro ⟨h, z, rfl⟩
    cases z with
    | nil => exact .inl ⟨List.append_nil s, by rwa [List.append_nil] at h⟩
    | cons b z =>
      refine .inr ⟨b.toNat, UInt8.toNat_lt b, h, ⟨z, ?_⟩⟩
      rw [UInt8.ofNat_toNat, List.append_assoc]; rfl
  · rintro (⟨rfl, h⟩ | ⟨d, _, h, z, rfl⟩)
    · exact ⟨h, List.prefix_refl _⟩
    · exact ⟨h, by rw [List.append_assoc]; exact List.prefix_append _ _⟩
theorem wth_at {p : Str} {I : List Str} {k : Nat} (h : k < (wthL p I).length) : p <+: (wthL p I)[k]! := by
  have : (wthL p I)[k]! ∈ wthL p I := by rw [getElem!_pos _ k h]; exact List.getElem_mem _
  exact (wthL_mem.1 this).2
theorem wth_asc {p : Str} {I : List Str} (hA : Asc I) {k : Nat} (h0 : 0 < k) (h : k < (wthL p I).length) : Op.bytesLess (wthL p I)[k - 1]! (wthL p I)[k]! = true := by
  have h2 : Asc (wthL p I) := hA.filter _
  have := (List.pairwise_iff_getElem.1 h2) (k - 1) k (by omega) h (by omega)
  rw [getElem!_pos _ k h, getElem!_pos _ (k - 1) (by omega)]
  exact this
end Go.D41
