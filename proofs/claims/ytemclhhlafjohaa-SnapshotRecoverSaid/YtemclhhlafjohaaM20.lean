/-
  The log, as functions on lists: what the walks compute.
-/
import Derived.Test.YtemclhhlafjohaaGWrit
import Derived.Test.YtemclhhlafjohaaN02
namespace Go.D20
open Go Go.RowKit Go.G Go.D02
def fourL (h : Int) : List UInt8 := [UInt8.ofNat (h / 16777216 % 256).toNat, UInt8.ofNat (h / 65536 % 256).toNat, UInt8.ofNat (h / 256 % 256).toNat, UInt8.ofNat (h % 256).toNat]
theorem u8r (b : UInt8) : 0 ≤ ((b.toNat : Nat) : Int) ∧ ((b.toNat : Nat) : Int) ≤ 4294967295 := by have := b.toNat_lt; omega
def numI (l : List UInt8) : Int :=
  bits .or .u32 (bits .or .u32 (bits .or .u32 (IntKind.u32.wrap ((l[0]!.toNat : Nat) * 16777216)) (IntKind.u32.wrap ((l[1]!.toNat : Nat) * 65536))) (IntKind.u32.wrap ((l[2]!.toNat : Nat) * 256))) (l[3]!.toNat : Nat)
def endI (l : List Int) : Int := if l.length = 0 then 0 else l[l.length - 1]!
theorem idx_none {l : List Int} {x : Int} {k : Nat} (hk : l.length ≤ k) (h : ∀ j, j < k → l[j]! ≠ x) : x ∉ l := by
  intro hx
  obtain ⟨i, hi, e⟩ := List.getElem_of_mem hx
  exact h i (by omega) (by rw [getElem!_pos l i hi]; exact e)
theorem idxOf_le : ∀ (l : List Int) (k : Nat) (x : Int), l[k]? = some x → l.idxOf x ≤ k
  | [], k, x, h => by simp at h
  | b :: l, 0, x, h => by
    simp at h; subst h; simp
  | b :: l, k + 1, x, h => by
    rw [List.idxOf_cons]
    have := idxOf_le l k x (by simpa using h)
    by_cases e : (b == x) = true
    · simp [e]
    · simp only [Bool.not_eq_true] at e; simp [e]; omega
theorem idx_here {l : List Int} {x : Int} {k : Nat} (hk : k < l.length) (h : ∀ j, j < k → l[j]! ≠ x) (e : x = l[k]!) : (if x ∈ l then ((l.idxOf x : Nat) : Int) else -1) = (k : Int) := by
  have hm : x ∈ l := by rw [e, getElem!_pos l k hk]; exact List.getElem_mem hk
  rw [if_pos hm]
  congr 1
  have h1 : l.idxOf x ≤ k := idxOf_le l k x (by rw [e, getElem!_pos l k hk]; exact List.getElem?_eq_getElem hk)
  rcases Nat.lt_or_ge (l.idxOf x) k with hlt | hge
  · have hi : l.idxOf x < l.length := by omega
    have := h _ hlt
    rw [getElem!_pos l _ hi] at this
    exact absurd (List.getElem_idxOf hi) this
  · omega
theorem take_eq {α : Type} [Inhabited α] {a b : List α} {k : Nat} (ha : k < a.length) (hb : k < b.length) (h : a.take k = b.take k) (e : a[k]! = b[k]!) : a.take (k + 1) = b.take (k + 1) := by
  rw [take_snoc' ha, take_snoc' hb, h, e]
def sumI (last : Int) (p : List UInt8) : Int := moreI (moreI last (fourL p.length)) p
def payW (file : List UInt8) (a : Nat) : List UInt8 := (file.take (a + 8 + (numI (file.drop a)).toNat)).drop (a + 8)
def limW (file : List UInt8) (a : Nat) : Prop := 60000 < numI (file.drop a) ∨ (file.length : Int) - a - 8 < numI (file.drop a) ∨ 1048576 < (a : Int) + 8 + numI (file.drop a)
instance (file : List UInt8) (a : Nat) : Decidable (limW file a) := by unfold limW; infer_instance
/-- The frame at a place: the place behind it, its payload, its checksum. -/
def stepW (file : List UInt8) (a : Nat) (last : Int) : Option (Nat × List UInt8 × Int) :=
  if file.length - a < 8 then none else
  if limW file a then none else
  if sumI last (payW file a) = numI (file.drop (a + 4)) then some (a + 8 + (numI (file.drop a)).toNat, payW file a, sumI last (payW file a)) else none
def wholeF : Nat → List UInt8 → Nat → Int → List (List UInt8) × List Int
  | 0, _, _, _ => ([], [])
  | f + 1, file, at_, last => match stepW file at_ last with
    | none => ([], [])
    | some (at', p, h) => (p :: (wholeF f file at' h).1, (at' : Int) :: (wholeF f file at' h).2)
def lastF : Nat → List UInt8 → Nat → Int → Int
  | 0, _, _, last => last
  | f + 1, file, a, last => match stepW file a last with
    | none => last
    | some (a', _, h) => lastF f file a' h
/-- The last checksum. -/
def lastW (file : List UInt8) : Int := lastF (file.length + 1) file 0 0
def wholeL (file : List UInt8) : List (List UInt8) × List Int := wholeF (file.length + 1) file 0 0
theorem numI_R (l : List UInt8) : R32 (numI l) := ⟨bits_lo_u32 _ _ _, bits_hi_u32 _ _ _⟩
theorem b4 (b : UInt8) : b.toNat < 256 := b.toNat_lt
theorem numI_nat (l : List UInt8) : numI l = (16777216 * l[0]!.toNat + 65536 * l[1]!.toNat + 256 * l[2]!.toNat + l[3]!.toNat : Nat) := by
  have h0 := b4 l[0]!; have h1 := b4 l[1]!; have h2 := b4 l[2]!; have h3 := b4 l[3]!
  unfold numI
  generalize l[0]!.toNat = a at *; generalize l[1]!.toNat = b at *; generalize l[2]!.toNat = c at *; generalize l[3]!.toNat = d at *
  rw [wrap_u32, wrap_u32, wrap_u32, or_nat, or_nat, or_nat]
  have e0 : ((a : Int) * 16777216 % 4294967296 % 4294967296).toNat = 2 ^ 24 * a := by omega
  have e1 : ((b : Int) * 65536 % 4294967296 % 4294967296).toNat = 65536 * b := by omega
  have e2 : ((c : Int) * 256 % 4294967296 % 4294967296).toNat = 256 * c := by omega
  have e3 : ((d : Int) % 4294967296).toNat = d := by omega
  rw [e0, e1, e2, e3, ← Nat.two_pow_add_eq_or_of_lt (show 65536 * b < 2 ^ 24 by omega)]
  have f1 : (((2 ^ 24 * a + 65536 * b : Nat) : Int) % 4294967296).toNat = 2 ^ 16 * (256 * a + b) := by omega
  rw [f1, ← Nat.two_pow_add_eq_or_of_lt (show 256 * c < 2 ^ 16 by omega)]
  have f2 : (((2 ^ 16 * (256 * a + b) + 256 * c : Nat) : Int) % 4294967296).toNat = 2 ^ 8 * (65536 * a + 256 * b + c) := by omega
  rw [f2, ← Nat.two_pow_add_eq_or_of_lt (show d < 2 ^ 8 by omega)]
  congr 1; omega
theorem four_num {l : List UInt8} (h : 4 ≤ l.length) : fourL (numI l) = l.take 4 := by
  match l, h with
  | a :: b :: c :: d :: r, _ =>
    rw [numI_nat]
    have h0 := b4 a; have h1 := b4 b; have h2 := b4 c; have h3 := b4 d
    have e : ∀ (x : UInt8) (n : Nat), n = x.toNat → UInt8.ofNat n = x := fun x n hn => by subst hn; exact UInt8.ofNat_toNat
    simp only [fourL, List.take_succ_cons, List.take_zero, List.getElem!_cons_zero, List.getElem!_cons_succ]
    rw [e a _ (by omega), e b _ (by omega), e c _ (by omega), e d _ (by omega)]
section
variable {file : List UInt8} {a : Nat} {last : Int} {f : Nat}
theorem stepW_len (h : file.length - a < 8) : stepW file a last = none := by rw [stepW, if_pos h]
theorem stepW_lim (h : limW file a) : stepW file a last = none := by
  by_cases k : file.length - a < 8
  · exact stepW_len k
  · rw [stepW, if_neg k, if_pos h]
theorem stepW_sum (h : sumI last (payW file a) ≠ numI (file.drop (a + 4))) : stepW file a last = none := by
  by_cases k : file.length - a < 8
  · exact stepW_len k
  · by_cases l : limW file a
    · exact stepW_lim l
    · rw [stepW, if_neg k, if_neg l, if_neg h]
theorem stepW_ok (k : ¬ file.length - a < 8) (l : ¬ limW file a) (h : sumI last (payW file a) = numI (file.drop (a + 4))) : stepW file a last = some (a + 8 + (numI (file.drop a)).toNat, payW file a, sumI last (payW file a)) := by
  rw [stepW, if_neg k, if_neg l, if_pos h]
theorem payW_len (_ : ¬ file.length - a < 8) (l : ¬ limW file a) : ((payW file a).length : Int) = numI (file.drop a) := by
  have := numI_R (file.drop a)
  unfold R32 at this
  unfold limW at l
  simp [payW]; omega
theorem whole_stop (h : stepW file a last = none) : wholeF f file a last = ([], []) := by
  cases f with
  | zero => rfl
  | succ f => rw [wholeF, h]
theorem last_stop (h : stepW file a last = none) : lastF f file a last = last := by
  cases f with
  | zero => rfl
  | succ f => rw [lastF, h]
theorem last_next {a' : Nat} {p : List UInt8} {h' : Int} (hf : 0 < f) (h : stepW file a last = some (a', p, h')) : lastF f file a last = lastF (f - 1) file a' h' := by
  obtain ⟨g, rfl⟩ : ∃ g, f = g + 1 := ⟨f - 1, by omega⟩
  rw [lastF, h]; rfl
theorem whole_next {a' : Nat} {p : List UInt8} {h' : Int} (hf : 0 < f) (h : stepW file a last = some (a', p, h')) : wholeF f file a last = (p :: (wholeF (f - 1) file a' h').1, (a' : Int) :: (wholeF (f - 1) file a' h').2) := by
  obtain ⟨g, rfl⟩ : ∃ g, f = g + 1 := ⟨f - 1, by omega⟩
  rw [wholeF, h]; rfl
theorem sumI_R (p : List UInt8) : R32 (sumI last p) := moreI_R _ _
theorem refsum (hr : R32 last) (k : ¬ file.length - a < 8) (l : ¬ limW file a) : refMoreI (refMoreI last ((file.take (a + 4)).drop a)) (payW file a) = sumI last (payW file a) := by
  have e : (file.take (a + 4)).drop a = fourL ((payW file a).length : Int) := by
    rw [payW_len k l, four_num (by simp; omega), List.drop_take]
    congr 1; omega
  rw [e, ← more_eq hr, ← more_eq (moreI_R _ _), sumI]
/-- The loop's state: what is found so far, and what is still to be found, are the whole. -/
def wInv (file : List UInt8) (a : Nat) (last : Int) (ps : List (List UInt8)) (ends : List Int) : Prop :=
  a ≤ file.length ∧ R32 last ∧ ps.length = ends.length ∧ 8 * ends.length ≤ a ∧ endI ends = a ∧ ps ++ (wholeF (file.length + 1 - a) file a last).1 = (wholeL file).1 ∧ ends ++ (wholeF (file.length + 1 - a) file a last).2 = (wholeL file).2
theorem wInv_0 (file : List UInt8) : wInv file 0 0 [] [] := ⟨by omega, R32_0, rfl, by simp, rfl, rfl, rfl⟩
theorem wInv_end {ps : List (List UInt8)} {ends : List Int} (h : wInv file a last ps ends) (k : stepW file a last = none) : ps = (wholeL file).1 ∧ ends = (wholeL file).2 := by
  obtain ⟨_, _, _, _, _, h5, h6⟩ := h
  rw [whole_stop k] at h5 h6
  simp at h5 h6
  exact ⟨h5, h6⟩
theorem endI_snoc (l : List Int) (x : Int) : endI (l ++ [x]) = x := by
  unfold endI
  rw [if_neg (by simp), getElem!_pos _ _ (by simp)]
  simp
theorem wholeF_fuel : ∀ (f g a : Nat) (last : Int), file.length + 1 - a ≤ f → file.length + 1 - a ≤ g → wholeF f file a last = wholeF g file a last
  | 0, g, a, last, h, _ => by
    have : stepW file a last = none := stepW_len (by omega)
    rw [whole_stop this, whole_stop this]
  | f + 1, g, a, last, h, hg => by
    cases hs : stepW file a last with
    | none => rw [whole_stop hs, whole_stop hs]
    | some x =>
      obtain ⟨a', p, h'⟩ := x
      have hlen : ¬ file.length - a < 8 := fun k => by rw [stepW_len k] at hs; cases hs
      have ha : a + 8 ≤ a' := by
        have hl : ¬ limW file a := fun k => by rw [stepW_lim k] at hs; cases hs
        by_cases hq : sumI last (payW file a) = numI (file.drop (a + 4))
        · rw [stepW_ok hlen hl hq] at hs; cases hs; omega
        · rw [stepW_sum hq] at hs; cases hs
      rw [whole_next (by omega) hs, whole_next (by omega) hs, Nat.add_sub_cancel, wholeF_fuel f (g - 1) a' h' (by omega) (by omega)]
theorem lastF_fuel : ∀ (f g a : Nat) (last : Int), file.length + 1 - a ≤ f → file.length + 1 - a ≤ g → lastF f file a last = lastF g file a last
  | 0, g, a, last, h, _ => by
    have : stepW file a last = none := stepW_len (by omega)
    rw [last_stop this, last_stop this]
  | f + 1, g, a, last, h, hg => by
    cases hs : stepW file a last with
    | none => rw [last_stop hs, last_stop hs]
    | some x =>
      obtain ⟨a', p, h'⟩ := x
      have hlen : ¬ file.length - a < 8 := fun k => by rw [stepW_len k] at hs; cases hs
      have ha : a + 8 ≤ a' := by
        have hl : ¬ limW file a := fun k => by rw [stepW_lim k] at hs; cases hs
        by_cases hq : sumI last (payW file a) = numI (file.drop (a + 4))
        · rw [stepW_ok hlen hl hq] at hs; cases hs; omega
        · rw [stepW_sum hq] at hs; cases hs
      rw [last_next (by omega) hs, last_next (by omega) hs, Nat.add_sub_cancel, lastF_fuel f (g - 1) a' h' (by omega) (by omega)]
def lInv (file : List UInt8) (a : Nat) (last : Int) : Prop := lastF (file.length + 1 - a) file a last = lastW file
theorem lInv_0 (file : List UInt8) : lInv file 0 0 := rfl
theorem lInv_end (h : lInv file a last) (k : stepW file a last = none) : last = lastW file := by
  unfold lInv at h; rwa [last_stop k] at h
theorem lInv_next (h : lInv file a last) (k : ¬ file.length - a < 8) (l : ¬ limW file a) (q : sumI last (payW file a) = numI (file.drop (a + 4))) : lInv file (a + 8 + (numI (file.drop a)).toNat) (sumI last (payW file a)) := by
  have hs := stepW_ok k l q
  unfold lInv at h ⊢
  rw [last_next (by omega) hs] at h
  rw [← h]
  exact lastF_fuel _ _ _ _ (by omega) (by omega)
theorem wInv_next {ps : List (List UInt8)} {ends : List Int} (h : wInv file a last ps ends) (k : ¬ file.length - a < 8) (l : ¬ limW file a) (q : sumI last (payW file a) = numI (file.drop (a + 4))) :
    wInv file (a + 8 + (numI (file.drop a)).toNat) (sumI last (payW file a)) (ps ++ [payW file a]) (ends ++ [((a + 8 + (numI (file.drop a)).toNat : Nat) : Int)]) := by
  obtain ⟨h1, h2, h3, h4, h5, h6, h7⟩ := h
  have hs := stepW_ok k l q
  have hn := numI_R (file.drop a)
  have hl := payW_len k l
  have hR := sumI_R (last := last) (payW file a)
  unfold R32 at hn
  unfold limW at l
  have hw := whole_next (f := file.length + 1 - a) (by omega) hs
  generalize payW file a = p at *
  generalize sumI last p = sm at *
  generalize numI (file.drop a) = nn at *
  obtain ⟨m, rfl⟩ : ∃ m : Nat, nn = m := ⟨nn.toNat, by omega⟩
  rw [Int.toNat_natCast] at *
  have e := wholeF_fuel (file := file) (file.length + 1 - a - 1) (file.length + 1 - (a + 8 + m)) (a + 8 + m) sm (by omega) (by omega)
  rw [hw, e] at h6 h7
  refine ⟨by omega, hR, by simp [h3], by simp; omega, endI_snoc _ _, ?_, ?_⟩
  · rw [← h6, List.append_assoc]; rfl
  · rw [← h7, List.append_assoc]; rfl
end
/-- Which logs are valid. -/
def validW (l : List UInt8) (n : Int) : Prop := (n = 0 ∨ n ∈ (wholeL l).2) ∧ endI (wholeL l).2 = l.length
instance (l : List UInt8) (n : Int) : Decidable (validW l n) := by unfold validW; infer_instance
theorem mem_take_succ {l : List Int} {k : Nat} {n : Int} (hk : k < l.length) : n ∈ l.take (k + 1) ↔ n ∈ l.take k ∨ l[k]! = n := by
  rw [take_snoc' hk]; simp [eq_comm]
theorem valid_t {l : List Int} {k : Nat} {n : Int} {ok : Bool} (hk : k < l.length) (hok : ok = decide (n = 0 ∨ n ∈ l.take k)) (h : ok ≠ false) : true = decide (n = 0 ∨ n ∈ l.take (k + 1)) := by
  subst hok
  have h' : n = 0 ∨ n ∈ l.take k := gA7 h
  rw [eq_comm, decide_eq_true_eq, mem_take_succ hk]
  rcases h' with h' | h'
  · exact .inl h'
  · exact .inr (.inl h')
theorem valid_f {l : List Int} {k : Nat} {n : Int} {ok : Bool} (hk : k < l.length) (hok : ok = decide (n = 0 ∨ n ∈ l.take k)) (h : ok = false) : decide (l[k]! = n) = decide (n = 0 ∨ n ∈ l.take (k + 1)) := by
  subst hok
  have h' : ¬ (n = 0 ∨ n ∈ l.take k) := gA3 h
  apply decide_eq_decide.2
  rw [mem_take_succ hk]
  constructor
  · intro e; exact .inr (.inr e)
  · intro e
    rcases e with e | e | e
    · exact absurd (.inl e) h'
    · exact absurd (.inr e) h'
    · exact e
theorem valid_end1 {l : List UInt8} {n : Int} {ok : Bool} (hok : ok = decide (n = 0 ∨ n ∈ (wholeL l).2)) (h : ok = true) : decide (endI (wholeL l).2 = (l.length : Int)) = decide (validW l n) := by
  subst hok
  have h' : n = 0 ∨ n ∈ (wholeL l).2 := gA1 h
  apply decide_eq_decide.2
  exact ⟨fun e => ⟨h', e⟩, fun e => e.2⟩
theorem valid_end2 {l : List UInt8} {n : Int} {ok : Bool} (hok : ok = decide (n = 0 ∨ n ∈ (wholeL l).2)) (h : ok ≠ true) : false = decide (validW l n) := by
  subst hok
  have h' : ¬ (n = 0 ∨ n ∈ (wholeL l).2) := gA5 h
  rw [eq_comm, decide_eq_false_iff_not]
  exact fun e => h' e.1
/-! ### Crashes -/
def crashE (l : List UInt8) (n k : Int) : Int := if ¬ validW l n then 1 else if k < 0 ∨ (l.length : Int) - n < k then 2 else 0
def crashL (l : List UInt8) (n k : Int) : List UInt8 := if crashE l n k = 0 then l.take (n + k).toNat else []
theorem crash_1 {l : List UInt8} {n k : Int} (h : ¬ validW l n) : crashE l n k = 1 := by rw [crashE, if_pos h]
theorem crash_2 {l : List UInt8} {n k : Int} (h : validW l n) (w : k < 0 ∨ (l.length : Int) - n < k) : crashE l n k = 2 := by rw [crashE, if_neg (fun q => q h), if_pos w]
theorem crash_0 {l : List UInt8} {n k : Int} (h : validW l n) (w : ¬ (k < 0 ∨ (l.length : Int) - n < k)) : crashE l n k = 0 := by rw [crashE, if_neg (fun q => q h), if_neg w]
theorem ends_range (file : List UInt8) : ∀ (f a : Nat) (last : Int), ∀ x ∈ (wholeF f file a last).2, (a : Int) ≤ x ∧ x ≤ file.length
  | 0, a, last => by intro x hx; simp [wholeF] at hx
  | f + 1, a, last => by
    intro x hx
    cases hs : stepW file a last with
    | none => rw [whole_stop hs] at hx; simp at hx
    | some y =>
      obtain ⟨a', p, h'⟩ := y
      have k : ¬ file.length - a < 8 := fun k => by rw [stepW_len k] at hs; cases hs
      have l : ¬ limW file a := fun k => by rw [stepW_lim k] at hs; cases hs
      have q : sumI last (payW file a) = numI (file.drop (a + 4)) := Decidable.byContradiction fun q => by rw [stepW_sum q] at hs; cases hs
      have hok := stepW_ok k l q
      rw [hs] at hok
      simp only [Option.some.injEq, Prod.mk.injEq] at hok
      have hn := numI_R (file.drop a)
      unfold R32 at hn
      unfold limW at l
      have e1 := hok.1
      rw [whole_next (f := f + 1) (by omega) hs, Nat.add_sub_cancel] at hx
      clear hok hs q
      generalize numI (file.drop a) = nn at *
      obtain ⟨m, rfl⟩ : ∃ m : Nat, nn = m := ⟨nn.toNat, by omega⟩
      rw [Int.toNat_natCast] at e1
      rcases List.mem_cons.1 hx with hx | hx
      · subst hx; omega
      · have := ends_range file f a' h' x hx
        omega
theorem valid_range {l : List UInt8} {n : Int} (h : validW l n) : 0 ≤ n ∧ n ≤ l.length := by
  rcases h.1 with h1 | h1
  · subst h1; omega
  · have := ends_range l _ _ _ n h1
    omega
theorem endW_range (l : List UInt8) : 0 ≤ endI (wholeL l).2 ∧ endI (wholeL l).2 ≤ l.length := by
  unfold endI
  split
  · omega
  · rename_i h
    rw [getElem!_pos _ _ (by omega)]
    have := ends_range l _ _ _ _ (List.getElem_mem (l := (wholeL l).2) (n := (wholeL l).2.length - 1) (by omega))
    omega
theorem wholeF_len (file : List UInt8) : ∀ (f a : Nat) (last : Int), (wholeF f file a last).1.length ≤ f ∧ (wholeF f file a last).2.length ≤ f ∧ (wholeF f file a last).1.length = (wholeF f file a last).2.length
  | 0, a, last => by simp [wholeF]
  | f + 1, a, last => by
    cases hs : stepW file a last with
    | none => rw [whole_stop hs]; simp
    | some y =>
      obtain ⟨a', p, h'⟩ := y
      rw [whole_next (f := f + 1) (by omega) hs, Nat.add_sub_cancel]
      have := wholeF_len file f a' h'
      simp only [List.length_cons]
      omega
theorem whole_len (l : List UInt8) : (wholeL l).1.length ≤ l.length + 1 ∧ (wholeL l).2.length ≤ l.length + 1 ∧ (wholeL l).1.length = (wholeL l).2.length := wholeF_len l _ _ _
theorem take_flat_le {α : Type} {ls : List (List α)} (k : Nat) : (ls.take k).flatten.length ≤ ls.flatten.length := by
  conv => rhs; rw [← List.take_append_drop k ls, List.flatten_append, List.length_append]
  omega
theorem take_flat_snocL {α : Type} {ls : List (List α)} {k : Nat} (h : k < ls.length) : (ls.take (k + 1)).flatten = (ls.take k).flatten ++ ls[k]! := by
  rw [take_snoc' h, List.flatten_append]; simp
theorem take_flat_snoc {α : Type} {ls : List (List α)} {k : Nat} (h : k < ls.length) : (ls.take (k + 1)).flatten.length = (ls.take k).flatten.length + ls[k]!.length := by
  rw [take_flat_snocL h, List.length_append]
theorem take_flat_next {α : Type} {ls : List (List α)} {k : Nat} (h : k < ls.length) : (ls.take k).flatten.length + ls[k]!.length ≤ ls.flatten.length := by
  rw [← take_flat_snoc h]; exact take_flat_le _
/-! ### Appending -/
theorem fourL_len (h : Int) : (fourL h).length = 4 := rfl
def appE (l : List UInt8) (n : Int) (p : List UInt8) : Int := if ¬ validW l n then 1 else if 60000 < p.length ∨ 1048576 < l.length + 8 + p.length then 3 else 0
def appL (l : List UInt8) (n : Int) (p : List UInt8) : List UInt8 := if appE l n p = 0 then l ++ fourL p.length ++ fourL (sumI (lastW l) p) ++ p else []
def appN (l : List UInt8) (n : Int) (p : List UInt8) : Int := if appE l n p = 0 then n else 0
def syncE (l : List UInt8) (n : Int) : Int := if validW l n then 0 else 1
def syncL (l : List UInt8) (n : Int) : List UInt8 := if validW l n then l else []
theorem app_1 {l p : List UInt8} {n : Int} (h : ¬ validW l n) : appE l n p = 1 ∧ appL l n p = [] ∧ appN l n p = 0 := by
  have : appE l n p = 1 := by rw [appE, if_pos h]
  exact ⟨this, by rw [appL, if_neg (by rw [this]; decide)], by rw [appN, if_neg (by rw [this]; decide)]⟩
theorem app_3 {l p : List UInt8} {n : Int} (h : validW l n) (w : 60000 < p.length ∨ 1048576 < l.length + 8 + p.length) : appE l n p = 3 ∧ appL l n p = [] ∧ appN l n p = 0 := by
  have : appE l n p = 3 := by rw [appE, if_neg (fun q => q h), if_pos w]
  exact ⟨this, by rw [appL, if_neg (by rw [this]; decide)], by rw [appN, if_neg (by rw [this]; decide)]⟩
theorem app_0 {l p : List UInt8} {n : Int} (h : validW l n) (w : ¬ (60000 < p.length ∨ 1048576 < l.length + 8 + p.length)) : appE l n p = 0 ∧ appL l n p = l ++ fourL p.length ++ fourL (sumI (lastW l) p) ++ p ∧ appN l n p = n := by
  have : appE l n p = 0 := by rw [appE, if_neg (fun q => q h), if_neg w]
  exact ⟨this, by rw [appL, if_pos this], by rw [appN, if_pos this]⟩
theorem step_data {file : List UInt8} {a : Nat} {last : Int} {y : Nat × List UInt8 × Int} (hs : stepW file a last = some y) :
    ∃ m : Nat, numI (file.drop a) = m ∧ a + 8 + m ≤ file.length ∧ y = (a + 8 + m, (file.take (a + 8 + m)).drop (a + 8), sumI last ((file.take (a + 8 + m)).drop (a + 8))) ∧ sumI last ((file.take (a + 8 + m)).drop (a + 8)) = numI (file.drop (a + 4)) := by
  have k : ¬ file.length - a < 8 := fun k => by rw [stepW_len k] at hs; cases hs
  have l : ¬ limW file a := fun k => by rw [stepW_lim k] at hs; cases hs
  have q : sumI last (payW file a) = numI (file.drop (a + 4)) := Decidable.byContradiction fun q => by rw [stepW_sum q] at hs; cases hs
  have hok := stepW_ok k l q
  rw [hs] at hok
  have hn := numI_R (file.drop a)
  unfold R32 at hn
  unfold limW at l
  unfold payW at hok q
  generalize numI (file.drop a) = nn at *
  obtain ⟨m, rfl⟩ : ∃ m : Nat, nn = m := ⟨nn.toNat, by omega⟩
  simp only [Int.toNat_natCast] at hok q
  exact ⟨m, rfl, by omega, Option.some.inj hok, q⟩
theorem frames (file : List UInt8) : ∀ (f a : Nat) (last : Int) (k : Nat), k < (wholeF f file a last).1.length → (a : Int) + 8 + ((wholeF f file a last).1[k]!).length ≤ (wholeF f file a last).2[k]! ∧ (wholeF f file a last).2[k]! ≤ file.length
  | 0, a, last, k, h => by simp [wholeF] at h
  | f + 1, a, last, k, h => by
    cases hs : stepW file a last with
    | none => rw [whole_stop hs] at h; simp at h
    | some y =>
      obtain ⟨m, h1, h2, rfl, h3⟩ := step_data hs
      have hw := whole_next (f := f + 1) (by omega) hs
      rw [Nat.add_sub_cancel] at hw
      rw [hw] at h ⊢
      cases k with
      | zero =>
        simp only [List.getElem!_cons_zero]
        have : ((file.take (a + 8 + m)).drop (a + 8)).length = m := by simp; omega
        rw [this]; omega
      | succ k =>
        simp only [List.getElem!_cons_succ]
        have := frames file f (a + 8 + m) _ k (by simpa using h)
        omega
theorem last_sum (file : List UInt8) : ∀ (f a : Nat) (last : Int), 0 < (wholeF f file a last).1.length →
    lastF f file a last = numI (file.drop ((wholeF f file a last).2[(wholeF f file a last).1.length - 1]! - ((wholeF f file a last).1[(wholeF f file a last).1.length - 1]!).length - 4).toNat)
  | 0, a, last, h => by simp [wholeF] at h
  | f + 1, a, last, h => by
    cases hs : stepW file a last with
    | none => rw [whole_stop hs] at h; simp at h
    | some y =>
      obtain ⟨m, h1, h2, rfl, h3⟩ := step_data hs
      have hw := whole_next (f := f + 1) (by omega) hs
      have hl := last_next (f := f + 1) (by omega) hs
      rw [Nat.add_sub_cancel] at hw hl
      rw [hw, hl]
      by_cases h0 : 0 < (wholeF f file (a + 8 + m) (sumI last ((file.take (a + 8 + m)).drop (a + 8)))).1.length
      · rw [last_sum file f _ _ h0]
        obtain ⟨c, hc⟩ : ∃ c, (wholeF f file (a + 8 + m) (sumI last ((file.take (a + 8 + m)).drop (a + 8)))).1.length = c + 1 := ⟨_, (Nat.succ_pred_eq_of_pos h0).symm⟩
        simp only [List.length_cons, hc, Nat.add_sub_cancel, List.getElem!_cons_succ]
      · have hz : (wholeF f file (a + 8 + m) (sumI last ((file.take (a + 8 + m)).drop (a + 8)))).1.length = 0 := by omega
        have hstop : lastF f file (a + 8 + m) (sumI last ((file.take (a + 8 + m)).drop (a + 8))) = sumI last ((file.take (a + 8 + m)).drop (a + 8)) := by
          cases f with
          | zero => rfl
          | succ f =>
            cases hs2 : stepW file (a + 8 + m) (sumI last ((file.take (a + 8 + m)).drop (a + 8))) with
            | none => exact last_stop hs2
            | some y => obtain ⟨m2, _, _, rfl, _⟩ := step_data hs2; rw [whole_next (f := f + 1) (by omega) hs2] at hz; simp at hz
        rw [hstop]
        simp only [List.length_cons, hz, Nat.zero_add, Nat.sub_self, List.getElem!_cons_zero]
        have : ((file.take (a + 8 + m)).drop (a + 8)).length = m := by simp; omega
        rw [h3, this]
        congr 2
        omega
theorem last_zero (file : List UInt8) (h : (wholeL file).1.length = 0) : lastW file = 0 := by
  unfold lastW
  unfold wholeL at h
  cases hs : stepW file 0 0 with
  | none => exact last_stop hs
  | some y => obtain ⟨m2, _, _, rfl, _⟩ := step_data hs; rw [whole_next (f := file.length + 1) (by omega) hs] at h; simp at h
/-- The checksum that the reference finds in front of the k-th payload. -/
def refLast (file : List UInt8) (k : Nat) : Int := if k = 0 then 0 else numI (file.drop ((wholeL file).2[k - 1]! - ((wholeL file).1[k - 1]!).length - 4).toNat)
theorem refLast_end (file : List UInt8) : refLast file (wholeL file).1.length = lastW file := by
  unfold refLast
  split
  · rename_i h; exact (last_zero file h).symm
  · exact (last_sum file _ _ _ (by unfold wholeL at *; omega)).symm
theorem refLast_R (file : List UInt8) (k : Nat) : R32 (refLast file k) := by
  unfold refLast
  split
  · exact R32_0
  · exact numI_R _
theorem framesW (l : List UInt8) {k : Nat} (h : k < (wholeL l).1.length) : 8 + (((wholeL l).1[k]!).length : Int) ≤ (wholeL l).2[k]! ∧ (wholeL l).2[k]! ≤ l.length := by
  have := frames l (l.length + 1) 0 0 k h
  unfold wholeL
  omega
theorem lastW_R (l : List UInt8) : R32 (lastW l) := by rw [← refLast_end]; exact refLast_R _ _
theorem refsum2 {last : Int} (hr : R32 last) {p : List UInt8} : refMoreI (refMoreI last (fourL (p.length : Int))) p = sumI last p := by
  rw [← more_eq hr, ← more_eq (moreI_R _ _), sumI]
/-! ### The example of the document -/
theorem w0 : wholeL [] = ([], []) := by kernel_rfl
theorem v0 : validW [] 0 := ⟨.inl rfl, by kernel_rfl⟩
def a9 : List UInt8 := fourL 1 ++ fourL (sumI 0 [97]) ++ [97]
theorem w9 : wholeL a9 = ([[97]], [9]) := by kernel_rfl
theorem w8 : wholeL (a9.take 8) = ([], []) := by kernel_rfl
theorem v9 : validW a9 0 := ⟨.inl rfl, by rw [w9]; rfl⟩
theorem aw_app : appE [] 0 [97] = 0 ∧ appL [] 0 [97] = a9 ∧ appN [] 0 [97] = 0 := by
  obtain ⟨e1, e2, e3⟩ := app_0 (p := [97]) v0 (by decide)
  exact ⟨e1, by rw [e2, last_zero _ (by rw [w0]; rfl)]; rfl, e3⟩
theorem aw_crash : crashE a9 0 8 = 0 ∧ crashL a9 0 8 = a9.take 8 := by
  have h := crash_0 (k := 8) v9 (by decide)
  exact ⟨h, by rw [crashL, if_pos h]; rfl⟩
end Go.D20
