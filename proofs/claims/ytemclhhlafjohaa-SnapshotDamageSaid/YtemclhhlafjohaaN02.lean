/-
  Checksums: the plain laws.
-/
import Derived.Test.YtemclhhlafjohaaM02
namespace Go.D02
open Go Go.RowKit Go.G

/-! ### Shifts of unbounded numbers -/
def bitN (x : Nat) : Nat := if x % 2 = 1 then (x / 2) ^^^ 2197175160 else x / 2
theorem xor_mod2 (a b : Nat) : (a ^^^ b) % 2 = (a % 2 + b % 2) % 2 := by
  have h : ∀ n : Nat, n % 2 = (n.testBit 0).toNat := fun n => by rw [Nat.testBit_zero]; rcases Nat.mod_two_eq_zero_or_one n with h | h <;> simp [h]
  rw [h (a ^^^ b), Nat.testBit_xor, h a, h b]
  cases a.testBit 0 <;> cases b.testBit 0 <;> rfl
theorem xor_div2 (a b : Nat) : (a ^^^ b) / 2 = a / 2 ^^^ b / 2 := by
  apply Nat.eq_of_testBit_eq; intro i
  simp [Nat.testBit_div_two, Nat.testBit_xor]
theorem x4 (a b p : Nat) : (a ^^^ p) ^^^ (b ^^^ p) = a ^^^ b := by
  rw [Nat.xor_assoc, Nat.xor_comm b p, ← Nat.xor_assoc p p b, Nat.xor_self, Nat.zero_xor]
theorem bitN_xor (a b : Nat) : bitN (a ^^^ b) = bitN a ^^^ bitN b := by
  unfold bitN
  rw [xor_mod2, xor_div2]
  rcases Nat.mod_two_eq_zero_or_one a with h | h <;> rcases Nat.mod_two_eq_zero_or_one b with k | k <;> rw [h, k]
  · rfl
  · simp [Nat.xor_assoc]
  · simp only [Nat.reduceAdd, Nat.reduceMod, if_true, Nat.zero_ne_one, if_false]
    rw [Nat.xor_assoc, Nat.xor_assoc, Nat.xor_comm (b / 2)]
  · simp [x4]
theorem bitN_two (x : Nat) : bitN (2 * x) = x := by
  unfold bitN; rw [if_neg (by omega)]; omega
def powN : Nat → Nat → Nat
  | 0, x => x
  | k + 1, x => bitN (powN k x)
theorem powN_xor (k a b : Nat) : powN k (a ^^^ b) = powN k a ^^^ powN k b := by
  induction k with
  | zero => rfl
  | succ k ih => simp only [powN, ih, bitN_xor]
theorem powN_add (j k x : Nat) : powN (j + k) x = powN j (powN k x) := by
  induction j with
  | zero => simp [powN]
  | succ j ih => rw [Nat.succ_add]; simp only [powN, ih]
theorem powN_two (k x : Nat) : powN k (2 ^ k * x) = x := by
  induction k generalizing x with
  | zero => simp [powN]
  | succ k ih => rw [powN, Nat.pow_succ, Nat.mul_assoc, ih, bitN_two]
theorem powN_zero (k : Nat) : powN k 0 = 0 := by
  induction k with
  | zero => rfl
  | succ k ih => simp only [powN, ih]; rfl
theorem bitN_lt {x : Nat} (h : x < 4294967296) : bitN x < 4294967296 := by
  unfold bitN; split
  · exact Nat.xor_lt_two_pow (n := 32) (by omega) (by omega)
  · omega
theorem powN_lt {x : Nat} (h : x < 4294967296) (k : Nat) : powN k x < 4294967296 := by
  induction k with
  | zero => exact h
  | succ k ih => exact bitN_lt ih
theorem bitN_pos {x : Nat} (h : x < 4294967296) (h0 : x ≠ 0) : bitN x ≠ 0 := by
  unfold bitN; split
  · intro e
    have : x / 2 = 2197175160 := by
      have := congrArg (· ^^^ 2197175160) e
      simpa [Nat.xor_assoc] using this
    omega
  · omega
theorem powN_pos {x : Nat} (h : x < 4294967296) (h0 : x ≠ 0) (k : Nat) : powN k x ≠ 0 := by
  induction k with
  | zero => exact h0
  | succ k ih => exact bitN_pos (powN_lt h k) ih

/-! ### The registers, on numbers -/
theorem x32 {a b : Nat} (ha : a < 4294967296) (hb : b < 4294967296) : bits .xor .u32 (a : Int) (b : Int) = ((a ^^^ b : Nat) : Int) := by
  rw [xor_nat]; congr 2 <;> omega
theorem xlt {a b : Nat} (ha : a < 4294967296) (hb : b < 4294967296) : a ^^^ b < 4294967296 := Nat.xor_lt_two_pow (n := 32) ha hb
theorem bitI_nat {n : Nat} (h : n < 4294967296) : bitI (n : Int) = (bitN n : Nat) := by
  unfold bitI bitN
  rw [and1]
  have h2 : ((n : Int) / 2) = ((n / 2 : Nat) : Int) := by omega
  rw [h2, show (2197175160 : Int) = ((2197175160 : Nat) : Int) from rfl, x32 (by omega) (by omega)]
  by_cases e : n % 2 = 1
  · rw [if_pos e, if_pos (by omega)]
  · rw [if_neg e, if_neg (by omega)]
theorem shiftedI_nat {n b : Nat} (h : n < 4294967296) (hb : b < 2) : shiftedI (n : Int) (b : Int) = (bitN (n ^^^ b) : Nat) := by
  unfold shiftedI bitN
  rw [xor_mod2, xor_div2]
  have h2 : ((n : Int) / 2) = ((n / 2 : Nat) : Int) := by omega
  have h3 : b / 2 = 0 := by omega
  rw [h2, h3, Nat.xor_zero, show (2197175160 : Int) = ((2197175160 : Nat) : Int) from rfl, x32 (by omega) (by omega)]
  by_cases e : (n % 2 + b % 2) % 2 = 1
  · rw [if_pos e, if_pos (by omega)]
  · rw [if_neg e, if_neg (by omega)]
theorem mod_succ (b j : Nat) : b % 2 ^ (j + 1) = (b % 2 ^ j) ^^^ (2 ^ j * (b / 2 ^ j % 2)) := by
  have h1 : b % 2 ^ (j + 1) = 2 ^ j * (b / 2 ^ j % 2) + b % 2 ^ j := by
    rw [Nat.pow_succ, Nat.mod_mul, Nat.add_comm]
  rw [h1, Nat.xor_comm]
  apply Nat.eq_of_testBit_eq; intro i
  rw [Nat.testBit_xor, Nat.testBit_two_pow_mul_add _ (Nat.mod_lt _ (Nat.two_pow_pos j)), Nat.testBit_two_pow_mul]
  by_cases h : i < j
  · simp [h, show ¬ j ≤ i by omega]
  · have h2 : (b % 2 ^ j).testBit i = false := Nat.testBit_lt_two_pow (Nat.lt_of_lt_of_le (Nat.mod_lt _ (Nat.two_pow_pos j)) (Nat.pow_le_pow_right (by decide) (by omega)))
    simp [h, h2, show j ≤ i by omega]
theorem byteI_nat {n : Nat} (h : n < 4294967296) (b : Nat) : ∀ j, j ≤ 8 → byteI (n : Int) b j = (powN j (n ^^^ (b % 2 ^ j)) : Nat)
  | 0, _ => by simp [byteI, powN, Nat.mod_one]
  | j + 1, hj => by
    have hl : n ^^^ b % 2 ^ j < 4294967296 := by
      refine xlt h (Nat.lt_of_lt_of_le (Nat.mod_lt _ (Nat.two_pow_pos j)) ?_)
      exact Nat.le_trans (Nat.pow_le_pow_right (by decide) (show j ≤ 8 by omega)) (by decide)
    rw [byteI, byteI_nat h b j (by omega)]
    have e : ((b : Int) / 2 ^ j % 2) = ((b / 2 ^ j % 2 : Nat) : Int) := by simp
    rw [e, shiftedI_nat (powN_lt hl j) (by omega), mod_succ, ← Nat.xor_assoc]
    rw [powN, powN_xor j _ (2 ^ j * _), powN_two]
/-- A byte string's register. -/
def regN (h : Nat) (l : List UInt8) : Nat := l.foldl (fun r b => powN 8 (r ^^^ b.toNat)) h
theorem u8lt (b : UInt8) : b.toNat < 4294967296 := Nat.lt_trans b.toNat_lt (by decide)
theorem regN_lt {h : Nat} (k : h < 4294967296) (l : List UInt8) : regN h l < 4294967296 := by
  induction l generalizing h with
  | nil => exact k
  | cons b l ih => exact ih (powN_lt (xlt k (u8lt b)) 8)
theorem registerI_nat {h : Nat} (k : h < 4294967296) (l : List UInt8) : registerI (h : Int) l = (regN h l : Nat) := by
  induction l generalizing h with
  | nil => rfl
  | cons b l ih =>
    show registerI (byteI (h : Int) b.toNat 8) l = _
    rw [byteI_nat k b.toNat 8 (Nat.le_refl _), Nat.mod_eq_of_lt b.toNat_lt, ih (powN_lt (xlt k (u8lt b)) 8)]
    rfl
theorem iter_bit_nat {n : Nat} (h : n < 4294967296) (k : Nat) : iterI bitI k (n : Int) = (powN k n : Nat) := by
  induction k with
  | zero => rfl
  | succ k ih => rw [iterI, ih, bitI_nat (powN_lt h k), powN]
theorem xor_u8 (a b : Nat) (ha : a < 256) (hb : b < 256) : bits .xor .u8 (a : Int) (b : Int) = ((a ^^^ b : Nat) : Int) := by
  have hx : a ^^^ b < 2 ^ 8 := Nat.xor_lt_two_pow (by omega) (by omega)
  have h1 : (BitVec.ofInt 8 (a : Int)).toNat = a := by
    rw [BitVec.ofInt_natCast, BitVec.toNat_ofNat]; exact Nat.mod_eq_of_lt (by omega)
  have h2 : (BitVec.ofInt 8 (b : Int)).toNat = b := by
    rw [BitVec.ofInt_natCast, BitVec.toNat_ofNat]; exact Nat.mod_eq_of_lt (by omega)
  show IntKind.u8.wrap ((BitVec.ofInt 8 (a : Int) ^^^ BitVec.ofInt 8 (b : Int)).toNat : Int) = _
  rw [BitVec.toNat_xor, h1, h2, IntKind.wrap_u8]
  omega
theorem split8 (h : Nat) : h = (h % 256) ^^^ (2 ^ 8 * (h / 256)) := by
  have h1 : h = 2 ^ 8 * (h / 256) + h % 256 := by omega
  apply Nat.eq_of_testBit_eq; intro i
  conv => lhs; rw [h1]
  rw [Nat.testBit_xor, Nat.testBit_two_pow_mul_add _ (show h % 256 < 2 ^ 8 by omega), Nat.testBit_two_pow_mul]
  by_cases hi : i < 8
  · simp [hi, show ¬ 8 ≤ i by omega]
  · have h2 : (h % 256).testBit i = false := Nat.testBit_lt_two_pow (Nat.lt_of_lt_of_le (show h % 256 < 2 ^ 8 by omega) (Nat.pow_le_pow_right (by decide) (by omega)))
    simp [hi, h2, show 8 ≤ i by omega]
theorem stepI_nat {h : Nat} (k : h < 4294967296) (b : UInt8) : stepI (h : Int) b = (powN 8 (h ^^^ b.toNat) : Nat) := by
  have hb := b.toNat_lt
  unfold stepI tabI
  rw [u8_wrap, show ((h : Int) % 256) = ((h % 256 : Nat) : Int) by omega, xor_u8 _ _ (by omega) hb, Int.toNat_natCast]
  have hx : h % 256 ^^^ b.toNat < 2 ^ 8 := Nat.xor_lt_two_pow (by omega) hb
  rw [iter_bit_nat (by omega), show ((h : Int) / 256) = ((h / 256 : Nat) : Int) by omega, x32 (by omega) (powN_lt (by omega) 8)]
  conv => rhs; rw [split8 h, Nat.xor_assoc, Nat.xor_comm (2 ^ 8 * _), ← Nat.xor_assoc, powN_xor, powN_two]
  rw [Nat.xor_comm]
theorem runI_nat {h : Nat} (k : h < 4294967296) (l : List UInt8) : runI (h : Int) l = (regN h l : Nat) := by
  induction l generalizing h with
  | nil => rfl
  | cons b l ih =>
    show runI (stepI (h : Int) b) l = _
    rw [stepI_nat k b, ih (powN_lt (xlt k (u8lt b)) 8)]
    rfl
def comN (h : Nat) : Nat := 4294967295 ^^^ h
theorem comN_lt {h : Nat} (k : h < 4294967296) : comN h < 4294967296 := xlt (by omega) k
theorem comI_nat {h : Nat} (k : h < 4294967296) : comI (h : Int) = (comN h : Nat) := by
  unfold comI comN
  rw [show (4294967295 : Int) = ((4294967295 : Nat) : Int) from rfl, x32 (by omega) k]
def moreN (h : Nat) (l : List UInt8) : Nat := comN (regN (comN h) l)
theorem moreN_lt {h : Nat} (k : h < 4294967296) (l : List UInt8) : moreN h l < 4294967296 := comN_lt (regN_lt (comN_lt k) l)
theorem moreI_nat {h : Nat} (k : h < 4294967296) (l : List UInt8) : moreI (h : Int) l = (moreN h l : Nat) := by
  rw [moreI, comI_nat k, runI_nat (comN_lt k), comI_nat (regN_lt (comN_lt k) l), moreN]
theorem refMoreI_nat {h : Nat} (k : h < 4294967296) (l : List UInt8) : refMoreI (h : Int) l = (moreN h l : Nat) := by
  rw [refMoreI, comI_nat k, registerI_nat (comN_lt k), comI_nat (regN_lt (comN_lt k) l), moreN]
theorem R32.nat {h : Int} (r : R32 h) : ∃ n : Nat, h = n ∧ n < 4294967296 := ⟨h.toNat, by unfold R32 at r; omega, by unfold R32 at r; omega⟩
/-- The table's checksum is the specified one. -/
theorem more_eq {h : Int} (r : R32 h) (l : List UInt8) : moreI h l = refMoreI h l := by
  obtain ⟨n, rfl, hn⟩ := r.nat
  rw [moreI_nat hn, refMoreI_nat hn]
theorem R32_0 : R32 0 := ⟨by decide, by decide⟩
theorem of_eq (l : List UInt8) : moreI 0 l = refMoreI 0 l := more_eq R32_0 l
theorem moreI_R (h : Int) (l : List UInt8) : R32 (moreI h l) := comI_R _
end Go.D02
namespace Go.D02
open Go Go.RowKit Go.G
theorem print_eq (h : Int) : printL h = refPrintL h := by
  unfold printL refPrintL
  apply List.map_congr_left
  intro i _
  rw [printAt, refPrintAt, and15]
theorem moreN_awake : moreN 0 [49, 50, 51, 52, 53, 54, 55, 56, 57] = 3808858755 := by kernel_rfl
theorem awake1 : printL (moreI 0 []) = [48, 48, 48, 48, 48, 48, 48, 48] := by
  rw [show (0 : Int) = ((0 : Nat) : Int) from rfl, moreI_nat (by omega), print_eq]
  decide
theorem awake2 : printL (moreI 0 [49, 50, 51, 52, 53, 54, 55, 56, 57]) = [101, 51, 48, 54, 57, 50, 56, 51] := by
  rw [show (0 : Int) = ((0 : Nat) : Int) from rfl, moreI_nat (by omega), print_eq, moreN_awake]
  decide
end Go.D02
namespace Go.D02
open Go Go.RowKit Go.G
/-! ### Matrices -/
def nI (n : Nat) : Int := (n : Int)
/-- The columns of a map. -/
def colsL (f : Nat → Nat) : List Int := (List.range 32).map fun i => ((f (2 ^ i) : Nat) : Int)
structure Lin (f : Nat → Nat) : Prop where
  add : ∀ a b, f (a ^^^ b) = f a ^^^ f b
  lt : ∀ a, a < 4294967296 → f a < 4294967296
theorem Lin.zero {f : Nat → Nat} (h : Lin f) : f 0 = 0 := by
  have := h.add 0 0
  rw [Nat.xor_self, Nat.xor_self] at this
  exact this
theorem Lin.comp {f g : Nat → Nat} (h : Lin f) (k : Lin g) : Lin (fun x => f (g x)) := ⟨fun a b => by rw [k.add, h.add], fun a ha => h.lt _ (k.lt _ ha)⟩
theorem pow_lt32 {i : Nat} (h : i < 32) : 2 ^ i < 4294967296 := by
  have := Nat.pow_lt_pow_right (a := 2) (by decide) h
  simpa using this
theorem and1_nat (x : Nat) : bits .and .u32 (x : Int) 1 = 1 ↔ x % 2 = 1 := by rw [and1]; omega
theorem half_split (x i : Nat) : 2 ^ i * x = (2 ^ (i + 1) * (x / 2)) ^^^ (2 ^ i * (x % 2)) := by
  have h1 : x = 2 ^ 1 * (x / 2) + x % 2 := by omega
  apply Nat.eq_of_testBit_eq; intro k
  rw [Nat.testBit_xor]
  simp only [Nat.testBit_two_pow_mul]
  rcases Nat.lt_or_ge k i with h | h
  · simp [show ¬ i ≤ k by omega, show ¬ (i + 1) ≤ k by omega]
  · rcases Nat.eq_or_lt_of_le h with e | e
    · subst e
      simp only [Nat.sub_self, Nat.testBit_zero, Nat.le_refl, decide_true, Bool.true_and, show ¬ i + 1 ≤ i by omega, decide_false, Bool.false_and, Bool.false_xor]
      congr 1; rw [Nat.mod_mod]
    · have e2 : k - i = (k - (i + 1)) + 1 := by omega
      have e3 : (x % 2).testBit (k - i) = false := Nat.testBit_lt_two_pow (Nat.lt_of_lt_of_le (show x % 2 < 2 ^ 1 by omega) (Nat.pow_le_pow_right (by decide) (by omega)))
      simp only [e3, Bool.and_false, Bool.xor_false, show i ≤ k by omega, show i + 1 ≤ k by omega, decide_true, Bool.true_and]
      rw [e2, Nat.testBit_add_one]
theorem timesL_lin {f : Nat → Nat} (hf : Lin f) : ∀ (r i x o : Nat), i + r = 32 → x < 2 ^ r → o < 4294967296 →
    timesL (((List.range' i r).map fun i => ((f (2 ^ i) : Nat) : Int))) (x : Int) (o : Int) = ((o ^^^ f (2 ^ i * x) : Nat) : Int)
  | 0, i, x, o, _, hx, _ => by
    have : x = 0 := by omega
    subst this
    simp [timesL, hf.zero]
  | r + 1, i, x, o, hi, hx, ho => by
    rw [List.range'_succ, List.map_cons, timesL]
    have hc : f (2 ^ i) < 4294967296 := hf.lt _ (pow_lt32 (by omega))
    by_cases h0 : 0 < (x : Int)
    · rw [if_pos h0, show ((x : Int) / 2) = ((x / 2 : Nat) : Int) by omega]
      have ex : (if bits .and .u32 (x : Int) 1 = 1 then bits .xor .u32 (o : Int) ((f (2 ^ i) : Nat) : Int) else (o : Int)) = ((if x % 2 = 1 then o ^^^ f (2 ^ i) else o : Nat) : Int) := by
        by_cases hb : x % 2 = 1
        · rw [if_pos ((and1_nat x).2 hb), if_pos hb, x32 ho hc]
        · rw [if_neg (fun k => hb ((and1_nat x).1 k)), if_neg hb]
      rw [ex, timesL_lin hf r (i + 1) (x / 2) _ (by omega) (by rw [Nat.pow_succ] at hx; omega) (by split; exact xlt ho hc; exact ho)]
      congr 1
      conv => rhs; rw [half_split x i, hf.add]
      rcases Nat.mod_two_eq_zero_or_one x with hb | hb
      · rw [hb, if_neg (by omega)]; simp [hf.zero]
      · rw [hb, if_pos rfl, Nat.mul_one, Nat.xor_assoc, Nat.xor_comm (f (2 ^ i))]
    · have : x = 0 := by omega
      subst this
      rw [if_neg h0]; simp [hf.zero]
theorem colsL_eq (f : Nat → Nat) : colsL f = (List.range' 0 32).map fun i => ((f (2 ^ i) : Nat) : Int) := by rw [colsL, List.range_eq_range']
theorem times_cols {f : Nat → Nat} (hf : Lin f) {x : Nat} (hx : x < 4294967296) : timesL (colsL f) (x : Int) 0 = ((f x : Nat) : Int) := by
  have := timesL_lin hf 32 0 x 0 rfl (by simpa using hx) (by omega)
  rw [← colsL_eq] at this
  simpa using this
theorem squared_cols {f : Nat → Nat} (hf : Lin f) : squaredL (colsL f) = colsL (fun x => f (f x)) := by
  conv => lhs; rw [squaredL]
  rw [colsL, colsL, List.map_map]
  apply List.map_congr_left
  intro i hi
  have := times_cols hf (x := f (2 ^ i)) (hf.lt _ (pow_lt32 (List.mem_range.1 hi)))
  exact this
theorem powN_lin (k : Nat) : Lin (powN k) := ⟨powN_xor k, fun _ h => powN_lt h k⟩
theorem m1_cols : m1 = colsL (powN 1) := by
  apply List.map_congr_left
  intro i hi
  have h2 : ((2 : Int) ^ i) = ((2 ^ i : Nat) : Int) := by simp
  rw [h2, bitI_nat (pow_lt32 (List.mem_range.1 hi))]; rfl
theorem powN_dbl (k : Nat) : (fun x => powN k (powN k x)) = powN (k + k) := by funext x; rw [powN_add]
theorem m8_cols : m8 = colsL (powN 8) := by
  rw [m8, m1_cols, squared_cols (powN_lin _), powN_dbl, squared_cols (powN_lin _), powN_dbl, squared_cols (powN_lin _), powN_dbl]
theorem and1_64 (n : Nat) : bits .and .i64 (n : Int) 1 = 1 ↔ n % 2 = 1 := by
  have h1 : (BitVec.ofInt 64 (n : Int)).toNat = n % 2 ^ 64 := by rw [BitVec.ofInt_natCast, BitVec.toNat_ofNat]
  have e : bits .and .i64 (n : Int) 1 = ((n % 2 : Nat) : Int) := by
    show IntKind.i64.wrap ((BitVec.ofInt 64 (n : Int) &&& BitVec.ofInt 64 1).toNat : Int) = _
    rw [BitVec.toNat_and, h1, show (BitVec.ofInt 64 1).toNat = 2 ^ 1 - 1 from rfl, Nat.and_two_pow_sub_one_eq_mod]
    rw [IntWalk.i64_in _ (by omega)]
    omega
  rw [e]; omega
theorem joinL_pow : ∀ (f k x n : Nat), n < 2 ^ f → x < 4294967296 → joinL f (colsL (powN k)) (x : Int) (n : Int) = ((powN (k * n) x : Nat) : Int)
  | 0, k, x, n, hn, _ => by
    have : n = 0 := by omega
    subst this
    simp [joinL, powN]
  | f + 1, k, x, n, hn, hx => by
    rw [joinL]
    by_cases h0 : 0 < (n : Int)
    · rw [if_pos h0, times_cols (powN_lin k) hx, squared_cols (powN_lin k), powN_dbl, show ((n : Int) / 2) = ((n / 2 : Nat) : Int) by omega]
      have ex : (if bits .and .i64 (n : Int) 1 = 1 then ((powN k x : Nat) : Int) else (x : Int)) = ((powN (k * (n % 2)) x : Nat) : Int) := by
        rcases Nat.mod_two_eq_zero_or_one n with hb | hb
        · rw [if_neg (fun e => by have := (and1_64 n).1 e; omega), hb, Nat.mul_zero]; rfl
        · rw [if_pos ((and1_64 n).2 hb), hb, Nat.mul_one]
      rw [ex, joinL_pow f (k + k) _ (n / 2) (by rw [Nat.pow_succ] at hn; omega) (powN_lt hx _), ← powN_add]
      have h2 : k * n = k * (2 * (n / 2) + n % 2) := by congr 1; omega
      rw [h2, Nat.mul_add, ← Nat.two_mul, ← Nat.mul_assoc, Nat.mul_comm k 2]
    · have : n = 0 := by omega
      subst this
      rw [if_neg h0]; simp [powN]
theorem reg0 (h : Nat) : regN h [0] = powN 8 h := by simp [regN]
theorem iter_reg_nat {x : Nat} (hx : x < 4294967296) (k : Nat) : iterI (fun r => registerI r [0]) k (x : Int) = (powN (8 * k) x : Nat) := by
  induction k with
  | zero => rfl
  | succ k ih => rw [iterI, ih, registerI_nat (powN_lt hx _), reg0, ← powN_add, Nat.mul_succ, Nat.add_comm]
theorem joinI_nat {x y : Nat} (hx : x < 4294967296) (hy : y < 4294967296) {n : Nat} (hn : n ≤ 9223372036854775807) : joinI (x : Int) (y : Int) (n : Int) = ((powN (8 * n) x ^^^ y : Nat) : Int) := by
  rw [joinI, if_neg (by omega), m8_cols, joinL_pow 64 8 x n (by omega) hx, x32 (powN_lt hx _) hy]
theorem refJoinI_nat {x y : Nat} (hx : x < 4294967296) (hy : y < 4294967296) (n : Nat) : refJoinI (x : Int) (y : Int) (n : Int) = ((powN (8 * n) x ^^^ y : Nat) : Int) := by
  rw [refJoinI, if_neg (by omega), Int.toNat_natCast, iter_reg_nat hx, x32 (powN_lt hx _) hy]
theorem join_eq {x y : Int} (hx : R32 x) (hy : R32 y) (n : Int) (hn : n ≤ 9223372036854775807) : joinI x y n = refJoinI x y n := by
  by_cases h : n < 0
  · rw [joinI, refJoinI, if_pos h, if_pos h]
  · obtain ⟨a, rfl, ha⟩ := hx.nat
    obtain ⟨b, rfl, hb⟩ := hy.nat
    obtain ⟨m, rfl⟩ : ∃ m : Nat, n = m := ⟨n.toNat, by omega⟩
    rw [joinI_nat ha hb (by omega), refJoinI_nat ha hb]
/-! ### Parts, sums -/
theorem regN_append (h : Nat) (a b : List UInt8) : regN h (a ++ b) = regN (regN h a) b := by simp [regN]
theorem comN_comN (h : Nat) : comN (comN h) = h := by rw [comN, comN, ← Nat.xor_assoc, Nat.xor_self, Nat.zero_xor]
theorem moreN_append (h : Nat) (a b : List UInt8) : moreN (moreN h a) b = moreN h (a ++ b) := by
  rw [moreN, moreN, comN_comN, ← regN_append, moreN]
theorem regN_shift (x y : Nat) (l : List UInt8) : regN (x ^^^ y) l = powN (8 * l.length) x ^^^ regN y l := by
  induction l generalizing x y with
  | nil => rfl
  | cons b l ih =>
    show regN (powN 8 ((x ^^^ y) ^^^ b.toNat)) l = _
    rw [Nat.xor_assoc, powN_xor, ih]
    have e : 8 * (b :: l).length = 8 * l.length + 8 := by simp; omega
    rw [e, powN_add]
    rfl
theorem parts1 (a b : List UInt8) : moreI (moreI 0 a) b = moreI 0 (a ++ b) := by
  rw [show (0 : Int) = ((0 : Nat) : Int) from rfl, moreI_nat (h := 0) (by omega) a, moreI_nat (moreN_lt (by omega) a) b, moreI_nat (h := 0) (by omega) (a ++ b), moreN_append]
theorem parts2 (a b : List UInt8) (hb : b.length ≤ 9223372036854775807) : joinI (moreI 0 a) (moreI 0 b) b.length = moreI 0 (a ++ b) := by
  rw [show (0 : Int) = ((0 : Nat) : Int) from rfl, moreI_nat (by omega), moreI_nat (by omega), moreI_nat (by omega), joinI_nat (moreN_lt (by omega) _) (moreN_lt (by omega) _) hb]
  congr 1
  rw [← moreN_append 0 a b]
  generalize moreN 0 a = x
  rw [moreN, moreN, comN, comN, comN, comN, Nat.xor_comm 4294967295 x, regN_shift x, Nat.xor_zero]
  rw [← Nat.xor_assoc, ← Nat.xor_assoc, Nat.xor_comm 4294967295 (powN _ x)]
theorem parts3 (a : List UInt8) : moreI (moreI 0 a) [] = moreI 0 a := by
  rw [parts1, List.append_nil]
theorem far1 {x y a b : Int} (rx : R32 x) (ry : R32 y) (ha : 0 ≤ a) (hb : 0 ≤ b) (hab : a + b ≤ 9223372036854775807) : joinI (joinI x y a) 0 b = joinI x (joinI y 0 b) (a + b) := by
  obtain ⟨x, rfl, hx⟩ := rx.nat
  obtain ⟨y, rfl, hy⟩ := ry.nat
  obtain ⟨a, rfl⟩ : ∃ m : Nat, a = m := ⟨a.toNat, by omega⟩
  obtain ⟨b, rfl⟩ : ∃ m : Nat, b = m := ⟨b.toNat, by omega⟩
  rw [show (0 : Int) = ((0 : Nat) : Int) from rfl, joinI_nat hx hy (by omega), joinI_nat (xlt (powN_lt hx _) hy) (by omega) (by omega), joinI_nat hy (by omega) (by omega), show ((a : Int) + (b : Int)) = ((a + b : Nat) : Int) by omega, joinI_nat hx (xlt (powN_lt hy _) (by omega)) (by omega)]
  congr 1
  rw [powN_xor, Nat.xor_zero, Nat.xor_zero, Nat.mul_add, Nat.add_comm, powN_add]
theorem far2 {x y : Int} (rx : R32 x) (ry : R32 y) : joinI x y 0 = bits .xor .u32 x y := by
  obtain ⟨x, rfl, hx⟩ := rx.nat
  obtain ⟨y, rfl, hy⟩ := ry.nat
  rw [show (0 : Int) = ((0 : Nat) : Int) from rfl, joinI_nat hx hy (by omega), x32 hx hy]; rfl
theorem joinI_R (x y n : Int) : R32 (joinI x y n) := by
  rw [joinI]; split
  · exact R32_0
  · exact xor_R32 _ _
end Go.D02
namespace Go.D02
open Go Go.RowKit Go.G
/-! ### Opening, printing -/
theorem of_fun : moreI 0 = refMoreI 0 := funext of_eq
theorem tailL_len (h : Int) : (tailL h).length = 4 := rfl
theorem openL_le (g : List UInt8 → Int) (l : List UInt8) : (openL g l).length ≤ l.length := by
  unfold openL; split
  · simp
  · simp
theorem open_seal {g : List UInt8 → Int} {l : List UInt8} (h : openE g l = 0) : openL g l ++ tailL (g (openL g l)) = l := by
  rw [openL, if_pos h]
  have h4 : ¬ l.length < 4 := fun k => by rw [openE_5 k] at h; exact absurd h (by decide)
  rw [seal_iff h4]
  exact Decidable.byContradiction fun k => by rw [openE_6 h4 k] at h; exact absurd h (by decide)
theorem seal_open1 (g : List UInt8 → Int) (l : List UInt8) : openE g (l ++ tailL (g l)) = 0 := by
  have e : (l ++ tailL (g l)).length - 4 = l.length := by simp [tailL_len]
  refine openE_0 (by simp [tailL_len]) ?_
  rw [e, List.take_left' rfl, List.drop_left' rfl]
theorem seal_open2 (g : List UInt8 → Int) (l : List UInt8) : openL g (l ++ tailL (g l)) = l := by
  have e : (l ++ tailL (g l)).length - 4 = l.length := by simp [tailL_len]
  rw [openL, if_pos (seal_open1 g l), e, List.take_left' rfl]
theorem ib_idx (c : UInt8) : ∀ l : List UInt8, Lib.indexByte l c = if l.idxOf c < l.length then (l.idxOf c : Int) else -1
  | [] => by simp [Lib.indexByte]
  | b :: l => by
    rw [Lib.indexByte, ib_idx c l, List.idxOf_cons]
    by_cases e : (b == c) = true
    · simp [e]
    · simp only [Bool.not_eq_true] at e
      simp only [e, Bool.false_eq_true, if_false, cond_false, List.length_cons]
      by_cases k : l.idxOf c < l.length
      · have : (((l.idxOf c : Nat) : Int) == -1) = false := by rw [beq_eq_false_iff_ne]; omega
        simp [k, this]
      · simp [k]
theorem digI_range (c : UInt8) : 0 ≤ digI c ∧ digI c ≤ 16 := by
  have : digitsL.idxOf c ≤ digitsL.length := List.idxOf_le_length
  have e : digitsL.length = 16 := rfl
  unfold digI; omega
theorem ib_dig (c : UInt8) : Lib.indexByte digitsL c = if digI c = 16 then -1 else digI c := by
  rw [ib_idx]
  have h := digI_range c
  have e : digitsL.length = 16 := rfl
  unfold digI at h ⊢
  rw [e]
  by_cases k : digitsL.idxOf c < 16
  · rw [if_pos k, if_neg (by omega)]
  · rw [if_neg k, if_pos (by omega)]
theorem parseB_R (h d : Int) : R32 (parseB h d) := by
  unfold parseB R32
  rw [wrap_u32, wrap_u32]; omega
theorem parseA_eq {h d : Int} (hd : 0 ≤ d ∧ d < 16) : parseA h d = parseB h d := by
  unfold parseA parseB
  rw [or_nat, wrap_u32, wrap_u32, wrap_u32, wrap_u32]
  have e1 : (h * 16 % 4294967296 % 4294967296).toNat = 2 ^ 4 * ((h % 268435456).toNat) := by omega
  have e2 : (d % 4294967296 % 4294967296).toNat = d.toNat := by omega
  rw [e1, e2, ← Nat.two_pow_add_eq_or_of_lt (by omega)]
  omega
theorem parse_eq (l : List UInt8) (h : Int) : parseG l h = parseQ l h := by
  induction l generalizing h with
  | nil => rfl
  | cons c l ih =>
    have hd := digI_range c
    rw [parseG, parseQ, ib_dig]
    by_cases k : digI c = 16
    · rw [if_pos k, if_pos k]; rfl
    · rw [if_neg k, if_neg k, if_neg (by omega), parseA_eq (by omega), ih]
theorem parseB_in {h d : Int} (hh : 0 ≤ h ∧ h < 268435456) (hd : 0 ≤ d ∧ d < 16) : parseB h d = 16 * h + d := by
  unfold parseB; rw [wrap_u32, wrap_u32]; omega
theorem dig_back {c : UInt8} (h : digI c ≠ 16) : digitsL[(digI c).toNat]! = c := by
  have hr := digI_range c
  unfold digI at *
  have e : digitsL.length = 16 := rfl
  rw [Int.toNat_natCast, getElem!_pos digitsL _ (by omega)]
  exact List.getElem_idxOf (by omega)
theorem dig_at {e : Int} (h : 0 ≤ e ∧ e < 16) : digI digitsL[e.toNat]! = e := by
  have : ∀ j : Fin 16, digitsL.idxOf digitsL[j.val]! = j.val := by decide
  have := this ⟨e.toNat, by omega⟩
  unfold digI
  simp only at this
  rw [this]; omega
theorem parseQ_cons {c : UInt8} {l : List UInt8} {h : Int} (k : digI c ≠ 16) (hh : 0 ≤ h ∧ h < 268435456) : parseQ (c :: l) h = parseQ l (16 * h + digI c) := by
  have := digI_range c
  rw [parseQ, if_neg k, parseB_in hh (by omega)]
theorem parseQ_some {l : List UInt8} {h : Int} (k : (parseQ l h).isSome = true) : ∀ c ∈ l, digI c ≠ 16 := by
  induction l generalizing h with
  | nil => simp
  | cons c l ih =>
    rw [parseQ] at k
    by_cases e : digI c = 16
    · rw [if_pos e] at k; simp at k
    · rw [if_neg e] at k
      intro x hx
      rcases List.mem_cons.1 hx with rfl | hx
      · exact e
      · exact ih k x hx
theorem print8 (h : Int) : refPrintL h = [digitsL[(h / 268435456 % 16).toNat]!, digitsL[(h / 16777216 % 16).toNat]!, digitsL[(h / 1048576 % 16).toNat]!, digitsL[(h / 65536 % 16).toNat]!, digitsL[(h / 4096 % 16).toNat]!, digitsL[(h / 256 % 16).toNat]!, digitsL[(h / 16 % 16).toNat]!, digitsL[(h / 1 % 16).toNat]!] := rfl
theorem parse_print {l : List UInt8} (h : outE l (parseG l 0) = 0) : printL (outN l (parseG l 0)) = l := by
  rw [parse_eq] at h ⊢
  rw [print_eq]
  unfold outE at h
  by_cases k : l.length = 8 ∧ (parseQ l 0).isSome = true
  · obtain ⟨k8, ks⟩ := k
    have hd := parseQ_some ks
    rw [outN, if_pos k8]
    match l, k8 with
    | [c0, c1, c2, c3, c4, c5, c6, c7], _ =>
      have h0 := hd c0 (by simp); have h1 := hd c1 (by simp); have h2 := hd c2 (by simp); have h3 := hd c3 (by simp)
      have h4 := hd c4 (by simp); have h5 := hd c5 (by simp); have h6 := hd c6 (by simp); have h7 := hd c7 (by simp)
      have r0 := digI_range c0; have r1 := digI_range c1; have r2 := digI_range c2; have r3 := digI_range c3
      have r4 := digI_range c4; have r5 := digI_range c5; have r6 := digI_range c6; have r7 := digI_range c7
      rw [parseQ_cons h0 (by omega), parseQ_cons h1 (by omega), parseQ_cons h2 (by omega), parseQ_cons h3 (by omega), parseQ_cons h4 (by omega), parseQ_cons h5 (by omega), parseQ_cons h6 (by omega), parseQ_cons h7 (by omega), parseQ, Option.getD_some, print8]
      have b0 := dig_back h0; have b1 := dig_back h1; have b2 := dig_back h2; have b3 := dig_back h3
      have b4 := dig_back h4; have b5 := dig_back h5; have b6 := dig_back h6; have b7 := dig_back h7
      generalize digI c0 = d0 at *; generalize digI c1 = d1 at *; generalize digI c2 = d2 at *; generalize digI c3 = d3 at *
      generalize digI c4 = d4 at *; generalize digI c5 = d5 at *; generalize digI c6 = d6 at *; generalize digI c7 = d7 at *
      generalize hX : 16 * (16 * (16 * (16 * (16 * (16 * (16 * (16 * 0 + d0) + d1) + d2) + d3) + d4) + d5) + d6) + d7 = X
      have q0 : X / 268435456 % 16 = d0 := by omega
      have q1 : X / 16777216 % 16 = d1 := by omega
      have q2 : X / 1048576 % 16 = d2 := by omega
      have q3 : X / 65536 % 16 = d3 := by omega
      have q4 : X / 4096 % 16 = d4 := by omega
      have q5 : X / 256 % 16 = d5 := by omega
      have q6 : X / 16 % 16 = d6 := by omega
      have q7 : X / 1 % 16 = d7 := by omega
      rw [q0, q1, q2, q3, q4, q5, q6, q7, b0, b1, b2, b3, b4, b5, b6, b7]
  · rw [if_neg k] at h; exact absurd h (by decide)
theorem parseQ_dig {e : Int} {l : List UInt8} {h : Int} (he : 0 ≤ e ∧ e < 16) (hh : 0 ≤ h ∧ h < 268435456) : parseQ (digitsL[e.toNat]! :: l) h = parseQ l (16 * h + e) := by
  have a := dig_at he
  rw [parseQ_cons (by omega) hh, a]
theorem parse8 {d0 d1 d2 d3 d4 d5 d6 d7 : Int} (h0 : 0 ≤ d0 ∧ d0 < 16) (h1 : 0 ≤ d1 ∧ d1 < 16) (h2 : 0 ≤ d2 ∧ d2 < 16) (h3 : 0 ≤ d3 ∧ d3 < 16) (h4 : 0 ≤ d4 ∧ d4 < 16) (h5 : 0 ≤ d5 ∧ d5 < 16) (h6 : 0 ≤ d6 ∧ d6 < 16) (h7 : 0 ≤ d7 ∧ d7 < 16) :
    parseQ [digitsL[d0.toNat]!, digitsL[d1.toNat]!, digitsL[d2.toNat]!, digitsL[d3.toNat]!, digitsL[d4.toNat]!, digitsL[d5.toNat]!, digitsL[d6.toNat]!, digitsL[d7.toNat]!] 0 = some (16 * (16 * (16 * (16 * (16 * (16 * (16 * (16 * 0 + d0) + d1) + d2) + d3) + d4) + d5) + d6) + d7) := by
  rw [parseQ_dig h0 (by omega), parseQ_dig h1 (by omega), parseQ_dig h2 (by omega), parseQ_dig h3 (by omega), parseQ_dig h4 (by omega), parseQ_dig h5 (by omega), parseQ_dig h6 (by omega), parseQ_dig h7 (by omega), parseQ]
theorem print_parse {h : Int} (hr : R32 h) : parseG (printL h) 0 = some h := by
  obtain ⟨h0, h1⟩ := hr
  rw [parse_eq, print_eq, print8, parse8 (by omega) (by omega) (by omega) (by omega) (by omega) (by omega) (by omega) (by omega)]
  congr 1; omega
theorem pp1 {h : Int} (hr : R32 h) : outE (printL h) (parseG (printL h) 0) = 0 := by
  rw [print_parse hr, outE, if_pos ⟨printL_len h, rfl⟩]
theorem pp2 {h : Int} (hr : R32 h) : outN (printL h) (parseG (printL h) 0) = h := by
  rw [print_parse hr, outN, if_pos (printL_len h)]; rfl
end Go.D02
namespace Go.D02
theorem pp_str {s : ByteArray} (h : outE s.data.toList (parseG s.data.toList 0) = 0) : (⟨(printL (outN s.data.toList (parseG s.data.toList 0))).toArray⟩ : ByteArray).toList = s.toList := by
  rw [bytes_toList, parse_print h, Go.ByteArray.toList_eq]
end Go.D02
