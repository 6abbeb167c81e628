/-
  Checksums: sums, bursts.
-/
import Derived.Test.YtemclhhlafjohaaN02
namespace Go.D02
open Go Go.RowKit Go.G

/-! ### Sums -/
theorem xor8 (a b : UInt8) : bits .xor .u8 ((a.toNat : Nat) : Int) ((b.toNat : Nat) : Int) = (((a ^^^ b).toNat : Nat) : Int) := by
  rw [xor_u8 _ _ a.toNat_lt b.toNat_lt, UInt8.toNat_xor]
def sumL (a b c : List UInt8) (n k : Nat) : List UInt8 := (List.range n).map fun i => if i < k then (a[i]! ^^^ b[i]!) ^^^ c[i]! else 0
theorem sumL_len (a b c : List UInt8) (n k : Nat) : (sumL a b c n k).length = n := by simp [sumL]
theorem sumL_zero (a b c : List UInt8) (n : Nat) : sumL a b c n 0 = List.replicate n 0 := by
  apply List.ext_getElem
  · simp [sumL]
  · intro i h1 h2; simp [sumL]
theorem sumL_set (a b c : List UInt8) {n k : Nat} : (sumL a b c n k).set k ((a[k]! ^^^ b[k]!) ^^^ c[k]!) = sumL a b c n (k + 1) := by
  apply List.ext_getElem
  · simp [sumL]
  · intro i h1 h2
    simp only [sumL, List.length_map, List.length_range] at h2
    rw [List.getElem_set]
    simp only [sumL, List.getElem_map, List.getElem_range]
    rcases Nat.lt_trichotomy k i with e | e | e
    · rw [if_neg (by omega), if_neg (by omega), if_neg (by omega)]
    · subst e; rw [if_pos rfl, if_pos (by omega)]
    · rw [if_neg (by omega), if_pos (by omega), if_pos (by omega)]
def zx (a b : List UInt8) : List UInt8 := List.zipWith (· ^^^ ·) a b
theorem regN_zx : ∀ (a b : List UInt8) (x y : Nat), a.length = b.length → regN (x ^^^ y) (zx a b) = regN x a ^^^ regN y b
  | [], [], _, _, _ => rfl
  | [], _ :: _, _, _, h => by simp at h
  | _ :: _, [], _, _, h => by simp at h
  | u :: a, v :: b, x, y, h => by
    show regN (powN 8 ((x ^^^ y) ^^^ (u ^^^ v).toNat)) (zx a b) = regN (powN 8 (x ^^^ u.toNat)) a ^^^ regN (powN 8 (y ^^^ v.toNat)) b
    have e : (x ^^^ y) ^^^ (u ^^^ v).toNat = (x ^^^ u.toNat) ^^^ (y ^^^ v.toNat) := by
      rw [UInt8.toNat_xor, Nat.xor_assoc, Nat.xor_assoc, ← Nat.xor_assoc y, Nat.xor_comm y, Nat.xor_assoc]
    rw [e, powN_xor, regN_zx a b _ _ (by simpa using h)]
theorem sumL_all {a b c : List UInt8} {n : Nat} (ha : n ≤ a.length) (hb : n ≤ b.length) (hc : n ≤ c.length) : sumL a b c n n = zx (zx (a.take n) (b.take n)) (c.take n) := by
  apply List.ext_getElem
  · simp [sumL, zx]; omega
  · intro i h1 h2
    simp only [sumL, List.length_map, List.length_range] at h1
    simp only [sumL, zx, List.getElem_map, List.getElem_range, List.getElem_zipWith, List.getElem_take, if_pos h1]
    rw [getElem!_pos a i (by omega), getElem!_pos b i (by omega), getElem!_pos c i (by omega)]
theorem linear {a b c : List UInt8} {n : Nat} (ha : n ≤ a.length) (hb : n ≤ b.length) (hc : n ≤ c.length) :
    moreI 0 (sumL a b c n n) = bits .xor .u32 (bits .xor .u32 (moreI 0 (a.take n)) (moreI 0 (b.take n))) (moreI 0 (c.take n)) := by
  have hl := fun l : List UInt8 => moreN_lt (h := 0) (by omega) l
  rw [sumL_all ha hb hc, show (0 : Int) = ((0 : Nat) : Int) from rfl, moreI_nat (by omega), moreI_nat (by omega), moreI_nat (by omega), moreI_nat (by omega), x32 (hl _) (hl _), x32 (xlt (hl _) (hl _)) (hl _)]
  congr 1
  have e : comN 0 = (comN 0 ^^^ comN 0) ^^^ comN 0 := by rw [Nat.xor_self, Nat.zero_xor]
  unfold moreN
  conv => lhs; rw [e, regN_zx _ _ _ _ (by simp [zx]; omega), regN_zx _ _ _ _ (by simp; omega)]
  generalize regN (comN 0) (a.take n) = A
  generalize regN (comN 0) (b.take n) = B
  generalize regN (comN 0) (c.take n) = C
  unfold comN
  generalize 4294967295 = F
  rw [Nat.xor_comm F A, x4' A F B, Nat.xor_comm F C, Nat.xor_comm F, Nat.xor_assoc (A ^^^ B)]
where
  x4' (A F B : Nat) : (A ^^^ F) ^^^ (F ^^^ B) = A ^^^ B := by rw [Nat.xor_assoc, ← Nat.xor_assoc F F, Nat.xor_self, Nat.zero_xor]

/-! ### Bursts -/
def numN : List UInt8 → Nat
  | [] => 0
  | b :: l => b.toNat ^^^ 2 ^ 8 * numN l
theorem regN_num (l : List UInt8) (r : Nat) : regN r l = powN (8 * l.length) (r ^^^ numN l) := by
  induction l generalizing r with
  | nil => simp [regN, numN, powN]
  | cons b l ih =>
    show regN (powN 8 (r ^^^ b.toNat)) l = _
    have e : 8 * (b :: l).length = 8 * l.length + 8 := by simp; omega
    rw [ih, e, powN_add, numN, ← Nat.xor_assoc, powN_xor 8 _ (2 ^ 8 * _), powN_two]
theorem mul_xor (i x y : Nat) : 2 ^ i * (x ^^^ y) = 2 ^ i * x ^^^ 2 ^ i * y := by
  apply Nat.eq_of_testBit_eq; intro k
  simp only [Nat.testBit_xor, Nat.testBit_two_pow_mul]
  by_cases h : i ≤ k <;> simp [h]
theorem numN_set : ∀ (l : List UInt8) (i : Nat) (c : UInt8), i < l.length → numN (l.set i (l[i]! ^^^ c)) = numN l ^^^ 2 ^ (8 * i) * c.toNat
  | [], i, c, h => by simp at h
  | b :: l, 0, c, _ => by
    simp only [List.set_cons_zero, numN, List.getElem!_cons_zero, UInt8.toNat_xor, Nat.mul_zero, Nat.pow_zero, Nat.one_mul]
    rw [Nat.xor_assoc, Nat.xor_comm c.toNat, ← Nat.xor_assoc]
  | b :: l, i + 1, c, h => by
    simp only [List.set_cons_succ, numN, List.getElem!_cons_succ]
    rw [numN_set l i c (by simpa using h), mul_xor, ← Nat.xor_assoc, ← Nat.mul_assoc, ← Nat.pow_add]
    congr 3
    omega
def bit8 (j : Nat) : UInt8 := UInt8.ofNat (2 ^ j)
theorem bit8_nat {j : Nat} (h : j < 8) : (bit8 j).toNat = 2 ^ j := by
  have : ∀ i : Fin 8, (bit8 i.val).toNat = 2 ^ i.val := by decide
  exact this ⟨j, h⟩
theorem shl8 {j : Nat} {x : Int} (hx : x = j) (h : j < 8) : IntKind.u8.wrap (1 * 2 ^ min x.toNat IntKind.u8.bits) = ((bit8 j).toNat : Nat) := by
  subst hx
  rw [bit8_nat h, Int.toNat_natCast, Nat.min_eq_left (show j ≤ IntKind.u8.bits by simp [IntKind.bits]; omega), Int.one_mul]
  have : ∀ i : Fin 8, IntKind.u8.wrap (2 ^ i.val) = ((2 ^ i.val : Nat) : Int) := by decide
  exact this ⟨j, h⟩
/-- One bit is changed. -/
theorem flip_num {s cur : List UInt8} {f k d : Nat} (h : numN cur = numN s ^^^ 2 ^ f * d) (hi : (f + k) / 8 < cur.length) :
    numN (cur.set ((f + k) / 8) (cur[(f + k) / 8]! ^^^ bit8 ((f + k) % 8))) = numN s ^^^ 2 ^ f * (d ^^^ 2 ^ k) := by
  rw [numN_set _ _ _ hi, bit8_nat (by omega), h, mul_xor, ← Nat.pow_add, ← Nat.pow_add, Nat.xor_assoc]
  congr 3
  omega
theorem flip_ne {d k : Nat} (h : d < 2 ^ k) : d ^^^ 2 ^ k ≠ 0 := by
  intro e
  have : d = 2 ^ k := by
    have := congrArg (· ^^^ 2 ^ k) e
    simpa [Nat.xor_assoc] using this
  omega
theorem flip_lt {d k : Nat} (h : d < 2 ^ k) : d ^^^ 2 ^ k < 2 ^ (k + 1) :=
  Nat.xor_lt_two_pow (Nat.lt_trans h (Nat.pow_lt_pow_right (by decide) (by omega))) (Nat.pow_lt_pow_right (by decide) (by omega))
theorem burst {s cur : List UInt8} {f k d : Nat} (h : numN cur = numN s ^^^ 2 ^ f * d) (hl : cur.length = s.length) (hf : f < 8 * s.length) (hd : d < 2 ^ k) (hk : k ≤ 32) (h0 : d ≠ 0) : moreI 0 cur ≠ moreI 0 s := by
  rw [show (0 : Int) = ((0 : Nat) : Int) from rfl, moreI_nat (by omega), moreI_nat (by omega)]
  intro e
  have e1 : moreN 0 cur = moreN 0 s := by omega
  have e2 : regN (comN 0) cur = regN (comN 0) s := by
    have := congrArg comN e1
    rwa [moreN, moreN, comN_comN, comN_comN] at this
  rw [regN_num, regN_num, hl, h, ← Nat.xor_assoc, powN_xor] at e2
  have e3 : powN (8 * s.length) (2 ^ f * d) = 0 := by
    generalize powN (8 * s.length) (comN 0 ^^^ numN s) = A at *
    have := congrArg (A ^^^ ·) e2
    simpa only [← Nat.xor_assoc, Nat.xor_self, Nat.zero_xor] using this
  have e4 : 8 * s.length = (8 * s.length - f) + f := by omega
  rw [e4, powN_add, powN_two] at e3
  have hd32 : d < 2 ^ 32 := Nat.lt_of_lt_of_le hd (Nat.pow_le_pow_right (by decide) hk)
  exact powN_pos (by omega) h0 _ e3
theorem numN_tail {c : Nat} (h : c < 4294967296) : numN (tailL (c : Int)) = c := by
  have b : ∀ n : Nat, (UInt8.ofNat (n % 256)).toNat = n % 256 := fun n => by rw [UInt8.toNat_ofNat']; omega
  have e0 : (((c : Int) % 256)).toNat = c % 256 := by omega
  have e1 : (((c : Int) / 256 % 256)).toNat = c / 256 % 256 := by omega
  have e2 : (((c : Int) / 65536 % 256)).toNat = c / 256 / 256 % 256 := by omega
  have e3 : (((c : Int) / 16777216 % 256)).toNat = c / 256 / 256 / 256 % 256 := by omega
  simp only [tailL, numN, e0, e1, e2, e3, b, Nat.mul_zero, Nat.xor_zero]
  have q3 : c / 256 / 256 / 256 % 256 = c / 256 / 256 / 256 := by omega
  rw [q3, ← split8 (c / 256 / 256), ← split8 (c / 256), ← split8 c]
theorem xcom (a : Nat) : a ^^^ comN a = comN 0 := by
  rw [comN, comN, ← Nat.xor_assoc, Nat.xor_comm a, Nat.xor_assoc, Nat.xor_self]
theorem residue (p : List UInt8) : moreI 0 (p ++ tailL (moreI 0 p)) = ((comN (powN 32 (comN 0)) : Nat) : Int) := by
  rw [show (0 : Int) = ((0 : Nat) : Int) from rfl, moreI_nat (h := 0) (by omega) p, moreI_nat (h := 0) (by omega)]
  congr 1
  conv => lhs; rw [moreN, regN_append, regN_num (tailL _), tailL_len, numN_tail (moreN_lt (by omega) _)]
  rw [moreN, xcom]
theorem burst_open {p cur s : List UInt8} (hs : s = p ++ tailL (moreI 0 p)) (h : moreI 0 cur ≠ moreI 0 s) (h4 : ¬ cur.length < 4) : openE (moreI 0) cur = 6 := by
  refine openE_6 h4 fun k => h ?_
  have := (seal_iff h4).2 k
  rw [← this, residue, hs, residue]
theorem burst_len {g : List UInt8 → Int} {l : List UInt8} (h : openE g l = 6) : (openL g l).length = 0 := by
  rw [openL, if_neg (by rw [h]; decide)]; rfl
end Go.D02
