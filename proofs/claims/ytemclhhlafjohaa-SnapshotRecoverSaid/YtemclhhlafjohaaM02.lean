/-
  Checksums, as functions on numbers and lists: what the walks compute.
-/
import Derived.Test.YtemclhhlafjohaaGLast
import Derived.Lib.Bytealg
namespace Go.D02
open Go Go.RowKit Go.G

theorem take_snoc' {α : Type} [Inhabited α] {l : List α} {k : Nat} (h : k < l.length) : l.take (k + 1) = l.take k ++ [l[k]!] := by
  rw [List.take_succ_eq_append_getElem h, getElem!_pos l k h]
/-- k cells of n are filled. -/
def pre (f : Nat → Value) (z : Value) (n k : Nat) : List Value := (List.range n).map fun i => if i < k then f i else z
theorem pre_len (f : Nat → Value) (z : Value) (n k : Nat) : (pre f z n k).length = n := by simp [pre]
theorem pre_one (f : Nat → Int) (a : Int) (n k : Nat) : cells1 (pre (fun i => .int .u32 (f i)) (.int .u32 a) n k) = true := by
  simp only [cells1, pre, List.all_eq_true, List.mem_map]
  rintro x ⟨i, _, rfl⟩
  split <;> rfl
theorem pre_zero (f : Nat → Value) (z : Value) (n : Nat) : pre f z n 0 = List.replicate n z := by
  apply List.ext_getElem
  · simp [pre]
  · intro i h1 h2; simp [pre]
theorem pre_all (f : Nat → Value) (z : Value) (n : Nat) : pre f z n n = (List.range n).map f := by
  apply List.ext_getElem
  · simp [pre]
  · intro i h1 h2
    simp [pre] at h1 ⊢
    omega
theorem pre_step {f : Nat → Value} {z : Value} {n k : Nat} (h : k < n) : (pre f z n k).take (0 + k * 1) ++ [f k] ++ (pre f z n k).drop (0 + k * 1 + [f k].length) = pre f z n (k + 1) := by
  apply List.ext_getElem
  · simp [pre]; omega
  · intro i h1 h2
    simp [pre] at h2 ⊢
    rw [List.getElem_append]
    split
    · rename_i h3
      simp at h3
      simp [show i < k by omega, show i < k + 1 by omega]
    · rename_i h3
      simp at h3
      rcases Nat.lt_or_ge k i with h4 | h4
      · obtain ⟨m, hm⟩ : ∃ m, i - min k n = m + 1 := ⟨i - min k n - 1, by omega⟩
        simp [hm, show ¬ (i < k + 1) by omega, show ¬ (k + 1 + m < k) by omega]
      · have : i = k := by omega
        subst this
        simp [show i - min i n = 0 by omega]

def bitI (h : Int) : Int := if bits .and .u32 h 1 = 1 then bits .xor .u32 (h / 2) 2197175160 else h / 2
def shiftedI (h b : Int) : Int := if h % 2 ≠ b then bits .xor .u32 (h / 2) 2197175160 else h / 2
def R32 (h : Int) : Prop := 0 ≤ h ∧ h ≤ 4294967295
theorem xor_R32 (a b : Int) : R32 (bits .xor .u32 a b) := ⟨bits_lo_u32 _ _ _, bits_hi_u32 _ _ _⟩
theorem bitI_R {h : Int} (r : R32 h) : R32 (bitI h) := by
  unfold bitI; split
  · exact xor_R32 _ _
  · unfold R32 at *; omega
theorem shiftedI_R {h : Int} (b : Int) (r : R32 h) : R32 (shiftedI h b) := by
  unfold shiftedI; split
  · exact xor_R32 _ _
  · unfold R32 at *; omega
def iterI (f : Int → Int) : Nat → Int → Int
  | 0, h => h
  | k + 1, h => f (iterI f k h)
theorem iter_bit_R {h : Int} (r : R32 h) : ∀ k, R32 (iterI bitI k h)
  | 0 => r
  | k + 1 => bitI_R (iter_bit_R r k)
/-- The table. -/
def tabI (i : Nat) : Int := iterI bitI 8 (i : Int)
def tabV : List Value := (List.range 256).map fun i => .int .u32 (tabI i)
theorem tabV_len : tabV.length = 256 := by simp [tabV]
theorem tabV_at {i : Nat} (h : i < 256) : tabV[i]? = some (.int .u32 (tabI i)) := by simp [tabV, h]

theorem tabV_one : cells1 tabV = true := by
  simp only [cells1, tabV, List.all_eq_true, List.mem_map]
  rintro x ⟨i, _, rfl⟩; rfl
theorem toNat_u8 (a b : Int) : (((bits .xor .u8 a b).toNat : Nat) : Int) = bits .xor .u8 a b := Int.toNat_of_nonneg (bits_lo_u8 _ _ _)
theorem lt_u8 (a b : Int) : (bits .xor .u8 a b).toNat < 256 := by have := bits_hi_u8 .xor a b; have := bits_lo_u8 .xor a b; omega
theorem tabV_pt {w : World} {g t i : Nat} (h : Blk w g t tabV) (hi : i < 256) : Pt w g (g + 1) (.pointer (some ⟨g, 0 + i * 1, none⟩)) (.int .u32 (tabI i) :: tabV.drop (i + 1)) := by
  have h1 := h.pt_1 (i := i) (by rw [tabV_len]; exact hi)
  have e : tabV[i]'(by rw [tabV_len]; exact hi) = .int .u32 (tabI i) := by simp [tabV]
  rwa [e] at h1
theorem bytes_toList (l : List UInt8) : (⟨l.toArray⟩ : ByteArray).toList = l := by
  rw [Go.ByteArray.toList_eq]
/-- j bits of a byte. -/
def byteI (r : Int) (b : Nat) : Nat → Int
  | 0 => r
  | j + 1 => shiftedI (byteI r b j) ((b : Int) / 2 ^ j % 2)
theorem byteI_R {r : Int} (b : Nat) (h : R32 r) : ∀ j, R32 (byteI r b j)
  | 0 => h
  | j + 1 => shiftedI_R _ (byteI_R b h j)
def registerI (h : Int) (l : List UInt8) : Int := l.foldl (fun r b => byteI r b.toNat 8) h
theorem registerI_snoc (h : Int) (l : List UInt8) (b : UInt8) : registerI h (l ++ [b]) = byteI (registerI h l) b.toNat 8 := by simp [registerI]
theorem registerI_R {h : Int} (r : R32 h) : ∀ l : List UInt8, R32 (registerI h l) := by
  intro l
  induction l generalizing h with
  | nil => exact r
  | cons b l ih => exact ih (byteI_R _ r 8)
def comI (h : Int) : Int := bits .xor .u32 4294967295 h
theorem comI_R (h : Int) : R32 (comI h) := xor_R32 _ _
def refMoreI (h : Int) (l : List UInt8) : Int := comI (registerI (comI h) l)

/-- One byte by the table. -/
def stepI (h : Int) (b : UInt8) : Int := bits .xor .u32 (h / 256) (tabI (bits .xor .u8 (IntKind.u8.wrap h) b.toNat).toNat)
def runI (h : Int) (l : List UInt8) : Int := l.foldl stepI h
theorem runI_snoc (h : Int) (l : List UInt8) (b : UInt8) : runI h (l ++ [b]) = stepI (runI h l) b := by simp [runI]
def moreI (h : Int) (l : List UInt8) : Int := comI (runI (comI h) l)

/-- The four bytes of a checksum. -/
def tailL (h : Int) : List UInt8 := [UInt8.ofNat (h % 256).toNat, UInt8.ofNat (h / 256 % 256).toNat, UInt8.ofNat (h / 65536 % 256).toNat, UInt8.ofNat (h / 16777216 % 256).toNat]
theorem ofNat_mod (a : Int) : (((UInt8.ofNat (a % 256).toNat).toNat : Nat) : Int) = a % 256 := by
  rw [UInt8.toNat_ofNat']
  omega
theorem u8_wrap (a : Int) : IntKind.u8.wrap a = a % 256 := IntKind.wrap_u8 a

/-- The image under a matrix. -/
def timesL : List Int → Int → Int → Int
  | [], _, out => out
  | a :: r, h, out => if 0 < h then timesL r (h / 2) (if bits .and .u32 h 1 = 1 then bits .xor .u32 out a else out) else out
theorem timesL_stop (m : List Int) {h o : Int} (hh : h ≤ 0) : timesL m h o = o := by
  cases m with
  | nil => rfl
  | cons a r => rw [timesL, if_neg (by omega)]
theorem halve {x : Int} {i : Nat} (_ : 0 ≤ x) (h : x * 2 ^ i ≤ 4294967295) : x / 2 * 2 ^ (i + 1) ≤ 4294967295 := by
  have hp : (0 : Int) ≤ 2 ^ i := Int.pow_nonneg (by decide)
  have h1 : x / 2 * 2 ≤ x := by omega
  have h2 := Int.mul_le_mul_of_nonneg_right h1 hp
  rw [Int.pow_succ, Int.mul_comm (2 ^ i) 2, ← Int.mul_assoc]
  omega
theorem halve_lt {x : Int} {i : Nat} (hi : i ≤ 32) (_ : 0 ≤ x) (h : x * 2 ^ i ≤ 4294967295) : 0 < x → i < 32 := by
  intro hx
  rcases Nat.lt_or_ge i 32 with h1 | h1
  · exact h1
  · have : i = 32 := by omega
    subst this
    omega
theorem drop_cons {m : List Int} {i : Nat} (h : i < m.length) : m.drop i = m[i]! :: m.drop (i + 1) := by
  rw [List.drop_eq_getElem_cons h, getElem!_pos m i h]
theorem timesL_step {m : List Int} {i : Nat} {x : Int} (o : Int) (h : i < m.length) (hx : 0 < x) : timesL (m.drop i) x o = timesL (m.drop (i + 1)) (x / 2) (if bits .and .u32 x 1 = 1 then bits .xor .u32 o m[i]! else o) := by
  rw [drop_cons h, timesL, if_pos hx]
theorem timesL_R : ∀ (m : List Int) (x o : Int), R32 o → (∀ a ∈ m, R32 a) → R32 (timesL m x o)
  | [], _, _, h, _ => h
  | a :: r, x, o, h, hm => by
    rw [timesL]
    split
    · exact timesL_R r _ _ (by split <;> first | exact xor_R32 _ _ | exact h) (fun b hb => hm b (by simp [hb]))
    · exact h
def mV (m : List Int) : List Value := m.map fun x => .int .u32 x
theorem mV_len (m : List Int) : (mV m).length = m.length := by simp [mV]
theorem mV_one (m : List Int) : cells1 (mV m) = true := by
  simp only [cells1, mV, List.all_eq_true, List.mem_map]
  rintro x ⟨i, _, rfl⟩; rfl
theorem mV_pt {w : World} {g t i : Nat} {m : List Int} (h : Blk w g t (mV m)) (hi : i < m.length) : Pt w g (g + 1) (.pointer (some ⟨g, 0 + i * 1, none⟩)) (.int .u32 m[i]! :: (mV m).drop (i + 1)) := by
  have h1 := h.pt_1 (i := i) (by rw [mV_len]; exact hi)
  have e : (mV m)[i]'(by rw [mV_len]; exact hi) = .int .u32 m[i]! := by rw [getElem!_pos m i hi]; simp [mV]
  rwa [e] at h1
theorem mem_get! {m : List Int} {i : Nat} (h : i < m.length) : m[i]! ∈ m := by rw [getElem!_pos m i h]; exact List.getElem_mem h
theorem map_get! {β : Type} (m : List Int) (f : Int → β) : (List.range m.length).map (fun i => f m[i]!) = m.map f := by
  apply List.ext_getElem
  · simp
  · intro i h1 h2
    simp at h1 h2
    simp [h1]
def squaredL (m : List Int) : List Int := m.map fun x => timesL m x 0
def m1 : List Int := (List.range 32).map fun i => bitI (2 ^ i)
def m8 : List Int := squaredL (squaredL (squaredL m1))
theorem squaredL_len (m : List Int) : (squaredL m).length = m.length := by simp [squaredL]
theorem squaredL_R {m : List Int} (h : ∀ a ∈ m, R32 a) : ∀ a ∈ squaredL m, R32 a := by
  intro a ha
  simp only [squaredL, List.mem_map] at ha
  obtain ⟨b, _, rfl⟩ := ha
  exact timesL_R m b 0 ⟨by decide, by decide⟩ h
theorem m1_len : m1.length = 32 := by simp [m1]
theorem pow_R {i : Nat} (h : i < 32) : R32 (2 ^ i) := by
  have : ∀ j : Fin 32, R32 (2 ^ j.val) := by unfold R32; decide
  exact this ⟨i, h⟩
theorem m1_R : ∀ a ∈ m1, R32 a := by
  intro a ha
  simp only [m1, List.mem_map, List.mem_range] at ha
  obtain ⟨i, hi, rfl⟩ := ha
  exact bitI_R (pow_R hi)
theorem shl1 {k : Nat} (hk : k < 32) : IntKind.u32.wrap (1 * 2 ^ min ((k : Int)).toNat IntKind.u32.bits) = 2 ^ k := by
  have h1 : min ((k : Int)).toNat IntKind.u32.bits = k := by simp [IntKind.bits]; omega
  rw [h1, Int.one_mul]
  exact IntWalk.u32_in _ (pow_R hk)
def sqN : Nat → List Int → List Int
  | 0, m => m
  | k + 1, m => squaredL (sqN k m)
theorem sqN_len (k : Nat) (m : List Int) : (sqN k m).length = m.length := by
  induction k with
  | zero => rfl
  | succ k ih => rw [sqN, squaredL_len, ih]
theorem sqN_R {m : List Int} (h : ∀ a ∈ m, R32 a) (k : Nat) : ∀ a ∈ sqN k m, R32 a := by
  induction k with
  | zero => exact h
  | succ k ih => exact squaredL_R ih
theorem pow_half {n : Int} {f : Nat} (_ : 0 ≤ n) (h : n < 2 ^ (f + 1)) : n / 2 < 2 ^ f := by
  rw [Int.pow_succ] at h; omega
theorem pow_pos_f {n : Int} {f : Nat} (h0 : 0 < n) (h : n < 2 ^ f) : 0 < f := by
  rcases Nat.eq_zero_or_pos f with h1 | h1
  · subst h1; simp at h; omega
  · exact h1
def joinL : Nat → List Int → Int → Int → Int
  | 0, _, x, _ => x
  | f + 1, m, x, n => if 0 < n then joinL f (squaredL m) (if bits .and .i64 n 1 = 1 then timesL m x 0 else x) (n / 2) else x
theorem joinL_step {f : Nat} {m : List Int} {x n : Int} (h : 0 < n) : joinL (f + 1) m x n = joinL f (squaredL m) (if bits .and .i64 n 1 = 1 then timesL m x 0 else x) (n / 2) := by
  rw [joinL, if_pos h]
theorem if_R32 {c : Prop} [Decidable c] {a b : Int} (h1 : R32 a) (h2 : R32 b) : R32 (if c then a else b) := by
  split <;> assumption
def joinI (x y n : Int) : Int := if n < 0 then 0 else bits .xor .u32 (joinL 64 m8 x n) y
def refJoinI (x y n : Int) : Int := if n < 0 then 0 else bits .xor .u32 (iterI (fun r => registerI r [0]) n.toNat x) y

/-- Opening, by a checksum's function. -/
def openE (g : List UInt8 → Int) (l : List UInt8) : Int := if l.length < 4 then 5 else if tailL (g (l.take (l.length - 4))) = l.drop (l.length - 4) then 0 else 6
def openL (g : List UInt8 → Int) (l : List UInt8) : List UInt8 := if openE g l = 0 then l.take (l.length - 4) else []
theorem openE_5 {g : List UInt8 → Int} {l : List UInt8} (h : l.length < 4) : openE g l = 5 := by rw [openE, if_pos h]
theorem openE_6 {g : List UInt8 → Int} {l : List UInt8} (h : ¬ l.length < 4) (k : ¬ tailL (g (l.take (l.length - 4))) = l.drop (l.length - 4)) : openE g l = 6 := by rw [openE, if_neg h, if_neg k]
theorem openE_0 {g : List UInt8 → Int} {l : List UInt8} (h : ¬ l.length < 4) (k : tailL (g (l.take (l.length - 4))) = l.drop (l.length - 4)) : openE g l = 0 := by rw [openE, if_neg h, if_pos k]
theorem seal_iff {g : List UInt8 → Int} {l : List UInt8} (_ : ¬ l.length < 4) : (l.take (l.length - 4) ++ tailL (g (l.take (l.length - 4))) = l) ↔ tailL (g (l.take (l.length - 4))) = l.drop (l.length - 4) := by
  constructor
  · intro e
    have e2 : l.take (l.length - 4) ++ l.drop (l.length - 4) = l := List.take_append_drop _ _
    exact List.append_cancel_left (e.trans e2.symm)
  · intro e; rw [e]; exact List.take_append_drop _ _
theorem iter_reg_R {h : Int} (r : R32 h) (l : List UInt8) : ∀ k, R32 (iterI (fun r => registerI r l) k h)
  | 0 => r
  | k + 1 => registerI_R (iter_reg_R r l k) l
def digitsL : List UInt8 := [48, 49, 50, 51, 52, 53, 54, 55, 56, 57, 97, 98, 99, 100, 101, 102]
def printAt (h : Int) (i : Nat) : UInt8 := digitsL[(bits .and .u32 (h / 2 ^ (28 - 4 * i)) 15).toNat]!
def printL (h : Int) : List UInt8 := (List.range 8).map (printAt h)
def refPrintAt (h : Int) (i : Nat) : UInt8 := digitsL[(h / 2 ^ (28 - 4 * i) % 16).toNat]!
def refPrintL (h : Int) : List UInt8 := (List.range 8).map (refPrintAt h)
def parseA (h d : Int) : Int := bits .or .u32 (IntKind.u32.wrap (h * 16)) (IntKind.u32.wrap d)
def parseG : List UInt8 → Int → Option Int
  | [], h => some h
  | c :: r, h => if Lib.indexByte digitsL c < 0 then none else parseG r (parseA h (Lib.indexByte digitsL c))
def parseB (h d : Int) : Int := IntKind.u32.wrap (IntKind.u32.wrap (16 * h) + d)
def digI (c : UInt8) : Int := (digitsL.idxOf c : Nat)
def parseQ : List UInt8 → Int → Option Int
  | [], h => some h
  | c :: r, h => if digI c = 16 then none else parseQ r (parseB h (digI c))
def outN (l : List UInt8) (o : Option Int) : Int := if l.length = 8 then o.getD 0 else 0
def outE (l : List UInt8) (o : Option Int) : Int := if l.length = 8 ∧ o.isSome then 0 else 7
end Go.D02
namespace Go.D02
open Go Go.RowKit Go.G
theorem ba_size (s : ByteArray) : s.data.toList.length = s.size := by rw [Array.length_toList]; rfl
theorem out_len1 {l : List UInt8} {o : Option Int} (h : l.length ≠ 8) : outN l o = 0 := by rw [outN, if_neg h]
theorem out_len2 {l : List UInt8} {o : Option Int} (h : l.length ≠ 8) : outE l o = 7 := by rw [outE, if_neg (fun k => h k.1)]
theorem out_none1 (l : List UInt8) : outN l none = 0 := by simp [outN]
theorem out_none2 (l : List UInt8) : outE l none = 7 := by simp [outE]
theorem out_some1 {l : List UInt8} {h : Int} (k : l.length = 8) : outN l (parseG [] h) = h := by simp [outN, parseG, k]
theorem out_some2 {l : List UInt8} {h : Int} (k : l.length = 8) : outE l (parseG [] h) = 0 := by simp [outE, parseG, k]
theorem out_some1' {l : List UInt8} {h : Int} (k : l.length = 8) : outN l (parseQ [] h) = h := by simp [outN, parseQ, k]
theorem out_some2' {l : List UInt8} {h : Int} (k : l.length = 8) : outE l (parseQ [] h) = 0 := by simp [outE, parseQ, k]
theorem drop_cons' {l : List UInt8} {i : Nat} (h : i < l.length) : l.drop i = l[i]! :: l.drop (i + 1) := by
  rw [List.drop_eq_getElem_cons h, getElem!_pos l i h]
theorem parseG_step {l : List UInt8} {k : Nat} {h : Int} (hk : k < l.length) (hd : ¬ Lib.indexByte digitsL l[k]! < 0) : parseG (l.drop (k + 1)) (parseA h (Lib.indexByte digitsL l[k]!)) = parseG (l.drop k) h := by
  rw [drop_cons' hk, parseG, if_neg hd]
theorem parseG_stop {l : List UInt8} {k : Nat} {h : Int} (hk : k < l.length) (hd : Lib.indexByte digitsL l[k]! < 0) : parseG (l.drop k) h = none := by
  rw [drop_cons' hk, parseG, if_pos hd]
theorem parseQ_step {l : List UInt8} {k : Nat} {h : Int} (hk : k < l.length) (hd : ¬ digI l[k]! = 16) : parseQ (l.drop (k + 1)) (parseB h (digI l[k]!)) = parseQ (l.drop k) h := by
  rw [drop_cons' hk, parseQ, if_neg hd]
theorem parseQ_stop {l : List UInt8} {k : Nat} {h : Int} (hk : k < l.length) (hd : digI l[k]! = 16) : parseQ (l.drop k) h = none := by
  rw [drop_cons' hk, parseQ, if_pos hd]
theorem digB : (⟨#[48, 49, 50, 51, 52, 53, 54, 55, 56, 57, 97, 98, 99, 100, 101, 102]⟩ : ByteArray).data.toList = digitsL := rfl
theorem nat_u8 {a b : UInt8} (h : ((a.toNat : Nat) : Int) = (b.toNat : Nat)) : a = b := UInt8.toNat_inj.1 (Int.ofNat.inj h)
theorem dig_next {k : Nat} {c : UInt8} (hk : k < 16) (h : ¬ ((digitsL[k]!.toNat : Nat) : Int) = (c.toNat : Nat)) : (digitsL.drop k).idxOf c = 1 + (digitsL.drop (k + 1)).idxOf c := by
  rw [drop_cons' (l := digitsL) hk, List.idxOf_cons]
  have : (digitsL[k]! == c) = false := by
    rw [beq_eq_false_iff_ne]; intro e; exact h (by rw [e])
  rw [this]; simp [Nat.add_comm]
theorem dig_here {k : Nat} {c : UInt8} (hk : k < 16) (h : ((digitsL[k]!.toNat : Nat) : Int) = (c.toNat : Nat)) : (digitsL.drop k).idxOf c = 0 := by
  rw [drop_cons' (l := digitsL) hk, List.idxOf_cons, nat_u8 h]; simp
theorem toNat_u32 (b : Int) (c : Int) : (((bits .and .u32 b c).toNat : Nat) : Int) = bits .and .u32 b c := Int.toNat_of_nonneg (bits_lo_u32 _ _ _)
theorem wrap_u32 (n : Int) : IntKind.u32.wrap n = n % 4294967296 := IntKind.wrap_u32 n
theorem and_nat (a b : Int) : bits .and .u32 a b = (((a % 4294967296).toNat &&& (b % 4294967296).toNat : Nat) : Int) := by
  have h1 : ∀ x : Int, (BitVec.ofInt 32 x).toNat = (x % 4294967296).toNat := fun x => by rw [BitVec.toNat_ofInt]; rfl
  show IntKind.u32.wrap ((BitVec.ofInt 32 a &&& BitVec.ofInt 32 b).toNat : Int) = _
  rw [BitVec.toNat_and, h1, h1, wrap_u32]
  have : (a % 4294967296).toNat &&& (b % 4294967296).toNat ≤ (a % 4294967296).toNat := Nat.and_le_left
  omega
theorem xor_nat (a b : Int) : bits .xor .u32 a b = (((a % 4294967296).toNat ^^^ (b % 4294967296).toNat : Nat) : Int) := by
  have h1 : ∀ x : Int, (BitVec.ofInt 32 x).toNat = (x % 4294967296).toNat := fun x => by rw [BitVec.toNat_ofInt]; rfl
  show IntKind.u32.wrap ((BitVec.ofInt 32 a ^^^ BitVec.ofInt 32 b).toNat : Int) = _
  rw [BitVec.toNat_xor, h1, h1, wrap_u32]
  have : (a % 4294967296).toNat ^^^ (b % 4294967296).toNat < 2 ^ 32 := Nat.xor_lt_two_pow (by omega) (by omega)
  omega
theorem or_nat (a b : Int) : bits .or .u32 a b = (((a % 4294967296).toNat ||| (b % 4294967296).toNat : Nat) : Int) := by
  have h1 : ∀ x : Int, (BitVec.ofInt 32 x).toNat = (x % 4294967296).toNat := fun x => by rw [BitVec.toNat_ofInt]; rfl
  show IntKind.u32.wrap ((BitVec.ofInt 32 a ||| BitVec.ofInt 32 b).toNat : Int) = _
  rw [BitVec.toNat_or, h1, h1, wrap_u32]
  have : (a % 4294967296).toNat ||| (b % 4294967296).toNat < 2 ^ 32 := Nat.or_lt_two_pow (by omega) (by omega)
  omega
theorem and15 (a : Int) : bits .and .u32 a 15 = a % 16 := by
  rw [and_nat, show ((15 : Int) % 4294967296).toNat = 2 ^ 4 - 1 from rfl, Nat.and_two_pow_sub_one_eq_mod]
  omega
theorem and15_lt (a : Int) : (bits .and .u32 a 15).toNat < 16 := by rw [and15]; omega
theorem and1 (a : Int) : bits .and .u32 a 1 = a % 2 := by
  rw [and_nat, show ((1 : Int) % 4294967296).toNat = 2 ^ 1 - 1 from rfl, Nat.and_two_pow_sub_one_eq_mod]
  omega
theorem shr_k {a : Int} {k : Nat} (hk : k < 8) : a / 2 ^ min ((28 - 4 * (k : Int))).toNat IntKind.u32.bits = a / 2 ^ (28 - 4 * k) := by
  congr 2; simp [IntKind.bits]; omega
theorem shr_k2 {a : Int} {k : Nat} (hk : k < 8) : a / 2 ^ min ((28 - 4 * (k : Int))).toNat IntKind.u32.bits = a / 2 ^ (28 - 4 * k) := shr_k hk
theorem printL_len (h : Int) : (printL h).length = 8 := by simp [printL]
theorem print_sl {w : World} {g t k : Nat} {h : Int} (hb : Blk w g t (pre (fun i => .int .u8 ((printAt h i).toNat : Nat)) (.int .u8 0) 8 k)) (hk : k = 8) : Sl encU8 w g (g + 1) (.slice (some ⟨g, 0, none⟩) 8 8) (printL h) := by
  subst hk
  rw [pre_all] at hb
  have e : encU8.all (printL h) = (List.range 8).map (fun i => Value.int .u8 ((printAt h i).toNat : Nat)) := by
    rw [encU8_all, printL, List.map_map]; rfl
  rw [← e] at hb
  have := Blk.sl_arr hb (by rw [printL_len]; decide)
  rwa [printL_len] at this
theorem rp_ex (h : Int) (k : Nat) : Value.string ((⟨#[48, 49, 50, 51, 52, 53, 54, 55, 56, 57, 97, 98, 99, 100, 101, 102]⟩ : ByteArray).extract (h / 2 ^ (28 - 4 * k) % 16).toNat ((h / 2 ^ (28 - 4 * k) % 16).toNat + 1)) = .string ⟨#[refPrintAt h k]⟩ := by
  rw [refPrintAt]
  have : ∀ j : Fin 16, (⟨#[48, 49, 50, 51, 52, 53, 54, 55, 56, 57, 97, 98, 99, 100, 101, 102]⟩ : ByteArray).extract j.val (j.val + 1) = ⟨#[digitsL[j.val]!]⟩ := by decide
  have hlt : (h / 2 ^ (28 - 4 * k) % 16).toNat < 16 := by omega
  exact congrArg Value.string (this ⟨_, hlt⟩)
theorem rp_next (h : Int) (k : Nat) : Value.string ((⟨((List.range k).map (refPrintAt h)).toArray⟩ : ByteArray) ++ ⟨#[refPrintAt h k]⟩) = .string ⟨((List.range (k + 1)).map (refPrintAt h)).toArray⟩ := by
  congr 1
  rw [List.range_succ, List.map_append]
  apply ByteArray.ext
  simp
end Go.D02
