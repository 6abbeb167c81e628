/-
  Numbers as bytes: what is written is read again, and nothing else.
-/
import Derived.Test.YtemclhhlafjohaaP20
namespace Go.D21
open Go Go.RowKit Go.G Go.D02 Go.D20
abbrev Bs := List UInt8
/-! ### Groups of seven bits -/
def val : Bs → Nat := fun l => l.foldl (fun u b => 128 * u + b.toNat % 128) 0
theorem val_snoc (l : Bs) (b : UInt8) : val (l ++ [b]) = 128 * val l + b.toNat % 128 := by simp [val]
theorem val_from (l : Bs) : ∀ u : Nat, l.foldl (fun u b => 128 * u + b.toNat % 128) u = u * 128 ^ l.length + val l := by
  induction l with
  | nil => intro u; simp [val]
  | cons b l ih =>
    intro u
    have h2 : val (b :: l) = (128 * 0 + b.toNat % 128) * 128 ^ l.length + val l := by
      show l.foldl _ _ = _
      rw [ih]
    rw [List.foldl_cons, ih, h2, List.length_cons, Nat.pow_succ, Nat.add_mul, Nat.mul_zero, Nat.zero_add, ← Nat.add_assoc]
    congr 2
    rw [Nat.mul_comm 128 u, Nat.mul_assoc, Nat.mul_comm 128]
theorem val_cons (b : UInt8) (l : Bs) : val (b :: l) = b.toNat % 128 * 128 ^ l.length + val l := by
  show l.foldl _ _ = _
  rw [val_from]; simp
theorem val_lt : ∀ l : Bs, val l < 128 ^ l.length
  | [] => by decide
  | b :: l => by
    have := val_lt l
    have h : b.toNat % 128 < 128 := Nat.mod_lt _ (by decide)
    rw [val_cons, List.length_cons, Nat.pow_succ]
    have h2 : b.toNat % 128 * 128 ^ l.length ≤ 127 * 128 ^ l.length := Nat.mul_le_mul_right _ (by omega)
    omega
theorem val_take {l : Bs} {k : Nat} (h : k < l.length) : val (l.take (k + 1)) = 128 * val (l.take k) + l[k]!.toNat % 128 := by
  rw [show l.take (k + 1) = l.take k ++ [l[k]!] by rw [getElem!_pos l k h]; exact (List.take_append_getElem h).symm, val_snoc]
def encF : Nat → Nat → Bs
  | 0, _ => []
  | f + 1, u => if u = 0 then [] else encF f (u / 128) ++ [UInt8.ofNat (128 + u % 128)]
theorem ofNat_hi (u : Nat) : (UInt8.ofNat (128 + u % 128)).toNat = 128 + u % 128 := by
  have : u % 128 < 128 := Nat.mod_lt _ (by decide)
  rw [UInt8.toNat_ofNat', Nat.mod_eq_of_lt (by omega)]
theorem encF_ok : ∀ (f v : Nat), v < 128 ^ f → (∀ b ∈ encF f v, 128 ≤ b.toNat) ∧ val (encF f v) = v ∧ (v ≠ 0 → ∃ c r, encF f v = c :: r ∧ c.toNat ≠ 128) ∧ ∀ k, v < 128 ^ k → (encF f v).length ≤ k
  | 0, v, h => by
    have : v = 0 := by simpa using h
    subst this
    exact ⟨fun b hb => (by cases hb), rfl, fun h => absurd rfl h, fun k _ => Nat.zero_le _⟩
  | f + 1, v, h => by
    by_cases h0 : v = 0
    · subst h0
      have e : encF (f + 1) 0 = [] := by rw [encF, if_pos rfl]
      rw [e]
      exact ⟨fun b hb => (by cases hb), rfl, fun h => absurd rfl h, fun k _ => Nat.zero_le _⟩
    · rw [encF, if_neg h0]
      have hv : v / 128 < 128 ^ f := Nat.div_lt_of_lt_mul (by rw [Nat.pow_succ, Nat.mul_comm] at h; exact h)
      obtain ⟨a1, a2, a3, a4⟩ := encF_ok f (v / 128) hv
      refine ⟨fun b hb => ?_, ?_, fun _ => ?_, fun k hk => ?_⟩
      · rcases List.mem_append.1 hb with q | q
        · exact a1 b q
        · rw [List.mem_singleton.1 q, ofNat_hi]; omega
      · rw [val_snoc, a2, ofNat_hi]; omega
      · by_cases hq : v / 128 = 0
        · rw [hq]
          have e : encF f 0 = [] := by cases f with
            | zero => rfl
            | succ f => rw [encF, if_pos rfl]
          rw [e]
          exact ⟨_, [], rfl, by rw [ofNat_hi]; omega⟩
        · obtain ⟨c, r, e, hc⟩ := a3 hq
          rw [e]
          exact ⟨c, r ++ [_], rfl, hc⟩
      · rw [List.length_append, List.length_singleton]
        cases k with
        | zero => simp at hk; omega
        | succ k =>
          have := a4 k (Nat.div_lt_of_lt_mul (by rw [Nat.pow_succ, Nat.mul_comm] at hk; exact hk))
          omega
theorem encF_val : ∀ (f : Nat) (l : Bs), l.length ≤ f → (∀ b ∈ l, 128 ≤ b.toNat) → (∀ c r, l = c :: r → c.toNat ≠ 128) → encF f (val l) = l := by
  intro f
  induction f with
  | zero =>
    intro l hl _ _
    have e := List.eq_nil_of_length_eq_zero (Nat.le_zero.1 hl)
    subst e; rfl
  | succ f ih =>
    intro l hl hb hc
    by_cases h0 : l = []
    · subst h0; show encF (f + 1) 0 = []; rw [encF, if_pos rfl]
    · obtain ⟨q, b, rfl⟩ : ∃ q b, l = q ++ [b] := ⟨l.dropLast, l.getLast h0, (List.dropLast_concat_getLast h0).symm⟩
      rw [List.length_append, List.length_singleton] at hl
      have hbb := hb b (by simp)
      have hb2 := b.toNat_lt
      have hpos : val (q ++ [b]) ≠ 0 := by
        cases q with
        | nil =>
          have := hc b [] rfl
          rw [val_snoc]; show 128 * 0 + _ ≠ 0; omega
        | cons c r =>
          have h1 := hc c (r ++ [b]) rfl
          have h2 := hb c (by simp)
          have h3 := c.toNat_lt
          have h4 : 0 < 128 ^ r.length := Nat.pow_pos (by decide)
          have h5 : 1 * 128 ^ r.length ≤ c.toNat % 128 * 128 ^ r.length := Nat.mul_le_mul_right _ (by omega)
          have h6 := val_cons c r
          rw [val_snoc]; omega
      rw [encF, if_neg hpos, val_snoc]
      have e1 : (128 * val q + b.toNat % 128) / 128 = val q := by omega
      have e2 : 128 + (128 * val q + b.toNat % 128) % 128 = b.toNat := by omega
      rw [e1, e2, ih q (by omega) (fun x hx => hb x (by simp [hx])) (fun c r e => hc c (r ++ [b]) (by rw [e]; rfl))]
      congr 1
      rw [UInt8.ofNat_toNat]
/-! ### Integers -/
def foldN (n : Int) : Nat := if 0 ≤ n then 2 * n.toNat else 2 * (-(n + 1)).toNat + 1
def unfI (u : Nat) : Int := if u % 2 = 0 then (u / 2 : Nat) else -((u / 2 : Nat) : Int) - 1
theorem unf_fold (n : Int) : unfI (foldN n) = n := by
  unfold unfI foldN
  split <;> split <;> omega
theorem fold_unf (u : Nat) : foldN (unfI u) = u := by
  unfold unfI foldN
  split <;> split <;> omega
theorem foldN_lt {n : Int} (h : -9223372036854775808 ≤ n ∧ n ≤ 9223372036854775807) : foldN n < 18446744073709551616 := by
  unfold foldN
  split <;> omega
theorem unfI_in {u : Nat} (h : u < 18446744073709551616) : -9223372036854775808 ≤ unfI u ∧ unfI u ≤ 9223372036854775807 := by
  unfold unfI
  split <;> omega
def encI (n : Int) : Bs := encF 9 (foldN n / 128) ++ [UInt8.ofNat (foldN n % 128)]
theorem ofNat_lo (u : Nat) : (UInt8.ofNat (u % 128)).toNat = u % 128 := by
  have : u % 128 < 128 := Nat.mod_lt _ (by decide)
  rw [UInt8.toNat_ofNat', Nat.mod_eq_of_lt (by omega)]
/-- How many bytes go on. -/
def more : Bs → Nat
  | [] => 0
  | b :: r => if 128 ≤ b.toNat then more r + 1 else 0
theorem more_le : ∀ l : Bs, more l ≤ l.length
  | [] => Nat.le_refl _
  | b :: r => by
    have := more_le r
    rw [more, List.length_cons]; split <;> omega
theorem more_lt : ∀ {l : Bs} {j : Nat}, j < more l → 128 ≤ l[j]!.toNat ∧ j < l.length
  | [], j, h => by simp [more] at h
  | b :: r, 0, h => by
    rw [more] at h
    split at h
    · rename_i hb; exact ⟨hb, by simp⟩
    · omega
  | b :: r, j + 1, h => by
    rw [more] at h
    split at h
    · obtain ⟨q1, q2⟩ := more_lt (l := r) (j := j) (by omega)
      rw [List.getElem!_cons_succ, List.length_cons]
      exact ⟨q1, by omega⟩
    · omega
theorem more_at : ∀ {l : Bs}, more l < l.length → l[more l]!.toNat < 128
  | [], h => by simp [more] at h
  | b :: r, h => by
    rw [more] at h ⊢
    split at h
    · rename_i hb
      rw [if_pos hb, List.getElem!_cons_succ]
      rw [List.length_cons] at h
      exact more_at (by omega)
    · rename_i hb
      rw [if_neg hb]
      show b.toNat < 128
      omega
theorem more_eq {l : Bs} {j : Nat} (hj : j ≤ l.length) (h : ∀ i, i < j → 128 ≤ l[i]!.toNat) (he : j < l.length → l[j]!.toNat < 128) : more l = j := by
  rcases Nat.lt_trichotomy (more l) j with q | q | q
  · have h1 := h _ q
    have h2 := more_at (l := l) (by omega)
    omega
  · exact q
  · obtain ⟨a, b⟩ := more_lt q
    have := he b
    omega
/-- What stands at the beginning: a number, and how many bytes it takes. -/
def grpOk (l : Bs) : Prop := more l < l.length ∧ more l ≤ 9 ∧ (more l = 9 → l[0]!.toNat ≤ 129)
def grpGo (l : Bs) : Prop := grpOk l ∧ (more l = 0 ∨ l[0]!.toNat ≠ 128)
instance (l : Bs) : Decidable (grpOk l) := by unfold grpOk; infer_instance
instance (l : Bs) : Decidable (grpGo l) := by unfold grpGo; infer_instance
def grpN (l : Bs) : Int := unfI (val (l.take (more l + 1)))
def grp (l : Bs) : Option (Int × Nat) := if grpGo l then some (grpN l, more l + 1) else none
theorem grp_sm {l : Bs} (h : grpOk l) : val (l.take (more l + 1)) < 18446744073709551616 := by
  obtain ⟨h1, h2, h3⟩ := h
  have h4 := val_lt (l.take (more l + 1))
  have hl : (l.take (more l + 1)).length = more l + 1 := by rw [List.length_take]; omega
  rw [hl] at h4
  by_cases h9 : more l = 9
  · have h5 := h3 h9
    match l, h1, h9 with
    | c :: r, h1, h9 =>
      rw [h9] at hl ⊢
      have e : (c :: r).take 10 = c :: r.take 9 := rfl
      have h6 : 128 ≤ (c :: r)[0]!.toNat := (more_lt (l := c :: r) (j := 0) (by omega)).1
      have h7 : (c :: r)[0]! = c := rfl
      rw [h7] at h5 h6
      have h8 := val_lt (r.take 9)
      have h10 : (r.take 9).length = 9 := by rw [e, List.length_cons] at hl; omega
      show val ((c :: r).take 10) < _
      rw [e, val_cons, h10]
      rw [h10] at h8
      have h11 : c.toNat % 128 * 128 ^ 9 ≤ 1 * 128 ^ 9 := Nat.mul_le_mul_right _ (by omega)
      have h12 : (128 : Nat) ^ 9 = 9223372036854775808 := by decide
      omega
  · have h5 : (128 : Nat) ^ (more l + 1) ≤ 128 ^ 9 := Nat.pow_le_pow_right (by decide) (by omega)
    have h12 : (128 : Nat) ^ 9 = 9223372036854775808 := by decide
    omega
theorem grp_some {l : Bs} (h : grpGo l) : l.take (more l + 1) = encI (grpN l) ∧ -9223372036854775808 ≤ grpN l ∧ grpN l ≤ 9223372036854775807 := by
  have hs := grp_sm h.1
  refine ⟨?_, unfI_in hs⟩
  obtain ⟨⟨h1, h2, h3⟩, h4⟩ := h
  have hb : l[more l]!.toNat < 128 := more_at h1
  have ht : l.take (more l + 1) = l.take (more l) ++ [l[more l]!] := by rw [getElem!_pos l _ h1]; exact (List.take_append_getElem h1).symm
  have hval : val (l.take (more l + 1)) = 128 * val (l.take (more l)) + l[more l]!.toNat % 128 := val_take h1
  unfold encI grpN
  rw [fold_unf, hval]
  have e1 : (128 * val (l.take (more l)) + l[more l]!.toNat % 128) / 128 = val (l.take (more l)) := by omega
  have e2 : (128 * val (l.take (more l)) + l[more l]!.toNat % 128) % 128 = l[more l]!.toNat := by omega
  rw [e1, e2, encF_val 9 _ (by rw [List.length_take]; omega) (fun b hb => ?_) (fun c r e => ?_), ht, UInt8.ofNat_toNat]
  · obtain ⟨i, hi, rfl⟩ := List.getElem_of_mem hb
    rw [List.length_take] at hi
    rw [List.getElem_take, ← getElem!_pos l i (by omega)]
    exact (more_lt (by omega)).1
  · have hm : 0 < more l := by
      rcases Nat.eq_zero_or_pos (more l) with q | q
      · rw [q] at e; cases e
      · exact q
    have hc : l[0]! = c := by
      match l, h1, e with
      | a :: l', h1, e =>
        obtain ⟨m, hm'⟩ : ∃ m, more (a :: l') = m + 1 := ⟨more (a :: l') - 1, by omega⟩
        rw [hm', List.take_succ_cons] at e
        cases e; rfl
    rw [← hc]
    exact h4.resolve_left (by omega)
theorem grp_enc {n : Int} (h : -9223372036854775808 ≤ n ∧ n ≤ 9223372036854775807) (r : Bs) : grpGo (encI n ++ r) ∧ grpN (encI n ++ r) = n ∧ more (encI n ++ r) + 1 = (encI n).length := by
  have hf := foldN_lt h
  have hv : foldN n / 128 < 128 ^ 9 := by
    have : (128 : Nat) ^ 9 = 9223372036854775808 := by decide
    omega
  obtain ⟨a1, a2, a3, a4⟩ := encF_ok 9 (foldN n / 128) hv
  have hl9 : (encF 9 (foldN n / 128)).length ≤ 9 := a4 9 (by
    have : (128 : Nat) ^ 9 = 9223372036854775808 := by decide
    omega)
  have e : encI n ++ r = encF 9 (foldN n / 128) ++ (UInt8.ofNat (foldN n % 128) :: r) := by rw [encI, List.append_assoc]; rfl
  have hlen : (encI n).length = (encF 9 (foldN n / 128)).length + 1 := by rw [encI, List.length_append, List.length_singleton]
  have hg : ∀ i, i < (encF 9 (foldN n / 128)).length → (encI n ++ r)[i]! = (encF 9 (foldN n / 128))[i]! := fun i hi => by
    rw [e, getElem!_pos _ _ (by rw [List.length_append]; omega), List.getElem_append_left hi, getElem!_pos _ i hi]
  have hm : more (encI n ++ r) = (encF 9 (foldN n / 128)).length := by
    refine more_eq (by rw [e, List.length_append]; omega) (fun i hi => ?_) fun hlt => ?_
    · rw [hg i hi, getElem!_pos _ i hi]
      exact a1 _ (List.getElem_mem _)
    · have : (encI n ++ r)[(encF 9 (foldN n / 128)).length]! = UInt8.ofNat (foldN n % 128) := by
        rw [getElem!_pos (encI n ++ r) _ hlt]
        simp only [e]
        rw [List.getElem_append_right (Nat.le_refl _)]
        simp
      rw [this, ofNat_lo]; omega
  have ht : (encI n ++ r).take (more (encI n ++ r) + 1) = encI n := by
    rw [hm, ← hlen, List.take_left' rfl]
  refine ⟨⟨⟨by rw [hm, List.length_append, hlen]; omega, by omega, fun h9 => ?_⟩, ?_⟩, ?_, by rw [hm, hlen]⟩
  · have hne : foldN n / 128 ≠ 0 := fun q => by
      rw [hm] at h9
      rw [q] at h9
      simp [encF] at h9
    obtain ⟨c, q, ec, _⟩ := a3 hne
    have hc : (encI n ++ r)[0]! = c := by rw [hg 0 (by omega), ec]; rfl
    have hcb := a1 c (by rw [ec]; simp)
    have hclt := c.toNat_lt
    rw [hc]
    have hq : q.length = 8 := by rw [hm, ec, List.length_cons] at h9; omega
    have h1 : val (c :: q) = foldN n / 128 := by rw [← ec]; exact a2
    rw [val_cons, hq] at h1
    have h2 : (128 : Nat) ^ 8 = 72057594037927936 := by decide
    rw [h2] at h1
    rcases Nat.lt_or_ge c.toNat 130 with x | x
    · omega
    · have h3 : 2 * 72057594037927936 ≤ c.toNat % 128 * 72057594037927936 := Nat.mul_le_mul_right _ (by omega)
      omega
  · by_cases hne : foldN n / 128 = 0
    · left; rw [hm, hne]; simp [encF]
    · right
      obtain ⟨c, q, ec, hcn⟩ := a3 hne
      have hc : (encI n ++ r)[0]! = c := by rw [hg 0 (by rw [ec]; simp), ec]; rfl
      rw [hc]; exact hcn
  · unfold grpN
    rw [ht, encI, val_snoc, a2, ofNat_lo]
    have : 128 * (foldN n / 128) + foldN n % 128 % 128 = foldN n := by omega
    rw [this, unf_fold]
theorem encI_len {n : Int} (h : -9223372036854775808 ≤ n ∧ n ≤ 9223372036854775807) : (encI n).length ≤ 10 ∧ 0 < (encI n).length := by
  obtain ⟨⟨⟨_, h2, _⟩, _⟩, _, h3⟩ := grp_enc h []
  omega
/-! ### As the machine has them -/
theorem b64 (n : Nat) : (BitVec.ofInt 64 (n : Int)).toNat = n % 2 ^ 64 := by rw [BitVec.ofInt_natCast, BitVec.toNat_ofNat]
theorem b8 (n : Nat) : (BitVec.ofInt 8 (n : Int)).toNat = n % 2 ^ 8 := by rw [BitVec.ofInt_natCast, BitVec.toNat_ofNat]
theorem and127 {u : Nat} (_ : u < 18446744073709551616) : bits .and .u64 (u : Int) 127 = ((u % 128 : Nat) : Int) := by
  show IntKind.u64.wrap ((BitVec.ofInt 64 (u : Int) &&& BitVec.ofInt 64 127).toNat : Int) = _
  rw [BitVec.toNat_and, b64, show (BitVec.ofInt 64 127).toNat = 2 ^ 7 - 1 from rfl, Nat.and_two_pow_sub_one_eq_mod, IntKind.wrap_u64]
  omega
theorem and1_u64 {u : Nat} (_ : u < 18446744073709551616) : bits .and .u64 (u : Int) 1 = ((u % 2 : Nat) : Int) := by
  show IntKind.u64.wrap ((BitVec.ofInt 64 (u : Int) &&& BitVec.ofInt 64 1).toNat : Int) = _
  rw [BitVec.toNat_and, b64, show (BitVec.ofInt 64 1).toNat = 2 ^ 1 - 1 from rfl, Nat.and_two_pow_sub_one_eq_mod, IntKind.wrap_u64]
  omega
theorem and127_8 (b : UInt8) : bits .and .u8 ((b.toNat : Nat) : Int) 127 = ((b.toNat % 128 : Nat) : Int) := by
  have := b.toNat_lt
  show IntKind.u8.wrap ((BitVec.ofInt 8 (b.toNat : Int) &&& BitVec.ofInt 8 127).toNat : Int) = _
  rw [BitVec.toNat_and, b8, show (BitVec.ofInt 8 127).toNat = 2 ^ 7 - 1 from rfl, Nat.and_two_pow_sub_one_eq_mod, IntKind.wrap_u8]
  omega
theorem or128 {x : Nat} (h : x < 128) : bits .or .u8 (x : Int) 128 = ((128 + x : Nat) : Int) := by
  show IntKind.u8.wrap ((BitVec.ofInt 8 (x : Int) ||| BitVec.ofInt 8 128).toNat : Int) = _
  rw [BitVec.toNat_or, b8, show (BitVec.ofInt 8 128).toNat = 2 ^ 7 * 1 from rfl, Nat.mod_eq_of_lt (by omega), Nat.or_comm, ← Nat.two_pow_add_eq_or_of_lt (by omega), IntKind.wrap_u8]
  omega
theorem or_low {x y : Nat} (hx : x < 144115188075855872) (hy : y < 128) : bits .or .u64 (IntKind.u64.wrap ((x : Int) * 128)) (y : Int) = ((128 * x + y : Nat) : Int) := by
  have e : IntKind.u64.wrap ((x : Int) * 128) = ((128 * x : Nat) : Int) := by rw [IntKind.wrap_u64]; omega
  rw [e]
  show IntKind.u64.wrap ((BitVec.ofInt 64 ((128 * x : Nat) : Int) ||| BitVec.ofInt 64 (y : Int)).toNat : Int) = _
  rw [BitVec.toNat_or, b64, b64, Nat.mod_eq_of_lt (by omega), Nat.mod_eq_of_lt (by omega), show 128 * x = 2 ^ 7 * x from rfl, ← Nat.two_pow_add_eq_or_of_lt (by omega), IntKind.wrap_u64]
  omega
theorem com_u64 {u : Nat} (h : u < 18446744073709551616) : bits .xor .u64 18446744073709551615 (u : Int) = ((18446744073709551615 - u : Nat) : Int) := by
  show IntKind.u64.wrap ((BitVec.ofInt 64 18446744073709551615 ^^^ BitVec.ofInt 64 (u : Int)).toNat : Int) = _
  have e : BitVec.ofInt 64 18446744073709551615 ^^^ BitVec.ofInt 64 (u : Int) = ~~~ (BitVec.ofInt 64 (u : Int)) := by
    rw [show BitVec.ofInt 64 18446744073709551615 = BitVec.allOnes 64 from rfl]
    exact BitVec.allOnes_xor
  rw [e, BitVec.toNat_not, b64, Nat.mod_eq_of_lt (by omega), IntKind.wrap_u64]
  omega
theorem com_i64 {n : Nat} (h : n < 9223372036854775808) : bits .xor .i64 (-1) (n : Int) = -(n : Int) - 1 := by
  show IntKind.i64.wrap ((BitVec.ofInt 64 (-1) ^^^ BitVec.ofInt 64 (n : Int)).toNat : Int) = _
  have e : BitVec.ofInt 64 (-1) ^^^ BitVec.ofInt 64 (n : Int) = ~~~ (BitVec.ofInt 64 (n : Int)) := by
    rw [show BitVec.ofInt 64 (-1) = BitVec.allOnes 64 from rfl]
    exact BitVec.allOnes_xor
  rw [e, BitVec.toNat_not, b64, Nat.mod_eq_of_lt (by omega), IntKind.wrap_i64]
  omega
/-- The number's double, as the machine makes it. -/
theorem fold_pos {n : Int} (h : 0 ≤ n ∧ n ≤ 9223372036854775807) : IntKind.u64.wrap (IntKind.u64.wrap n * 2) = ((foldN n : Nat) : Int) := by
  rw [IntKind.wrap_u64, IntKind.wrap_u64, foldN, if_pos h.1]; omega
theorem fold_neg {n : Int} (h : -9223372036854775808 ≤ n ∧ n < 0) : bits .xor .u64 18446744073709551615 (IntKind.u64.wrap (IntKind.u64.wrap n * 2)) = ((foldN n : Nat) : Int) := by
  have e : IntKind.u64.wrap (IntKind.u64.wrap n * 2) = ((18446744073709551616 - 2 * (-n).toNat : Nat) : Int) := by
    rw [IntKind.wrap_u64, IntKind.wrap_u64]; omega
  rw [e, com_u64 (by omega), foldN, if_neg (by omega)]; omega
def arr (l : Bs) : List Value := l.map fun b => .int .u8 ((b.toNat : Nat) : Int)
theorem enc_step {at_ u : Nat} {s : Bs} {n : Int} (h : encF at_ u ++ s = encI n) (h0 : u ≠ 0) (hu : u < 128 ^ at_) : 0 < at_ ∧ encF (at_ - 1) (u / 128) ++ (UInt8.ofNat (128 + u % 128) :: s) = encI n ∧ u / 128 < 128 ^ (at_ - 1) := by
  cases at_ with
  | zero => simp at hu; omega
  | succ k =>
    rw [encF, if_neg h0, List.append_assoc] at h
    exact ⟨by omega, h, Nat.div_lt_of_lt_mul (by rw [Nat.pow_succ, Nat.mul_comm] at hu; exact hu)⟩
theorem enc_end {at_ : Nat} {s : Bs} {n : Int} (h : encF at_ 0 ++ s = encI n) : s = encI n := by
  have e : encF at_ 0 = [] := by cases at_ with
    | zero => rfl
    | succ f => rw [encF, if_pos rfl]
  rwa [e] at h
theorem enc_start {n : Int} (h : -9223372036854775808 ≤ n ∧ n ≤ 9223372036854775807) : encF 9 (foldN n / 128) ++ [UInt8.ofNat (foldN n % 128)] = encI n ∧ foldN n / 128 < 128 ^ 9 := ⟨rfl, by
  have := foldN_lt h
  have : (128 : Nat) ^ 9 = 9223372036854775808 := by decide
  omega⟩
theorem arr_set {a : Nat} {s : Bs} {b : UInt8} (ha : 0 < a) : ((arr (List.replicate a 0 ++ s)).take (a - 1) ++ [.int .u8 ((b.toNat : Nat) : Int)] ++ (arr (List.replicate a 0 ++ s)).drop (a - 1 + 1)) = arr (List.replicate (a - 1) 0 ++ b :: s) := by
  obtain ⟨k, rfl⟩ : ∃ k, a = k + 1 := ⟨a - 1, by omega⟩
  simp only [arr, Nat.add_sub_cancel]
  rw [← List.map_take, ← List.map_drop, List.take_append_of_le_length (by simp), List.drop_append_of_le_length (by simp)]
  simp [List.take_replicate, List.drop_replicate]
/-! ### Reading on -/
theorem more_next {l : Bs} {j : Nat} (h : j ≤ more l) (hl : j < l.length) (hb : 128 ≤ l[j]!.toNat) : j + 1 ≤ more l := by
  rcases Nat.lt_or_eq_of_le h with q | q
  · exact q
  · subst q
    have := more_at hl
    omega
theorem take_c {l : Bs} {j : Nat} (h : 0 < j) (hl : j ≤ l.length) : ∃ r : Bs, l.take j = l[0]! :: r ∧ r.length = j - 1 := by
  obtain ⟨k, rfl⟩ : ∃ k, j = k + 1 := ⟨j - 1, by omega⟩
  match l, hl with
  | c :: q, hl =>
    rw [List.length_cons] at hl
    exact ⟨q.take k, rfl, by rw [List.length_take]; omega⟩
theorem val57 {l : Bs} {j : Nat} (hj : j ≤ 9) (hl : j ≤ l.length) (h9 : j = 9 → 128 ≤ l[0]!.toNat ∧ l[0]!.toNat ≤ 129) : val (l.take j) < 144115188075855872 := by
  have h1 := val_lt (l.take j)
  rw [List.length_take, Nat.min_eq_left hl] at h1
  have h2 : (128 : Nat) ^ 8 = 72057594037927936 := by decide
  rcases Nat.lt_or_eq_of_le hj with q | rfl
  · have h3 : (128 : Nat) ^ j ≤ 128 ^ 8 := Nat.pow_le_pow_right (by decide) (by omega)
    omega
  · obtain ⟨r, e, hr⟩ := take_c (l := l) (j := 9) (by decide) hl
    have h3 := h9 rfl
    have h4 := val_lt r
    rw [hr] at h4
    rw [e, val_cons, hr]
    have h5 : l[0]!.toNat % 128 * 128 ^ 8 ≤ 1 * 128 ^ 8 := Nat.mul_le_mul_right _ (by omega)
    show _ * 128 ^ 8 + _ < _
    have h6 : 128 ^ (9 - 1) = 128 ^ 8 := rfl
    omega
theorem val_ge {l : Bs} {j : Nat} (h : 0 < j) (hl : j ≤ l.length) : l[0]!.toNat % 128 * 128 ^ (j - 1) ≤ val (l.take j) := by
  obtain ⟨r, e, hr⟩ := take_c h hl
  rw [e, val_cons, hr]; omega
theorem grp_big {l : Bs} {j : Nat} (h : j ≤ more l) (hl : j ≤ l.length) (hv : ¬ val (l.take j) < 144115188075855872) : ¬ grpOk l := fun ⟨h1, h2, h3⟩ => hv (val57 (by omega) hl fun e => by
  have : more l = 9 := by omega
  exact ⟨(more_lt (by omega)).1, h3 this⟩)
theorem grp_sml {l : Bs} (hl : more l < l.length) (hv : val (l.take (more l)) < 144115188075855872) (h0 : 0 < more l → l[0]!.toNat ≠ 128) : grpGo l := by
  have h2 : (128 : Nat) ^ 8 = 72057594037927936 := by decide
  by_cases hz : more l = 0
  · exact ⟨⟨hl, by omega, fun e => by omega⟩, .inl hz⟩
  · have h1 := val_ge (l := l) (j := more l) (by omega) (by omega)
    have h3 := (more_lt (l := l) (j := 0) (by omega)).1
    have h4 := h0 (by omega)
    have h5 := l[0]!.toNat_lt
    refine ⟨⟨hl, ?_, fun e => ?_⟩, .inr h4⟩
    · rcases Nat.lt_or_ge 9 (more l) with q | q
      · exfalso
        have h6 : (128 : Nat) ^ 9 ≤ 128 ^ (more l - 1) := Nat.pow_le_pow_right (by decide) (by omega)
        have h7 : 1 * 128 ^ (more l - 1) ≤ l[0]!.toNat % 128 * 128 ^ (more l - 1) := Nat.mul_le_mul_right _ (by omega)
        have h8 : (128 : Nat) ^ 9 = 9223372036854775808 := by decide
        omega
      · exact q
    · rw [e] at h1 hv
      rcases Nat.lt_or_ge 129 l[0]!.toNat with q | q
      · exfalso
        have h7 : 2 * 128 ^ (9 - 1) ≤ l[0]!.toNat % 128 * 128 ^ (9 - 1) := Nat.mul_le_mul_right _ (by omega)
        have h8 : (128 : Nat) ^ (9 - 1) = 72057594037927936 := by decide
        omega
      · exact q
theorem grp_none {l : Bs} {j : Nat} (h : j ≤ more l) (hl : l.length ≤ j) : ¬ grpOk l := fun ⟨h1, _, _⟩ => by omega
theorem grp_128 {l : Bs} (hl : 0 < l.length) (h : l[0]!.toNat = 128) : ¬ grpGo l := fun ⟨_, h2⟩ => by
  have : 0 + 1 ≤ more l := more_next (Nat.zero_le _) hl (by omega)
  rcases h2 with q | q
  · omega
  · exact q h
def gN (l : Bs) : Int := if grpGo l then grpN l else 0
def gS (l : Bs) : Int := if grpGo l then ((more l + 1 : Nat) : Int) else 0
theorem g_no {l : Bs} (h : ¬ grpGo l) : gN l = 0 ∧ gS l = 0 := ⟨if_neg h, if_neg h⟩
theorem g_yes {l : Bs} (h : grpGo l) : gN l = grpN l ∧ gS l = ((more l + 1 : Nat) : Int) := ⟨if_pos h, if_pos h⟩
def qN (l : Bs) : Int := if grpOk l then grpN l else 0
def qE (l : Bs) : Int := if grpOk l then ((more l + 1 : Nat) : Int) else 0
theorem q_no {l : Bs} (h : ¬ grpOk l) : qN l = 0 ∧ qE l = 0 ∧ decide (grpGo l) = false := ⟨if_neg h, if_neg h, decide_eq_false fun q => h q.1⟩
theorem q_yes {l : Bs} (h : grpOk l) : qN l = grpN l ∧ qE l = ((more l + 1 : Nat) : Int) := ⟨if_pos h, if_pos h⟩
def inI (l : Bs) (lo hi : Int) : Prop := grpGo l ∧ lo ≤ grpN l ∧ grpN l ≤ hi
instance (l : Bs) (lo hi : Int) : Decidable (inI l lo hi) := by unfold inI; infer_instance
theorem rd_in {l : Bs} {lo hi : Int} : inI l lo hi ↔ gS l ≠ 0 ∧ lo ≤ gN l ∧ gN l ≤ hi := by
  constructor
  · intro q
    rw [(g_yes q.1).1, (g_yes q.1).2]
    exact ⟨by omega, q.2⟩
  · intro q
    have hg : grpGo l := Classical.byContradiction fun n => q.1 (g_no n).2
    rw [(g_yes hg).1] at q
    exact ⟨hg, q.2⟩
def rdN (l : Bs) (lo hi : Int) : Int := if inI l lo hi then grpN l else 0
def rdA (l : Bs) (lo hi : Int) : Int := if inI l lo hi then ((more l + 1 : Nat) : Int) else 0
theorem rd_no {l : Bs} {lo hi : Int} (h : ¬ inI l lo hi) : rdN l lo hi = 0 ∧ rdA l lo hi = 0 ∧ decide (¬ inI l lo hi) = true := ⟨if_neg h, if_neg h, decide_eq_true h⟩
theorem rd_yes {l : Bs} {lo hi : Int} (h : inI l lo hi) : rdN l lo hi = grpN l ∧ rdA l lo hi = ((more l + 1 : Nat) : Int) ∧ decide (¬ inI l lo hi) = false := ⟨if_pos h, if_pos h, decide_eq_false fun q => q h⟩
end Go.D21
