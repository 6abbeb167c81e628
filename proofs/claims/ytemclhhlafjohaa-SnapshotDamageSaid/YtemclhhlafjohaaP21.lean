/-
  Snapshots: what is read, made, and recovered.
-/
import Derived.Test.YtemclhhlafjohaaM21
import Derived.Test.YtemclhhlafjohaaO02
namespace Go.D21
open Go Go.RowKit Go.G Go.D02 Go.D20
/-! ### Sealed bytes -/
def sealL (l : Bs) : Bs := l ++ tailL (moreI 0 l)
def opB (s : Bs) : Bs := openL (moreI 0) s
theorem open_sealed (l : Bs) : openE (moreI 0) (sealL l) = 0 ∧ opB (sealL l) = l := ⟨seal_open1 _ _, seal_open2 _ _⟩
theorem sealL_len (l : Bs) : (sealL l).length = l.length + 4 := by rw [sealL, List.length_append]; rfl
theorem opB_le (s : Bs) : (opB s).length ≤ s.length := openL_le _ _
theorem openE_0or (s : Bs) : openE (moreI 0) s ≠ 0 → openE (moreI 0) s ≠ 0 := id
/-! ### What is read -/
def rdOk (s : Bs) : Prop := openE (moreI 0) s = 0 ∧ inI (opB s) 0 1000000000 ∧ (opB s).length - (more (opB s) + 1) ≤ 200000
instance (s : Bs) : Decidable (rdOk s) := by unfold rdOk; infer_instance
def readE (s : Bs) : Int := if rdOk s then 0 else 5
def readN (s : Bs) : Int := if rdOk s then grpN (opB s) else 0
def readD (s : Bs) : Bs := if rdOk s then (opB s).drop (more (opB s) + 1) else []
theorem read_no {s : Bs} (h : ¬ rdOk s) : readE s = 5 ∧ readN s = 0 ∧ readD s = [] := ⟨if_neg h, if_neg h, if_neg h⟩
theorem read_yes {s : Bs} (h : rdOk s) : readE s = 0 ∧ readN s = grpN (opB s) ∧ readD s = (opB s).drop (more (opB s) + 1) := ⟨if_pos h, if_pos h, if_pos h⟩
theorem readE_0 {s : Bs} : readE s = 0 ↔ rdOk s := by
  unfold readE
  split
  · rename_i h; exact ⟨fun _ => h, fun _ => rfl⟩
  · rename_i h; exact ⟨fun q => absurd q (by decide), fun q => absurd q h⟩
theorem readN_in (s : Bs) : 0 ≤ readN s ∧ readN s ≤ 1000000000 := by
  by_cases h : rdOk s
  · rw [(read_yes h).2.1]; exact h.2.1.2
  · rw [(read_no h).2.1]; decide
theorem readD_len (s : Bs) : (readD s).length ≤ s.length := by
  by_cases h : rdOk s
  · rw [(read_yes h).2.2, List.length_drop]
    have := opB_le s
    omega
  · rw [(read_no h).2.2]; exact Nat.zero_le _
theorem grp_pre {b : Bs} (h : grpGo b) : encI (grpN b) <+: b ∧ (encI (grpN b)).length = more b + 1 := by
  have h1 := grp_some h
  have h2 : more b + 1 ≤ b.length := h.1.1
  refine ⟨?_, ?_⟩
  · rw [← h1.1]; exact List.take_prefix _ _
  · rw [← h1.1, List.length_take]; omega
theorem in64 {n : Int} (h : 0 ≤ n ∧ n ≤ 1000000000) : -9223372036854775808 ≤ n ∧ n ≤ 9223372036854775807 := by omega
theorem rdN_in (b : Bs) : 0 ≤ rdN b 0 1000000000 ∧ rdN b 0 1000000000 ≤ 1000000000 := by
  by_cases h : inI b 0 1000000000
  · rw [(rd_yes h).1]; exact h.2
  · rw [(rd_no h).1]; decide
theorem cut_iff {b : Bs} : encI (rdN b 0 1000000000) <+: b ↔ inI b 0 1000000000 := by
  constructor
  · intro h
    by_cases hi : inI b 0 1000000000
    · exact hi
    · rw [(rd_no hi).1] at h
      obtain ⟨r, hr⟩ := h
      obtain ⟨h1, h2, _⟩ := grp_enc (n := 0) (by decide) r
      rw [hr] at h1 h2
      exact absurd ⟨h1, by rw [h2]; decide, by rw [h2]; decide⟩ hi
  · intro h
    rw [(rd_yes h).1]; exact (grp_pre h.1).1
theorem cut_len {b : Bs} (h : inI b 0 1000000000) : (encI (rdN b 0 1000000000)).length = more b + 1 := by
  rw [(rd_yes h).1]; exact (grp_pre h.1).2
def cutD (b p : Bs) : Bs := if p <+: b then b.drop p.length else b
theorem cut_y {b p : Bs} (h : p <+: b) : cutD b p = b.drop p.length := if_pos h
theorem cut_n {b p : Bs} (h : ¬ p <+: b) : cutD b p = b := if_neg h
theorem rdOk_iff {s : Bs} : rdOk s ↔ openE (moreI 0) s = 0 ∧ encI (rdN (opB s) 0 1000000000) <+: opB s ∧ (cutD (opB s) (encI (rdN (opB s) 0 1000000000))).length ≤ 200000 := by
  unfold rdOk
  rw [cut_iff]
  constructor
  · rintro ⟨h1, h2, h3⟩
    refine ⟨h1, h2, ?_⟩
    rw [cut_y (cut_iff.2 h2), List.length_drop, cut_len h2]; exact h3
  · rintro ⟨h1, h2, h3⟩
    rw [cut_y (cut_iff.2 h2), List.length_drop, cut_len h2] at h3
    exact ⟨h1, h2, h3⟩
theorem rd_data {s : Bs} (h : rdOk s) : readN s = rdN (opB s) 0 1000000000 ∧ readD s = cutD (opB s) (encI (rdN (opB s) 0 1000000000)) := by
  obtain ⟨h1, h2, h3⟩ := id h
  rw [(read_yes h).2.1, (read_yes h).2.2, (rd_yes h2).1, cut_y (grp_pre h2.1).1, (grp_pre h2.1).2]
  exact ⟨rfl, rfl⟩
/-! ### What is made -/
def makeE (n : Int) (d : Bs) : Int := if n < 0 ∨ 1000000000 < n then 2 else if 200000 < d.length then 3 else 0
def mk (n : Int) (d : Bs) : Bs := sealL (encI n ++ d)
def makeL (n : Int) (d : Bs) : Bs := if makeE n d = 0 then mk n d else []
theorem make_2 {n : Int} {d : Bs} (h : n < 0 ∨ 1000000000 < n) : makeE n d = 2 ∧ makeL n d = [] := by
  have e : makeE n d = 2 := if_pos h
  exact ⟨e, by rw [makeL, e]; rfl⟩
theorem make_3 {n : Int} {d : Bs} (h : ¬ (n < 0 ∨ 1000000000 < n)) (k : 200000 < d.length) : makeE n d = 3 ∧ makeL n d = [] := by
  have e : makeE n d = 3 := by rw [makeE, if_neg h, if_pos k]
  exact ⟨e, by rw [makeL, e]; rfl⟩
theorem make_0 {n : Int} {d : Bs} (h : ¬ (n < 0 ∨ 1000000000 < n)) (k : ¬ 200000 < d.length) : makeE n d = 0 ∧ makeL n d = mk n d := by
  have e : makeE n d = 0 := by rw [makeE, if_neg h, if_neg k]
  exact ⟨e, by rw [makeL, e]; rfl⟩
theorem mk_len {n : Int} {d : Bs} (h : 0 ≤ n ∧ n ≤ 1000000000) : (mk n d).length ≤ d.length + 14 ∧ 4 < (mk n d).length := by
  have := encI_len (in64 h)
  rw [mk, sealL_len, List.length_append]; omega
theorem read_mk {n : Int} {d : Bs} (h : 0 ≤ n ∧ n ≤ 1000000000) (k : d.length ≤ 200000) : rdOk (mk n d) ∧ readN (mk n d) = n ∧ readD (mk n d) = d := by
  obtain ⟨o1, o2⟩ := open_sealed (encI n ++ d)
  obtain ⟨g1, g2, g3⟩ := grp_enc (in64 h) d
  have hop : opB (mk n d) = encI n ++ d := o2
  have hok : rdOk (mk n d) := by
    refine ⟨o1, ?_, ?_⟩
    · rw [hop]; exact ⟨g1, by rw [g2]; exact h.1, by rw [g2]; exact h.2⟩
    · rw [hop, g3, List.length_append]; omega
  refine ⟨hok, ?_, ?_⟩
  · rw [(read_yes hok).2.1, hop, g2]
  · rw [(read_yes hok).2.2, hop, g3, List.drop_left]
/-- A changed byte is seen. -/
theorem bad_seal {p : Bs} {i : Nat} {c : UInt8} (hi : i < (sealL p).length) (hc : c ≠ 0) : ¬ rdOk ((sealL p).set i ((sealL p)[i]! ^^^ c)) := fun h => by
  have h1 := numN_set (sealL p) i c hi
  have hcn : c.toNat ≠ 0 := fun e => hc (by
    have : c.toNat = (0 : UInt8).toNat := e
    exact UInt8.toNat_inj.1 this)
  have hlt := c.toNat_lt
  have h2 := burst (k := 8) h1 (List.length_set) (by omega) hlt (by decide) hcn
  have h3 := burst_open (p := p) rfl h2 (by rw [List.length_set, sealL_len]; omega)
  rw [h.1] at h3
  exact absurd h3 (by decide)
/-! ### What is recovered -/
def stepR (base m : Int) (acc : Option (Int × Bs)) (b : Bs) : Option (Int × Bs) :=
  if readE b = 0 ∧ base ≤ readN b ∧ readN b ≤ base + m ∧ (acc = none ∨ (acc.getD (0, [])).1 ≤ readN b) then some (readN b, readD b) else acc
def recS (base m : Int) (l : List Bs) : Option (Int × Bs) := l.foldl (stepR base m) none
theorem recS_s {base m : Int} {l : List Bs} {k : Nat} (h : k < l.length) : recS base m (l.take (k + 1)) = stepR base m (recS base m (l.take k)) l[k]! := by
  rw [recS, show l.take (k + 1) = l.take k ++ [l[k]!] by rw [getElem!_pos l k h]; exact (List.take_append_getElem h).symm, List.foldl_append]; rfl
theorem step_y {base m : Int} {acc : Option (Int × Bs)} {b : Bs} (h : readE b = 0 ∧ base ≤ readN b ∧ readN b ≤ base + m ∧ (acc = none ∨ (acc.getD (0, [])).1 ≤ readN b)) : stepR base m acc b = some (readN b, readD b) := if_pos h
theorem step_n {base m : Int} {acc : Option (Int × Bs)} {b : Bs} (h : ¬ (readE b = 0 ∧ base ≤ readN b ∧ readN b ≤ base + m ∧ (acc = none ∨ (acc.getD (0, [])).1 ≤ readN b))) : stepR base m acc b = acc := if_neg h
/-- What was chosen lies in the bounds. -/
def accIn (base m : Int) (acc : Option (Int × Bs)) : Prop := ∀ x, acc = some x → base ≤ x.1 ∧ x.1 ≤ base + m ∧ 0 ≤ x.1 ∧ x.1 ≤ 1000000000
theorem acc_step {base m : Int} {acc : Option (Int × Bs)} (h : accIn base m acc) (b : Bs) : accIn base m (stepR base m acc b) := by
  unfold stepR
  split
  · rename_i q
    intro x hx
    cases hx
    exact ⟨q.2.1, q.2.2.1, (readN_in b).1, (readN_in b).2⟩
  · exact h
theorem rec_in (base m : Int) (l : List Bs) : accIn base m (recS base m l) := by
  have key : ∀ (l : List Bs) (acc : Option (Int × Bs)), accIn base m acc → accIn base m (l.foldl (stepR base m) acc) := by
    intro l
    induction l with
    | nil => intro acc h; exact h
    | cons b l ih => intro acc h; exact ih _ (acc_step h b)
  exact key l none fun x hx => by cases hx
def acN (acc : Option (Int × Bs)) : Int := (acc.getD (0, [])).1
def acD (acc : Option (Int × Bs)) : Bs := (acc.getD (0, [])).2
def acB (acc : Option (Int × Bs)) : Int := match acc with
  | none => -1
  | some x => x.1
def acF (acc : Option (Int × Bs)) : Bool := acc.isSome
def recE (base : Int) (f : Bs) (l : List Bs) : Int := if base < 0 ∨ 1000000000 < base then 2 else if recS base (wholeL f).1.length l = none ∧ 0 < base then 9 else 0
def recA (base : Int) (f : Bs) (l : List Bs) : Option (Int × Bs) := if recE base f l = 0 then recS base (wholeL f).1.length l else none
def recL (base : Int) (f : Bs) (l : List Bs) : List Bs := if recE base f l = 0 then (wholeL f).1.drop (acN (recA base f l) - base).toNat else []
theorem rec_2 {base : Int} {f : Bs} {l : List Bs} (h : base < 0 ∨ 1000000000 < base) : recE base f l = 2 ∧ recA base f l = none ∧ recL base f l = [] := by
  have e : recE base f l = 2 := if_pos h
  exact ⟨e, by rw [recA, e]; rfl, by rw [recL, e]; rfl⟩
theorem rec_9 {base : Int} {f : Bs} {l : List Bs} (h : ¬ (base < 0 ∨ 1000000000 < base)) (k : recS base (wholeL f).1.length l = none ∧ 0 < base) : recE base f l = 9 ∧ recA base f l = none ∧ recL base f l = [] := by
  have e : recE base f l = 9 := by rw [recE, if_neg h, if_pos k]
  exact ⟨e, by rw [recA, e]; rfl, by rw [recL, e]; rfl⟩
theorem rec_0 {base : Int} {f : Bs} {l : List Bs} (h : ¬ (base < 0 ∨ 1000000000 < base)) (k : ¬ (recS base (wholeL f).1.length l = none ∧ 0 < base)) :
    recE base f l = 0 ∧ recA base f l = recS base (wholeL f).1.length l ∧ recL base f l = (wholeL f).1.drop (acN (recS base (wholeL f).1.length l) - base).toNat := by
  have e : recE base f l = 0 := by rw [recE, if_neg h, if_neg k]
  have e2 : recA base f l = recS base (wholeL f).1.length l := by rw [recA, e]; rfl
  exact ⟨e, e2, by rw [recL, e, e2]; rfl⟩
theorem acF_f {acc : Option (Int × Bs)} : acF acc = false ↔ acc = none := by cases acc <;> simp [acF]
theorem acB_lt {base m : Int} {acc : Option (Int × Bs)} (h : accIn base m acc) : acB acc < 0 ↔ acc = none := by
  cases acc with
  | none => exact ⟨fun _ => rfl, fun _ => (by decide)⟩
  | some x =>
    have := (h x rfl).2.2.1
    exact ⟨fun q => absurd q (by show ¬ x.1 < 0; omega), fun q => by cases q⟩
theorem ac_rng {base m : Int} {acc : Option (Int × Bs)} (h : accIn base m acc) (h0 : 0 ≤ base) (hm : 0 ≤ m) (k : ¬ (acc = none ∧ 0 < base)) : base ≤ acN acc ∧ acN acc ≤ base + m := by
  cases acc with
  | none =>
    have : ¬ 0 < base := fun q => k ⟨rfl, q⟩
    show base ≤ 0 ∧ 0 ≤ base + m
    omega
  | some x => exact ⟨(h x rfl).1, (h x rfl).2.1⟩
theorem acB_max {base m : Int} {acc : Option (Int × Bs)} (h : accIn base m acc) : (if acB acc < 0 then 0 else acB acc) = acN acc := by
  cases acc with
  | none => rfl
  | some x =>
    have := (h x rfl).2.2.1
    show (if x.1 < 0 then 0 else x.1) = x.1
    rw [if_neg (by omega)]
/-- As the program asks. -/
theorem cond_p {base m : Int} {acc : Option (Int × Bs)} {b : Bs} : (readE b = 0 ∧ base ≤ readN b ∧ readN b ≤ base + m ∧ (acF acc = false ∨ acN acc ≤ readN b)) ↔ (readE b = 0 ∧ base ≤ readN b ∧ readN b ≤ base + m ∧ (acc = none ∨ (acc.getD (0, [])).1 ≤ readN b)) := by
  rw [acF_f]; rfl
/-- As the reference asks. -/
theorem cond_r {base m : Int} {acc : Option (Int × Bs)} {b : Bs} : (readE b = 0 ∧ base ≤ readN b ∧ readN b ≤ base + m ∧ acB acc ≤ readN b) ↔ (readE b = 0 ∧ base ≤ readN b ∧ readN b ≤ base + m ∧ (acc = none ∨ (acc.getD (0, [])).1 ≤ readN b)) := by
  have := (readN_in b).1
  cases acc with
  | none => exact ⟨fun q => ⟨q.1, q.2.1, q.2.2.1, .inl rfl⟩, fun q => ⟨q.1, q.2.1, q.2.2.1, by show (-1 : Int) ≤ _; omega⟩⟩
  | some x => exact ⟨fun q => ⟨q.1, q.2.1, q.2.2.1, .inr q.2.2.2⟩, fun q => ⟨q.1, q.2.1, q.2.2.1, q.2.2.2.resolve_left (by simp)⟩⟩
end Go.D21
