/-
  The log: its frames as a chain, what a beginning of it holds, and what is read back from what was written.
-/
import Derived.Test.YtemclhhlafjohaaM20
namespace Go.D20
open Go Go.RowKit Go.G Go.D02
inductive Ch (file : List UInt8) : Nat → Int → List (List UInt8) → List Int → Nat → Int → Prop
  | nil (a : Nat) (h : Int) : Ch file a h [] [] a h
  | cons {a : Nat} {h : Int} {a' : Nat} {p : List UInt8} {h' : Int} {ps : List (List UInt8)} {es : List Int} {b : Nat} {g : Int} : stepW file a h = some (a', p, h') → Ch file a' h' ps es b g → Ch file a h (p :: ps) ((a' : Int) :: es) b g
section
variable {file file' : List UInt8} {a b a' : Nat} {h g h' : Int} {p : List UInt8} {ps : List (List UInt8)} {es : List Int}
theorem step_more (hs : stepW file a h = some (a', p, h')) : ∃ m : Nat, numI (file.drop a) = m ∧ a' = a + 8 + m ∧ a' ≤ file.length ∧ m ≤ 60000 ∧ a' ≤ 1048576 ∧ p = (file.take a').drop (a + 8) ∧ h' = sumI h p ∧ h' = numI (file.drop (a + 4)) := by
  have l : ¬ limW file a := fun k => by rw [stepW_lim k] at hs; cases hs
  obtain ⟨m, h1, h2, hy, h3⟩ := step_data hs
  simp only [Prod.mk.injEq] at hy
  obtain ⟨e1, e2, e3⟩ := hy
  subst e1; subst e2; subst e3
  unfold limW at l
  rw [h1] at l
  exact ⟨m, h1, rfl, h2, by omega, by omega, rfl, rfl, h3⟩
theorem step_mk {m : Nat} (h1 : numI (file.drop a) = m) (h2 : a + 8 + m ≤ file.length) (h3 : m ≤ 60000) (h4 : a + 8 + m ≤ 1048576) (h5 : sumI h ((file.take (a + 8 + m)).drop (a + 8)) = numI (file.drop (a + 4))) :
    stepW file a h = some (a + 8 + m, (file.take (a + 8 + m)).drop (a + 8), sumI h ((file.take (a + 8 + m)).drop (a + 8))) := by
  have hp : payW file a = (file.take (a + 8 + m)).drop (a + 8) := by rw [payW, h1, Int.toNat_natCast]
  have := stepW_ok (file := file) (a := a) (last := h) (by omega) (by unfold limW; rw [h1]; omega) (by rw [hp]; exact h5)
  rw [this, hp, h1, Int.toNat_natCast]
theorem step_up (hs : stepW file a h = some (a', p, h')) : a + 8 ≤ a' ∧ a' ≤ file.length := by
  obtain ⟨m, _, e, k, _⟩ := step_more hs
  omega
theorem Ch.whole (c : Ch file a h ps es b g) : stepW file b g = none → ∀ f, file.length + 1 - a ≤ f → wholeF f file a h = (ps, es) ∧ lastF f file a h = g := by
  induction c with
  | nil a h => intro hs f _; exact ⟨whole_stop hs, last_stop hs⟩
  | cons hs _ ih =>
    intro he f hf
    have hu := step_up hs
    rw [whole_next (by omega) hs, last_next (by omega) hs]
    obtain ⟨e1, e2⟩ := ih he (f - 1) (by omega)
    rw [e1, e2]; exact ⟨rfl, rfl⟩
theorem whole_ch (file : List UInt8) : ∀ (f a : Nat) (h : Int), file.length + 1 - a ≤ f → ∃ b g, Ch file a h (wholeF f file a h).1 (wholeF f file a h).2 b g ∧ stepW file b g = none
  | 0, a, h, hf => ⟨a, h, .nil a h, stepW_len (by omega)⟩
  | f + 1, a, h, hf => by
    cases hs : stepW file a h with
    | none => rw [whole_stop hs]; exact ⟨a, h, .nil a h, hs⟩
    | some y =>
      obtain ⟨a', p, h'⟩ := y
      have hu := step_up hs
      rw [whole_next (by omega) hs, Nat.add_sub_cancel]
      obtain ⟨b, g, c, e⟩ := whole_ch file f a' h' (by omega)
      exact ⟨b, g, .cons hs c, e⟩
theorem endI_cons {x : Int} (hn : es ≠ []) : endI (x :: es) = endI es := by
  cases es with
  | nil => exact absurd rfl hn
  | cons y r => simp [endI]
theorem Ch.last (c : Ch file a h ps es b g) : (es = [] ∧ b = a) ∨ (es ≠ [] ∧ endI es = b) := by
  induction c with
  | nil a h => exact .inl ⟨rfl, rfl⟩
  | cons hs c ih =>
    refine .inr ⟨by simp, ?_⟩
    rcases ih with ⟨rfl, rfl⟩ | ⟨hn, e⟩
    · rfl
    · rw [endI_cons hn]; exact e
theorem Ch.last0 (c : Ch file 0 h ps es b g) : endI es = b := by
  rcases c.last with ⟨rfl, rfl⟩ | ⟨_, e⟩
  · rfl
  · exact e
theorem Ch.len (c : Ch file a h ps es b g) : ps.length = es.length := by
  induction c with
  | nil a h => rfl
  | cons _ _ ih => simp [ih]
theorem Ch.le (c : Ch file a h ps es b g) : a ≤ b ∧ (a ≤ file.length → b ≤ file.length) := by
  induction c with
  | nil a h => exact ⟨Nat.le_refl _, id⟩
  | cons hs c ih => have := step_up hs; omega
theorem Ch.ge (c : Ch file a h ps es b g) : ∀ x ∈ es, (a : Int) + 8 ≤ x := by
  induction c with
  | nil a h => intro x hx; cases hx
  | cons hs c ih =>
    intro x hx
    have := step_up hs
    rcases List.mem_cons.1 hx with rfl | hx
    · omega
    · have := ih x hx; omega
theorem Ch.app {ps' : List (List UInt8)} {es' : List Int} {b' : Nat} {g' : Int} (c : Ch file a h ps es b g) (d : Ch file b g ps' es' b' g') : Ch file a h (ps ++ ps') (es ++ es') b' g' := by
  induction c with
  | nil a h => exact d
  | cons hs c ih => exact .cons hs (ih d)
theorem wholeC (file : List UInt8) : Ch file 0 0 (wholeL file).1 (wholeL file).2 (endI (wholeL file).2).toNat (lastW file) ∧ stepW file (endI (wholeL file).2).toNat (lastW file) = none := by
  obtain ⟨b, g, c, e⟩ := whole_ch file (file.length + 1) 0 0 (by omega)
  have h1 := (c.whole e (file.length + 1) (by omega)).2
  have h2 := c.last0
  have h3 : (endI (wholeL file).2).toNat = b := by rw [wholeL, h2]; rfl
  have h4 : lastW file = g := h1
  rw [h3, h4]
  exact ⟨c, e⟩
theorem whole_of (c : Ch file 0 0 ps es b g) (hs : stepW file b g = none) : wholeL file = (ps, es) ∧ lastW file = g := c.whole hs _ (by omega)
theorem numI_take : ∀ l : List UInt8, numI (l.take 4) = numI l
  | [] => rfl
  | [_] => rfl
  | [_, _] => rfl
  | [_, _, _] => rfl
  | _ :: _ :: _ :: _ :: _ => rfl
theorem numI_loc (ht : file.take b = file'.take b) (hb : a + 4 ≤ b) : numI (file.drop a) = numI (file'.drop a) := by
  have e : file.take (a + 4) = file'.take (a + 4) := by
    have := congrArg (List.take (a + 4)) ht
    rwa [List.take_take, List.take_take, Nat.min_eq_left hb] at this
  rw [← numI_take, ← numI_take (file'.drop a)]
  have := congrArg (List.drop a) e
  rw [List.drop_take, List.drop_take] at this
  simpa using congrArg numI this
theorem step_loc (hs : stepW file a h = some (a', p, h')) (ht : file.take a' = file'.take a') (hl : a' ≤ file'.length) : stepW file' a h = some (a', p, h') := by
  obtain ⟨m, h1, rfl, h3, h4, h5, rfl, rfl, h8⟩ := step_more hs
  rw [numI_loc ht (by omega)] at h1 h8
  rw [ht] at h8 ⊢
  exact step_mk h1 hl h4 h5 h8
theorem Ch.loc (c : Ch file a h ps es b g) : file.take b = file'.take b → b ≤ file'.length → Ch file' a h ps es b g := by
  induction c with
  | nil a h => intro _ _; exact .nil a h
  | @cons a h a' p h' ps es b g hs c ih =>
    intro ht hl
    have hb := c.le.1
    refine .cons (step_loc hs ?_ (by omega)) (ih ht hl)
    have := congrArg (List.take a') ht
    rwa [List.take_take, List.take_take, Nat.min_eq_left hb] at this
theorem Ch.cut (c : Ch file a h ps es b g) (m : Nat) : a ≤ m → stepW file b g = none → ∃ k b' g', k ≤ es.length ∧ Ch file a h (ps.take k) (es.take k) b' g' ∧ b' ≤ m ∧ (∀ a' p h', stepW file b' g' = some (a', p, h') → m < a') ∧ ∀ i, i < es.length → (i < k ↔ es[i]! ≤ m) := by
  induction c with
  | nil a h => intro ha he; exact ⟨0, a, h, Nat.le_refl _, .nil a h, ha, fun a' p h' hs => (by rw [he] at hs; cases hs), fun i hi => (by simp at hi)⟩
  | @cons a h a' p h' ps es b g hs c ih =>
    intro ha he
    by_cases hm : a' ≤ m
    · obtain ⟨k, b', g', k1, k2, k3, k4, k5⟩ := ih hm he
      refine ⟨k + 1, b', g', by simpa using k1, .cons hs k2, k3, k4, fun i hi => ?_⟩
      cases i with
      | zero => simp; omega
      | succ i =>
        have := k5 i (by simpa using hi)
        simp only [List.getElem!_cons_succ]
        omega
    · refine ⟨0, a, h, Nat.zero_le _, .nil a h, ha, fun a2 p2 h2 hs2 => (by rw [hs] at hs2; cases hs2; omega), fun i hi => ?_⟩
      have hx : ((a' : Int) :: es)[i]! ∈ ((a' : Int) :: es) := by rw [getElem!_pos ((a' : Int) :: es) i hi]; exact List.getElem_mem hi
      have : (a' : Int) ≤ ((a' : Int) :: es)[i]! := by
        rcases List.mem_cons.1 hx with e | e
        · omega
        · have := c.ge _ e; omega
      omega
end
/-- What a beginning of a file holds. -/
theorem whole_take (l : List UInt8) {m : Nat} (hm : m ≤ l.length) : ∃ k, k ≤ (wholeL l).2.length ∧ wholeL (l.take m) = ((wholeL l).1.take k, (wholeL l).2.take k) ∧ ∀ i, i < (wholeL l).2.length → (i < k ↔ (wholeL l).2[i]! ≤ m) := by
  obtain ⟨c, e⟩ := wholeC l
  obtain ⟨k, b', g', k1, k2, k3, k4, k5⟩ := c.cut m (by omega) e
  refine ⟨k, k1, ?_, k5⟩
  have ht : l.take b' = (l.take m).take b' := by rw [List.take_take, Nat.min_eq_left k3]
  have hl : b' ≤ (l.take m).length := by simp; omega
  refine (whole_of (k2.loc ht hl) ?_).1
  cases hs : stepW (l.take m) b' g' with
  | none => rfl
  | some y =>
    obtain ⟨a', p, h'⟩ := y
    have hu := step_up hs
    have hu2 : a' ≤ m := by have := hu.2; simp at this; omega
    have := k4 _ _ _ (step_loc hs (by rw [List.take_take, Nat.min_eq_left hu2]) (by omega))
    omega
/-- The whole part by itself. -/
theorem whole_cut (l : List UInt8) : wholeL (l.take (endI (wholeL l).2).toNat) = wholeL l ∧ lastW (l.take (endI (wholeL l).2).toNat) = lastW l := by
  obtain ⟨c, e⟩ := wholeC l
  have hr := endW_range l
  refine whole_of (c.loc (by rw [List.take_take, Nat.min_self]) (by simp; omega)) (stepW_len (by simp; omega))
/-- A file that is all frames. -/
def Full (l : List UInt8) : Prop := endI (wholeL l).2 = l.length
theorem full_nil : Full [] := by unfold Full; rw [w0]; rfl
theorem full_cut (l : List UInt8) : Full (l.take (endI (wholeL l).2).toNat) := by
  unfold Full
  rw [(whole_cut l).1]
  have := endW_range l
  simp; omega
theorem numI_four {x : Int} (hx : R32 x) (r : List UInt8) : numI (fourL x ++ r) = x := by
  unfold R32 at hx
  rw [numI_nat]
  have e : ∀ y : Int, 0 ≤ y → y < 256 → ((UInt8.ofNat y.toNat).toNat : Int) = y := fun y h0 h1 => by simp [UInt8.toNat_ofNat']; omega
  have e0 := e (x / 16777216 % 256) (by omega) (by omega)
  have e1 := e (x / 65536 % 256) (by omega) (by omega)
  have e2 := e (x / 256 % 256) (by omega) (by omega)
  have e3 := e (x % 256) (by omega) (by omega)
  simp only [fourL, List.cons_append, List.getElem!_cons_zero, List.getElem!_cons_succ]
  generalize (UInt8.ofNat (x / 16777216 % 256).toNat).toNat = y0 at *
  generalize (UInt8.ofNat (x / 65536 % 256).toNat).toNat = y1 at *
  generalize (UInt8.ofNat (x / 256 % 256).toNat).toNat = y2 at *
  generalize (UInt8.ofNat (x % 256).toNat).toNat = y3 at *
  omega
def addW (l p : List UInt8) : List UInt8 := l ++ fourL p.length ++ fourL (sumI (lastW l) p) ++ p
theorem addW_len (l p : List UInt8) : (addW l p).length = l.length + 8 + p.length := by simp [addW, fourL_len]; omega
theorem whole_add {l p : List UInt8} (hf : Full l) (h1 : p.length ≤ 60000) (h2 : l.length + 8 + p.length ≤ 1048576) :
    wholeL (addW l p) = ((wholeL l).1 ++ [p], (wholeL l).2 ++ [((l.length + 8 + p.length : Nat) : Int)]) ∧ lastW (addW l p) = sumI (lastW l) p := by
  obtain ⟨c, _⟩ := wholeC l
  have hb : (endI (wholeL l).2).toNat = l.length := by rw [hf]; rfl
  rw [hb] at c
  have ht : l.take l.length = (addW l p).take l.length := by simp [addW, List.append_assoc]
  have hlen := addW_len l p
  have c2 := c.loc ht (by omega)
  have hd : (addW l p).drop l.length = fourL p.length ++ (fourL (sumI (lastW l) p) ++ p) := by simp [addW, List.append_assoc]
  have hd4 : (addW l p).drop (l.length + 4) = fourL (sumI (lastW l) p) ++ p := by
    rw [← List.drop_drop, hd, List.drop_left' (fourL_len _)]
  have hd8 : (addW l p).drop (l.length + 8) = p := by
    rw [show l.length + 8 = l.length + 4 + 4 from rfl, ← List.drop_drop, hd4, List.drop_left' (fourL_len _)]
  have hp : ((addW l p).take (l.length + 8 + p.length)).drop (l.length + 8) = p := by
    rw [List.take_of_length_le (by omega), hd8]
  have hs := step_mk (file := addW l p) (a := l.length) (h := lastW l) (m := p.length) (by rw [hd, numI_four ⟨by omega, by omega⟩]) (by omega) h1 h2 (by rw [hp, hd4, numI_four (sumI_R _)])
  rw [hp] at hs
  exact whole_of (c2.app (.cons hs (.nil _ _))) (stepW_len (by omega))
theorem full_add {l p : List UInt8} (hf : Full l) (h1 : p.length ≤ 60000) (h2 : l.length + 8 + p.length ≤ 1048576) : Full (addW l p) := by
  unfold Full
  rw [(whole_add hf h1 h2).1, addW_len]
  exact endI_snoc _ _
/-- The file to which the first payloads were appended. -/
def wrW (l : List UInt8) (ps : List (List UInt8)) (k : Nat) : List UInt8 := (ps.take k).foldl addW l
theorem wrW_0 (l : List UInt8) (ps : List (List UInt8)) : wrW l ps 0 = l := rfl
theorem wrW_succ {l : List UInt8} {ps : List (List UInt8)} {k : Nat} (hk : k < ps.length) : wrW l ps (k + 1) = addW (wrW l ps k) ps[k]! := by
  rw [wrW, take_snoc' hk, List.foldl_append]; rfl
def smallL (ps : List (List UInt8)) : Prop := (∀ p ∈ ps, p.length ≤ 40) ∧ ps.length ≤ 10
theorem small_get {ps : List (List UInt8)} (h : smallL ps) {k : Nat} (hk : k < ps.length) : ps[k]!.length ≤ 40 := h.1 _ (by rw [getElem!_pos ps k hk]; exact List.getElem_mem hk)
theorem wr_all {l : List UInt8} {ps : List (List UInt8)} (hf : Full l) (hs : smallL ps) (hl : l.length ≤ 1000000) : ∀ k, k ≤ ps.length →
    Full (wrW l ps k) ∧ (wholeL (wrW l ps k)).1 = (wholeL l).1 ++ ps.take k ∧ (wholeL (wrW l ps k)).2 = (wholeL l).2 ++ (List.range k).map (fun i => ((wrW l ps (i + 1)).length : Int)) ∧ (wrW l ps k).length ≤ l.length + 48 * k
  | 0, _ => by simp [wrW_0, hf]
  | k + 1, hk => by
    obtain ⟨i1, i2, i3, i4⟩ := wr_all hf hs hl k (by omega)
    have h40 := small_get hs (k := k) (by omega)
    have h10 := hs.2
    have hw := whole_add (p := ps[k]!) i1 (by omega) (by omega)
    have hn := addW_len (wrW l ps k) ps[k]!
    rw [wrW_succ (by omega)]
    refine ⟨full_add i1 (by omega) (by omega), ?_, ?_, by omega⟩
    · rw [hw.1, i2, take_snoc' (by omega)]; simp
    · rw [hw.1, i3, List.range_succ, List.map_append]
      simp only [List.append_assoc, List.map_cons, List.map_nil]
      rw [wrW_succ (by omega), hn]
/-! ### Logs to which payloads were appended -/
instance (ps : List (List UInt8)) : Decidable (smallL ps) := by unfold smallL; infer_instance
def syW (ps : List (List UInt8)) (s : Int) (k : Nat) : Int := if 0 < s ∧ s ≤ k then ((wrW [] ps s.toNat).length : Int) else 0
theorem wr_0 {ps : List (List UInt8)} (hs : smallL ps) {k : Nat} (hk : k ≤ ps.length) :
    Full (wrW [] ps k) ∧ (wholeL (wrW [] ps k)).1 = ps.take k ∧ (wholeL (wrW [] ps k)).2 = (List.range k).map (fun i => ((wrW [] ps (i + 1)).length : Int)) ∧ (wrW [] ps k).length ≤ 480 := by
  obtain ⟨h1, h2, h3, h4⟩ := wr_all full_nil hs (by simp) k hk
  rw [w0] at h2 h3
  have := hs.2
  exact ⟨h1, by simpa using h2, by simpa using h3, by simp at h4; omega⟩
section
variable {ps : List (List UInt8)} {s : Int} {k : Nat}
theorem wr_valid0 (hs : smallL ps) (hk : k ≤ ps.length) {n : Int} (hn : n = 0 ∨ ∃ i, i < k ∧ n = (wrW [] ps (i + 1)).length) : validW (wrW [] ps k) n := by
  obtain ⟨h1, h2, h3, h4⟩ := wr_0 hs hk
  refine ⟨?_, h1⟩
  rcases hn with hn | ⟨i, hi, hn⟩
  · exact .inl hn
  · refine .inr ?_
    rw [h3, hn]
    exact List.mem_map.2 ⟨i, List.mem_range.2 hi, rfl⟩
theorem wr_valid (hs : smallL ps) (hk : k ≤ ps.length) : validW (wrW [] ps k) (syW ps s k) := by
  refine wr_valid0 hs hk ?_
  unfold syW
  split
  · rename_i h
    refine .inr ⟨s.toNat - 1, by omega, ?_⟩
    rw [Nat.sub_add_cancel (by omega)]
  · exact .inl rfl
theorem wr_app (hs : smallL ps) (hk : k < ps.length) : appE (wrW [] ps k) (syW ps s k) ps[k]! = 0 ∧ appL (wrW [] ps k) (syW ps s k) ps[k]! = wrW [] ps (k + 1) ∧ appN (wrW [] ps k) (syW ps s k) ps[k]! = syW ps s k := by
  have h40 := small_get hs hk
  have h4 := (wr_0 hs (k := k) (by omega)).2.2.2
  obtain ⟨e1, e2, e3⟩ := app_0 (p := ps[k]!) (wr_valid (s := s) hs (Nat.le_of_lt hk)) (by omega)
  exact ⟨e1, by rw [e2, wrW_succ hk, addW], e3⟩
theorem wr_sync (hs : smallL ps) (hk : k < ps.length) : syncE (wrW [] ps (k + 1)) (syW ps s k) = 0 ∧ syncL (wrW [] ps (k + 1)) (syW ps s k) = wrW [] ps (k + 1) := by
  have hv : validW (wrW [] ps (k + 1)) (syW ps s k) := by
    refine wr_valid0 hs hk ?_
    unfold syW
    split
    · rename_i h
      refine .inr ⟨s.toNat - 1, by omega, ?_⟩
      rw [Nat.sub_add_cancel (by omega)]
    · exact .inl rfl
  exact ⟨by rw [syncE, if_pos hv], by rw [syncL, if_pos hv]⟩
theorem syW_at (h : (k : Int) + 1 = s) : syW ps s (k + 1) = ((wrW [] ps (k + 1)).length : Int) := by
  rw [syW, if_pos (by omega)]
  have : s.toNat = k + 1 := by omega
  rw [this]
theorem syW_no (h : ¬ (k : Int) + 1 = s) : syW ps s (k + 1) = syW ps s k := by
  unfold syW
  by_cases c : 0 < s ∧ s ≤ (k : Int)
  · rw [if_pos c, if_pos (by omega)]
  · rw [if_neg c, if_neg (by omega)]
theorem syW_0 : syW ps s 0 = 0 := by rw [syW, if_neg (by omega)]
theorem small_t (h : ∀ j, j < ps.length → ps[j]!.length ≤ 40) : decide ((ps.length : Int) ≤ 10) = decide (smallL ps) := by
  apply decide_eq_decide.2
  constructor
  · intro q
    refine ⟨fun p hp => ?_, by omega⟩
    obtain ⟨i, hi, rfl⟩ := List.getElem_of_mem hp
    have := h i hi
    rwa [getElem!_pos ps i hi] at this
  · intro q; have := q.2; omega
theorem small_f (hk : k < ps.length) (h : (40 : Int) < ps[k]!.length) : false = decide (smallL ps) := by
  rw [eq_comm, decide_eq_false_iff_not]
  intro q
  have := small_get q hk
  omega
end
theorem cut_valid (l : List UInt8) : validW (l.take (endI (wholeL l).2).toNat) (endI (wholeL l).2) := by
  have hf := full_cut l
  refine ⟨?_, hf⟩
  rw [(whole_cut l).1]
  unfold endI
  split
  · exact .inl rfl
  · rename_i h
    rw [getElem!_pos _ _ (by omega)]
    exact .inr (List.getElem_mem _)
theorem cut_open (l : List UInt8) : (l.take (endI (wholeL l).2).toNat).take (endI (wholeL (l.take (endI (wholeL l).2).toNat)).2).toNat = l.take (endI (wholeL l).2).toNat := by
  rw [(whole_cut l).1, List.take_take, Nat.min_self]
theorem full_open {l : List UInt8} (h : Full l) : l.take (endI (wholeL l).2).toNat = l := by
  rw [h, Int.toNat_natCast, List.take_length]
/-! ### Behind a crash -/
section
variable {ps more : List (List UInt8)} {s : Int} {k M : Nat}
theorem map_range_get {f : Nat → Int} {n i : Nat} (h : i < n) : ((List.range n).map f)[i]! = f i := by
  rw [getElem!_pos _ _ (by simpa using h)]; simp
theorem recovers (hs : smallL ps) (h0 : 0 ≤ s) (hM : M ≤ (wrW [] ps ps.length).length) (hn : syW ps s ps.length ≤ M) :
    ∃ c, c ≤ ps.length ∧ (wholeL ((wrW [] ps ps.length).take M)).1 = ps.take c ∧ (s ≤ ps.length → s ≤ c) := by
  obtain ⟨w1, w2, w3, w4⟩ := wr_0 hs (k := ps.length) (Nat.le_refl _)
  obtain ⟨c, c1, c2, c3⟩ := whole_take _ hM
  rw [List.take_length] at w2
  have hl : (wholeL (wrW [] ps ps.length)).2.length = ps.length := by rw [w3]; simp
  rw [hl] at c1 c3
  refine ⟨c, c1, by rw [c2, w2], fun hle => ?_⟩
  by_cases hz : s = 0
  · omega
  · have h1 := (c3 (s.toNat - 1) (by omega)).2
    rw [w3, map_range_get (by omega), Nat.sub_add_cancel (by omega)] at h1
    rw [syW, if_pos ⟨by omega, hle⟩] at hn
    have := h1 hn
    omega
theorem syW_z : syW ps 0 k = 0 := by rw [syW, if_neg (by omega)]
theorem sy_range (hs : smallL ps) : 0 ≤ syW ps s ps.length ∧ syW ps s ps.length ≤ (wrW [] ps ps.length).length := valid_range (wr_valid hs (Nat.le_refl _))
theorem rec_crash (hs : smallL ps) {m : Int} (h1 : 0 ≤ m) (h2 : m ≤ (wrW [] ps ps.length).length - syW ps s ps.length) :
    crashE (wrW [] ps ps.length) (syW ps s ps.length) m = 0 ∧ crashL (wrW [] ps ps.length) (syW ps s ps.length) m = (wrW [] ps ps.length).take (syW ps s ps.length + m).toNat := by
  have h := crash_0 (k := m) (wr_valid (s := s) hs (Nat.le_refl ps.length)) (by omega)
  exact ⟨h, by rw [crashL, if_pos h]⟩
/-- What was opened, and what is appended to it. -/
def cutW (l : List UInt8) : List UInt8 := l.take (endI (wholeL l).2).toNat
theorem more_all {l : List UInt8} (hl : l.length ≤ 1000) (hm : smallL more) (hk : k ≤ more.length) :
    Full (wrW (cutW l) more k) ∧ (wholeL (wrW (cutW l) more k)).1 = (wholeL l).1 ++ more.take k ∧ validW (wrW (cutW l) more k) (endI (wholeL l).2) ∧ (wrW (cutW l) more k).length ≤ 1500 := by
  have hc : (cutW l).length ≤ l.length := by rw [cutW, List.length_take]; omega
  have hv := cut_valid l
  obtain ⟨h1, h2, h3, h4⟩ := wr_all (full_cut l) hm (by rw [cutW] at hc; omega) k hk
  have := hm.2
  rw [(whole_cut l).1] at h2
  refine ⟨h1, h2, ⟨?_, h1⟩, by unfold cutW at hc ⊢; omega⟩
  rcases hv.1 with h | h
  · exact .inl h
  · refine .inr ?_
    show _ ∈ (wholeL (wrW (l.take (endI (wholeL l).2).toNat) more k)).2
    rw [h3]
    exact List.mem_append_left _ h
theorem more_app {l : List UInt8} (hl : l.length ≤ 1000) (hm : smallL more) (hk : k < more.length) :
    appE (wrW (cutW l) more k) (endI (wholeL l).2) more[k]! = 0 ∧ appL (wrW (cutW l) more k) (endI (wholeL l).2) more[k]! = wrW (cutW l) more (k + 1) ∧ appN (wrW (cutW l) more k) (endI (wholeL l).2) more[k]! = endI (wholeL l).2 := by
  have h40 := small_get hm hk
  obtain ⟨_, _, hv, h4⟩ := more_all hl hm (Nat.le_of_lt hk)
  obtain ⟨e1, e2, e3⟩ := app_0 (p := more[k]!) hv (by omega)
  exact ⟨e1, by rw [e2, wrW_succ hk, addW], e3⟩
end
/-! ### Damage -/
theorem xor_zero {x y : Nat} (h : x ^^^ y = 0) : x = y := by
  have := congrArg (fun z => z ^^^ y) h
  simpa [Nat.xor_assoc] using this
theorem regN_start {x y : Nat} (hx : x < 4294967296) (hy : y < 4294967296) : ∀ {l : List UInt8}, regN x l = regN y l → x = y := by
  intro l
  induction l generalizing x y with
  | nil => intro h; exact h
  | cons b r ih =>
    intro h
    have h1 : powN 8 (x ^^^ b.toNat) = powN 8 (y ^^^ b.toNat) := ih (powN_lt (xlt hx (u8lt b)) 8) (powN_lt (xlt hy (u8lt b)) 8) h
    have h2 : powN 8 (x ^^^ y) = 0 := by
      rw [← x4 x y b.toNat, powN_xor, h1, Nat.xor_self]
    by_cases hxy : x ^^^ y = 0
    · exact xor_zero hxy
    · exact absurd h2 (powN_pos (xlt hx hy) hxy 8)
theorem regN_app (x : Nat) (a b : List UInt8) : regN x (a ++ b) = regN (regN x a) b := by simp [regN]
theorem regN_byte {x : Nat} (hx : x < 4294967296) {a c : List UInt8} {b d : UInt8} (h : b ≠ d) : regN x (a ++ b :: c) ≠ regN x (a ++ d :: c) := by
  intro e
  rw [regN_app, regN_app] at e
  have ha := regN_lt hx a
  have h1 : powN 8 (regN x a ^^^ b.toNat) = powN 8 (regN x a ^^^ d.toNat) := regN_start (powN_lt (xlt ha (u8lt b)) 8) (powN_lt (xlt ha (u8lt d)) 8) e
  have h2 : powN 8 (b.toNat ^^^ d.toNat) = 0 := by
    rw [← x4 b.toNat d.toNat (regN x a), Nat.xor_comm b.toNat, Nat.xor_comm d.toNat, powN_xor, h1, Nat.xor_self]
  by_cases hxy : b.toNat ^^^ d.toNat = 0
  · exact h (UInt8.toNat_inj.1 (xor_zero hxy))
  · exact absurd h2 (powN_pos (xlt (u8lt b) (u8lt d)) hxy 8)
theorem comN_inj {x y : Nat} (h : comN x = comN y) : x = y := by
  have := congrArg (fun z => 4294967295 ^^^ z) h
  simpa [comN, ← Nat.xor_assoc] using this
theorem sumI_byte {h : Int} (_ : R32 h) {a c : List UInt8} {b d : UInt8} (hne : b ≠ d) : sumI h (a ++ b :: c) ≠ sumI h (a ++ d :: c) := by
  intro e
  unfold sumI at e
  have hl : (((a ++ b :: c).length : Nat) : Int) = ((a ++ d :: c).length : Nat) := by simp
  rw [hl] at e
  obtain ⟨n, hn, hn2⟩ := R32.nat (moreI_R h (fourL (((a ++ d :: c).length : Nat) : Int)))
  rw [hn, moreI_nat hn2, moreI_nat hn2] at e
  exact regN_byte (comN_lt hn2) hne (comN_inj (Int.ofNat.inj e))
theorem xor8 (a b : UInt8) : bits .xor .u8 ((a.toNat : Nat) : Int) ((b.toNat : Nat) : Int) = (((a ^^^ b).toNat : Nat) : Int) := by
  rw [xor_u8 _ _ a.toNat_lt b.toNat_lt, UInt8.toNat_xor]
theorem u8_xor_ne {b c : UInt8} (hc : c ≠ 0) : b ^^^ c ≠ b := by
  intro e
  have h := congrArg UInt8.toNat e
  rw [UInt8.toNat_xor] at h
  have : c.toNat = 0 := by
    have h2 := congrArg (fun z => b.toNat ^^^ z) h
    simpa [← Nat.xor_assoc] using h2
  exact hc (UInt8.toNat_inj.1 this)
theorem step_bad {pre q rest : List UInt8} {g : Int} {L : Nat} (hL : L ≤ 4294967295) (hq : q.length = 4 + L) (hne : sumI g (q.drop 4) ≠ numI q) : stepW (pre ++ fourL L ++ q ++ rest) pre.length g = none := by
  cases hs : stepW (pre ++ fourL L ++ q ++ rest) pre.length g with
  | none => rfl
  | some y =>
    obtain ⟨a', p, h'⟩ := y
    obtain ⟨m, h1, rfl, h3, h4, h5, h6, h7, h8⟩ := step_more hs
    have hd : (pre ++ fourL L ++ q ++ rest).drop pre.length = fourL L ++ (q ++ rest) := by simp [List.append_assoc]
    have hd4 : (pre ++ fourL L ++ q ++ rest).drop (pre.length + 4) = q ++ rest := by rw [← List.drop_drop, hd, List.drop_left' (fourL_len _)]
    rw [hd, numI_four ⟨by omega, by omega⟩] at h1
    have hm : m = L := by omega
    subst hm
    have hq4 : numI (q ++ rest) = numI q := by
      rw [← numI_take, ← numI_take q, List.take_append_of_le_length (by omega)]
    rw [hd4, hq4] at h8
    have hp : p = q.drop 4 := by
      rw [h6, List.drop_take, show pre.length + 8 = pre.length + 4 + 4 from rfl, ← List.drop_drop, hd4, List.drop_append_of_le_length (by omega)]
      rw [List.take_append_of_le_length (by simp; omega), List.take_of_length_le (by simp; omega)]
    rw [hp] at h7
    exact absurd (h7.symm.trans h8) hne
theorem bad_q {g : Int} (hg : R32 g) {p : List UInt8} {r : Nat} (hr : r < 4 + p.length) {c : UInt8} (hc : c ≠ 0) :
    sumI g (((fourL (sumI g p) ++ p).set r ((fourL (sumI g p) ++ p)[r]! ^^^ c)).drop 4) ≠ numI ((fourL (sumI g p) ++ p).set r ((fourL (sumI g p) ++ p)[r]! ^^^ c)) := by
  have hf := fourL_len (sumI g p)
  by_cases h4 : r < 4
  · rw [List.set_append_left _ _ (by omega), List.drop_left' (by simp [hf])]
    intro e
    have h1 := four_num (l := (fourL (sumI g p)).set r ((fourL (sumI g p) ++ p)[r]! ^^^ c) ++ p) (by simp [hf])
    rw [← e, List.take_left' (by simp [hf])] at h1
    have h2 := congrArg (fun l => l[r]!) h1
    rw [getElem!_pos _ r (by omega), getElem!_pos _ r (by simp; omega), List.getElem_set_self, getElem!_pos _ r (by simp; omega), List.getElem_append_left (by omega)] at h2
    exact u8_xor_ne hc h2.symm
  · obtain ⟨i, rfl⟩ : ∃ i, r = 4 + i := ⟨r - 4, by omega⟩
    have hi : i < p.length := by omega
    have hget : (fourL (sumI g p) ++ p)[4 + i]! = p[i] := by
      rw [getElem!_pos _ _ (by simp [hf]; omega), List.getElem_append_right (by omega)]
      simp [hf]
    rw [List.set_append_right _ _ (by omega), hf, Nat.add_sub_cancel_left, List.drop_left' hf, numI_four (sumI_R _), hget, List.set_eq_take_append_cons_drop, if_pos hi]
    have hp : p = p.take i ++ p[i] :: p.drop (i + 1) := by rw [List.getElem_cons_drop, List.take_append_drop]
    intro e
    refine sumI_byte hg (a := p.take i) (c := p.drop (i + 1)) (u8_xor_ne (b := p[i]) hc) ?_
    rw [e, ← hp]
theorem wrW_pre {l : List UInt8} {ps : List (List UInt8)} {k : Nat} : ∀ {j : Nat}, k ≤ j → j ≤ ps.length → ∃ r, wrW l ps j = wrW l ps k ++ r
  | 0, h, _ => ⟨[], by rw [show k = 0 by omega]; simp⟩
  | j + 1, h, hj => by
    by_cases e : k = j + 1
    · exact ⟨[], by rw [e]; simp⟩
    · obtain ⟨r, hr⟩ := wrW_pre (l := l) (ps := ps) (k := k) (j := j) (by omega) (by omega)
      refine ⟨r ++ (fourL (ps[j]!.length) ++ fourL (sumI (lastW (wrW l ps j)) ps[j]!) ++ ps[j]!), ?_⟩
      rw [wrW_succ (by omega), addW]
      generalize sumI (lastW (wrW l ps j)) ps[j]! = S
      rw [hr]
      simp only [List.append_assoc]
theorem dam_len {ps : List (List UInt8)} {k : Nat} (hk : k < ps.length) : (wrW [] ps k).length + 8 + ps[k]!.length ≤ (wrW [] ps ps.length).length := by
  obtain ⟨rest, hrest⟩ := wrW_pre (l := []) (ps := ps) (k := k + 1) (j := ps.length) (by omega) (Nat.le_refl _)
  rw [hrest, wrW_succ hk, List.length_append, addW_len]
  omega
theorem damage {ps : List (List UInt8)} {k r : Nat} {c : UInt8} (hs : smallL ps) (hk : k < ps.length) (hr : r < 4 + ps[k]!.length) (hc : c ≠ 0) :
    (wholeL ((wrW [] ps ps.length).set ((wrW [] ps k).length + 4 + r) ((wrW [] ps ps.length)[(wrW [] ps k).length + 4 + r]! ^^^ c))).1 = ps.take k := by
  obtain ⟨w1, w2, w3, w4⟩ := wr_0 hs (k := k) (by omega)
  have h40 := small_get hs hk
  obtain ⟨rest, hrest⟩ := wrW_pre (l := []) (ps := ps) (k := k + 1) (j := ps.length) (by omega) (Nat.le_refl _)
  obtain ⟨cch, _⟩ := wholeC (wrW [] ps k)
  have hb : (endI (wholeL (wrW [] ps k)).2).toNat = (wrW [] ps k).length := by rw [w1]; rfl
  rw [hb] at cch
  have hg := lastW_R (wrW [] ps k)
  rw [wrW_succ hk] at hrest
  generalize wrW [] ps ps.length = F at *
  generalize hA : wrW [] ps k = A at *
  generalize hge : lastW A = g at *
  generalize ps[k]! = p at *
  have hfl := fourL_len (sumI g p)
  have hF : F = (A ++ fourL p.length) ++ ((fourL (sumI g p) ++ p) ++ rest) := by
    rw [hrest, addW, hge]
    simp only [List.append_assoc]
  have hpl : (A ++ fourL p.length).length = A.length + 4 := by simp [fourL_len]
  have hset : F.set (A.length + 4 + r) (F[A.length + 4 + r]! ^^^ c) = A ++ fourL p.length ++ (fourL (sumI g p) ++ p).set r ((fourL (sumI g p) ++ p)[r]! ^^^ c) ++ rest := by
    have hget : F[A.length + 4 + r]! = (fourL (sumI g p) ++ p)[r]! := by
      have h1 : r < (fourL (sumI g p) ++ p).length := by simp [hfl]; omega
      have h2 : A.length + 4 + r < F.length := by rw [hF]; simp [hfl, fourL_len]; omega
      have h3 : F[A.length + 4 + r]? = (fourL (sumI g p) ++ p)[r]? := by
        rw [hF, List.getElem?_append_right (by omega), hpl, Nat.add_sub_cancel_left, List.getElem?_append_left h1]
      rw [List.getElem?_eq_getElem h2, List.getElem?_eq_getElem h1] at h3
      rw [getElem!_pos F _ h2, getElem!_pos _ r h1]
      exact Option.some.inj h3
    rw [hget, hF, List.set_append_right _ _ (by omega), hpl, Nat.add_sub_cancel_left, List.set_append_left _ _ (by simp [hfl]; omega), ← List.append_assoc]
  rw [hset]
  have hbad := step_bad (pre := A) (rest := rest) (g := g) (L := p.length) (q := (fourL (sumI g p) ++ p).set r ((fourL (sumI g p) ++ p)[r]! ^^^ c)) (by omega) (by simp [hfl]) (bad_q hg hr hc)
  have hch := (cch.loc (file' := A ++ fourL p.length ++ (fourL (sumI g p) ++ p).set r ((fourL (sumI g p) ++ p)[r]! ^^^ c) ++ rest) (by simp [List.append_assoc]) (by simp))
  rw [(whole_of hch hbad).1, w2]
end Go.D20
