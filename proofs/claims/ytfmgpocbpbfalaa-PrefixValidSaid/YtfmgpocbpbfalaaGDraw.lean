/-
  A region that draws its order, walked once in the text's order: each operation is asked only on the slots that it looks at, in any world that has grown from the region's first.
-/
import Derived.Test.YtfmgpocbpbfalaaGCore
namespace Go.G
open Go Go.RowKit

section
variable {n : Nat} {P : Program} {ops : Array Oper}

/-- What is asked once an operation has been carried out. -/
def givesUpon (P : Program) (w : World) (i : Info) : Result Next → Prop
  | .ok (.value u) w' => Ext w w' ∧ i.ok u w'
  | .ok .skip w' => Ext w w' ∧ i.ok undef w'
  | .ok (.enter f args) w' => Ext w w' ∧ Calls P f args w' (fun e w'' => ∃ v, e = .returned v ∧ Ext w' w'' ∧ i.ok v w'')
  | _ => False

def Gives (P : Program) (ops : Array Oper) (o : Oper) (a : Act) (w : World) (i : Info) : Prop :=
  if Region.wanted o (yielded ops a.tmps) then givesUpon P w i ((execOp a.eval o).run P w) else i.ok undef w

/-- The facts on the slots that are looked at. -/
structure FitsOn (S : List Nat) (n : Nat) (a : Act) (F : Frm) (w : World) : Prop where
  size : a.tmps.size = n
  defers : a.defers = []
  get : ∀ t, t ∈ S → ∀ i, look t F = some i → ∃ u, a.tmps[t]? = some u ∧ i.ok u w

def dstOk (n : Nat) (o : Oper) : Bool := match o.dst with | some d => Nat.blt d n | none => true

/-- The walk in the text's order. -/
def WD (n : Nat) (P : Program) (ops : Array Oper) (w0 : World) (Z : Frm → World → Prop) : List Oper → Frm → Prop
  | [], F => ∀ w, Ext w0 w → Z F w
  | o :: r, F => dstOk n o = true ∧ ∃ i : Info, (∀ a w, Ext w0 w → FitsOn (o.looksAt ops) n a F w → Gives P ops o a w i) ∧ WD n P ops w0 Z r (push o.dst i F)

/-! ### Which orders there are -/
def masks : List Oper → List Nat → List Nat
  | [], acc => acc
  | o :: r, acc => masks r (acc ++ [o.after.toList.foldl (fun s e => if Region.binds .any e then s ||| 2 ^ e.on ||| acc.getD e.on 0 else s) 0])

def Closed (ops : Array Oper) (listed : Array Bool) : Prop := ∀ j o, ops[j]? = some o → listed.getD j false = true → ∀ e ∈ o.after, Region.binds .any e = true → listed.getD e.on false = true

def MaskOk (ops : Array Oper) (acc : List Nat) : Prop := ∀ listed, Closed ops listed → ∀ j i, (acc.getD j 0).testBit i = true → listed.getD j false = true → listed.getD i false = true

theorem fold_bits (acc : List Nat) (l : List Edge) (i : Nat) : ∀ s : Nat, (l.foldl (fun s e => if Region.binds .any e then s ||| 2 ^ e.on ||| acc.getD e.on 0 else s) s).testBit i = true →
    s.testBit i = true ∨ ∃ e ∈ l, Region.binds .any e = true ∧ (i = e.on ∨ (acc.getD e.on 0).testBit i = true) := by
  induction l with
  | nil => intro s h; exact .inl (by simpa using h)
  | cons e l ih =>
    intro s h
    rw [List.foldl_cons] at h
    rcases ih _ h with h1 | ⟨e', he', hb, hh⟩
    · split at h1
      · rename_i hb
        rw [Nat.testBit_or, Nat.testBit_or, Bool.or_eq_true, Bool.or_eq_true] at h1
        rcases h1 with (h1 | h1) | h1
        · exact .inl h1
        · refine .inr ⟨e, by simp, hb, .inl ?_⟩
          rw [Nat.testBit_two_pow] at h1
          exact (of_decide_eq_true h1).symm
        · exact .inr ⟨e, by simp, hb, .inr h1⟩
      · exact .inl h1
    · exact .inr ⟨e', by simp [he'], hb, hh⟩

theorem masks_ok (ops : Array Oper) : ∀ (l : List Oper) (acc : List Nat), (∀ k, l[k]? = ops[acc.length + k]?) → MaskOk ops acc → MaskOk ops (masks l acc)
  | [], _, _, h => h
  | o :: l, acc, hl, h => by
    refine masks_ok ops l _ (fun k => ?_) ?_
    · have := hl (k + 1)
      simp only [List.getElem?_cons_succ] at this
      rw [this, List.length_append]
      congr 1
      simp; omega
    · intro listed hc j i hb hj
      rcases Nat.lt_trichotomy j acc.length with hlt | heq | hgt
      · rw [List.getD_eq_getElem?_getD, List.getElem?_append_left hlt, ← List.getD_eq_getElem?_getD] at hb
        exact h listed hc j i hb hj
      · subst heq
        rw [List.getD_eq_getElem?_getD, List.getElem?_append_right (Nat.le_refl _)] at hb
        simp only [Nat.sub_self, List.getElem?_cons_zero, Option.getD_some] at hb
        have ho : ops[acc.length]? = some o := by simpa using (hl 0).symm
        rcases fold_bits acc _ i 0 hb with h0 | ⟨e, he, hbd, hh⟩
        · simp at h0
        · have he1 := hc _ o ho hj e (by simpa using he) hbd
          rcases hh with rfl | hh
          · exact he1
          · exact h listed hc _ _ hh he1
      · rw [List.getD_eq_getElem?_getD, List.getElem?_append_right (by omega)] at hb
        rw [List.getElem?_eq_none (by simp; omega)] at hb
        simp at hb

/-- The names of an operation, its own slot among them. -/
def namesOf (ops : Array Oper) (o : Oper) : List Nat := o.looksAt ops ++ o.dst.toList

def writersOk (ops : List Oper) (m : List Nat) (j : Nat) (t : Nat) : Nat → List Oper → Bool
  | _, [] => true
  | i, o :: r => (match o.dst with
    | some d => !(Nat.beq d t) || Nat.beq i j || (if Nat.blt i j then (m.getD j 0).testBit i else (m.getD i 0).testBit j)
    | none => true) && writersOk ops m j t (i + 1) r

def edgesBack (i : Nat) : List Oper → Bool
  | [] => true
  | o :: r => o.after.toList.all (fun e => !Region.binds .any e || Nat.blt e.on i) && edgesBack (i + 1) r

def namesOk (ops : Array Oper) (h : List Oper) (m : List Nat) : Nat → List Oper → Bool
  | _, [] => true
  | j, o :: r => (namesOf ops o).all (fun t => writersOk h m j t 0 h) && namesOk ops h m (j + 1) r

/-- All that is asked of a region's text: 'h' operations first, then a tail in one order. -/
def drawOk (ops : Array Oper) (h : Nat) : Bool :=
  Region.noSelect ops && Nat.ble h ops.size && edgesBack 0 ops.toList && namesOk ops (ops.toList.take h) (masks ops.toList []) 0 (ops.toList.take h) &&
  (Nat.beq h ops.size || (Region.sinkB .any ops h && Region.chainB .any ops h)) && Region.seqB .any ops (ops.size - h) h ((List.replicate h true ++ List.replicate (ops.size - h) false).toArray)

/-! ### What the walk gives -/
def frL : List Oper → List Info → Frm → Nat → Frm
  | o :: l, i :: is, F, m + 1 => frL l is (push o.dst i F) m
  | _, _, F, _ => F

theorem WD.infos {w0 : World} {Z : Frm → World → Prop} : ∀ (l : List Oper) (F : Frm), WD n P ops w0 Z l F →
    ∃ is : List Info, is.length = l.length ∧ (∀ (m : Nat) (o : Oper) (i : Info), l[m]? = some o → is[m]? = some i →
      dstOk n o = true ∧ ∀ a w, Ext w0 w → FitsOn (o.looksAt ops) n a (frL l is F m) w → Gives P ops o a w i) ∧ (∀ w, Ext w0 w → Z (frL l is F l.length) w)
  | [], F, h => ⟨[], rfl, fun m o i h1 => by simp at h1, by simpa [frL, WD] using h⟩
  | o :: l, F, h => by
    obtain ⟨hd, i, hg, hr⟩ := h
    obtain ⟨is, h1, h2, h3⟩ := WD.infos l _ hr
    refine ⟨i :: is, by simp [h1], fun m o' i' hm hi => ?_, by simpa [frL] using h3⟩
    cases m with
    | zero =>
      simp only [List.getElem?_cons_zero, Option.some.injEq] at hm hi
      subst hm; subst hi
      exact ⟨hd, by simpa [frL] using hg⟩
    | succ m =>
      simp only [List.getElem?_cons_succ] at hm hi
      exact h2 m o' i' hm hi

theorem look_push_ne {d : Option Nat} {i : Info} {F : Frm} {t : Nat} (h : d ≠ some t) : look t (push d i F) = look t F := by
  cases d with
  | none => rfl
  | some d => exact look_cons_ne (fun e => h (by rw [e]))

/-- Whose value stands in a slot. -/
theorem look_frL : ∀ (l : List Oper) (is : List Info) (F : Frm) (m t : Nat), is.length = l.length → m ≤ l.length →
    (∃ i o, i < m ∧ l[i]? = some o ∧ o.dst = some t ∧ (∀ k o', k < m → l[k]? = some o' → o'.dst = some t → k ≤ i) ∧ look t (frL l is F m) = is[i]?) ∨
    ((∀ k o', k < m → l[k]? = some o' → o'.dst ≠ some t) ∧ look t (frL l is F m) = look t F)
  | [], is, F, m, t, _, hm => by
    have : m = 0 := by simpa using hm
    subst this
    exact .inr ⟨fun k o' hk => by omega, by simp [frL]⟩
  | o :: l, [], F, m, t, hl, hm => by simp at hl
  | o :: l, i :: is, F, 0, t, hl, hm => .inr ⟨fun k o' hk => by omega, by simp [frL]⟩
  | o :: l, i :: is, F, m + 1, t, hl, hm => by
    simp only [frL]
    rcases look_frL l is (push o.dst i F) m t (by simpa using hl) (by simpa using hm) with ⟨j, oj, h1, h2, h3, h4, h5⟩ | ⟨h1, h2⟩
    · refine .inl ⟨j + 1, oj, by omega, by simpa using h2, h3, fun k o' hk ho hd => ?_, by simpa using h5⟩
      cases k with
      | zero => omega
      | succ k => have := h4 k o' (by omega) (by simpa using ho) hd; omega
    · by_cases e : o.dst = some t
      · refine .inl ⟨0, o, by omega, rfl, e, fun k o' hk ho hd => ?_, by rw [h2, e]; simp [push, look_cons_eq]⟩
        cases k with
        | zero => exact Nat.le_refl _
        | succ k => exact absurd hd (h1 k o' (by omega) (by simpa using ho))
      · refine .inr ⟨fun k o' hk ho => ?_, by rw [h2, look_push_ne e]⟩
        cases k with
        | zero =>
          simp only [List.getElem?_cons_zero, Option.some.injEq] at ho
          subst ho
          exact e
        | succ k => exact h1 k o' (by omega) (by simpa using ho)

/-! ### Counting what has not come up -/
def cntU (listed : Array Bool) : Nat → Nat
  | 0 => 0
  | k + 1 => cntU listed k + (if listed.getD k false then 0 else 1)

theorem cntU_far {listed : Array Bool} {i : Nat} : ∀ k, k ≤ i → cntU (listed.setIfInBounds i true) k = cntU listed k
  | 0, _ => rfl
  | k + 1, h => by simp only [cntU]; rw [cntU_far k (by omega), getD_set_ne false (by omega)]

theorem cntU_set {listed : Array Bool} {i : Nat} (hi : i < listed.size) (hu : listed.getD i false = false) : ∀ k, i < k → cntU (listed.setIfInBounds i true) k + 1 = cntU listed k
  | 0, h => by omega
  | k + 1, h => by
    simp only [cntU]
    by_cases e : i = k
    · subst e
      rw [cntU_far i (Nat.le_refl _), hu]
      have : (listed.setIfInBounds i true).getD i false = true := by simp [hi]
      rw [this]
      simp
    · have := cntU_set hi hu k (by omega)
      rw [getD_set_ne false e]
      omega

theorem cntU_zero {listed : Array Bool} : ∀ k, cntU listed k = 0 → ∀ i, i < k → listed.getD i false = true
  | 0, _, i, hi => by omega
  | k + 1, h, i, hi => by
    simp only [cntU] at h
    cases hk : listed.getD k false with
    | false => rw [hk] at h; simp at h
    | true =>
      rw [hk] at h
      by_cases e : i = k
      · subst e; exact hk
      · exact cntU_zero k (by simpa using h) i (by omega)

theorem cntU_pos {listed : Array Bool} : ∀ k, 0 < cntU listed k → ∃ i, i < k ∧ listed.getD i false = false ∧ ∀ j, j < i → listed.getD j false = true
  | 0, h => by simp [cntU] at h
  | k + 1, h => by
    by_cases hk : 0 < cntU listed k
    · obtain ⟨i, h1, h2, h3⟩ := cntU_pos k hk
      exact ⟨i, by omega, h2, h3⟩
    · have hz := cntU_zero (listed := listed) k (by omega)
      simp only [cntU] at h
      cases hl : listed.getD k false with
      | true => rw [hl] at h; simp at h; omega
      | false => exact ⟨k, by omega, hl, hz⟩

theorem cntU_new (m : Nat) : ∀ k, cntU (Array.replicate m false) k = k
  | 0 => rfl
  | k + 1 => by simp only [cntU]; rw [cntU_new m k, getD_replicate_false]; simp

/-! ### Reading the Bool -/
theorem edgesBack_spec : ∀ (l : List Oper) (k : Nat), edgesBack k l = true → ∀ m o, l[m]? = some o → ∀ e ∈ o.after, Region.binds .any e = true → e.on < k + m
  | [], _, _, m, o, h => by simp at h
  | o :: l, k, hB, m, o', h => by
    simp only [edgesBack, Bool.and_eq_true] at hB
    cases m with
    | zero =>
      simp only [List.getElem?_cons_zero, Option.some.injEq] at h
      subst h
      intro e he hb
      have := List.all_eq_true.1 hB.1 e (by simpa using he)
      simp only [hb, Bool.not_true, Bool.false_or, Nat.blt_eq] at this
      omega
    | succ m =>
      intro e he hb
      have := edgesBack_spec l (k + 1) hB.2 m o' (by simpa using h) e he hb
      omega

theorem writersOk_spec {h0 : List Oper} {m : List Nat} {j t : Nat} : ∀ (l : List Oper) (k : Nat), writersOk h0 m j t k l = true → ∀ i o, l[i]? = some o → o.dst = some t → k + i ≠ j →
    (if k + i < j then (m.getD j 0).testBit (k + i) else (m.getD (k + i) 0).testBit j) = true
  | [], _, _, i, o, h => by simp at h
  | o :: l, k, hB, i, o', h => by
    simp only [writersOk, Bool.and_eq_true] at hB
    intro hd hne
    cases i with
    | zero =>
      simp only [List.getElem?_cons_zero, Option.some.injEq] at h
      subst h
      have h1 := hB.1
      simp only [hd] at h1
      have e1 : Nat.beq t t = true := by simp
      have e2 : Nat.beq k j = false := beq_ne (by simpa using hne)
      simp only [e1, e2, Bool.not_true, Bool.false_or] at h1
      simpa [Nat.blt_eq] using h1
    | succ i =>
      have := writersOk_spec l (k + 1) hB.2 i o' (by simpa using h) hd (by omega)
      have e : k + 1 + i = k + (i + 1) := by omega
      rw [e] at this
      exact this

theorem namesOk_spec {h0 : List Oper} {m : List Nat} : ∀ (l : List Oper) (k : Nat), namesOk ops h0 m k l = true → ∀ j o, l[j]? = some o → ∀ t ∈ namesOf ops o, writersOk h0 m (k + j) t 0 h0 = true
  | [], _, _, j, o, h => by simp at h
  | o :: l, k, hB, j, o', h => by
    simp only [namesOk, Bool.and_eq_true] at hB
    cases j with
    | zero =>
      simp only [List.getElem?_cons_zero, Option.some.injEq] at h
      subst h
      intro t ht
      exact List.all_eq_true.1 hB.1 t ht
    | succ j =>
      intro t ht
      have := namesOk_spec l (k + 1) hB.2 j o' (by simpa using h) t ht
      have e : k + 1 + j = k + (j + 1) := by omega
      rw [e] at this
      exact this

/-! ### The proof -/
structure Inv (n h : Nat) (ops : Array Oper) (w0 : World) (F : Frm) (is : List Info) (listed : Array Bool) (a : Act) (w : World) : Prop where
  ext : Ext w0 w
  size : a.tmps.size = n
  defers : a.defers = []
  head : HeadInv .any ops h listed
  slot : ∀ t i o, i < h → ops[i]? = some o → o.dst = some t → listed.getD i false = true →
    (∀ k o', k < h → ops[k]? = some o' → o'.dst = some t → listed.getD k false = true → k ≤ i) → ∀ inf, is[i]? = some inf → ∃ u, a.tmps[t]? = some u ∧ inf.ok u w
  base : ∀ t, (∀ k o', k < h → ops[k]? = some o' → o'.dst = some t → listed.getD k false = false) → ∀ inf, look t F = some inf → ∃ u, a.tmps[t]? = some u ∧ inf.ok u w

structure Chk (ops : Array Oper) (h : Nat) : Prop where
  noSelect : Region.noSelect ops = true
  le : h ≤ ops.size
  back : ∀ j o, ops[j]? = some o → ∀ e ∈ o.after, Region.binds .any e = true → e.on < j
  names : ∀ j o, j < h → ops[j]? = some o → ∀ t ∈ namesOf ops o, ∀ i o', i < h → ops[i]? = some o' → o'.dst = some t → i ≠ j →
    ∀ listed, Closed ops listed → (i < j → listed.getD j false = true → listed.getD i false = true) ∧ (j < i → listed.getD i false = true → listed.getD j false = true)
  tail : h < ops.size → Region.sinkB .any ops h = true ∧ Region.chainB .any ops h = true
  seq : Region.seqB .any ops (ops.size - h) h ((List.replicate h true ++ List.replicate (ops.size - h) false).toArray) = true

theorem Chk.of {h : Nat} (hB : drawOk ops h = true) : Chk ops h := by
  simp only [drawOk, Bool.and_eq_true] at hB
  obtain ⟨⟨⟨⟨⟨h1, h2⟩, h3⟩, h4⟩, h5⟩, h6⟩ := hB
  have hle : h ≤ ops.size := Nat.le_of_ble_eq_true h2
  refine ⟨h1, hle, fun j o ho e he hb => ?_, fun j o hj ho t ht i o' hi ho' hd hne listed hc => ?_, fun hlt => ?_, h6⟩
  · have := edgesBack_spec ops.toList 0 h3 j o (by simpa using ho) e he hb
    omega
  · have hm : MaskOk ops (masks ops.toList []) := masks_ok ops ops.toList [] (fun k => by simp) (fun _ _ j i hb => by simp at hb)
    have hw := namesOk_spec (ops := ops) (ops.toList.take h) 0 h4 j o (by rw [List.getElem?_take]; simp [hj, ho]) t ht
    rw [Nat.zero_add] at hw
    have hb := writersOk_spec (ops.toList.take h) 0 hw i o' (by rw [List.getElem?_take]; simp [hi, ho']) hd (by omega)
    rw [Nat.zero_add] at hb
    refine ⟨fun hlt hl => ?_, fun hlt hl => ?_⟩
    · rw [if_pos hlt] at hb
      exact hm listed hc j i hb hl
    · rw [if_neg (by omega)] at hb
      exact hm listed hc i j hb hl
  · rw [Bool.or_eq_true] at h5
    rcases h5 with h5 | h5
    · have : h = ops.size := Nat.eq_of_beq_eq_true h5
      omega
    · simpa using h5

theorem wd_any {h : Nat} {w0 : World} {F : Frm} {Q : Exit → Act → World → Prop} {is : List Info} (c : Chk ops h)
    (hlen : is.length = h)
    (hob : ∀ (m : Nat) (o : Oper) (i : Info), m < h → ops[m]? = some o → is[m]? = some i → dstOk n o = true ∧ ∀ a w, Ext w0 w → FitsOn (o.looksAt ops) n a (frL (ops.toList.take h) is F m) w → Gives P ops o a w i)
    (hend : ∀ a w, Ext w0 w → Fits n a (frL (ops.toList.take h) is F h) w → wpList P ops Q (ops.toList.drop h) a w) :
    ∀ f listed a w, Inv n h ops w0 F is listed a w → cntU listed h = f → wpAny P .any ops Q (f + (ops.size - h)) listed a w := by
  have hth : (ops.toList.take h).length = h := by rw [List.length_take, Array.length_toList]; exact Nat.min_eq_left c.le
  have hget : ∀ m o, m < h → ((ops.toList.take h)[m]? = some o ↔ ops[m]? = some o) := fun m o hm => by rw [List.getElem?_take]; simp [hm]
  intro f
  induction f with
  | zero =>
    intro listed a w hI hc
    have hall := cntU_zero h hc
    have hL : listed = (List.replicate h true ++ List.replicate (ops.size - h) false).toArray := by
      apply Array.ext
      · simp [hI.head.size]; have := c.le; omega
      · intro k hk hk'
        by_cases e : k < h
        · have h1 := hall k e
          rw [Array.getD_eq_getD_getElem?, Array.getElem?_eq_getElem hk] at h1
          simp only [Option.getD_some] at h1
          rw [h1]
          simp [e]
        · have h1 := hI.head.tail k (by omega) (by have := hI.head.size; omega)
          rw [Array.getD_eq_getD_getElem?, Array.getElem?_eq_getElem hk] at h1
          simp only [Option.getD_some] at h1
          rw [h1]
          simp [List.getElem_append, e]
    have hfit : Fits n a (frL (ops.toList.take h) is F h) w := by
      refine ⟨hI.size, hI.defers, fun t i hl => ?_⟩
      rcases look_frL (ops.toList.take h) is F h t (by rw [hth]; exact hlen) (by rw [hth]; exact Nat.le_refl _) with ⟨j, o, h1, h2, h3, h4, h5⟩ | ⟨h1, h2⟩
      · rw [hl] at h5
        exact hI.slot t j o h1 ((hget j o h1).1 h2) h3 (hall j h1) (fun k o' hk ho hd _ => h4 k o' hk ((hget k o' hk).2 ho) hd) i h5.symm
      · rw [hl] at h2
        exact hI.base t (fun k o' hk ho hd => absurd hd (h1 k o' hk ((hget k o' hk).2 ho))) i h2.symm
    have := wpAny_of_seq (md := .any) (Q' := Q) (ops.toList.drop h) h listed a w (fun j => by simp [List.getElem?_drop]) (by
      rw [hL]; simpa using c.seq) (hend a w hI.ext hfit)
    simpa using this
  | succ f ih =>
    intro listed a w hI hc
    rw [show f + 1 + (ops.size - h) = (f + (ops.size - h)) + 1 by omega]
    have hcl : Closed ops listed := fun j o ho hl e he hb => hI.head.closed j o ho hl e he hb
    -- somebody of the head may come up
    obtain ⟨i0, hi0, hu0, hmin⟩ := cntU_pos h (by omega : 0 < cntU listed h)
    have hi0s : i0 < ops.size := Nat.lt_of_lt_of_le hi0 c.le
    have hr0 : i0 ∈ Region.ready .any ops listed := by
      refine mem_ready.2 ⟨getD_in (by rw [hI.head.size]; exact hi0s) hu0, ops[i0], Array.getElem?_eq_getElem hi0s, fun e he hb => ?_⟩
      exact hmin _ (c.back i0 _ (Array.getElem?_eq_getElem hi0s) e he hb)
    refine ⟨fun h0 => (by rw [h0] at hr0; cases hr0), fun i hi => ?_⟩
    have hih : i < h := by
      rcases Nat.lt_or_ge i h with hlt | hge
      · exact hlt
      · obtain ⟨hiu, oi, hoi, _⟩ := mem_ready.1 hi
        have his : i < ops.size := (Array.getElem?_eq_some_iff.1 hoi).1
        have hlt : h < ops.size := by omega
        exact absurd hi (tail_waits (c.tail hlt).1 (c.tail hlt).2 hlt hI.head _ i0 rfl hi0 (mem_ready.1 hr0).1 i hge)
    obtain ⟨hiu, o, ho, hall⟩ := mem_ready.1 hi
    have his : i < ops.size := Nat.lt_of_lt_of_le hih c.le
    have hiu' : listed.getD i false = false := getD_both hiu
    obtain ⟨inf, hinf⟩ : ∃ inf, is[i]? = some inf := ⟨is[i], List.getElem?_eq_getElem (by omega)⟩
    obtain ⟨hdst, hg⟩ := hob i o inf hih ho hinf
    -- the slots that it looks at hold what the text says
    have hfit : FitsOn (o.looksAt ops) n a (frL (ops.toList.take h) is F i) w := by
      refine ⟨hI.size, hI.defers, fun t ht j hl => ?_⟩
      have hn := c.names i o hih ho t (List.mem_append_left _ ht)
      rcases look_frL (ops.toList.take h) is F i t (by rw [hth]; exact hlen) (by rw [hth]; omega) with ⟨m, om, h1, h2, h3, h4, h5⟩ | ⟨h1, h2⟩
      · rw [hl] at h5
        have hom := (hget m om (by omega)).1 h2
        have hlm : listed.getD m false = true := by
          -- m waits for nobody but those listed: i may come up, and m is ahead of it
          have hcl' : Closed ops (listed.setIfInBounds i true) := fun j' o' ho' hl' e he hb => (hI.head.set hi hih).closed j' o' ho' hl' e he hb
          have h6 := (hn m om (by omega) hom h3 (by omega) _ hcl').1 h1 (by simp [hI.head.size, his])
          rw [getD_set_ne false (by omega)] at h6
          exact h6
        refine hI.slot t m om (by omega) hom h3 hlm (fun k o' hk ho' hd hlk => ?_) j h5.symm
        rcases Nat.lt_trichotomy k i with hki | hki | hki
        · exact h4 k o' hki ((hget k o' hk).2 ho') hd
        · subst hki; rw [hiu'] at hlk; cases hlk
        · have := (hn k o' hk ho' hd (by omega) listed hcl).2 hki hlk
          rw [hiu'] at this; cases this
      · rw [hl] at h2
        refine hI.base t (fun k o' hk ho' hd => ?_) j h2.symm
        rcases Nat.lt_trichotomy k i with hki | hki | hki
        · exact absurd hd (h1 k o' hki ((hget k o' hk).2 ho'))
        · subst hki; exact hiu'
        · cases hlk : listed.getD k false with
          | false => rfl
          | true =>
            have := (hn k o' hk ho' hd (by omega) listed hcl).2 hki hlk
            rw [hiu'] at this; cases this
    have hgv := hg a w hI.ext hfit
    -- what stands behind it
    have next : ∀ u w', Ext w w' → inf.ok u w' → wpAny P .any ops Q (f + (ops.size - h)) (listed.setIfInBounds i true) (a.put o.dst u) w' := by
      intro u w' he hok
      refine ih _ _ _ ⟨Ext.tr hI.ext he, ?_, ?_, hI.head.set hi hih, ?_, ?_⟩ ?_
      · cases o.dst <;> simp [Act.put, hI.size]
      · cases o.dst <;> simp [Act.put, hI.defers]
      · intro t k ok hk hok' hdk hlk hmax infk hinfk
        by_cases e : k = i
        · subst e
          have : ok = o := Option.some.inj (hok'.symm.trans ho)
          subst this
          have : infk = inf := Option.some.inj (hinfk.symm.trans hinf)
          subst this
          refine ⟨u, ?_, hok⟩
          rw [hdk]
          have hlt : t < n := by simpa [dstOk, hdk, Nat.blt_eq] using hdst
          simp [Act.put, hI.size, hlt]
        · rw [getD_set_ne false (Ne.symm e)] at hlk
          have hne : o.dst ≠ some t := by
            intro hdo
            -- both write the slot: i comes up later than k: it stands behind it
            have h1 := hmax i o hih ho hdo (by simp [hI.head.size, his])
            have := (c.names i o hih ho t (List.mem_append_right _ (by simp [hdo])) k ok hk hok' hdk e listed hcl).2 (by omega) hlk
            rw [hiu'] at this; cases this
          obtain ⟨u', h1, h2⟩ := hI.slot t k ok hk hok' hdk hlk (fun k' o' hk' ho' hd' hl' => hmax k' o' hk' ho' hd' (getD_set_true hl')) infk hinfk
          refine ⟨u', ?_, Info.ok_ext h2 he⟩
          cases hdo : o.dst with
          | none => exact h1
          | some d =>
            have : d ≠ t := fun e' => hne (by rw [hdo, e'])
            simp [Act.put, Array.getElem?_setIfInBounds_ne this, h1]
      · intro t hnone j hl
        have hne : o.dst ≠ some t := fun hdo => by
          have := hnone i o hih ho hdo
          simp [hI.head.size, his] at this
        obtain ⟨u', h1, h2⟩ := hI.base t (fun k o' hk ho' hd => by
          have h3 := hnone k o' hk ho' hd
          by_cases e : i = k
          · subst e; exact hiu'
          · rw [getD_set_ne false e] at h3; exact h3) j hl
        refine ⟨u', ?_, Info.ok_ext h2 he⟩
        cases hdo : o.dst with
        | none => exact h1
        | some d =>
          have : d ≠ t := fun e' => hne (by rw [hdo, e'])
          simp [Act.put, Array.getElem?_setIfInBounds_ne this, h1]
      · have := cntU_set (listed := listed) (i := i) (by rw [hI.head.size]; exact his) hiu' h hih
        omega
    unfold wpOp
    simp only [ho]
    unfold Gives at hgv
    split
    · rename_i hw
      rw [if_pos hw] at hgv
      refine .inl ?_
      unfold Oper.wp
      generalize (execOp a.eval o).run P w = r at hgv
      cases r with
      | ok nx w' =>
        cases nx <;> simp only [givesUpon] at hgv <;> simp only [Oper.upon]
        case value u => exact next u w' hgv.1 hgv.2
        case skip => exact next undef w' hgv.1 hgv.2
        case enter f' args =>
          refine hgv.2.mono fun e w'' ⟨v, he, h1, h2⟩ => ?_
          subst he
          exact next v w'' (Ext.tr hgv.1 h1) h2
      | halt x w' => simp only [givesUpon] at hgv
    · rename_i hw
      rw [if_neg hw] at hgv
      exact next undef w (Ext.rfl' w) hgv

/-- **A region that draws its order**: 'h' operations in any order, then a tail in the text's. -/
theorem W.draw {id : Nat} {l : List Oper} {Q : Exit → Act → World → Prop} {F : Frm} {w : World} (h : Nat) (hm : P.follows .mixedOrders = true) (hB : drawOk l.toArray h = true)
    (H : ∀ w0, Ext w w0 → WD n P l.toArray w0 (fun F' w' => WL n P l.toArray Q (l.drop h) F' w') (l.take h) F) : W n P (.region id l.toArray true) Q F w := by
  intro a ha
  have c := Chk.of hB
  obtain ⟨is, h1, h2, h3⟩ := (H _ (Ext.draw w)).infos
  have hth : (l.take h).length = h := by have := c.le; rw [List.length_take]; exact Nat.min_eq_left (by simpa using this)
  rw [hth] at h1 h3
  refine wp_region_any hm ?_
  have := wd_any (n := n) (P := P) (Q := Q) (F := F) (is := is) (w0 := { w with drawn := w.drawn + 1 }) c h1
    (fun m o i hm' ho hi => by
      have := h2 m o i (by rw [List.getElem?_take]; simpa [hm'] using ho) hi
      simpa using this)
    (fun a' w' he hf => by simpa using h3 w' he a' (by simpa using hf)) (cntU (Array.replicate l.toArray.size false) h) (Array.replicate l.toArray.size false) a _
    ⟨Ext.rfl' _, ha.size, ha.defers, ⟨by simp, fun j oj _ hl => (by rw [getD_replicate_false] at hl; cases hl), fun t _ ht => getD_in (by simpa using ht) (getD_replicate_false _ _)⟩,
      fun t i o _ _ _ hl => (by rw [getD_replicate_false] at hl; cases hl), fun t _ inf hl => let ⟨u, q1, q2⟩ := ha.get t inf hl; ⟨u, q1, Info.ok_ext q2 (Ext.draw w)⟩⟩ rfl
  rw [cntU_new] at this
  have e : h + (l.toArray.size - h) = l.toArray.size := by have := c.le; omega
  rw [e] at this
  exact this

end
end Go.G
