/-
  What the proof rests on: part 1 of 13.
-/
import Derived.WalkKit
import Derived.StillTail
import Derived.Deep.Draws
section
namespace Go.G
open Go Go.RowKit

abbrev Ext (w w' : World) : Prop := Below w.heap.size w w'
theorem Ext.rfl' (w : World) : Ext w w := Below.refl _ _
theorem Ext.draw (w : World) : Ext w { w with drawn := w.drawn + 1 } := ⟨rfl, rfl, rfl, Nat.le_refl _, fun _ _ => rfl⟩

inductive Info where
  | val (v : Value)
  | pred (φ : Value → World → Prop)

def Info.ok : Info → Value → World → Prop
  | .val v, u, _ => u = v
  | .pred φ, u, w => ∃ w1, Ext w1 w ∧ φ u w1


abbrev Frm := List (Nat × Info)

def look (t : Nat) : Frm → Option Info
  | [] => none
  | (s, v) :: r => match Nat.beq s t with
    | true => some v
    | false => look t r

def push (d : Option Nat) (i : Info) (F : Frm) : Frm :=
  match d with
  | some d => (d, i) :: F
  | none => F

def ev (F : Frm) : Operand → Option Value
  | .tmp t => match look t F with
    | some (.val v) => some v
    | _ => none
  | .const v => some v
  | .global g => some (.pointer (some ⟨g, 0, none⟩))
  | .func f => some (.func (.func f) #[] #[])

structure Fits (n : Nat) (a : Act) (F : Frm) (w : World) : Prop where
  size : a.tmps.size = n
  defers : a.defers = []
  get : ∀ t i, look t F = some i → ∃ u, a.tmps[t]? = some u ∧ i.ok u w


theorem beq_ne {s t : Nat} (h : s ≠ t) : Nat.beq s t = false := by
  cases hb : Nat.beq s t with
  | false => rfl
  | true => exact absurd (Nat.eq_of_beq_eq_true hb) h

theorem look_cons_ne {s t : Nat} {i : Info} {F : Frm} (h : s ≠ t) : look t ((s, i) :: F) = look t F := by simp [look, beq_ne h]
theorem look_cons_eq {t : Nat} {i : Info} {F : Frm} : look t ((t, i) :: F) = some i := by simp [look]




def Sub (F : Frm) : Frm → Prop
  | [] => True
  | (t, i) :: r => look t F = some i ∧ Sub F r



section
variable {n : Nat} {P : Program} {Q : Exit → Act → World → Prop} {F : Frm} {w : World}

def W (n : Nat) (P : Program) (c : Code) (Q : Exit → Act → World → Prop) (F : Frm) (w : World) : Prop := ∀ a, Fits n a F w → c.wp P Q a w
def WL (n : Nat) (P : Program) (ops : Array Oper) (Q : Exit → Act → World → Prop) (l : List Oper) (F : Frm) (w : World) : Prop := ∀ a, Fits n a F w → wpList P ops Q l a w
def E (n : Nat) (Q : Exit → Act → World → Prop) (e : Exit) (F : Frm) (w : World) : Prop := ∀ a, Fits n a F w → Q e a w







def args0 : Nat → List Value → Frm
  | _, [] => []
  | k, v :: r => (k, .val v) :: args0 (k + 1) r


end
end Go.G
end
section
namespace Go.G
open Go Go.RowKit

section
variable {n : Nat} {P : Program} {ops : Array Oper}

def givesUpon (P : Program) (w : World) (i : Info) : Result Next → Prop
  | .ok (.value u) w' => Ext w w' ∧ i.ok u w'
  | .ok .skip w' => Ext w w' ∧ i.ok undef w'
  | .ok (.enter f args) w' => Ext w w' ∧ Calls P f args w' (fun e w'' => ∃ v, e = .returned v ∧ Ext w' w'' ∧ i.ok v w'')
  | _ => False

def Gives (P : Program) (ops : Array Oper) (o : Oper) (a : Act) (w : World) (i : Info) : Prop :=
  if Region.wanted o (yielded ops a.tmps) then givesUpon P w i ((execOp a.eval o).run P w) else i.ok undef w

structure FitsOn (S : List Nat) (n : Nat) (a : Act) (F : Frm) (w : World) : Prop where
  size : a.tmps.size = n
  defers : a.defers = []
  get : ∀ t, t ∈ S → ∀ i, look t F = some i → ∃ u, a.tmps[t]? = some u ∧ i.ok u w

def dstOk (n : Nat) (o : Oper) : Bool := match o.dst with | some d => Nat.blt d n | none => true

def WD (n : Nat) (P : Program) (ops : Array Oper) (w0 : World) (Z : Frm → World → Prop) : List Oper → Frm → Prop
  | [], F => ∀ w, Ext w0 w → Z F w
  | o :: r, F => dstOk n o = true ∧ ∃ i : Info, (∀ a w, Ext w0 w → FitsOn (o.looksAt ops) n a F w → Gives P ops o a w i) ∧ WD n P ops w0 Z r (push o.dst i F)

def masks : List Oper → List Nat → List Nat
  | [], acc => acc
  | o :: r, acc => masks r (acc ++ [o.after.toList.foldl (fun s e => if Region.binds .any e then s ||| 2 ^ e.on ||| acc.getD e.on 0 else s) 0])

def Closed (ops : Array Oper) (listed : Array Bool) : Prop := ∀ j o, ops[j]? = some o → listed.getD j false = true → ∀ e ∈ o.after, Region.binds .any e = true → listed.getD e.on false = true

def MaskOk (ops : Array Oper) (acc : List Nat) : Prop := ∀ listed, Closed ops listed → ∀ j i, (acc.getD j 0).testBit i = true → listed.getD j false = true → listed.getD i false = true

theorem fold_bits (acc : List Nat) (l : List Edge) (i : Nat) : ∀ s : Nat, (l.foldl (fun s e => if Region.binds .any e then s ||| 2 ^ e.on ||| acc.getD e.on 0 else s) s).testBit i = true →
    s.testBit i = true ∨ ∃ e ∈ l, Region.binds .any e = true ∧ (i = e.on ∨ (acc.getD e.on 0).testBit i = true) := by
  induction l with
  | nil => intro s h; exact .inl (by simpa using h)
  | cons e l ih =>
    intro s h
    rw [List.foldl_cons] at h
    rcases ih _ h with h1 | ⟨e', he', hb, hh⟩
    · split at h1
      · rename_i hb
        rw [Nat.testBit_or, Nat.testBit_or, Bool.or_eq_true, Bool.or_eq_true] at h1
        rcases h1 with (h1 | h1) | h1
        · exact .inl h1
        · refine .inr ⟨e, by simp, hb, .inl ?_⟩
          rw [Nat.testBit_two_pow] at h1
          exact (of_decide_eq_true h1).symm
        · exact .inr ⟨e, by simp, hb, .inr h1⟩
      · exact .inl h1
    · exact .inr ⟨e', by simp [he'], hb, hh⟩

theorem masks_ok (ops : Array Oper) : ∀ (l : List Oper) (acc : List Nat), (∀ k, l[k]? = ops[acc.length + k]?) → MaskOk ops acc → MaskOk ops (masks l acc)
  | [], _, _, h => h
  | o :: l, acc, hl, h => by
    refine masks_ok ops l _ (fun k => ?_) ?_
    · have := hl (k + 1)
      simp only [List.getElem?_cons_succ] at this
      rw [this, List.length_append]
      congr 1
      simp; omega
    · intro listed hc j i hb hj
      rcases Nat.lt_trichotomy j acc.length with hlt | heq | hgt
      · rw [List.getD_eq_getElem?_getD, List.getElem?_append_left hlt, ← List.getD_eq_getElem?_getD] at hb
        exact h listed hc j i hb hj
      · subst heq
        rw [List.getD_eq_getElem?_getD, List.getElem?_append_right (Nat.le_refl _)] at hb
        simp only [Nat.sub_self, List.getElem?_cons_zero, Option.getD_some] at hb
        have ho : ops[acc.length]? = some o := by simpa using (hl 0).symm
        rcases fold_bits acc _ i 0 hb with h0 | ⟨e, he, hbd, hh⟩
        · simp at h0
        · have he1 := hc _ o ho hj e (by simpa using he) hbd
          rcases hh with rfl | hh
          · exact he1
          · exact h listed hc _ _ hh he1
      · rw [List.getD_eq_getElem?_getD, List.getElem?_append_right (by omega)] at hb
        rw [List.getElem?_eq_none (by simp; omega)] at hb
        simp at hb

def namesOf (ops : Array Oper) (o : Oper) : List Nat := o.looksAt ops ++ o.dst.toList

def writersOk (ops : List Oper) (m : List Nat) (j : Nat) (t : Nat) : Nat → List Oper → Bool
  | _, [] => true
  | i, o :: r => (match o.dst with
    | some d => !(Nat.beq d t) || Nat.beq i j || (if Nat.blt i j then (m.getD j 0).testBit i else (m.getD i 0).testBit j)
    | none => true) && writersOk ops m j t (i + 1) r

def edgesBack (i : Nat) : List Oper → Bool
  | [] => true
  | o :: r => o.after.toList.all (fun e => !Region.binds .any e || Nat.blt e.on i) && edgesBack (i + 1) r

def namesOk (ops : Array Oper) (h : List Oper) (m : List Nat) : Nat → List Oper → Bool
  | _, [] => true
  | j, o :: r => (namesOf ops o).all (fun t => writersOk h m j t 0 h) && namesOk ops h m (j + 1) r

def drawOk (ops : Array Oper) (h : Nat) : Bool :=
  Region.noSelect ops && Nat.ble h ops.size && edgesBack 0 ops.toList && namesOk ops (ops.toList.take h) (masks ops.toList []) 0 (ops.toList.take h) &&
  (Nat.beq h ops.size || (Region.sinkB .any ops h && Region.chainB .any ops h)) && Region.seqB .any ops (ops.size - h) h ((List.replicate h true ++ List.replicate (ops.size - h) false).toArray)

def frL : List Oper → List Info → Frm → Nat → Frm
  | o :: l, i :: is, F, m + 1 => frL l is (push o.dst i F) m
  | _, _, F, _ => F


theorem look_push_ne {d : Option Nat} {i : Info} {F : Frm} {t : Nat} (h : d ≠ some t) : look t (push d i F) = look t F := by
  cases d with
  | none => rfl
  | some d => exact look_cons_ne (fun e => h (by rw [e]))


def cntU (listed : Array Bool) : Nat → Nat
  | 0 => 0
  | k + 1 => cntU listed k + (if listed.getD k false then 0 else 1)

theorem cntU_far {listed : Array Bool} {i : Nat} : ∀ k, k ≤ i → cntU (listed.setIfInBounds i true) k = cntU listed k
  | 0, _ => rfl
  | k + 1, h => by simp only [cntU]; rw [cntU_far k (by omega), getD_set_ne false (by omega)]

theorem cntU_set {listed : Array Bool} {i : Nat} (hi : i < listed.size) (hu : listed.getD i false = false) : ∀ k, i < k → cntU (listed.setIfInBounds i true) k + 1 = cntU listed k
  | 0, h => by omega
  | k + 1, h => by
    simp only [cntU]
    by_cases e : i = k
    · subst e
      rw [cntU_far i (Nat.le_refl _), hu]
      have : (listed.setIfInBounds i true).getD i false = true := by simp [hi]
      rw [this]
      simp
    · have := cntU_set hi hu k (by omega)
      rw [getD_set_ne false e]
      omega

theorem cntU_zero {listed : Array Bool} : ∀ k, cntU listed k = 0 → ∀ i, i < k → listed.getD i false = true
  | 0, _, i, hi => by omega
  | k + 1, h, i, hi => by
    simp only [cntU] at h
    cases hk : listed.getD k false with
    | false => rw [hk] at h; simp at h
    | true =>
      rw [hk] at h
      by_cases e : i = k
      · subst e; exact hk
      · exact cntU_zero k (by simpa using h) i (by omega)

theorem cntU_pos {listed : Array Bool} : ∀ k, 0 < cntU listed k → ∃ i, i < k ∧ listed.getD i false = false ∧ ∀ j, j < i → listed.getD j false = true
  | 0, h => by simp [cntU] at h
  | k + 1, h => by
    by_cases hk : 0 < cntU listed k
    · obtain ⟨i, h1, h2, h3⟩ := cntU_pos k hk
      exact ⟨i, by omega, h2, h3⟩
    · have hz := cntU_zero (listed := listed) k (by omega)
      simp only [cntU] at h
      cases hl : listed.getD k false with
      | true => rw [hl] at h; simp at h; omega
      | false => exact ⟨k, by omega, hl, hz⟩

theorem cntU_new (m : Nat) : ∀ k, cntU (Array.replicate m false) k = k
  | 0 => rfl
  | k + 1 => by simp only [cntU]; rw [cntU_new m k, getD_replicate_false]; simp

theorem edgesBack_spec : ∀ (l : List Oper) (k : Nat), edgesBack k l = true → ∀ m o, l[m]? = some o → ∀ e ∈ o.after, Region.binds .any e = true → e.on < k + m
  | [], _, _, m, o, h => by simp at h
  | o :: l, k, hB, m, o', h => by
    simp only [edgesBack, Bool.and_eq_true] at hB
    cases m with
    | zero =>
      simp only [List.getElem?_cons_zero, Option.some.injEq] at h
      subst h
      intro e he hb
      have := List.all_eq_true.1 hB.1 e (by simpa using he)
      simp only [hb, Bool.not_true, Bool.false_or, Nat.blt_eq] at this
      omega
    | succ m =>
      intro e he hb
      have := edgesBack_spec l (k + 1) hB.2 m o' (by simpa using h) e he hb
      omega

theorem writersOk_spec {h0 : List Oper} {m : List Nat} {j t : Nat} : ∀ (l : List Oper) (k : Nat), writersOk h0 m j t k l = true → ∀ i o, l[i]? = some o → o.dst = some t → k + i ≠ j →
    (if k + i < j then (m.getD j 0).testBit (k + i) else (m.getD (k + i) 0).testBit j) = true
  | [], _, _, i, o, h => by simp at h
  | o :: l, k, hB, i, o', h => by
    simp only [writersOk, Bool.and_eq_true] at hB
    intro hd hne
    cases i with
    | zero =>
      simp only [List.getElem?_cons_zero, Option.some.injEq] at h
      subst h
      have h1 := hB.1
      simp only [hd] at h1
      have e1 : Nat.beq t t = true := by simp
      have e2 : Nat.beq k j = false := beq_ne (by simpa using hne)
      simp only [e1, e2, Bool.not_true, Bool.false_or] at h1
      simpa [Nat.blt_eq] using h1
    | succ i =>
      have := writersOk_spec l (k + 1) hB.2 i o' (by simpa using h) hd (by omega)
      have e : k + 1 + i = k + (i + 1) := by omega
      rw [e] at this
      exact this

theorem namesOk_spec {h0 : List Oper} {m : List Nat} : ∀ (l : List Oper) (k : Nat), namesOk ops h0 m k l = true → ∀ j o, l[j]? = some o → ∀ t ∈ namesOf ops o, writersOk h0 m (k + j) t 0 h0 = true
  | [], _, _, j, o, h => by simp at h
  | o :: l, k, hB, j, o', h => by
    simp only [namesOk, Bool.and_eq_true] at hB
    cases j with
    | zero =>
      simp only [List.getElem?_cons_zero, Option.some.injEq] at h
      subst h
      intro t ht
      exact List.all_eq_true.1 hB.1 t ht
    | succ j =>
      intro t ht
      have := namesOk_spec l (k + 1) hB.2 j o' (by simpa using h) t ht
      have e : k + 1 + j = k + (j + 1) := by omega
      rw [e] at this
      exact this

structure Inv (n h : Nat) (ops : Array Oper) (w0 : World) (F : Frm) (is : List Info) (listed : Array Bool) (a : Act) (w : World) : Prop where
  ext : Ext w0 w
  size : a.tmps.size = n
  defers : a.defers = []
  head : HeadInv .any ops h listed
  slot : ∀ t i o, i < h → ops[i]? = some o → o.dst = some t → listed.getD i false = true →
    (∀ k o', k < h → ops[k]? = some o' → o'.dst = some t → listed.getD k false = true → k ≤ i) → ∀ inf, is[i]? = some inf → ∃ u, a.tmps[t]? = some u ∧ inf.ok u w
  base : ∀ t, (∀ k o', k < h → ops[k]? = some o' → o'.dst = some t → listed.getD k false = false) → ∀ inf, look t F = some inf → ∃ u, a.tmps[t]? = some u ∧ inf.ok u w

structure Chk (ops : Array Oper) (h : Nat) : Prop where
  noSelect : Region.noSelect ops = true
  le : h ≤ ops.size
  back : ∀ j o, ops[j]? = some o → ∀ e ∈ o.after, Region.binds .any e = true → e.on < j
  names : ∀ j o, j < h → ops[j]? = some o → ∀ t ∈ namesOf ops o, ∀ i o', i < h → ops[i]? = some o' → o'.dst = some t → i ≠ j →
    ∀ listed, Closed ops listed → (i < j → listed.getD j false = true → listed.getD i false = true) ∧ (j < i → listed.getD i false = true → listed.getD j false = true)
  tail : h < ops.size → Region.sinkB .any ops h = true ∧ Region.chainB .any ops h = true
  seq : Region.seqB .any ops (ops.size - h) h ((List.replicate h true ++ List.replicate (ops.size - h) false).toArray) = true

theorem Chk.of {h : Nat} (hB : drawOk ops h = true) : Chk ops h := by
  simp only [drawOk, Bool.and_eq_true] at hB
  obtain ⟨⟨⟨⟨⟨h1, h2⟩, h3⟩, h4⟩, h5⟩, h6⟩ := hB
  have hle : h ≤ ops.size := Nat.le_of_ble_eq_true h2
  refine ⟨h1, hle, fun j o ho e he hb => ?_, fun j o hj ho t ht i o' hi ho' hd hne listed hc => ?_, fun hlt => ?_, h6⟩
  · have := edgesBack_spec ops.toList 0 h3 j o (by simpa using ho) e he hb
    omega
  · have hm : MaskOk ops (masks ops.toList []) := masks_ok ops ops.toList [] (fun k => by simp) (fun _ _ j i hb => by simp at hb)
    have hw := namesOk_spec (ops := ops) (ops.toList.take h) 0 h4 j o (by rw [List.getElem?_take]; simp [hj, ho]) t ht
    rw [Nat.zero_add] at hw
    have hb := writersOk_spec (ops.toList.take h) 0 hw i o' (by rw [List.getElem?_take]; simp [hi, ho']) hd (by omega)
    rw [Nat.zero_add] at hb
    refine ⟨fun hlt hl => ?_, fun hlt hl => ?_⟩
    · rw [if_pos hlt] at hb
      exact hm listed hc j i hb hl
    · rw [if_neg (by omega)] at hb
      exact hm listed hc i j hb hl
  · rw [Bool.or_eq_true] at h5
    rcases h5 with h5 | h5
    · have : h = ops.size := Nat.eq_of_beq_eq_true h5
      omega
    · simpa using h5



end
end Go.G
end
