/-
  A walk's own layer, over any program: frames as association lists, one rule a step; a region that draws its order is walked once, in the text's order.
-/
import Derived.WalkKit
import Derived.StillTail
import Derived.Deep.Draws
namespace Go.G
open Go Go.RowKit

/-- What was there is as it was. -/
abbrev Ext (w w' : World) : Prop := Below w.heap.size w w'
theorem Ext.rfl' (w : World) : Ext w w := Below.refl _ _
theorem Ext.tr {a b c : World} (h : Ext a b) (k : Ext b c) : Ext a c := Below.trans h (k.mono h.size)
theorem Ext.draw (w : World) : Ext w { w with drawn := w.drawn + 1 } := ⟨rfl, rfl, rfl, Nat.le_refl _, fun _ _ => rfl⟩

/-- What is known of a slot: its value, or a property of it that outlives growth of memory. -/
inductive Info where
  | val (v : Value)
  | pred (φ : Value → World → Prop)

def Info.ok : Info → Value → World → Prop
  | .val v, u, _ => u = v
  | .pred φ, u, w => ∃ w1, Ext w1 w ∧ φ u w1

theorem Info.ok_ext {i : Info} {u : Value} {w w' : World} (h : i.ok u w) (e : Ext w w') : i.ok u w' := by
  cases i with
  | val v => exact h
  | pred φ => obtain ⟨w1, h1, h2⟩ := h; exact ⟨w1, Ext.tr h1 e, h2⟩

abbrev Frm := List (Nat × Info)

def look (t : Nat) : Frm → Option Info
  | [] => none
  | (s, v) :: r => match Nat.beq s t with
    | true => some v
    | false => look t r

def push (d : Option Nat) (i : Info) (F : Frm) : Frm :=
  match d with
  | some d => (d, i) :: F
  | none => F

def ev (F : Frm) : Operand → Option Value
  | .tmp t => match look t F with
    | some (.val v) => some v
    | _ => none
  | .const v => some v
  | .global g => some (.pointer (some ⟨g, 0, none⟩))
  | .func f => some (.func (.func f) #[] #[])

structure Fits (n : Nat) (a : Act) (F : Frm) (w : World) : Prop where
  size : a.tmps.size = n
  defers : a.defers = []
  get : ∀ t i, look t F = some i → ∃ u, a.tmps[t]? = some u ∧ i.ok u w

theorem Fits.ext {n : Nat} {a : Act} {F : Frm} {w w' : World} (h : Fits n a F w) (e : Ext w w') : Fits n a F w' :=
  ⟨h.size, h.defers, fun t i hl => let ⟨u, h1, h2⟩ := h.get t i hl; ⟨u, h1, Info.ok_ext h2 e⟩⟩

theorem beq_ne {s t : Nat} (h : s ≠ t) : Nat.beq s t = false := by
  cases hb : Nat.beq s t with
  | false => rfl
  | true => exact absurd (Nat.eq_of_beq_eq_true hb) h

theorem look_cons_ne {s t : Nat} {i : Info} {F : Frm} (h : s ≠ t) : look t ((s, i) :: F) = look t F := by simp [look, beq_ne h]
theorem look_cons_eq {t : Nat} {i : Info} {F : Frm} : look t ((t, i) :: F) = some i := by simp [look]

theorem Fits.ev {n : Nat} {a : Act} {F : Frm} {w : World} (h : Fits n a F w) {x : Operand} {v : Value} (hx : ev F x = some v) : a.eval x = v := by
  cases x with
  | tmp t =>
    simp only [G.ev] at hx
    cases hl : look t F with
    | none => simp [hl] at hx
    | some i =>
      cases i with
      | pred φ => simp [hl] at hx
      | val u =>
        simp [hl] at hx
        subst hx
        obtain ⟨u', h1, h2⟩ := h.get t _ hl
        simp only [Info.ok] at h2
        simp [Act.eval, h1, h2]
  | const v => simp [G.ev] at hx; simp [Act.eval, hx]
  | global g => simp [G.ev] at hx; simp [Act.eval, hx]
  | func f => simp [G.ev] at hx; simp [Act.eval, hx]

theorem Fits.put {n : Nat} {a : Act} {F : Frm} {w : World} (h : Fits n a F w) {d : Nat} (hd : Nat.blt d n = true) {v : Value} {i : Info} (hi : i.ok v w) :
    Fits n (a.put (some d) v) ((d, i) :: F) w := by
  have hd' : d < n := by simpa [Nat.blt_eq] using hd
  refine ⟨by simp [Act.put, h.size], by simp [Act.put, h.defers], fun t j hl => ?_⟩
  by_cases e : d = t
  · subst e
    rw [look_cons_eq] at hl
    cases hl
    exact ⟨v, by simp [Act.put, h.size, hd'], hi⟩
  · rw [look_cons_ne e] at hl
    obtain ⟨u, h1, h2⟩ := h.get t j hl
    exact ⟨u, by simp [Act.put, Array.getElem?_setIfInBounds_ne e, h1], h2⟩

theorem Fits.drop {n : Nat} {a : Act} {F : Frm} {w : World} (h : Fits n a F w) (v : Value) : Fits n (a.put none v) F w := h

/-- A list of facts on slots out of another one. -/
def Sub (F : Frm) : Frm → Prop
  | [] => True
  | (t, i) :: r => look t F = some i ∧ Sub F r

theorem Sub.get {F : Frm} : ∀ {F' : Frm}, Sub F F' → ∀ t i, look t F' = some i → look t F = some i
  | [], _, t, i, h => by simp [look] at h
  | (s, j) :: r, hs, t, i, h => by
    by_cases e : s = t
    · subst e; rw [look_cons_eq] at h; cases h; exact hs.1
    · rw [look_cons_ne e] at h; exact hs.2.get t i h

theorem Fits.sub {n : Nat} {a : Act} {F F' : Frm} {w : World} (h : Fits n a F w) (hs : Sub F F') : Fits n a F' w :=
  ⟨h.size, h.defers, fun t i hl => h.get t i (hs.get t i hl)⟩

/-! ### Code -/
section
variable {n : Nat} {P : Program} {Q : Exit → Act → World → Prop} {F : Frm} {w : World}

def W (n : Nat) (P : Program) (c : Code) (Q : Exit → Act → World → Prop) (F : Frm) (w : World) : Prop := ∀ a, Fits n a F w → c.wp P Q a w
/-- The list of operations, in the text's order. -/
def WL (n : Nat) (P : Program) (ops : Array Oper) (Q : Exit → Act → World → Prop) (l : List Oper) (F : Frm) (w : World) : Prop := ∀ a, Fits n a F w → wpList P ops Q l a w
/-- An end of a piece of code. -/
def E (n : Nat) (Q : Exit → Act → World → Prop) (e : Exit) (F : Frm) (w : World) : Prop := ∀ a, Fits n a F w → Q e a w

theorem W.seq {x y : Code} (h : W n P x (Exit.then (y.wp P Q) Q) F w) : W n P (.seq x y) Q F w := fun a ha => wp_seq (h a ha)
theorem W.skip (h : E n Q .normal F w) : W n P .skip Q F w := fun a ha => wp_skip (h a ha)
theorem W.lab {l : Nat} (h : E n Q .normal F w) : W n P (.label l) Q F w := fun a ha => wp_label (h a ha)
theorem W.ret (h : E n Q .ret F w) : W n P .ret Q F w := fun a ha => wp_ret (h a ha)
theorem W.exit {id : Nat} (h : E n Q (.exit id) F w) : W n P (.exit id) Q F w := fun a ha => wp_exit (h a ha)
theorem W.block {id : Nat} {c : Code} (h : W n P c (Exit.inBlock id Q) F w) : W n P (.block id c) Q F w := fun a ha => wp_block (h a ha)
theorem W.cond {c : Operand} {x y : Code} {b : Bool} (hc : ev F c = some (.bool b)) (ht : b = true → W n P x Q F w) (hf : b = false → W n P y Q F w) :
    W n P (.cond c x y) Q F w := fun a ha => wp_cond_split (ha.ev hc) (fun e => ht e a ha) (fun e => hf e a ha)
theorem W.cond_t {c : Operand} {x y : Code} (hc : ev F c = some (.bool true)) (ht : W n P x Q F w) : W n P (.cond c x y) Q F w := fun a ha => wp_cond_true (ha.ev hc) (ht a ha)
theorem W.cond_f {c : Operand} {x y : Code} (hc : ev F c = some (.bool false)) (hf : W n P y Q F w) : W n P (.cond c x y) Q F w := fun a ha => wp_cond_false (ha.ev hc) (hf a ha)
/-- A test that is a decided sentence. -/
theorem W.cond_d {c : Operand} {x y : Code} {p : Prop} [Decidable p] (hc : ev F c = some (.bool (decide p))) (ht : p → W n P x Q F w) (hf : ¬ p → W n P y Q F w) :
    W n P (.cond c x y) Q F w := W.cond hc (fun e => ht (of_decide_eq_true e)) (fun e => hf (of_decide_eq_false e))
theorem W.cond_nd {c : Operand} {x y : Code} {p : Prop} [Decidable p] (hc : ev F c = some (.bool (!decide p))) (ht : ¬ p → W n P x Q F w) (hf : p → W n P y Q F w) :
    W n P (.cond c x y) Q F w := W.cond hc (fun e => ht (by simpa using e)) (fun e => hf (by simpa using e))
theorem W.region {id : Nat} {l : List Oper} (h : WL n P l.toArray Q l F w) : W n P (.region id l.toArray false) Q F w := fun a ha => wp_region_lit (h a ha)
theorem W.weak {c : Code} {F' : Frm} (hs : Sub F F') (h : W n P c Q F' w) : W n P c Q F w := fun a ha => h a (ha.sub hs)

/-- A loop: its invariant names slots and a world by ghosts. -/
theorem W.loop {c : Code} {ι : Type} (Fi : ι → Frm) (Φ : ι → World → Prop) (μ : ι → Nat) (i0 : ι) (hs : Sub F (Fi i0)) (h0 : Φ i0 w)
    (round : ∀ i w', Φ i w' → W n P c (Exit.then (fun a' w'' => ∃ j, Fits n a' (Fi j) w'' ∧ Φ j w'' ∧ μ j < μ i) Q) (Fi i) w') : W n P (.loop c) Q F w := by
  intro a ha b k cs
  have key : ∀ m, ∀ i a w', μ i = m → Fits n a (Fi i) w' → Φ i w' →
      ∃ e a' w'', Q e a' w'' ∧ Arrives P (lone (b.at a (.code c :: .inLoop c :: k)) cs w') b k cs e a' w'' := by
    intro m
    induction m using Nat.strongRecOn with
    | _ m ih =>
      intro i a w' hm hf hp
      obtain ⟨e, a1, w1, hq, harr⟩ := round i w' hp a hf b (.inLoop c :: k) cs
      cases e with
      | normal =>
        obtain ⟨j, hf1, hp1, hlt⟩ := hq
        obtain ⟨e2, a2, w2, hq2, harr2⟩ := ih (μ j) (hm ▸ hlt) j a1 w1 rfl hf1 hp1
        exact ⟨e2, a2, w2, hq2, .of_steps (Steps.trans harr (.one step_inLoop)) harr2⟩
      | exit id => exact ⟨_, a1, w1, hq, .pass (x := .inLoop c) rfl (fun _ _ => .inl (by simp)) harr⟩
      | goto l => exact ⟨_, a1, w1, hq, .pass (x := .inLoop c) rfl (fun _ _ => .inl (by simp)) harr⟩
      | ret => exact ⟨_, a1, w1, hq, .pass (x := .inLoop c) rfl (fun _ _ => .inl (by simp)) harr⟩
      | panic ch => exact ⟨_, a1, w1, hq, .pass (x := .inLoop c) rfl (fun _ _ => .inl (by simp)) harr⟩
      | outgrown => exact ⟨_, a1, w1, hq, .pass (x := .inLoop c) rfl (fun _ _ => .inl (by simp)) harr⟩
  obtain ⟨e, a', w', hq, harr⟩ := key _ i0 a w rfl (ha.sub hs) h0
  exact ⟨e, a', w', hq, .of_steps (.one step_loop) harr⟩

/-! ### Ends -/
theorem E.to {y : Code} (h : W n P y Q F w) : E n (Exit.then (y.wp P Q) Q) .normal F w := h
theorem E.th {K : Act → World → Prop} {i : Nat} (h : E n Q (.exit i) F w) : E n (Exit.then K Q) (.exit i) F w := h
theorem E.thr {K : Act → World → Prop} (h : E n Q .ret F w) : E n (Exit.then K Q) .ret F w := h
theorem E.inn {i : Nat} (h : E n Q .normal F w) : E n (Exit.inBlock i Q) .normal F w := h
theorem E.inr {i : Nat} (h : E n Q .ret F w) : E n (Exit.inBlock i Q) .ret F w := h
theorem E.hit {i : Nat} (h : E n Q .normal F w) : E n (Exit.inBlock i Q) (.exit i) F w := fun a ha => by
  have := h a ha
  simpa [Exit.inBlock] using this
theorem E.miss {i j : Nat} (hne : Nat.beq j i = false) (h : E n Q (.exit j) F w) : E n (Exit.inBlock i Q) (.exit j) F w := fun a ha => by
  have h1 := h a ha
  have : j ≠ i := fun e => by subst e; simp at hne
  simpa [Exit.inBlock, this] using h1
/-- A round is over: the invariant again. -/
theorem E.again {ι : Type} {Fi : ι → Frm} {Φ : ι → World → Prop} {μ : ι → Nat} {i : ι} (j : ι) (hs : Sub F (Fi j)) (hp : Φ j w) (hm : μ j < μ i) :
    E n (Exit.then (fun a' w'' => ∃ j, Fits n a' (Fi j) w'' ∧ Φ j w'' ∧ μ j < μ i) Q) .normal F w := fun _ ha => ⟨j, ha.sub hs, hp, hm⟩

theorem WL.nil {ops : Array Oper} (h : E n Q .normal F w) : WL n P ops Q [] F w := h

/-! ### A function -/
theorem results_at {fn : Func} {tmps : Array Value} {P : Program} {w : World} {v : Value} (h : (results fn tmps).run P w = .ok v w) : (results fn tmps).run P w = .ok v w := h

theorem E.fin1 {fn : Func} {R : Ending → World → Prop} {t : Nat} {v : Value} {e : Exit} (he : e = .ret ∨ e = .normal) (hr : fn.results = #[.tmp t]) (hv : ev F (.tmp t) = some v) (h : R (.returned v) w) :
    E n (bodyPost P fn R) e F w := fun a ha => by
  have h1 : (results fn a.tmps).run P w = .ok v w := by
    have := ha.ev hv
    simp only [Act.eval] at this
    rw [results_tmp hr, this]
  rcases he with rfl | rfl <;> exact ⟨ha.defers, v, h1, h⟩
theorem E.fin2 {fn : Func} {R : Ending → World → Prop} {t u : Nat} {v x : Value} {e : Exit} (he : e = .ret ∨ e = .normal) (hr : fn.results = #[.tmp t, .tmp u]) (hv : ev F (.tmp t) = some v) (hx : ev F (.tmp u) = some x)
    (h : R (.returned (.tuple #[v, x])) w) : E n (bodyPost P fn R) e F w := fun a ha => by
  have h1 : (results fn a.tmps).run P w = .ok (.tuple #[v, x]) w := by
    have e1 := ha.ev hv
    have e2 := ha.ev hx
    simp only [Act.eval] at e1 e2
    rw [results_tmp2 hr, e1, e2]
  rcases he with rfl | rfl <;> exact ⟨ha.defers, _, h1, h⟩
theorem E.fin3 {fn : Func} {R : Ending → World → Prop} {t u s : Nat} {v x y : Value} {e : Exit} (he : e = .ret ∨ e = .normal) (hr : fn.results = #[.tmp t, .tmp u, .tmp s]) (hv : ev F (.tmp t) = some v) (hx : ev F (.tmp u) = some x) (hy : ev F (.tmp s) = some y)
    (h : R (.returned (.tuple #[v, x, y])) w) : E n (bodyPost P fn R) e F w := fun a ha => by
  have h1 : (results fn a.tmps).run P w = .ok (.tuple #[v, x, y]) w := by
    have e1 := ha.ev hv
    have e2 := ha.ev hx
    have e3 := ha.ev hy
    simp only [Act.eval] at e1 e2 e3
    rw [← e1, ← e2, ← e3]
    simp [results, hr]
  rcases he with rfl | rfl <;> exact ⟨ha.defers, _, h1, h⟩
theorem E.fin0 {fn : Func} {R : Ending → World → Prop} {e : Exit} (he : e = .ret ∨ e = .normal) (hr : fn.results = #[]) (h : R (.returned (.tuple #[])) w) : E n (bodyPost P fn R) e F w := fun a ha => by
  rcases he with rfl | rfl <;> exact ⟨ha.defers, _, results_none hr _ _ _, h⟩

/-- Slots 0, 1, .. hold the arguments. -/
def args0 : Nat → List Value → Frm
  | _, [] => []
  | k, v :: r => (k, .val v) :: args0 (k + 1) r
theorem look_args0 : ∀ (l : List Value) (k t : Nat) (i : Info), look t (args0 k l) = some i → ∃ v, i = .val v ∧ k ≤ t ∧ l[t - k]? = some v
  | [], k, t, i, h => by simp [args0, look] at h
  | v :: r, k, t, i, h => by
    by_cases e : k = t
    · subst e
      rw [args0, look_cons_eq] at h
      cases h
      exact ⟨v, rfl, Nat.le_refl _, by simp⟩
    · rw [args0, look_cons_ne e] at h
      obtain ⟨u, h1, h2, h3⟩ := look_args0 r (k + 1) t i h
      refine ⟨u, h1, by omega, ?_⟩
      have : t - k = (t - (k + 1)) + 1 := by omega
      rw [this]
      simpa using h3

theorem enter {f : FuncId} {fn : Func} {c : Code} {l : List Value} {R : Ending → World → Prop} (hf : P.funcs[f]? = some fn) (hb : fn.body = some c) (hn : fn.ntmps = n) (hl : Nat.ble l.length n = true)
    (h : W n P c (bodyPost P fn R) (args0 0 l) w) : Calls P f l.toArray w R := by
  have hl' : l.length ≤ n := Nat.le_of_ble_eq_true hl
  refine calls_of_wp hf hb (h _ ⟨by simp [hn]; omega, rfl, fun t i hi => ?_⟩)
  obtain ⟨v, rfl, _, hv⟩ := look_args0 l 0 t i hi
  have ht : t < l.length := by
    rcases Nat.lt_or_ge t l.length with h | h
    · exact h
    · simp [List.getElem?_eq_none h] at hv
  refine ⟨v, ?_, rfl⟩
  simp only [Nat.sub_zero] at hv
  rw [Array.getElem?_append_left (by simpa using ht)]
  simpa using hv

end
end Go.G
