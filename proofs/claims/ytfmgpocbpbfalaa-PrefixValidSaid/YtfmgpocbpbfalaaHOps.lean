/-
  What each operation does to a picture: values.
-/
import Derived.Test.YtfmgpocbpbfalaaHDraw
namespace Go.H
open Go Go.RowKit
open Go.G (Ext Gr Blk)

/-! ### All slots' values at a moment -/
def actF (a : Act) : G.Frm := (List.range a.tmps.size).map fun t => (t, .val (a.tmps.getD t undef))
theorem look_rangeF (a : Act) (t : Nat) : ∀ (l : List Nat), (t ∈ l → G.look t (l.map fun t => (t, G.Info.val (a.tmps.getD t undef))) = some (.val (a.tmps.getD t undef))) ∧
    (∀ i, G.look t (l.map fun t => (t, G.Info.val (a.tmps.getD t undef))) = some i → i = .val (a.tmps.getD t undef))
  | [] => ⟨fun h => by simp at h, fun i h => by simp [G.look] at h⟩
  | s :: l => by
    have ih := look_rangeF a t l
    refine ⟨fun h => ?_, fun i h => ?_⟩
    · rw [List.map_cons]
      by_cases e : s = t
      · subst e; rw [G.look_cons_eq]
      · rw [G.look_cons_ne e]; exact ih.1 (by simpa [Ne.symm e] using h)
    · rw [List.map_cons] at h
      by_cases e : s = t
      · subst e; rw [G.look_cons_eq] at h; exact (Option.some.inj h).symm
      · rw [G.look_cons_ne e] at h; exact ih.2 i h
theorem actF_of {a : Act} {x : Operand} {u : Value} (h : G.ev (actF a) x = some u) : a.eval x = u := by
  cases x with
  | tmp t =>
    simp only [G.ev] at h
    cases hl : G.look t (actF a) with
    | none => simp [hl] at h
    | some i =>
      have := (look_rangeF a t _).2 i hl
      subst this
      simp [hl] at h
      simpa [Act.eval] using h
  | const v => simp [G.ev] at h; simp [Act.eval, h]
  | global g => simp [G.ev] at h; simp [Act.eval, h]
  | func f => simp [G.ev] at h; simp [Act.eval, h]
theorem actF_ev {a : Act} {x : Operand} (h : ∀ t, x = .tmp t → t < a.tmps.size) : G.ev (actF a) x = some (a.eval x) := by
  cases x with
  | tmp t =>
    have : G.look t (actF a) = some (.val (a.tmps.getD t undef)) := (look_rangeF a t _).1 (List.mem_range.2 (h t rfl))
    simp only [G.ev, this]; rfl
  | const v => rfl
  | global g => rfl
  | func f => rfl

section
variable {c : Ctx} {P : Program} {F : Frm} {S : Sto} {ops : Array Oper} {T N : List Nat} {d : Nat} {op : Op} {ty : TypeId} {pos : String} {af : Array Edge} {gd : Option (Nat × Bool)}
  {σ : Sig} {τ : Nat → Value} {a : Act} {w : World}

theorem mem_looksAt {o : Oper} {x : Operand} {t : Nat} (hm : x ∈ o.op.operands) (e : x = .tmp t) : t ∈ o.looksAt ops := by
  subst e
  unfold Oper.looksAt
  rw [List.mem_append]
  exact .inl (List.mem_filterMap.2 ⟨_, by simpa using hm, rfl⟩)
/-- An operand's value. -/
theorem SatT.opd {o : Oper} {x : Operand} {i : IV} (h : SatT c σ τ a w) (hA : AgreeF (o.looksAt ops) F σ) (hm : x ∈ o.op.operands) (hx : ev F x = some i) :
    RepI τ w (okOf c τ σ.sto) i (a.eval x) ∧ G.ev (actF a) x = some (a.eval x) := by
  cases x with
  | tmp t =>
    obtain ⟨u, h1, h2⟩ := h.slot t i (hA t (mem_looksAt hm rfl) i hx)
    have e : a.eval (.tmp t) = u := by simp [Act.eval, h1]
    rw [e]
    refine ⟨h2, ?_⟩
    rw [actF_ev (fun s hs => by cases hs; exact (Array.getElem?_eq_some_iff.1 h1).1), e]
  | const v => simp only [ev, Option.some.injEq] at hx; subst hx; exact ⟨.u (.sc v), rfl⟩
  | global g => simp only [ev, Option.some.injEq] at hx; subst hx; exact ⟨.u (.sc _), rfl⟩
  | func f => simp only [ev, Option.some.injEq] at hx; subst hx; exact ⟨.u (.sc _), rfl⟩
theorem SatT.sc {o : Oper} {x : Operand} {v : Value} (h : SatT c σ τ a w) (hA : AgreeF (o.looksAt ops) F σ) (hm : x ∈ o.op.operands) (hx : ev F x = some (.u (.sc v))) : a.eval x = v ∧ G.ev (actF a) x = some v := by
  obtain ⟨h1, h2⟩ := h.opd hA hm hx
  cases h1 with
  | u h1 =>
    generalize a.eval x = u at h1 h2
    cases h1
    exact ⟨rfl, h2⟩

/-- The guard has come out as it must. -/
def Taken (ops : Array Oper) (F : Frm) : Option (Nat × Bool) → Prop
  | none => True
  | some (j, want) => ∃ g b, (ops[j]?).bind (·.dst) = some g ∧ look g F = some (.u (.sc (.bool b))) ∧ b = want
theorem Taken.no : Taken ops F none := trivial
theorem Taken.yes {j g : Nat} {b want : Bool} (hj : (ops[j]?).bind (·.dst) = some g) (hg : look g F = some (.u (.sc (.bool b)))) (hb : b = want) : Taken ops F (some (j, want)) := ⟨g, b, hj, hg, hb⟩
theorem yields_of {o : Oper} {j g : Nat} {b want : Bool} (h : SatT c σ τ a w) (hA : AgreeF (o.looksAt ops) F σ) (ho : o.guard = some (j, want)) (hj : (ops[j]?).bind (·.dst) = some g) (hg : look g F = some (.u (.sc (.bool b)))) :
    yielded ops a.tmps j = some b := by
  obtain ⟨u, h1, h2⟩ := h.slot g _ (hA g (G.mem_looks ho hj) _ hg)
  cases h2 with
  | u h2 =>
    cases h2
    exact G.yields_of (F := [(g, .val (.bool b))]) hj (by simp [G.look]) (w := w) (fun i hi => ⟨_, h1, by simp [G.look] at hi; subst hi; rfl⟩)
theorem wanted_of {o : Oper} (h : SatT c σ τ a w) (hA : AgreeF (o.looksAt ops) F σ) (hg : Taken ops F o.guard) : Region.wanted o (yielded ops a.tmps) = true := by
  cases hgd : o.guard with
  | none => simp [Region.wanted, hgd]
  | some q =>
    obtain ⟨j, want⟩ := q
    rw [hgd] at hg
    obtain ⟨g, b, hj, hl, hb⟩ := hg
    simp [Region.wanted, hgd, yields_of h hA hgd hj hl, hb]

theorem SatT.put {d : Nat} {i : IV} {u : Value} (h : SatT c σ τ a w) (hd : d < c.n) (hi : RepI τ w (okOf c τ σ.sto) i u) : SatT c (σ.upd (some d) (some i) []) τ (a.put (some d) u) w := by
  refine ⟨by simp [Act.put, h.size], by simp [Act.put, h.defers], h.gr, fun t j hl => ?_, h.sto, h.inj, h.own, h.pin⟩
  by_cases e : d = t
  · subst e
    simp only [Sig.upd, if_true, Option.getD_some, Option.some.injEq] at hl
    subst hl
    exact ⟨u, by simp [Act.put, h.size, hd], hi⟩
  · rw [upd_slot_ne (by simpa using e)] at hl
    obtain ⟨v, h1, h2⟩ := h.slot t j hl
    exact ⟨v, by simp [Act.put, Array.getElem?_setIfInBounds_ne e, h1], h2⟩
theorem upd_upd {i : IV} {δ : Chg} : (σ.upd none none δ).upd (some d) (some i) [] = σ.upd (some d) (some i) δ := rfl

/-- An operation that leaves memory alone. -/
theorem OpOk.val {i : IV} (hd : Nat.blt d c.n = true) (hg : Taken ops F gd)
    (H : ∀ σ τ a w, AgreeF ((⟨some d, op, ty, pos, af, gd⟩ : Oper).looksAt ops) F σ → AgreeS T S σ → SatT c σ τ a w →
      ∃ v, (execOp a.eval ⟨some d, op, ty, pos, af, gd⟩).run P w = .ok (.value v) w ∧ RepI τ w (okOf c τ σ.sto) i v) : OpOk c P ops ⟨some d, op, ty, pos, af, gd⟩ F S T N (some i) [] := by
  intro σ a w hA hB _ hS
  obtain ⟨τ, h⟩ := hS
  rw [if_pos (wanted_of h hA hg)]
  obtain ⟨v, h1, h2⟩ := H σ τ a w hA hB h
  rw [h1]
  exact ⟨τ, h.put (by simpa [Nat.blt_eq] using hd) h2⟩
/-- One that is passed over. -/
theorem OpOk.not {j g : Nat} {b want : Bool} {d : Option Nat} (hd : (match d with | some d => Nat.blt d c.n | none => true) = true) (hj : (ops[j]?).bind (·.dst) = some g) (hg : look g F = some (.u (.sc (.bool b)))) (hb : b ≠ want) :
    OpOk c P ops ⟨d, op, ty, pos, af, some (j, want)⟩ F S T N (some (.u (.sc undef))) [] := by
  intro σ a w hA hB _ hS
  obtain ⟨τ, h⟩ := hS
  rw [if_neg (by simp [Region.wanted, yields_of h hA rfl hj hg, hb])]
  cases d with
  | none => exact ⟨τ, h⟩
  | some d => exact ⟨τ, h.put (i := .u (.sc undef)) (by simpa [Nat.blt_eq] using hd) (.u (.sc _))⟩
/-- One whose guard has been passed over. -/
theorem OpOk.not2 {j g : Nat} {want : Bool} {d : Option Nat} (hd : (match d with | some d => Nat.blt d c.n | none => true) = true) (hj : (ops[j]?).bind (·.dst) = some g) (hg : look g F = some (.u (.sc undef))) :
    OpOk c P ops ⟨d, op, ty, pos, af, some (j, want)⟩ F S T N (some (.u (.sc undef))) [] := by
  intro σ a w hA hB _ hS
  obtain ⟨τ, h⟩ := hS
  have hy : yielded ops a.tmps j = none := by
    obtain ⟨u, h1, h2⟩ := h.slot g _ (hA g (G.mem_looks (o := ⟨d, op, ty, pos, af, some (j, want)⟩) rfl hj) _ hg)
    cases h2 with
    | u h2 => cases h2; simp [yielded, hj, h1, undef]
  rw [if_neg (by simp [Region.wanted, hy])]
  cases d with
  | none => exact ⟨τ, h⟩
  | some d => exact ⟨τ, h.put (i := .u (.sc undef)) (by simpa [Nat.blt_eq] using hd) (.u (.sc _))⟩

/-! ### Plain values -/
def conv : IV → G.Info
  | .u (.sc v) => .val v
  | _ => .pred fun _ _ => True
theorem conv_val {i : IV} {v : Value} (h : conv i = .val v) : i = .u (.sc v) := by
  unfold conv at h
  split at h
  · cases h; rfl
  · cases h
def scal : Frm → G.Frm
  | [] => []
  | (t, i) :: r => (t, conv i) :: scal r
theorem scal_look {t : Nat} {v : Value} : ∀ {F : Frm}, G.look t (scal F) = some (.val v) → look t F = some (.u (.sc v))
  | [], h => by simp [scal, G.look] at h
  | (s, i) :: r, h => by
    rw [scal] at h
    by_cases e : s = t
    · subst e
      rw [G.look_cons_eq] at h
      rw [look_eq, conv_val (Option.some.inj h)]
    · rw [G.look_cons_ne e] at h; rw [look_ne e]; exact scal_look h
theorem scal_ev {x : Operand} {v : Value} (h : G.ev (scal F) x = some v) : ev F x = some (.u (.sc v)) := by
  cases x with
  | tmp t =>
    simp only [G.ev] at h
    cases hl : G.look t (scal F) with
    | none => simp [hl] at h
    | some i =>
      cases i with
      | val u => simp [hl] at h; subst h; exact scal_look hl
      | pred φ => simp [hl] at h
  | const v => simp [G.ev] at h; simp [ev, h]
  | global g => simp [G.ev] at h; simp [ev, h]
  | func f => simp [G.ev] at h; simp [ev, h]
theorem O.det {v : Value} (hr : ∀ w, G.Runs P w (scal F) op ty v) (hd : Nat.blt d c.n = true) (hg : Taken ops F gd) : OpOk c P ops ⟨some d, op, ty, pos, af, gd⟩ F S [] [] (some (.u (.sc v))) [] :=
  OpOk.val hd hg fun _ _ a w hA _ h => ⟨v, hr w ⟨some d, op, ty, pos, af, gd⟩ a.eval rfl rfl (fun _ hm _ hx => (h.sc hA hm (scal_ev hx)).1), .u (.sc v)⟩
/-- Out of the values of all slots. -/
theorem OpOk.runs {i : IV} (hd : Nat.blt d c.n = true) (hg : Taken ops F gd)
    (H : ∀ σ τ a w, AgreeF ((⟨some d, op, ty, pos, af, gd⟩ : Oper).looksAt ops) F σ → AgreeS T S σ → SatT c σ τ a w → ∃ v, G.Runs P w (actF a) op ty v ∧ RepI τ w (okOf c τ σ.sto) i v) :
    OpOk c P ops ⟨some d, op, ty, pos, af, gd⟩ F S T N (some i) [] :=
  OpOk.val hd hg fun σ τ a w hA hB h => let ⟨v, h1, h2⟩ := H σ τ a w hA hB h; ⟨v, h1 ⟨some d, op, ty, pos, af, gd⟩ a.eval rfl rfl (fun _ _ _ hx => actF_of hx), h2⟩

theorem O.move {x : Operand} {i : IV} (hx : ev F x = some i) (hd : Nat.blt d c.n = true) (hg : Taken ops F gd) : OpOk c P ops ⟨some d, .move x, ty, pos, af, gd⟩ F S [] [] (some i) [] :=
  OpOk.runs hd hg fun σ τ a w hA _ h => let ⟨h1, h2⟩ := h.opd hA (by simp [Op.operands]) hx; ⟨_, G.R.move h2, h1⟩
theorem O.assign {x : Operand} {i : IV} (hx : ev F x = some i) (hd : Nat.blt d c.n = true) (hg : Taken ops F gd) : OpOk c P ops ⟨some d, .assign x, ty, pos, af, gd⟩ F S [] [] (some i) [] :=
  OpOk.runs hd hg fun σ τ a w hA _ h => let ⟨h1, h2⟩ := h.opd hA (by simp [Op.operands]) hx; ⟨_, G.R.assign h2, h1⟩
theorem O.pick_t {q x y : Operand} {i : IV} {b : Bool} (hq : ev F q = some (.u (.sc (.bool b)))) (hb : b = true) (hx : ev F x = some i) (hd : Nat.blt d c.n = true) (hg : Taken ops F gd) : OpOk c P ops ⟨some d, .pick q x y, ty, pos, af, gd⟩ F S [] [] (some i) [] :=
  OpOk.runs hd hg fun σ τ a w hA _ h => let ⟨h1, h2⟩ := h.opd hA (by simp [Op.operands]) hx; ⟨_, G.R.pick_t (h.sc hA (by simp [Op.operands]) hq).2 hb h2, h1⟩
theorem O.pick_f {q x y : Operand} {i : IV} {b : Bool} (hq : ev F q = some (.u (.sc (.bool b)))) (hb : b = false) (hy : ev F y = some i) (hd : Nat.blt d c.n = true) (hg : Taken ops F gd) : OpOk c P ops ⟨some d, .pick q x y, ty, pos, af, gd⟩ F S [] [] (some i) [] :=
  OpOk.runs hd hg fun σ τ a w hA _ h => let ⟨h1, h2⟩ := h.opd hA (by simp [Op.operands]) hy; ⟨_, G.R.pick_f (h.sc hA (by simp [Op.operands]) hq).2 hb h2, h1⟩

/-- The parts of a tuple. -/
def IV.part : IV → Nat → Option IV
  | .tup is, k => is[k]?
  | .u (.tup us), k => (us[k]?).map .u
  | .u (.sc (.tuple vs)), k => (vs[k]?).map fun v => .u (.sc v)
  | _, _ => none
theorem RepI.part {ok : Nat → Prop} {i j : IV} {k : Nat} {v : Value} (h : RepI τ w ok i v) (hj : i.part k = some j) : ∃ vs u, v = .tuple vs ∧ vs[k]? = some u ∧ RepI τ w ok j u := by
  cases h with
  | u h =>
    cases h with
    | sc v =>
      cases v <;> simp [IV.part] at hj
      rename_i vs
      obtain ⟨x, h1, h2⟩ := hj
      subst h2
      exact ⟨vs, x, rfl, h1, .u (.sc x)⟩
    | tup hl hg =>
      rename_i us vs
      simp only [IV.part, Option.map_eq_some_iff] at hj
      obtain ⟨u, h1, rfl⟩ := hj
      have hk : k < vs.length := by rw [← hl]; exact (List.getElem?_eq_some_iff.1 h1).1
      exact ⟨_, vs[k], rfl, by simp [hk], .u (hg k u _ h1 (List.getElem?_eq_getElem hk))⟩
    | agg hl hg => simp [IV.part] at hj
    | sl0 _ => simp [IV.part] at hj
    | sl => simp [IV.part] at hj
    | ptr => simp [IV.part] at hj
    | clo => simp [IV.part] at hj
  | tup hl hg =>
    rename_i us vs
    simp only [IV.part] at hj
    have hk : k < vs.length := by rw [← hl]; exact (List.getElem?_eq_some_iff.1 hj).1
    exact ⟨_, vs[k], rfl, by simp [hk], hg k j _ hj (List.getElem?_eq_getElem hk)⟩
  | own => simp [IV.part] at hj
  | ref => simp [IV.part] at hj
  | el => simp [IV.part] at hj
  | osl => simp [IV.part] at hj
  | agg => simp [IV.part] at hj
  | clo => simp [IV.part] at hj
  | junk => simp [IV.part] at hj
theorem O.extract {x : Operand} {i j : IV} {k : Nat} (hx : ev F x = some i) (hj : i.part k = some j) (hd : Nat.blt d c.n = true) (hg : Taken ops F gd) : OpOk c P ops ⟨some d, .extract x k, ty, pos, af, gd⟩ F S [] [] (some j) [] :=
  OpOk.runs hd hg fun σ τ a w hA _ h => by
    obtain ⟨h1, h2⟩ := h.opd hA (by simp [Op.operands]) hx
    obtain ⟨vs, u, e, q1, q2⟩ := h1.part hj
    rw [e] at h2
    exact ⟨u, G.R.extract h2 q1, q2⟩

/-- The cells of a value. -/
def IV.cells : IV → List IV
  | .agg is => is
  | .u (.agg us) => us.map .u
  | .u (.sc v) => v.cells.toList.map fun v => .u (.sc v)
  | .junk => []
  | i => [i]
theorem AllI.single {ok : Nat → Prop} {i : IV} {v : Value} (h : RepI τ w ok i v) : AllI τ w ok [i] [v] :=
  ⟨rfl, fun k u x h1 h2 => by
    cases k with
    | zero => simp at h1 h2; subst h1; subst h2; exact h
    | succ k => simp at h1⟩
theorem AllI.ofU {ok : Nat → Prop} {us : List UV} {vs : List Value} (h : AllU w ok us vs) : AllI τ w ok (us.map .u) vs :=
  ⟨by simpa using h.1, fun k u x h1 h2 => by
    rw [List.getElem?_map, Option.map_eq_some_iff] at h1
    obtain ⟨q, h1, rfl⟩ := h1
    exact .u (h.2 k q x h1 h2)⟩
theorem RepI.cells {ok : Nat → Prop} {i : IV} {v : Value} (h : RepI τ w ok i v) (hj : i ≠ .junk) : AllI τ w ok i.cells v.cells.toList := by
  have h0 := h
  cases h with
  | u h =>
    cases h with
    | sc v =>
      refine ⟨by simp [IV.cells], fun k u x h1 h2 => ?_⟩
      simp only [IV.cells, List.getElem?_map, h2, Option.map_some, Option.some.injEq] at h1
      subst h1
      exact .u (.sc x)
    | agg hl hg => simpa [IV.cells, Value.cells] using AllI.ofU (τ := τ) (w := w) (ok := ok) ⟨hl, hg⟩
    | tup hl hg => exact AllI.single h0
    | sl0 _ => exact AllI.single h0
    | sl => exact AllI.single h0
    | ptr => exact AllI.single h0
    | clo => exact AllI.single h0
  | agg hl hg =>
    rename_i us vs
    show AllI τ w ok us vs.toArray.toList
    rw [List.toList_toArray]
    exact ⟨hl, hg⟩
  | own k h =>
    have e : (τ k).cells.toList = [τ k] := by cases hv : τ k <;> simp [hv, Value.oneCell'] at h <;> rfl
    rw [e]; exact AllI.single h0
  | osl h h1 h2 => exact AllI.single h0
  | tup => exact AllI.single h0
  | ref => exact AllI.single h0
  | el => exact AllI.single h0
  | clo => exact AllI.single h0
  | junk => exact absurd rfl hj
theorem RepI.isOne {ok : Nat → Prop} {i : IV} {v : Value} (h : RepI τ w ok i v) (ho : i.one = true) : v.oneCell' = true := by
  cases h with
  | u h =>
    cases h with
    | sc v => exact ho
    | agg => simp [IV.one, UV.one] at ho
    | tup => simp [IV.one, UV.one] at ho
    | sl0 => rfl
    | sl => rfl
    | ptr => rfl
    | clo => rfl
  | own k h => exact h
  | ref => rfl
  | el => rfl
  | osl => rfl
  | agg => simp [IV.one] at ho
  | tup => simp [IV.one] at ho
  | clo => rfl
  | junk => simp [IV.one] at ho
theorem AllI.ones {ok : Nat → Prop} {is : List IV} {vs : List Value} (h : AllI τ w ok is vs) (ho : is.all IV.one = true) : G.cells1 vs = true := by
  refine List.all_eq_true.2 fun v hv => ?_
  obtain ⟨k, hk, e⟩ := List.mem_iff_getElem.1 hv
  have hk' : k < is.length := by rw [h.1]; exact hk
  exact (h.2 k is[k] v (List.getElem?_eq_getElem hk') (by rw [List.getElem?_eq_getElem hk, e])).isOne (List.all_eq_true.1 ho _ (List.getElem_mem hk'))

/-- A field of a struct's value. -/
def IV.fld : IV → Nat → Option IV
  | .agg is, k => is[k]?
  | .u (.agg us), k => (us[k]?).map .u
  | .u (.sc (.agg vs)), k => (vs[k]?).map fun v => .u (.sc v)
  | _, _ => none
theorem RepI.fld {ok : Nat → Prop} {i j : IV} {k : Nat} {v : Value} (h : RepI τ w ok i v) (hj : i.fld k = some j) : ∃ (vs : List Value) (u : Value), v = .agg vs.toArray ∧ vs[k]? = some u ∧ RepI τ w ok j u := by
  cases h with
  | u h =>
    cases h with
    | sc v =>
      cases v <;> simp [IV.fld] at hj
      rename_i vs
      obtain ⟨x, h1, h2⟩ := hj
      subst h2
      exact ⟨vs.toList, x, by simp, by simpa using h1, .u (.sc x)⟩
    | agg hl hg =>
      rename_i us vs
      simp only [IV.fld, Option.map_eq_some_iff] at hj
      obtain ⟨u, h1, rfl⟩ := hj
      have hk : k < vs.length := by rw [← hl]; exact (List.getElem?_eq_some_iff.1 h1).1
      exact ⟨vs, vs[k], rfl, by simp [hk], .u (hg k u _ h1 (List.getElem?_eq_getElem hk))⟩
    | tup hl hg => simp [IV.fld] at hj
    | sl0 _ => simp [IV.fld] at hj
    | sl => simp [IV.fld] at hj
    | ptr => simp [IV.fld] at hj
    | clo => simp [IV.fld] at hj
  | agg hl hg =>
    rename_i us vs
    simp only [IV.fld] at hj
    have hk : k < vs.length := by rw [← hl]; exact (List.getElem?_eq_some_iff.1 hj).1
    exact ⟨vs, vs[k], rfl, by simp [hk], hg k j _ hj (List.getElem?_eq_getElem hk)⟩
  | own => simp [IV.fld] at hj
  | ref => simp [IV.fld] at hj
  | el => simp [IV.fld] at hj
  | osl => simp [IV.fld] at hj
  | tup => simp [IV.fld] at hj
  | clo => simp [IV.fld] at hj
  | junk => simp [IV.fld] at hj
theorem O.field {x : Operand} {s : TypeId} {k : Nat} {fs : Array Field} {f : Field} {dd : TypeDesc} {i j : IV} (hx : ev F x = some i) (hj : i.fld f.offset = some j) (ht : P.underlying s = some (.struct fs)) (hf : fs[k]? = some f)
    (hty : P.underlying f.type = some dd) (hag : G.aggD dd = false) (hd : Nat.blt d c.n = true) (hg : Taken ops F gd) : OpOk c P ops ⟨some d, .field s x k, ty, pos, af, gd⟩ F S [] [] (some j) [] :=
  OpOk.runs hd hg fun σ τ a w hA _ h => by
    obtain ⟨h1, h2⟩ := h.opd hA (by simp [Op.operands]) hx
    obtain ⟨vs, u, e, q1, q2⟩ := h1.fld hj
    rw [e] at h2
    exact ⟨u, G.R.field h2 ht hf q1 hty hag, q2⟩
end
end Go.H
