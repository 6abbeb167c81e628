/-
  Reading: slices, pointers, fields.
-/
import Derived.Test.YtfmgpocbpbfalaaHMem
namespace Go.H
open Go Go.RowKit
open Go.G (Ext Gr Blk)

theorem flatten_get {sz : Nat} : ∀ {rows : List (List UV)} {i : Nat} {row : List UV}, (∀ r ∈ rows, r.length = sz) → rows[i]? = some row → ∀ {j : Nat} {u : UV}, row[j]? = some u → rows.flatten[i * sz + j]? = some u
  | [], i, row, _, h, j, u, _ => by simp at h
  | r :: rows, 0, row, hr, h, j, u, hu => by
    simp at h; subst h
    rw [List.flatten_cons, Nat.zero_mul, Nat.zero_add, List.getElem?_append_left (List.getElem?_eq_some_iff.1 hu).1]; exact hu
  | r :: rows, i + 1, row, hr, h, j, u, hu => by
    rw [List.flatten_cons, List.getElem?_append_right (by rw [hr r (by simp), Nat.add_mul]; omega)]
    have := flatten_get (rows := rows) (i := i) (row := row) (fun r hr' => hr r (by simp [hr'])) (by simpa using h) hu
    rw [hr r (by simp), Nat.add_mul, Nat.one_mul, show i * sz + sz + j - sz = i * sz + j by omega]; exact this
theorem flat_len {sz : Nat} : ∀ {l : List (List UV)}, (∀ r ∈ l, r.length = sz) → l.flatten.length = l.length * sz
  | [], _ => by simp
  | r :: l, hr => by rw [List.flatten_cons, List.length_append, flat_len (fun r hr' => hr r (by simp [hr'])), hr r (by simp), List.length_cons, Nat.add_mul]; omega
theorem row_mem {rows : List (List UV)} {i : Nat} {row : List UV} (h : rows[i]? = some row) : row ∈ rows := List.mem_of_getElem? h
theorem row_get {α : Type} [Inhabited α] {enc : α → List UV} {xs : List α} {i : Nat} (h : i < xs.length) : (xs.map enc)[i]? = some (enc xs[i]!) := by
  simp [h]

section
variable {c : Ctx} {P : Program} {F : Frm} {S : Sto} {ops : Array Oper} {T T2 N : List Nat} {d : Nat} {op : Op} {ty : TypeId} {pos : String} {af : Array Edge} {gd : Option (Nat × Bool)}
  {σ : Sig} {τ τ' : Nat → Value} {a : Act} {w w' : World} {δ : Chg}

/-- The operand is a slice that reads as rows. -/
def SlOf (F : Frm) (S : Sto) (T : List Nat) (x : Operand) (sz : Nat) (rows : List (List UV)) : Prop :=
  ∃ i, ev F x = some i ∧ ∀ (c : Ctx) (σ : Sig) (τ : Nat → Value) (a : Act) (w : World) (v : Value), AgreeS T S σ → SatT c σ τ a w → RepI τ w (okOf c τ σ.sto) i v →
    ∃ (hp : 0 < sz) (xs : List (Row sz)) (lo hi : Nat), G.Sl (encRow sz hp) w lo hi v xs ∧ AllRows w (okOf c τ σ.sto) rows xs ∧ ∀ u ∈ rows.flatten, u.one = true
theorem SlOf.fz {x : Operand} {sz : Nat} {rows : List (List UV)} (hx : ev F x = some (.u (.sl sz rows))) (hp : 0 < sz) : SlOf F S [] x sz rows := by
  refine ⟨_, hx, fun c σ τ a w v _ h hr => ⟨hp, ?_⟩⟩
  cases hr with
  | u hr =>
    cases hr with
    | sl0 hc => exact ⟨[], 0, 0, ⟨_, _, rfl, Nat.zero_le _, hc, fun h => absurd rfl h⟩, ⟨rfl, fun i row x h1 => by simp at h1⟩, by simp⟩
    | @sl _ _ ad cc cv hne h1 h2 h3 h4 h5 hb ho hc hu =>
      have hfl : rows.flatten.length = rows.length * sz := flat_len h3
      obtain ⟨xs, e1, e2⟩ := rows_of hp rows.length ((List.range rows.flatten.length).map cv) (by simpa using hfl)
      have hA : AllU w (okOf c τ σ.sto) rows.flatten ((encRow sz hp).all xs) := by
        rw [e1]
        refine ⟨by simp, fun i u v q1 q2 => ?_⟩
        rw [List.getElem?_map, Option.map_eq_some_iff] at q2
        obtain ⟨j, q2, rfl⟩ := q2
        rw [List.getElem?_range (List.getElem?_eq_some_iff.1 q1).1] at q2
        cases q2
        exact hu i u q1
      refine ⟨xs, ad.block, ad.block + 1, ⟨some ad, cc, by rw [e2], by omega, h2, fun _ => ⟨ad, rfl, Nat.le_refl _, Nat.lt_succ_self _, fun j u hj => ?_⟩⟩, AllRows.of e2.symm h3 hA, h5⟩
      rw [e1, List.getElem?_map, Option.map_eq_some_iff] at hj
      obtain ⟨q, hj, rfl⟩ := hj
      have hlt : j < rows.flatten.length := by have := (List.getElem?_eq_some_iff.1 hj).1; simpa using this
      rw [List.getElem?_range hlt] at hj
      cases hj
      exact hc j _ (List.getElem?_eq_getElem hlt)
theorem SlOf.nil {x : Operand} {sz : Nat} (hx : ev F x = some (.u (.sc (.slice none 0 0)))) (hp : 0 < sz) : SlOf F S [] x sz [] := by
  refine ⟨_, hx, fun c σ τ a w v _ h hr => ⟨hp, [], 0, 0, ?_⟩⟩
  cases hr with
  | u hr =>
    cases hr
    exact ⟨G.Sl.nil _ _ _ _, ⟨rfl, fun i row x h1 => by simp at h1⟩, by simp⟩
theorem SlOf.own {x : Operand} {k t sz : Nat} {rows : List (List UV)} (hx : ev F x = some (.own k)) (hS : lookS k S = some (.data t sz rows)) : SlOf F S [k] x sz rows := by
  refine ⟨_, hx, fun c σ τ a w v hB h hr => ?_⟩
  obtain ⟨hp, xs, h1, h2, h3⟩ := (h.sto k _ ((hB k (by simp)).trans hS)).own
  cases hr
  exact ⟨hp, xs, 0, w.heap.size, h1.sl, h2, h3⟩
theorem SlOf.osl {x : Operand} {k t sz lo hi : Nat} {rows : List (List UV)} (hx : ev F x = some (.osl k sz lo hi)) (hS : lookS k S = some (.data t sz rows)) : SlOf F S [k] x sz ((rows.take hi).drop lo) := by
  refine ⟨_, hx, fun c σ τ a w v hB h hr => ?_⟩
  obtain ⟨hp, xs, h1, h2, h3⟩ := (h.sto k _ ((hB k (by simp)).trans hS)).own
  cases hr with
  | @osl _ _ _ _ n cc A hk q1 q2 =>
    have hn : n = xs.length := by
      obtain ⟨_, q | ⟨g, cap, cur, q, _⟩⟩ := h1
      · obtain ⟨q, q0⟩ := q
        rw [hk] at q
        simp only [Value.slice.injEq] at q
        omega
      · rw [hk] at q
        simp only [Value.slice.injEq] at q
        exact q.2.1
    have hsl := (h1.sl).sub (i := lo) (j := hi) q1 (by omega)
    rw [hk] at hsl
    refine ⟨hp, _, 0, w.heap.size, hsl, (h2.take hi).drop lo, fun u hu => h3 u ?_⟩
    obtain ⟨r, hr, hu⟩ := List.mem_flatten.1 hu
    exact List.mem_flatten.2 ⟨r, List.mem_of_mem_take (List.mem_of_mem_drop hr), hu⟩

theorem O.len {x : Operand} {t e : TypeId} {sz : Nat} {rows : List (List UV)} (hs : SlOf F S T x sz rows) (ht : P.underlying t = some (.slice e)) (hd : Nat.blt d c.n = true) (hg : Taken ops F gd) :
    OpOk c P ops ⟨some d, .call { callee := .builtin .len, args := #[x], argTypes := #[t] }, ty, pos, af, gd⟩ F S T [] (some (.u (.sc (.int .i64 rows.length)))) [] :=
  OpOk.runs hd hg fun σ τ a w hA hB h => by
    obtain ⟨i, hx, hs⟩ := hs
    obtain ⟨h1, h2⟩ := h.opd hA (by simp [Op.operands, Call.operands]) hx
    obtain ⟨hp, xs, lo, hi, h3, h4, _⟩ := hs c σ τ a w _ hB h h1
    refine ⟨_, G.R.len_sl h2 h3 ht, ?_⟩
    rw [h4.1]; exact .u (.sc _)

/-- The operand points to cells. -/
def PtU (F : Frm) (S : Sto) (T : List Nat) (x : Operand) (us : List UV) : Prop :=
  ∃ i, ev F x = some i ∧ ∀ (c : Ctx) (σ : Sig) (τ : Nat → Value) (a : Act) (w : World) (v : Value), AgreeS T S σ → SatT c σ τ a w → RepI τ w (okOf c τ σ.sto) i v →
    ∃ ad vs, v = .pointer (some ad) ∧ G.At w ad vs ∧ AllU w (okOf c τ σ.sto) us vs
def PtI (F : Frm) (S : Sto) (T : List Nat) (x : Operand) (is : List IV) : Prop :=
  ∃ i, ev F x = some i ∧ ∀ (c : Ctx) (σ : Sig) (τ : Nat → Value) (a : Act) (w : World) (v : Value), AgreeS T S σ → SatT c σ τ a w → RepI τ w (okOf c τ σ.sto) i v →
    ∃ ad vs, v = .pointer (some ad) ∧ G.At w ad vs ∧ AllI τ w (okOf c τ σ.sto) is vs
theorem PtU.fz {x : Operand} {us : List UV} (hx : ev F x = some (.u (.ptr us))) : PtU F S [] x us := by
  refine ⟨_, hx, fun c σ τ a w v _ h hr => ?_⟩
  cases hr with
  | u hr =>
    cases hr with
    | @ptr _ ad cv h5 hb ho hc hu =>
      refine ⟨ad, (List.range us.length).map cv, rfl, fun j u hj => ?_, by simp, fun i u v q1 q2 => ?_⟩
      · rw [List.getElem?_map, Option.map_eq_some_iff] at hj
        obtain ⟨q, hj, rfl⟩ := hj
        have hlt : j < us.length := by have := (List.getElem?_eq_some_iff.1 hj).1; simpa using this
        rw [List.getElem?_range hlt] at hj
        cases hj
        exact hc j _ (List.getElem?_eq_getElem hlt)
      · rw [List.getElem?_map, Option.map_eq_some_iff] at q2
        obtain ⟨j, q2, rfl⟩ := q2
        rw [List.getElem?_range (List.getElem?_eq_some_iff.1 q1).1] at q2
        cases q2
        exact hu i u q1
theorem AllU.drop {ok : Nat → Prop} {us : List UV} {vs : List Value} (h : AllU w ok us vs) (k : Nat) : AllU w ok (us.drop k) (vs.drop k) :=
  ⟨by simp [h.1], fun i u v q1 q2 => by rw [List.getElem?_drop] at q1 q2; exact h.2 _ u v q1 q2⟩
theorem AllU.take {ok : Nat → Prop} {us : List UV} {vs : List Value} (h : AllU w ok us vs) (k : Nat) : AllU w ok (us.take k) (vs.take k) :=
  ⟨by simp [h.1], fun i u v q1 q2 => by
    rw [List.getElem?_take] at q1 q2
    split at q1
    · rename_i hi; rw [if_pos hi] at q2; exact h.2 i u v q1 q2
    · cases q1⟩
theorem AllI.drop {ok : Nat → Prop} {us : List IV} {vs : List Value} (h : AllI τ w ok us vs) (k : Nat) : AllI τ w ok (us.drop k) (vs.drop k) :=
  ⟨by simp [h.1], fun i u v q1 q2 => by rw [List.getElem?_drop] at q1 q2; exact h.2 _ u v q1 q2⟩
theorem AllI.take {ok : Nat → Prop} {us : List IV} {vs : List Value} (h : AllI τ w ok us vs) (k : Nat) : AllI τ w ok (us.take k) (vs.take k) :=
  ⟨by simp [h.1], fun i u v q1 q2 => by
    rw [List.getElem?_take] at q1 q2
    split at q1
    · rename_i hi; rw [if_pos hi] at q2; exact h.2 i u v q1 q2
    · cases q1⟩
theorem AllI.app {ok : Nat → Prop} {us1 us2 : List IV} {vs1 vs2 : List Value} (h1 : AllI τ w ok us1 vs1) (h2 : AllI τ w ok us2 vs2) : AllI τ w ok (us1 ++ us2) (vs1 ++ vs2) :=
  ⟨by simp [h1.1, h2.1], fun i u v q1 q2 => by
    by_cases hi : i < us1.length
    · rw [List.getElem?_append_left hi] at q1
      rw [List.getElem?_append_left (by rw [← h1.1]; exact hi)] at q2
      exact h1.2 i u v q1 q2
    · rw [List.getElem?_append_right (by omega)] at q1
      rw [List.getElem?_append_right (by rw [← h1.1]; omega), ← h1.1] at q2
      exact h2.2 _ u v q1 q2⟩
/-- A pointer to an element of a slice of the call's own. -/
theorem PtU.el {x : Operand} {k t sz i off : Nat} {rows : List (List UV)} {row : List UV} (hx : ev F x = some (.el k sz i off)) (hS : lookS k S = some (.data t sz rows)) (hrow : rows[i]? = some row) : PtU F S [k] x (row.drop off) := by
  refine ⟨_, hx, fun c σ τ a w v hB h hr => ?_⟩
  obtain ⟨hp, xs, h1, h2, h3⟩ := (h.sto k _ ((hB k (by simp)).trans hS)).own
  have hi : i < xs.length := by rw [← h2.1]; exact (List.getElem?_eq_some_iff.1 hrow).1
  cases hr with
  | @el _ _ _ _ g n cc hk =>
    obtain ⟨ad, e1, _, _, hat⟩ := h1.sl.elem hi
    rw [hk] at e1
    simp only [G.elemPtr, Value.pointer.injEq, Option.some.injEq] at e1
    subst e1
    refine ⟨_, (xs[i]!).1.drop off, rfl, ?_, ?_⟩
    · have := hat.drop off
      rw [Addr.add_lit, Addr.add_lit, Nat.zero_add] at this
      exact this
    · refine AllU.drop (h2.2 i row _ hrow ?_) off
      simp [hi]
theorem PtI.ofU {x : Operand} {us : List UV} (h : PtU F S T x us) : PtI F S T x (us.map .u) := by
  obtain ⟨i, hx, h⟩ := h
  refine ⟨i, hx, fun c σ τ a w v hB hS hr => ?_⟩
  obtain ⟨ad, vs, h1, h2, h3⟩ := h c σ τ a w v hB hS hr
  exact ⟨ad, vs, h1, h2, AllI.ofU h3⟩
/-- A pointer into a block of the call's own. -/
theorem PtI.ref {x : Operand} {k t off : Nat} {is : List IV} (hx : ev F x = some (.ref k off)) (hS : lookS k S = some (.cells t is)) : PtI F S [k] x (is.drop off) := by
  refine ⟨_, hx, fun c σ τ a w v hB h hr => ?_⟩
  obtain ⟨g, vs, h1, h2, h3, h4⟩ := h.sto k _ ((hB k (by simp)).trans hS)
  cases hr with
  | @ref _ _ g' hk =>
    rw [hk] at h1
    simp only [Value.pointer.injEq, Option.some.injEq, Addr.mk.injEq, and_true] at h1
    subst h1
    refine ⟨_, vs.drop off, rfl, ?_, h3.drop off⟩
    have := h2.at.drop off
    rw [Addr.add_lit, Nat.zero_add] at this
    exact this
theorem PtI.eq {x : Operand} {is js : List IV} (h : PtI F S T x is) (e : is = js) : PtI F S T x js := e ▸ h
theorem PtU.eq {x : Operand} {is js : List UV} (h : PtU F S T x is) (e : is = js) : PtU F S T x js := e ▸ h

theorem O.ld1 {x : Operand} {t : TypeId} {dd : TypeDesc} {is r : List IV} {i : IV} (hp : PtI F S T x is) (hi : is = i :: r) (ht : P.underlying t = some dd) (ha : G.aggD dd = false) (hd : Nat.blt d c.n = true) (hg : Taken ops F gd) :
    OpOk c P ops ⟨some d, .load t x, ty, pos, af, gd⟩ F S T [] (some i) [] :=
  OpOk.runs hd hg fun σ τ a w hA hB h => by
    subst hi
    obtain ⟨j, hx, hp⟩ := hp
    obtain ⟨h1, h2⟩ := h.opd hA (by simp [Op.operands]) hx
    obtain ⟨ad, vs, h3, h4, h5⟩ := hp c σ τ a w _ hB h h1
    match vs, h5 with
    | [], h5 => have := h5.1; simp at this
    | v :: vs, h5 =>
      rw [h3] at h2
      exact ⟨v, G.R.ld1 h2 ⟨ad, rfl, Nat.le_refl _, Nat.lt_succ_self _, h4⟩ ht ha, h5.2 0 i v rfl rfl⟩
theorem O.ldN {x : Operand} {t : TypeId} {dd : TypeDesc} {is js : List IV} {m : Nat} (hp : PtI F S T x is) (hj : is.take m = js) (hm : m ≤ is.length) (ht : P.underlying t = some dd) (ha : G.aggD dd = true) (hs : (P.info? t).map (·.size) = some m)
    (hd : Nat.blt d c.n = true) (hg : Taken ops F gd) : OpOk c P ops ⟨some d, .load t x, ty, pos, af, gd⟩ F S T [] (some (.agg js)) [] :=
  OpOk.runs hd hg fun σ τ a w hA hB h => by
    subst hj
    obtain ⟨j, hx, hp⟩ := hp
    obtain ⟨h1, h2⟩ := h.opd hA (by simp [Op.operands]) hx
    obtain ⟨ad, vs, h3, h4, h5⟩ := hp c σ τ a w _ hB h h1
    rw [h3] at h2
    have hl : (vs.take m).length = m := by rw [List.length_take, ← h5.1]; omega
    refine ⟨_, G.R.ldN (cs := vs.take m) h2 ⟨ad, rfl, Nat.le_refl _, Nat.lt_succ_self _, h4.take m⟩ ht ha hs hl, ?_⟩
    exact .agg (h5.take m).1 (h5.take m).2
theorem O.ldU {x : Operand} {t : TypeId} {dd : TypeDesc} {us : List UV} {m : Nat} (hp : PtU F S T x us) (hm : us.length = m) (ht : P.underlying t = some dd) (ha : G.aggD dd = true) (hs : (P.info? t).map (·.size) = some m)
    (hd : Nat.blt d c.n = true) (hg : Taken ops F gd) : OpOk c P ops ⟨some d, .load t x, ty, pos, af, gd⟩ F S T [] (some (.u (.agg us))) [] :=
  OpOk.runs hd hg fun σ τ a w hA hB h => by
    obtain ⟨j, hx, hp⟩ := hp
    obtain ⟨h1, h2⟩ := h.opd hA (by simp [Op.operands]) hx
    obtain ⟨ad, vs, h3, h4, h5⟩ := hp c σ τ a w _ hB h h1
    rw [h3] at h2
    refine ⟨_, G.R.ldN h2 ⟨ad, rfl, Nat.le_refl _, Nat.lt_succ_self _, h4⟩ ht ha hs (by rw [← h5.1, hm]), ?_⟩
    exact .u (.agg h5.1 h5.2)

theorem ptr_drop {ok : Nat → Prop} {us : List UV} {ad : Addr} (h : RepU w ok (.ptr us) (.pointer (some ad))) (o : Nat) : RepU w ok (.ptr (us.drop o)) (.pointer (some (ad.add o))) := by
  cases h with
  | @ptr _ _ cv h5 hb ho hc hu =>
    refine .ptr (cv := fun j => cv (o + j)) (fun u hm => h5 u (List.mem_of_mem_drop hm)) (by rw [G.block_add]; exact hb) (by rw [G.block_add]; exact ho) (fun j u hj => ?_) (fun j u hj => ?_)
    · rw [G.add_add]; exact hc _ u (by rw [← hj, List.getElem?_drop])
    · exact hu _ u (by rw [← hj, List.getElem?_drop])
theorem O.fld_fz {x : Operand} {s : TypeId} {k : Nat} {fs : Array Field} {f : Field} {us vs : List UV} {m : Nat} (hx : ev F x = some (.u (.ptr us))) (ht : P.underlying s = some (.struct fs)) (hf : fs[k]? = some f)
    (hm : (P.info? f.type).map (·.size) = some (m + 1)) (he : us.drop f.offset = vs) (hd : Nat.blt d c.n = true) (hg : Taken ops F gd) : OpOk c P ops ⟨some d, .fieldAddr s x k, ty, pos, af, gd⟩ F S [] [] (some (.u (.ptr vs))) [] :=
  OpOk.runs hd hg fun σ τ a w hA _ h => by
    subst he
    obtain ⟨h1, h2⟩ := h.opd hA (by simp [Op.operands]) hx
    cases h1 with
    | u h1 =>
      generalize a.eval x = v at h1 h2
      have h0 := h1
      cases h1 with
      | ptr => exact ⟨_, G.R.fld h2 ht hf hm, .u (ptr_drop h0 _)⟩
theorem O.fld_ref {x : Operand} {s : TypeId} {k kk off o' : Nat} {fs : Array Field} {f : Field} {m : Nat} (hx : ev F x = some (.ref kk off)) (ht : P.underlying s = some (.struct fs)) (hf : fs[k]? = some f)
    (hm : (P.info? f.type).map (·.size) = some (m + 1)) (he : off + f.offset = o') (hd : Nat.blt d c.n = true) (hg : Taken ops F gd) : OpOk c P ops ⟨some d, .fieldAddr s x k, ty, pos, af, gd⟩ F S [] [] (some (.ref kk o')) [] :=
  OpOk.runs hd hg fun σ τ a w hA _ h => by
    subst he
    obtain ⟨h1, h2⟩ := h.opd hA (by simp [Op.operands]) hx
    generalize a.eval x = v at h1 h2
    cases h1 with
    | ref hk => exact ⟨_, G.R.fld h2 ht hf hm, by rw [Addr.add_lit]; exact .ref hk⟩
theorem O.fld_el {x : Operand} {s : TypeId} {k kk sz i off o' : Nat} {fs : Array Field} {f : Field} {m : Nat} (hx : ev F x = some (.el kk sz i off)) (ht : P.underlying s = some (.struct fs)) (hf : fs[k]? = some f)
    (hm : (P.info? f.type).map (·.size) = some (m + 1)) (he : off + f.offset = o') (hd : Nat.blt d c.n = true) (hg : Taken ops F gd) : OpOk c P ops ⟨some d, .fieldAddr s x k, ty, pos, af, gd⟩ F S [] [] (some (.el kk sz i o')) [] :=
  OpOk.runs hd hg fun σ τ a w hA _ h => by
    subst he
    obtain ⟨h1, h2⟩ := h.opd hA (by simp [Op.operands]) hx
    generalize a.eval x = v at h1 h2
    cases h1 with
    | el hk => exact ⟨_, G.R.fld h2 ht hf hm, by rw [Addr.add_lit, Nat.add_assoc]; exact .el hk⟩
theorem O.nilCheck {x : Operand} {i : IV} (hx : ev F x = some i) (hi : (match i with | .u (.ptr _) => true | .ref _ _ => true | .el _ _ _ _ => true | _ => false) = true) (hd : Nat.blt d c.n = true) (hg : Taken ops F gd) :
    OpOk c P ops ⟨some d, .nilCheck x, ty, pos, af, gd⟩ F S [] [] (some i) [] :=
  OpOk.runs hd hg fun σ τ a w hA _ h => by
    obtain ⟨h1, h2⟩ := h.opd hA (by simp [Op.operands]) hx
    generalize a.eval x = v at h1 h2
    have h0 := h1
    cases h1 with
    | u h1 =>
      cases h1 with
      | ptr => exact ⟨_, G.R.nilCheck h2, h0⟩
      | _ => simp at hi
    | ref hk => exact ⟨_, G.R.nilCheck h2, h0⟩
    | el hk => exact ⟨_, G.R.nilCheck h2, h0⟩
    | _ => simp at hi

/-! ### Elements -/
theorem O.idx_fz {x y : Operand} {t e : TypeId} {k : IntKind} {i : Nat} {ii : Int} {inf : TypeInfo} {sz : Nat} {rows : List (List UV)} {row : List UV} (hx : ev F x = some (.u (.sl sz rows))) (hy : ev F y = some (.u (.sc (.int k ii)))) (hii : ii = (i : Int)) (hrow : rows[i]? = some row)
    (ht : P.underlying t = some (.slice e)) (he : P.info? e = some inf) (hs : inf.size = sz) (hd : Nat.blt d c.n = true) (hg : Taken ops F gd) : OpOk c P ops ⟨some d, .indexAddr t x y, ty, pos, af, gd⟩ F S [] [] (some (.u (.ptr row))) [] :=
  OpOk.runs hd hg fun σ τ a w hA hB h => by
    subst hii
    obtain ⟨h1, h2⟩ := h.opd hA (by simp [Op.operands]) hx
    have hy2 := (h.sc hA (by simp [Op.operands]) hy).2
    have hlt : i < rows.length := (List.getElem?_eq_some_iff.1 hrow).1
    have hp : 0 < sz := by
      cases h1 with
      | u h1 =>
        generalize a.eval x = v at h1
        cases h1 with
        | sl0 => simp at hlt
        | sl _ _ _ _ h4 => exact h4
    obtain ⟨_, hx', hs'⟩ := SlOf.fz (F := F) (S := S) hx hp
    rw [hx] at hx'; cases hx'
    obtain ⟨_, xs, lo, hi, q1, q2, _⟩ := hs' c σ τ a w _ (fun k hk => by cases hk) h h1
    refine ⟨_, G.R.idx h2 hy2 q1 (by rw [← q2.1]; exact hlt) ht he hs, ?_⟩
    cases h1 with
    | u h1 =>
      generalize a.eval x = v at h1
      cases h1 with
      | sl0 => simp at hlt
      | @sl _ _ ad cc cv hne h1 h2 h3 h4 h5 hb ho hc hu =>
        simp only [G.elemPtr]
        refine .u (.ptr (cv := fun j => cv (i * sz + j)) (fun u hm => h5 u (List.mem_flatten.2 ⟨row, row_mem hrow, hm⟩)) (by rw [G.block_add]; exact hb) (by rw [G.block_add]; exact ho) (fun j u hj => ?_) (fun j u hj => ?_))
        · show w.cell? ((ad.add (i * sz)).add j) = _
          rw [G.add_add]; exact hc _ u (flatten_get h3 hrow hj)
        · exact hu _ u (flatten_get h3 hrow hj)
theorem O.idx_own {x y : Operand} {t e tb : TypeId} {k : IntKind} {i kk : Nat} {ii : Int} {inf : TypeInfo} {sz : Nat} {rows : List (List UV)} (hx : ev F x = some (.own kk)) (hS : lookS kk S = some (.data tb sz rows)) (hy : ev F y = some (.u (.sc (.int k ii)))) (hii : ii = (i : Int)) (hlt : i < rows.length)
    (ht : P.underlying t = some (.slice e)) (he : P.info? e = some inf) (hs : inf.size = sz) (hd : Nat.blt d c.n = true) (hg : Taken ops F gd) : OpOk c P ops ⟨some d, .indexAddr t x y, ty, pos, af, gd⟩ F S [kk] [] (some (.el kk sz i 0)) [] :=
  OpOk.runs hd hg fun σ τ a w hA hB h => by
    subst hii
    obtain ⟨h1, h2⟩ := h.opd hA (by simp [Op.operands]) hx
    have hy2 := (h.sc hA (by simp [Op.operands]) hy).2
    obtain ⟨hp, xs, q1, q2, q3⟩ := (h.sto kk _ ((hB kk (by simp)).trans hS)).own
    generalize a.eval x = v at h1 h2
    cases h1
    refine ⟨_, G.R.idx h2 hy2 q1.sl (by rw [← q2.1]; exact hlt) ht he hs, ?_⟩
    obtain ⟨g, cc, q4, _⟩ := q1.form (fun e => by rw [e] at q2; have := q2.1; simp at this; rw [this] at hlt; simp at hlt)
    rw [q4]
    simp only [G.elemPtr, Addr.add_lit, Nat.zero_add]
    exact .el (off := 0) q4

/-! ### Slices of slices -/
theorem slice_rep {ok : Nat → Prop} {sz : Nat} {rows : List (List UV)} {v : Value} {i j : Nat} (h : RepU w ok (.sl sz rows) v) (h1 : i ≤ j) (h2 : j ≤ rows.length) : RepU w ok (.sl sz ((rows.take j).drop i)) (G.subSl v sz i j) := by
  have hl : ((rows.take j).drop i).length = j - i := by simp; omega
  cases h with
  | @sl0 _ A cc hc hn =>
    have hj : j = 0 := by simpa using h2
    subst hj
    have hi : i = 0 := by omega
    subst hi
    refine .sl0 (by omega) (fun e => ?_)
    split at e
    · omega
    · cases A with
      | none => have := hn rfl; omega
      | some a => simp at e
  | @sl _ _ ad cc cv hne q1 q2 h3 h4 h5 hb ho hc hu =>
    simp only [G.subSl]
    by_cases hij : i = j
    · subst hij
      have : (rows.take i).drop i = [] := List.eq_nil_of_length_eq_zero (by rw [hl]; omega)
      rw [this, Nat.sub_self]
      exact .sl0 (by omega) (fun e => by split at e <;> simp at e)
    · rw [if_neg (by omega), ← hl]
      have hgen : ∀ {q : Nat} {u : UV}, ((rows.take j).drop i).flatten[q]? = some u → rows.flatten[i * sz + q]? = some u := by
        intro q u hq
        have e1 : (rows.take j).flatten = (rows.take i).flatten ++ ((rows.take j).drop i).flatten := by
          rw [← List.flatten_append]
          congr 1
          have := List.take_append_drop i (rows.take j)
          rw [List.take_take, Nat.min_eq_left h1] at this
          exact this.symm
        have e2 : rows.flatten = (rows.take j).flatten ++ (rows.drop j).flatten := by rw [← List.flatten_append, List.take_append_drop]
        have hlen : (rows.take i).flatten.length = i * sz := by
          rw [flat_len (fun r hr => h3 r (List.mem_of_mem_take hr)), List.length_take, Nat.min_eq_left (by omega)]
        rw [e2, e1, List.append_assoc, List.getElem?_append_right (by omega), hlen, show i * sz + q - i * sz = q by omega,
          List.getElem?_append_left (List.getElem?_eq_some_iff.1 hq).1]
        exact hq
      refine .sl (cv := fun q => cv (i * sz + q)) (fun e => by rw [e] at hl; simp at hl; omega) (by rw [hl]; omega) (by omega) (fun r hr => h3 r (List.mem_of_mem_take (List.mem_of_mem_drop hr))) h4
        (fun u hu => ?_) (by rw [G.block_add]; exact hb) (by rw [G.block_add]; exact ho) (fun q u hq => ?_) (fun q u hq => hu _ u (hgen hq))
      · obtain ⟨r, hr, hu⟩ := List.mem_flatten.1 hu
        exact h5 u (List.mem_flatten.2 ⟨r, List.mem_of_mem_take (List.mem_of_mem_drop hr), hu⟩)
      · rw [G.add_add]; exact hc _ u (hgen hq)
theorem sl_form {ok : Nat → Prop} {sz : Nat} {rows : List (List UV)} {v : Value} (h : RepU w ok (.sl sz rows) v) : ∃ A cc, v = .slice A rows.length cc ∧ rows.length ≤ cc := by
  cases h with
  | sl0 hc => exact ⟨_, _, rfl, Nat.zero_le _⟩
  | sl hne q1 => exact ⟨_, _, rfl, q1⟩
def BndG (a : Act) (l : Option Operand) (i q : Nat) : Prop := match l with
  | some y => ∃ k, G.ev (actF a) y = some (.int k (i : Int))
  | none => i = q
theorem run_sub {ad : Option Addr} {n cc : Nat} {x : Operand} {l h : Option Operand} {t e : TypeId} {inf : TypeInfo} {sz i j : Nat} (hx : G.ev (actF a) x = some (.slice ad n cc)) (hn : n ≤ cc)
    (hl : BndG a l i 0) (hh : BndG a h j n) (h1 : i ≤ j) (h2 : j ≤ cc)
    (ht : P.underlying t = some (.slice e)) (he : P.info? e = some inf) (hs : inf.size = sz) : G.Runs P w (actF a) (.slice t x l h none) ty (G.subSl (.slice ad n cc) sz i j) := fun o ρ ho _ hρ => by
  subst hs
  cases l with
  | none =>
    simp only [BndG] at hl
    subst hl
    cases h with
    | none =>
      simp only [BndG] at hh
      subst hh
      simp only [execOp, ho, hρ x (by simp [Op.operands]) _ hx, Option.map_none]
      simp [Instr.sliceAt, Instr.slice, Instr.sliceBounds, run_underlying ht, sizeOf, typeInfo, he, G.subSl]
    | some y =>
      obtain ⟨k, hh⟩ := hh
      simp only [execOp, ho, hρ x (by simp [Op.operands]) _ hx, hρ y (by simp [Op.operands]) _ hh, Option.map_none, Option.map_some]
      simp [Instr.sliceAt, Instr.slice, Instr.sliceBounds, Instr.sliceBound, asIntOf, run_underlying ht, sizeOf, typeInfo, he, G.subSl, h2]
  | some z =>
    obtain ⟨k, hl⟩ := hl
    cases h with
    | none =>
      simp only [BndG] at hh
      subst hh
      simp only [execOp, ho, hρ x (by simp [Op.operands]) _ hx, hρ z (by simp [Op.operands]) _ hl, Option.map_none, Option.map_some]
      simp [Instr.sliceAt, Instr.slice, Instr.sliceBounds, Instr.sliceBound, asIntOf, run_underlying ht, sizeOf, typeInfo, he, G.subSl, h1]
    | some y =>
      obtain ⟨k', hh⟩ := hh
      simp only [execOp, ho, hρ x (by simp [Op.operands]) _ hx, hρ z (by simp [Op.operands]) _ hl, hρ y (by simp [Op.operands]) _ hh, Option.map_some, Option.map_none]
      simp [Instr.sliceAt, Instr.slice, Instr.sliceBounds, Instr.sliceBound, asIntOf, run_underlying ht, sizeOf, typeInfo, he, G.subSl, h1, h2]
/-- A bound of a slice. -/
def Bnd (F : Frm) (l : Option Operand) (i dflt : Nat) : Prop := match l with
  | some y => ∃ k ii, ev F y = some (.u (.sc (.int k ii))) ∧ ii = (i : Int)
  | none => i = dflt
theorem Bnd.at {y : Operand} {k : IntKind} {ii : Int} {i q : Nat} (h : ev F y = some (.u (.sc (.int k ii)))) (e : ii = (i : Int)) : Bnd F (some y) i q := ⟨k, ii, h, e⟩
theorem Bnd.no {q : Nat} : Bnd F none q q := rfl
theorem Bnd.run {o : Oper} {l : Option Operand} {i q : Nat} (h : Bnd F l i q) (hS : SatT c σ τ a w) (hA : AgreeF (o.looksAt ops) F σ) (hm : ∀ y, l = some y → y ∈ o.op.operands) : BndG a l i q := by
  cases l with
  | none => exact h
  | some y =>
    obtain ⟨k, ii, h1, h2⟩ := h
    subst h2
    exact ⟨k, (hS.sc hA (hm y rfl) h1).2⟩
theorem O.sub_fz {x : Operand} {l h : Option Operand} {t e : TypeId} {inf : TypeInfo} {sz i j : Nat} {rows rows' : List (List UV)} (hx : ev F x = some (.u (.sl sz rows))) (hl : Bnd F l i 0) (hh : Bnd F h j rows.length) (h1 : i ≤ j) (h2 : j ≤ rows.length) (hr : (rows.take j).drop i = rows')
    (ht : P.underlying t = some (.slice e)) (he : P.info? e = some inf) (hs : inf.size = sz) (hd : Nat.blt d c.n = true) (hg : Taken ops F gd) :
    OpOk c P ops ⟨some d, .slice t x l h none, ty, pos, af, gd⟩ F S [] [] (some (.u (.sl sz rows'))) [] :=
  OpOk.runs hd hg fun σ τ a w hA hB hS => by
    subst hr
    obtain ⟨p1, p2⟩ := hS.opd hA (by simp [Op.operands]) hx
    cases p1 with
    | u p1 =>
      obtain ⟨A, cc, e1, e2⟩ := sl_form p1
      have hl' := hl.run hS hA (fun y hy => by subst hy; simp [Op.operands])
      have hh' := hh.run hS hA (fun y hy => by subst hy; simp [Op.operands])
      rw [e1] at p2 p1
      exact ⟨_, run_sub p2 e2 hl' hh' h1 (by omega) ht he hs, .u (slice_rep p1 h1 h2)⟩
theorem O.sub_own {x : Operand} {l h : Option Operand} {t e tb : TypeId} {inf : TypeInfo} {kk sz i j : Nat} {rows : List (List UV)} (hx : ev F x = some (.own kk)) (hS : lookS kk S = some (.data tb sz rows)) (hl : Bnd F l i 0) (hh : Bnd F h j rows.length) (h1 : i ≤ j) (h2 : j ≤ rows.length)
    (ht : P.underlying t = some (.slice e)) (he : P.info? e = some inf) (hs : inf.size = sz) (hd : Nat.blt d c.n = true) (hg : Taken ops F gd) :
    OpOk c P ops ⟨some d, .slice t x l h none, ty, pos, af, gd⟩ F S [kk] [] (some (.osl kk sz i j)) [] :=
  OpOk.runs hd hg fun σ τ a w hA hB h => by
    obtain ⟨p1, p2⟩ := h.opd hA (by simp [Op.operands]) hx
    have hl' := hl.run h hA (fun y hy => by subst hy; simp [Op.operands])
    have hh' := hh.run h hA (fun y hy => by subst hy; simp [Op.operands])
    obtain ⟨hp, xs, q1, q2, q3⟩ := (h.sto kk _ ((hB kk (by simp)).trans hS)).own
    obtain ⟨A, cc, e1, e2, _⟩ := q1.sl.out
    generalize a.eval x = v at p1 p2
    cases p1
    rw [← q2.1] at e1 e2
    rw [e1] at p2
    exact ⟨_, run_sub p2 e2 hl' hh' h1 (by omega) ht he hs, .osl e1 h1 h2⟩

/-- A constant nil, as a slice that is read. -/
theorem O.len_nil {x : Operand} {t e : TypeId} (hx : ev F x = some (.u (.sc (.slice none 0 0)))) (ht : P.underlying t = some (.slice e)) (hd : Nat.blt d c.n = true) (hg : Taken ops F gd) :
    OpOk c P ops ⟨some d, .call { callee := .builtin .len, args := #[x], argTypes := #[t] }, ty, pos, af, gd⟩ F S [] [] (some (.u (.sc (.int .i64 0)))) [] :=
  O.len (SlOf.nil (sz := 1) hx (by decide)) ht hd hg
end
end Go.H
