/-
  What each operation does to a picture: memory.
-/
import Derived.Test.YtfmgpocbpbfalaaHOps
namespace Go.H
open Go Go.RowKit
open Go.G (Ext Gr Blk)

/-! ### Rows -/
abbrev Row (sz : Nat) := {l : List Value // l.length = sz}
instance {sz : Nat} : Inhabited (Row sz) := ⟨⟨List.replicate sz default, by simp⟩⟩
def encRow (sz : Nat) (h : 0 < sz) : G.Enc (Row sz) := ⟨sz, (·.1), (·.2), h⟩
theorem rows_of {sz : Nat} (h : 0 < sz) : ∀ (n : Nat) (vs : List Value), vs.length = n * sz → ∃ xs : List (Row sz), (encRow sz h).all xs = vs ∧ xs.length = n
  | 0, vs, hl => by
    have : vs = [] := List.eq_nil_of_length_eq_zero (by simpa using hl)
    subst this; exact ⟨[], rfl, rfl⟩
  | n + 1, vs, hl => by
    rw [Nat.add_mul, Nat.one_mul] at hl
    obtain ⟨xs, h1, h2⟩ := rows_of h n (vs.drop sz) (by rw [List.length_drop]; omega)
    refine ⟨⟨vs.take sz, by rw [List.length_take]; omega⟩ :: xs, ?_, by simp [h2]⟩
    show vs.take sz ++ (encRow sz h).all xs = vs
    rw [h1, List.take_append_drop]
section
variable {w w' : World} {ok ok' : Nat → Prop} {τ τ' : Nat → Value}
theorem AllU.app {us1 us2 : List UV} {vs1 vs2 : List Value} (h1 : AllU w ok us1 vs1) (h2 : AllU w ok us2 vs2) : AllU w ok (us1 ++ us2) (vs1 ++ vs2) :=
  ⟨by simp [h1.1, h2.1], fun i u v q1 q2 => by
    by_cases hi : i < us1.length
    · rw [List.getElem?_append_left hi] at q1
      rw [List.getElem?_append_left (by rw [← h1.1]; exact hi)] at q2
      exact h1.2 i u v q1 q2
    · rw [List.getElem?_append_right (by omega)] at q1
      rw [List.getElem?_append_right (by rw [← h1.1]; omega), ← h1.1] at q2
      exact h2.2 _ u v q1 q2⟩
theorem AllU.split {us1 us2 : List UV} {vs1 vs2 : List Value} (h : AllU w ok (us1 ++ us2) (vs1 ++ vs2)) (hl : us1.length = vs1.length) : AllU w ok us1 vs1 ∧ AllU w ok us2 vs2 := by
  refine ⟨⟨hl, fun i u v q1 q2 => h.2 i u v ?_ ?_⟩, ⟨by have := h.1; simp at this; omega, fun i u v q1 q2 => h.2 (us1.length + i) u v ?_ ?_⟩⟩
  · rw [List.getElem?_append_left (List.getElem?_eq_some_iff.1 q1).1]; exact q1
  · rw [List.getElem?_append_left (List.getElem?_eq_some_iff.1 q2).1]; exact q2
  · rw [List.getElem?_append_right (by omega)]; simpa using q1
  · rw [List.getElem?_append_right (by omega), hl]; simpa using q2
def AllRows (w : World) (ok : Nat → Prop) {sz : Nat} (rows : List (List UV)) (xs : List (Row sz)) : Prop :=
  rows.length = xs.length ∧ ∀ (i : Nat) (row : List UV) (x : Row sz), rows[i]? = some row → xs[i]? = some x → AllU w ok row x.1
theorem AllRows.of {sz : Nat} {h : 0 < sz} : ∀ {rows : List (List UV)} {xs : List (Row sz)}, rows.length = xs.length → (∀ r ∈ rows, r.length = sz) → AllU w ok rows.flatten ((encRow sz h).all xs) → AllRows w ok rows xs
  | [], [], _, _, _ => ⟨rfl, fun i row x h1 => by simp at h1⟩
  | r :: rows, x :: xs, hl, hr, hA => by
    obtain ⟨h1, h2⟩ := AllU.split (us1 := r) (vs1 := x.1) hA (by rw [hr r (by simp), x.2])
    have ih := AllRows.of (h := h) (by simpa using hl) (fun r hr' => hr r (by simp [hr'])) h2
    refine ⟨hl, fun i row y q1 q2 => ?_⟩
    cases i with
    | zero => simp at q1 q2; subst q1; subst q2; exact h1
    | succ i => exact ih.2 i row y (by simpa using q1) (by simpa using q2)
theorem AllRows.flat {sz : Nat} {h : 0 < sz} : ∀ {rows : List (List UV)} {xs : List (Row sz)}, AllRows w ok rows xs → AllU w ok rows.flatten ((encRow sz h).all xs) ∧ ∀ r ∈ rows, r.length = sz
  | [], [], _ => ⟨⟨rfl, fun i u v h1 => by simp at h1⟩, fun r hr => by simp at hr⟩
  | [], x :: xs, hA => by have := hA.1; simp at this
  | r :: rows, [], hA => by have := hA.1; simp at this
  | r :: rows, x :: xs, hA => by
    have h0 := hA.2 0 r x rfl rfl
    obtain ⟨h1, h2⟩ := AllRows.flat (h := h) (rows := rows) (xs := xs) ⟨by simpa using hA.1, fun i row y q1 q2 => hA.2 (i + 1) row y (by simpa using q1) (by simpa using q2)⟩
    refine ⟨h0.app h1, fun q hq => ?_⟩
    rcases List.mem_cons.1 hq with rfl | hq
    · rw [h0.1, x.2]
    · exact h2 q hq
theorem AllRows.mono {sz : Nat} {rows : List (List UV)} {xs : List (Row sz)} (h : AllRows w ok rows xs) (hs : w.heap.size ≤ w'.heap.size) (hm : ∀ b, ok b → b < w.heap.size → ok' b ∧ w'.heap[b]? = w.heap[b]?) : AllRows w' ok' rows xs :=
  ⟨h.1, fun i row x h1 h2 => (h.2 i row x h1 h2).mono hs hm⟩
theorem AllRows.app {sz : Nat} {rows rows' : List (List UV)} {xs xs' : List (Row sz)} (h : AllRows w ok rows xs) (h' : AllRows w ok rows' xs') : AllRows w ok (rows ++ rows') (xs ++ xs') :=
  ⟨by simp [h.1, h'.1], fun i row x q1 q2 => by
    by_cases hi : i < rows.length
    · rw [List.getElem?_append_left hi] at q1
      rw [List.getElem?_append_left (by rw [← h.1]; exact hi)] at q2
      exact h.2 i row x q1 q2
    · rw [List.getElem?_append_right (by omega)] at q1
      rw [List.getElem?_append_right (by rw [← h.1]; omega), ← h.1] at q2
      exact h'.2 _ row x q1 q2⟩
theorem AllRows.take {sz : Nat} {rows : List (List UV)} {xs : List (Row sz)} (h : AllRows w ok rows xs) (k : Nat) : AllRows w ok (rows.take k) (xs.take k) :=
  ⟨by simp [h.1], fun i row x q1 q2 => by
    rw [List.getElem?_take] at q1 q2
    split at q1
    · rename_i hi; rw [if_pos hi] at q2; exact h.2 i row x q1 q2
    · cases q1⟩
theorem AllRows.drop {sz : Nat} {rows : List (List UV)} {xs : List (Row sz)} (h : AllRows w ok rows xs) (k : Nat) : AllRows w ok (rows.drop k) (xs.drop k) :=
  ⟨by simp [h.1], fun i row x q1 q2 => by
    rw [List.getElem?_drop] at q1 q2
    exact h.2 _ row x q1 q2⟩
theorem AllRows.set {sz : Nat} {rows : List (List UV)} {xs : List (Row sz)} (h : AllRows w ok rows xs) {k : Nat} {row : List UV} {x : Row sz} (hx : AllU w ok row x.1) : AllRows w ok (rows.set k row) (xs.set k x) :=
  ⟨by simp [h.1], fun i r y q1 q2 => by
    rw [List.getElem?_set] at q1 q2
    split at q1
    · rename_i hi
      rw [if_pos hi] at q2
      split at q1
      · rename_i hk
        rw [if_pos (by rw [← h.1]; exact hk)] at q2
        cases q1; cases q2; exact hx
      · cases q1
    · rename_i hi; rw [if_neg hi] at q2; exact h.2 i r y q1 q2⟩

/-- A slice of the call's own, by rows. -/
theorem RepB.own {k t sz : Nat} {rows : List (List UV)} (h : RepB τ w ok k (.data t sz rows)) : ∃ (hp : 0 < sz) (xs : List (Row sz)), G.Own (encRow sz hp) w 0 t (τ k) xs ∧ AllRows w ok rows xs ∧ ∀ u ∈ rows.flatten, u.one = true := by
  obtain ⟨vs, h1, h2, h3, h4, h5⟩ := h
  obtain ⟨xs, e1, e2⟩ := rows_of h4 rows.length vs h1.1
  refine ⟨h4, xs, ?_, AllRows.of (h := h4) e2.symm h3 (by rw [e1]; exact h2), h5⟩
  unfold G.Own
  rw [e1, e2]; exact h1
theorem RepB.of_own {k t sz : Nat} {rows : List (List UV)} (hp : 0 < sz) {xs : List (Row sz)} (h1 : G.Own (encRow sz hp) w 0 t (τ k) xs) (h2 : AllRows w ok rows xs) (h3 : ∀ u ∈ rows.flatten, u.one = true) : RepB τ w ok k (.data t sz rows) := by
  obtain ⟨q1, q2⟩ := h2.flat (h := hp)
  unfold G.Own at h1
  rw [← h2.1] at h1
  exact ⟨_, h1, q1, q2, hp, h3⟩
theorem own_one {k t sz : Nat} {rows : List (List UV)} (h : RepB τ w ok k (.data t sz rows)) : (τ k).oneCell' = true := by
  obtain ⟨vs, ⟨_, h1 | ⟨g, cap, cur, h1, _⟩⟩, _⟩ := h
  · rw [h1.1]; rfl
  · rw [h1]; rfl
theorem vblk_own {α : Type} {E : G.Enc α} {base t : Nat} {v : Value} {xs : List α} (h : G.Own E w base t v xs) : vblk v = v.ownBlock := by
  obtain ⟨_, h1 | ⟨g, cap, cur, h1, _⟩⟩ := h
  · rw [h1.1]; rfl
  · rw [h1]; rfl
end

/-! ### A change of memory -/
section
variable {c : Ctx} {P : Program} {F : Frm} {S : Sto} {ops : Array Oper} {T N : List Nat} {d : Nat} {op : Op} {ty : TypeId} {pos : String} {af : Array Edge} {gd : Option (Nat × Bool)}
  {σ : Sig} {τ τ' : Nat → Value} {a : Act} {w w' : World} {δ : Chg}
theorem upd_sto {k : Nat} {sb : SB} (h : (σ.upd none none δ).sto k = some sb) : look k δ = some (some sb) ∨ (look k δ = none ∧ σ.sto k = some sb) := by
  cases hx : look k δ with
  | none => rw [upd_sto_ne hx] at h; exact .inr ⟨rfl, h⟩
  | some ob =>
    simp only [Sig.upd, hx] at h
    split at h
    · cases h
    · subst h; exact .inl rfl
theorem SatT.chg {B : Nat → Prop} (h : SatT c σ τ a w) (hN : ∀ k ∈ N, σ.fresh k ∧ σ.sto k = none ∧ k ∉ c.pk) (hg : Gr B w w')
    (hB : ∀ b, B b → b < w.heap.size → ∃ k sb, look k δ ≠ none ∧ σ.sto k = some sb ∧ vblk (τ k) = some b) (hτ : ∀ k, k ∉ N → τ' k = τ k)
    (hδ : ∀ k sb, look k δ = some (some sb) → ∀ b, vblk (τ' k) = some b → w.heap.size ≤ b ∨ ∃ k0 sb0, look k0 δ ≠ none ∧ σ.sto k0 = some sb0 ∧ vblk (τ k0) = some b)
    (hinj : ∀ k k' sb sb' b, look k δ = some (some sb) → look k' δ = some (some sb') → vblk (τ' k) = some b → vblk (τ' k') = some b → k = k')
    (hrep : (∀ b, okOf c τ σ.sto b → b < w.heap.size → okOf c τ' (σ.upd none none δ).sto b ∧ w'.heap[b]? = w.heap[b]?) → ∀ k sb, look k δ = some (some sb) → RepB τ' w' (okOf c τ' (σ.upd none none δ).sto) k sb) :
    SatT c (σ.upd none none δ) τ' a w' ∧ (∀ b, okOf c τ σ.sto b → b < w.heap.size → okOf c τ' (σ.upd none none δ).sto b ∧ w'.heap[b]? = w.heap[b]?) := by
  have hNn : ∀ k sb, σ.sto k = some sb → k ∉ N := fun k sb hs hk => by rw [(hN k hk).2.1] at hs; cases hs
  have hok : ∀ b, okOf c τ σ.sto b → b < w.heap.size → okOf c τ' (σ.upd none none δ).sto b ∧ w'.heap[b]? = w.heap[b]? := by
    intro b ⟨h1, h2⟩ hb
    refine ⟨⟨h1, fun k sb hk hv => ?_⟩, hg.block b hb fun hBb => ?_⟩
    · rcases upd_sto hk with hk | ⟨_, hk⟩
      · rcases hδ k sb hk b hv with h3 | ⟨k0, sb0, _, h4, h5⟩
        · omega
        · exact h2 k0 sb0 h4 h5
      · rw [hτ k (hNn k sb hk)] at hv; exact h2 k sb hk hv
    · obtain ⟨k, sb, _, h4, h5⟩ := hB b hBb hb
      exact h2 k sb h4 h5
  refine ⟨⟨h.size, h.defers, ?_, fun t i hl => ?_, fun k sb hk => ?_, fun k k' sb sb' b hk hk' hv hv' => ?_, fun k sb b hk hv => ?_, fun k hk => ?_⟩, hok⟩
  · refine ⟨hg.os.trans h.gr.os, hg.tape.trans h.gr.tape, hg.output.trans h.gr.output, Nat.le_trans h.gr.size hg.size, fun b hb hM => ?_⟩
    refine (hg.block b (Nat.lt_of_lt_of_le hb h.gr.size) fun hBb => ?_).trans (h.gr.block b hb hM)
    obtain ⟨k, sb, _, h4, h5⟩ := hB b hBb (Nat.lt_of_lt_of_le hb h.gr.size)
    rcases h.own k sb b h4 h5 with h6 | h6
    · exact hM h6
    · omega
  · obtain ⟨u, h1, h2⟩ := h.slot t i hl
    exact ⟨u, h1, h2.mono hg.size hok fun k hk => hτ k fun hin => (hN k hin).1.1 t i hl hk⟩
  · rcases upd_sto hk with hk | ⟨hn, hk⟩
    · exact hrep hok k sb hk
    · refine (h.sto k sb hk).mono hg.size hok (fun j hj => hτ j fun hin => (hN j hin).1.2 k sb hk hj) (hτ k (hNn k sb hk)) fun b hb => ?_
      refine hg.block b (vblk_lt (h.sto k sb hk) hb) fun hBb => ?_
      obtain ⟨k0, sb0, h3, h4, h5⟩ := hB b hBb (vblk_lt (h.sto k sb hk) hb)
      have := h.inj k k0 sb sb0 b hk h4 hb h5
      subst this
      exact h3 hn
  · have mixed : ∀ k k' sb sb', look k δ = some (some sb) → look k' δ = none → σ.sto k' = some sb' → vblk (τ' k) = some b → vblk (τ' k') = some b → False := by
      intro k k' sb sb' h1 h2 h3 h4 h5
      rw [hτ k' (hNn k' sb' h3)] at h5
      rcases hδ k sb h1 b h4 with h6 | ⟨k0, sb0, h7, h8, h9⟩
      · have := vblk_lt (h.sto k' sb' h3) h5; omega
      · have := h.inj k' k0 sb' sb0 b h3 h8 h5 h9
        subst this
        exact h7 h2
    rcases upd_sto hk with hk | ⟨hn, hk⟩ <;> rcases upd_sto hk' with hk' | ⟨hn', hk'⟩
    · exact hinj k k' sb sb' b hk hk' hv hv'
    · exact (mixed k k' sb sb' hk hn' hk' hv hv').elim
    · exact (mixed k' k sb' sb hk' hn hk hv' hv).elim
    · rw [hτ k (hNn k sb hk)] at hv
      rw [hτ k' (hNn k' sb' hk')] at hv'
      exact h.inj k k' sb sb' b hk hk' hv hv'
  · rcases upd_sto hk with hk | ⟨hn, hk⟩
    · rcases hδ k sb hk b hv with h3 | ⟨k0, sb0, _, h4, h5⟩
      · exact .inr (Nat.le_trans h.gr.size h3)
      · exact h.own k0 sb0 b h4 h5
    · rw [hτ k (hNn k sb hk)] at hv; exact h.own k sb b hk hv
  · rw [hτ k fun hin => (hN k hin).2.2 hk]; exact h.pin k hk

theorem OpOk.mem {i : IV} (hd : Nat.blt d c.n = true) (hg : Taken ops F gd)
    (H : ∀ σ τ a w, AgreeF ((⟨some d, op, ty, pos, af, gd⟩ : Oper).looksAt ops) F σ → AgreeS T S σ → (∀ k ∈ N, σ.fresh k ∧ σ.sto k = none ∧ k ∉ c.pk) → SatT c σ τ a w →
      ∃ v w' τ', (execOp a.eval ⟨some d, op, ty, pos, af, gd⟩).run P w = .ok (.value v) w' ∧ SatT c (σ.upd none none δ) τ' a w' ∧ RepI τ' w' (okOf c τ' (σ.upd none none δ).sto) i v) : OpOk c P ops ⟨some d, op, ty, pos, af, gd⟩ F S T N (some i) δ := by
  intro σ a w hA hB hN hS
  obtain ⟨τ, h⟩ := hS
  rw [if_pos (wanted_of h hA hg)]
  obtain ⟨v, w', τ', h1, h2, h3⟩ := H σ τ a w hA hB hN h
  rw [h1]
  exact ⟨τ', h2.put (by simpa [Nat.blt_eq] using hd) h3⟩
theorem OpOk.does (hg : Taken ops F gd)
    (H : ∀ σ τ a w, AgreeF ((⟨none, op, ty, pos, af, gd⟩ : Oper).looksAt ops) F σ → AgreeS T S σ → SatT c σ τ a w →
      ∃ w' τ', (execOp a.eval ⟨none, op, ty, pos, af, gd⟩).run P w = .ok .skip w' ∧ SatT c (σ.upd none none δ) τ' a w') : OpOk c P ops ⟨none, op, ty, pos, af, gd⟩ F S T N none δ := by
  intro σ a w hA hB hN hS
  obtain ⟨τ, h⟩ := hS
  rw [if_pos (wanted_of h hA hg)]
  obtain ⟨w', τ', h1, h2⟩ := H σ τ a w hA hB h
  rw [h1]
  exact ⟨τ', h2⟩

def upτ (τ : Nat → Value) (k : Nat) (v : Value) : Nat → Value := fun j => if j = k then v else τ j
theorem upτ_eq {k : Nat} {v : Value} : upτ τ k v k = v := if_pos rfl
theorem upτ_ne {k j : Nat} {v : Value} (h : j ≠ k) : upτ τ k v j = τ j := if_neg h

/-- A new block. -/
theorem SatT.new {k : Nat} {sb : SB} {v : Value} (h : SatT c σ τ a w) (hN : ∀ j ∈ [k], σ.fresh j ∧ σ.sto j = none ∧ j ∉ c.pk) (he : Ext w w') (hv : ∀ b, vblk v = some b → w.heap.size ≤ b)
    (hrep : (∀ b, okOf c τ σ.sto b → b < w.heap.size → okOf c (upτ τ k v) (σ.upd none none [(k, some sb)]).sto b ∧ w'.heap[b]? = w.heap[b]?) → RepB (upτ τ k v) w' (okOf c (upτ τ k v) (σ.upd none none [(k, some sb)]).sto) k sb) :
    SatT c (σ.upd none none [(k, some sb)]) (upτ τ k v) a w' ∧ (∀ b, okOf c τ σ.sto b → b < w.heap.size → okOf c (upτ τ k v) (σ.upd none none [(k, some sb)]).sto b ∧ w'.heap[b]? = w.heap[b]?) := by
  have hk : ∀ j x, look j [(k, some sb)] = some x → j = k ∧ x = some sb := fun j x hj => by
    by_cases e : k = j
    · subst e; rw [look_eq] at hj; exact ⟨rfl, (Option.some.inj hj).symm⟩
    · rw [look_ne e] at hj; simp [look] at hj
  refine h.chg (B := fun _ => False) hN (Gr.of_ext he) (fun b hb => hb.elim) (fun j hj => upτ_ne (by simpa using hj)) (fun j sb' hj b hb => ?_) (fun j j' s s' b hj hj' _ _ => ?_) (fun hok j sb' hj => ?_)
  · obtain ⟨rfl, _⟩ := hk j _ hj
    rw [upτ_eq] at hb
    exact .inl (hv b hb)
  · rw [(hk j _ hj).1, (hk j' _ hj').1]
  · obtain ⟨rfl, h2⟩ := hk j _ hj
    cases h2
    exact hrep hok
theorem AllI.sc {ok : Nat → Prop} (vs : List Value) : AllI τ w ok (vs.map fun v => .u (.sc v)) vs :=
  ⟨by simp, fun i u v h1 h2 => by rw [List.getElem?_map, h2] at h1; cases h1; exact .u (.sc v)⟩

theorem tagsL_u {α : Type} (f : α → UV) : ∀ l : List α, IV.tagsL (l.map fun x => IV.u (f x)) = []
  | [] => rfl
  | x :: l => by rw [List.map_cons, IV.tagsL, tagsL_u f l]; rfl
theorem tags_cells {k : Nat} {i : IV} (h : k ∈ IV.tagsL i.cells) : k ∈ i.tags := by
  cases i with
  | u x =>
    cases x with
    | sc v => simp only [IV.cells] at h; rw [tagsL_u (fun v => UV.sc v)] at h; cases h
    | agg us =>
      have := tagsL_u (fun x : UV => x) us
      simp only [IV.cells] at h
      rw [show (us.map IV.u) = us.map (fun x => IV.u x) from rfl, this] at h; cases h
    | _ => simp [IV.cells, IV.tagsL, IV.tags] at h
  | agg is => exact h
  | junk => simp [IV.cells, IV.tagsL] at h
  | _ => simpa [IV.cells, IV.tagsL] using h
theorem opd_fresh {o : Oper} {x : Operand} {i : IV} {k : Nat} (hA : AgreeF (o.looksAt ops) F σ) (hm : x ∈ o.op.operands) (hx : ev F x = some i) (hf : σ.fresh k) : k ∉ i.tags := by
  cases x with
  | tmp s => exact hf.1 s i (hA s (mem_looksAt hm rfl) i hx)
  | const v => simp only [ev, Option.some.injEq] at hx; subst hx; simp [IV.tags]
  | global v => simp only [ev, Option.some.injEq] at hx; subst hx; simp [IV.tags]
  | func v => simp only [ev, Option.some.injEq] at hx; subst hx; simp [IV.tags]
theorem O.alloc {t : TypeId} {z : Value} {is : List IV} (k : Nat) (hz : (P.info? t).bind (·.zero) = some z) (hi : (z.cells.toList.map fun v => IV.u (.sc v)) = is) (h1 : is.all IV.one = true) (hd : Nat.blt d c.n = true) (hg : Taken ops F gd) :
    OpOk c P ops ⟨some d, .alloc t, ty, pos, af, gd⟩ F S [k] [k] (some (.ref k 0)) [(k, some (.cells t is))] := by
  subst hi
  refine OpOk.mem hd hg fun σ τ a w hA _ hN h => ?_
  obtain ⟨v, w', q1, g, rfl, rfl, q4, q5, q6⟩ := G.M.alloc (P := P) (w := w) (F := actF a) (ty := ty) hz ⟨some d, .alloc t, ty, pos, af, gd⟩ a.eval rfl rfl (fun _ _ _ hx => actF_of hx)
  have := h.new (k := k) (sb := .cells t (z.cells.toList.map fun v => IV.u (.sc v))) (v := .pointer (some ⟨w.heap.size, 0, none⟩)) hN q5 (fun b hb => by cases hb; exact Nat.le_refl _)
    (fun _ => ⟨_, _, upτ_eq, q6, AllI.sc _, fun i hi => List.all_eq_true.1 h1 i hi⟩)
  exact ⟨_, w', _, q1, this.1, .ref upτ_eq⟩
theorem O.box {t : TypeId} {x : Operand} {i : IV} {is : List IV} (k : Nat) (hx : ev F x = some i) (hj : i.cells = is) (hn : is ≠ []) (h1 : is.all IV.one = true) (hd : Nat.blt d c.n = true) (hg : Taken ops F gd) :
    OpOk c P ops ⟨some d, .box t x, ty, pos, af, gd⟩ F S [k] [k] (some (.ref k 0)) [(k, some (.cells t is))] := by
  refine OpOk.mem hd hg fun σ τ a w hA _ hN h => ?_
  obtain ⟨p1, p2⟩ := h.opd hA (by simp [Op.operands]) hx
  have hc := p1.cells (fun e => by subst e; exact hn hj.symm)
  rw [hj] at hc
  obtain ⟨v, w', q1, g, rfl, rfl, q4, q5, q6⟩ := G.M.box (P := P) (w := w) (F := actF a) (ty := ty) (t := t) (x := x) (cs := (a.eval x).cells.toList) p2 (by simp) ⟨some d, .box t x, ty, pos, af, gd⟩ a.eval rfl rfl (fun _ _ _ hx => actF_of hx)
  have := h.new (k := k) (sb := .cells t is) (v := .pointer (some ⟨w.heap.size, 0, none⟩)) hN q5 (fun b hb => by cases hb; exact Nat.le_refl _)
    (fun hok => ⟨_, _, upτ_eq, q6, hc.mono q5.size hok (fun j hj2 => upτ_ne fun e => ?_), fun i hi => List.all_eq_true.1 h1 i hi⟩)
  · exact ⟨_, w', _, q1, this.1, .ref upτ_eq⟩
  · subst e
    subst hj
    exact opd_fresh (o := ⟨some d, .box t x, ty, pos, af, gd⟩) hA (by simp [Op.operands]) hx (hN j (by simp)).1 (tags_cells hj2)
end
end Go.H
