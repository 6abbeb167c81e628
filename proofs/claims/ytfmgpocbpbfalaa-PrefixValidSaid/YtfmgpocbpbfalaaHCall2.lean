/-
  The call as an operation; slices that are frozen.
-/
import Derived.Test.YtfmgpocbpbfalaaHCall
namespace Go.H
open Go Go.RowKit
open Go.G (Ext Gr Blk)

section
variable {τ τ' : Nat → Value} {w w' : World} {ok ok' : Nat → Prop}
/-- A slice of the call's own, as one that is only read. -/
theorem own_sl {k t sz : Nat} {rows : List (List UV)} (h : RepB τ w ok k (.data t sz rows)) (h1 : ∀ b, vblk (τ k) = some b → ok' b) (h2 : ∀ b, ok b → ok' b) : RepU w ok' (.sl sz rows) (τ k) := by
  obtain ⟨vs, ⟨f0, f1⟩, f2, f3, f4, f5⟩ := h
  rcases f1 with ⟨f1, fn⟩ | ⟨g, cap, cur, f1, _, f6, f7, f8, f9, f10⟩
  · rw [f1]
    have : rows = [] := List.eq_nil_of_length_eq_zero fn
    subst this
    exact .sl0 (by simp [maxLen]) (fun _ => rfl)
  · rw [f1]
    by_cases hne : rows = []
    · subst hne; exact .sl0 f8 (fun e => by cases e)
    · have hfl : rows.flatten.length = rows.length * sz := flat_len f3
      have hsz := Nat.mul_le_mul_right sz f7
      have hcell : ∀ (j : Nat) (u : UV), rows.flatten[j]? = some u → j < vs.length := fun j u hj => by
        rw [← f2.1]; exact (List.getElem?_eq_some_iff.1 hj).1
      refine .sl (cv := fun j => vs.getD j undef) hne f7 f8 f3 f4 f5 (Array.getElem?_eq_some_iff.1 f6).1 (h1 g (by rw [f1]; rfl)) (fun j u hj => ?_) (fun j u hj => ?_)
      · have hlt := hcell j u hj
        rw [Addr.add_lit, Nat.zero_add, cell_of_row w g j cur t (0, 0) f6]
        have e : vs[j]? = cur[j]? := by
          rw [← f10, List.getElem?_take, if_pos (by omega), Array.getElem?_toList]
        rw [← e, List.getD_eq_getElem?_getD, List.getElem?_eq_getElem hlt]; rfl
      · have hlt := hcell j u hj
        have := f2.2 j u (vs.getD j undef) hj (by rw [List.getD_eq_getElem?_getD, List.getElem?_eq_getElem hlt]; rfl)
        exact this.mono (Nat.le_refl _) (fun b hb _ => ⟨h2 b hb, rfl⟩)
/-- A block of the call's own, as one that is only read. -/
theorem cells_ptr {k t : Nat} {is : List IV} {us : List UV} {off : Nat} {g : Nat} (h : RepB τ w ok k (.cells t is)) (hk : τ k = .pointer (some ⟨g, 0, none⟩)) (hu : is.drop off = us.map .u) (h1 : ∀ b, vblk (τ k) = some b → ok' b) (h2 : ∀ b, ok b → ok' b) : RepU w ok' (.ptr us) (.pointer (some ⟨g, off, none⟩)) := by
  obtain ⟨g', vs, e1, e2, e3, e4⟩ := h
  have : g' = g := by rw [hk] at e1; simp at e1; exact e1.symm
  subst this
  have hd := e3.drop off
  rw [hu] at hd
  refine .ptr (cv := fun j => (vs.drop off).getD j undef) (fun u hu' => ?_) e2.lt (h1 g' (by rw [hk]; rfl)) (fun j u hj => ?_) (fun j u hj => ?_)
  · have : IV.u u ∈ is.drop off := by rw [hu]; exact List.mem_map_of_mem hu'
    exact e4 _ (List.mem_of_mem_drop this)
  · have hlt : j < (vs.drop off).length := by rw [← hd.1]; simpa using (List.getElem?_eq_some_iff.1 hj).1
    have hat := e2.at.drop off j ((vs.drop off).getD j undef) (by rw [List.getD_eq_getElem?_getD, List.getElem?_eq_getElem hlt]; rfl)
    rw [Addr.add_lit, Nat.zero_add] at hat
    exact hat
  · have hlt : j < (vs.drop off).length := by rw [← hd.1]; simpa using (List.getElem?_eq_some_iff.1 hj).1
    have := hd.2 j (.u u) ((vs.drop off).getD j undef) (by simp [hj]) (by rw [List.getD_eq_getElem?_getD, List.getElem?_eq_getElem hlt]; rfl)
    cases this with
    | u h => exact h.mono (Nat.le_refl _) (fun b hb _ => ⟨h2 b hb, rfl⟩)
end

def okB (c : Ctx) (τ : Nat → Value) (σ : Sig) (bor : List Nat) (b : Nat) : Prop := okOf c τ σ.sto b ∨ ∃ k ∈ bor, vblk (τ k) = some b ∧ σ.sto k ≠ none
/-- An argument, as the callee's contract wants it. -/
def ArgOk (ρ : Nat → Nat) (S : Sto) (bor : List Nat) (i j : IV) : Prop :=
  ∀ (c : Ctx) (σ : Sig) (τ : Nat → Value) (a : Act) (w : World) (v : Value), AgreeS bor S σ → SatT c σ τ a w → RepI τ w (okOf c τ σ.sto) i v → RepI (fun k => τ (ρ k)) w (okB c τ σ bor) j v
def ArgsOk (ρ : Nat → Nat) (S : Sto) (bor : List Nat) : List IV → List IV → Prop
  | [], [] => True
  | i :: is, j :: js => ArgOk ρ S bor i j ∧ ArgsOk ρ S bor is js
  | _, _ => False
theorem ArgsOk.rep {ρ : Nat → Nat} {S : Sto} {bor : List Nat} {c : Ctx} {σ : Sig} {τ : Nat → Value} {a : Act} {w : World} (hB : AgreeS bor S σ) (hS : SatT c σ τ a w) : ∀ {is js : List IV} {vs : List Value}, ArgsOk ρ S bor is js → AllI τ w (okOf c τ σ.sto) is vs → AllI (fun k => τ (ρ k)) w (okB c τ σ bor) js vs
  | [], [], vs, _, h => ⟨h.1, fun i u v h1 => by simp at h1⟩
  | i :: is, j :: js, [], _, h => by have := h.1; simp at this
  | i :: is, j :: js, v :: vs, hA, h => by
    have h0 := h.2 0 i v rfl rfl
    have ih := ArgsOk.rep hB hS hA.2 (vs := vs) ⟨by simpa using h.1, fun q u x h1 h2 => h.2 (q + 1) u x (by simpa using h1) (by simpa using h2)⟩
    exact (AllI.single (hA.1 c σ τ a w v hB hS h0)).app ih
  | [], _ :: _, _, h, _ => h.elim
  | _ :: _, [], _, h, _ => h.elim
section
variable {ρ : Nat → Nat} {S : Sto} {bor : List Nat} {i j : IV}
theorem ArgOk.same (h : j.ren ρ = i) : ArgOk ρ S bor i j := fun c σ τ a w v _ hS hr => by
  subst h
  exact hr.ren.mono (Nat.le_refl _) (fun b hb _ => ⟨.inl hb, rfl⟩) (fun _ _ => rfl)
theorem ArgOk.own {k t sz : Nat} {rows : List (List UV)} (hk : hasTag k bor = true) (hS : lookS k S = some (.data t sz rows)) : ArgOk ρ S bor (.own k) (.u (.sl sz rows)) := fun c σ τ a w v hB hS' hr => by
  have h0 := (hB k (hasTag_iff.1 hk)).trans hS
  cases hr
  exact .u (own_sl (hS'.sto k _ h0) (fun b hb => .inr ⟨k, hasTag_iff.1 hk, hb, by rw [h0]; simp⟩) (fun b hb => .inl hb))
theorem ArgOk.osl {k t sz lo hi : Nat} {rows : List (List UV)} (hk : hasTag k bor = true) (hS : lookS k S = some (.data t sz rows)) : ArgOk ρ S bor (.osl k sz lo hi) (.u (.sl sz ((rows.take hi).drop lo))) := fun c σ τ a w v hB hS' hr => by
  have h0 := (hB k (hasTag_iff.1 hk)).trans hS
  cases hr with
  | @osl _ _ _ _ n cc A he h1 h2 =>
    have := own_sl (ok' := okB c τ σ bor) (hS'.sto k _ h0) (fun b hb => .inr ⟨k, hasTag_iff.1 hk, hb, by rw [h0]; simp⟩) (fun b hb => .inl hb)
    obtain ⟨A', cc', e1, _⟩ := sl_form this
    rw [he] at e1 this
    cases e1
    exact .u (slice_rep this h1 h2)
theorem ArgOk.ref {k t off : Nat} {is : List IV} {us : List UV} (hk : hasTag k bor = true) (hS : lookS k S = some (.cells t is)) (hu : is.drop off = us.map .u) : ArgOk ρ S bor (.ref k off) (.u (.ptr us)) := fun c σ τ a w v hB hS' hr => by
  have h0 := (hB k (hasTag_iff.1 hk)).trans hS
  cases hr with
  | ref hg => exact .u (cells_ptr (hS'.sto k _ h0) hg hu (fun b hb => .inr ⟨k, hasTag_iff.1 hk, hb, by rw [h0]; simp⟩) (fun b hb => .inl hb))
theorem ArgOk.nil {sz : Nat} : ArgOk ρ S bor (.u (.sc (.slice none 0 0))) (.u (.sl sz [])) := fun c σ τ a w v _ hS hr => by
  cases hr with
  | u h => cases h; exact .u (.sl0 (by simp [maxLen]) (fun _ => rfl))
theorem ArgOk.agg {is js : List IV} (h : ArgsOk ρ S bor is js) : ArgOk ρ S bor (.agg is) (.agg js) := fun c σ τ a w v hB hS hr => by
  cases hr with
  | agg hl hg => have := h.rep hB hS ⟨hl, hg⟩; exact .agg this.1 this.2
theorem allU_of {τ : Nat → Value} {w : World} {ok : Nat → Prop} {us : List UV} {vs : List Value} (h : AllI τ w ok (us.map .u) vs) : AllU w ok us vs :=
  ⟨by simpa using h.1, fun i u v h1 h2 => by
    have := h.2 i (.u u) v (by simp [h1]) h2
    cases this; assumption⟩
theorem ArgOk.aggU {is : List IV} {us : List UV} (h : ArgsOk ρ S bor is (us.map .u)) : ArgOk ρ S bor (.agg is) (.u (.agg us)) := fun c σ τ a w v hB hS hr => by
  cases hr with
  | agg hl hg => have := allU_of (h.rep hB hS ⟨hl, hg⟩); exact .u (.agg this.1 this.2)
theorem ArgOk.scagg {vs : List Value} {us : List UV} (h : (vs.map .sc) = us) : ArgOk ρ S bor (.u (.sc (.agg vs.toArray))) (.u (.agg us)) := fun c σ τ a w v hB hS hr => by
  subst h
  cases hr with
  | u h =>
    cases h
    exact .u (.agg (by simp) fun i u v h1 h2 => by rw [List.getElem?_map, h2] at h1; cases h1; exact .sc v)
theorem ArgOk.clo {fn : Fn} {f c f' c' : List IV} (h : ArgsOk ρ S bor f f') (h' : ArgsOk ρ S bor c c') : ArgOk ρ S bor (.clo fn f c) (.clo fn f' c') := fun cc σ τ a w v hB hS hr => by
  cases hr with
  | clo hl hg hl' hg' =>
    have h1 := h.rep hB hS ⟨hl, hg⟩
    have h2 := h'.rep hB hS ⟨hl', hg'⟩
    exact .clo h1.1 h1.2 h2.1 h2.2
theorem ArgOk.cloU {fn : Fn} {f c : List IV} {f' c' : List UV} (h : ArgsOk ρ S bor f (f'.map .u)) (h' : ArgsOk ρ S bor c (c'.map .u)) : ArgOk ρ S bor (.clo fn f c) (.u (.clo fn f' c')) := fun cc σ τ a w v hB hS hr => by
  cases hr with
  | clo hl hg hl' hg' =>
    have h1 := allU_of (h.rep hB hS ⟨hl, hg⟩)
    have h2 := allU_of (h'.rep hB hS ⟨hl', hg'⟩)
    exact .u (.clo h1.1 h1.2 h2.1 h2.2)
end

mutual
theorem IV.flat_ren {ρ : Nat → Nat} : ∀ i : IV, i.flat = true → (i.ren ρ).flat = true
  | .u _, h => h
  | .own _, _ => rfl
  | .ref _ _, _ => rfl
  | .el _ _ _ _, _ => rfl
  | .osl _ _ _ _, _ => rfl
  | .agg l, h => IV.flatL_ren l h
  | .tup l, h => IV.flatL_ren l h
  | .clo _ f c, h => by
    rw [IV.flat, Bool.and_eq_true] at h
    rw [IV.ren, IV.flat, IV.flatL_ren f h.1, IV.flatL_ren c h.2]; rfl
  | .junk, _ => rfl
theorem IV.flatL_ren {ρ : Nat → Nat} : ∀ l : List IV, IV.flatL l = true → IV.flatL (IV.renL ρ l) = true
  | [], _ => rfl
  | i :: r, h => by
    rw [IV.flatL, Bool.and_eq_true] at h
    rw [IV.renL, IV.flatL, IV.flat_ren i h.1, IV.flatL_ren r h.2]; rfl
end
def callNew (Sc Sc' : Sto) : List Nat := (keysS Sc').filter fun k => !hasTag k (keysS Sc)
def callChg (ρ : Nat → Nat) (Sc Sc' : Sto) : Chg := (Sc'.map fun x => (ρ x.1, some (x.2.ren ρ))) ++ (((keysS Sc).filter fun k => !hasTag k (keysS Sc')).map fun k => (ρ k, none))
def liveB : Sto → Bool
  | [] => true
  | (_, .dead) :: _ => false
  | _ :: r => liveB r
def tagsS : Sto → List Nat
  | [] => []
  | x :: r => x.2.tags ++ tagsS r
theorem liveB_look {S : Sto} {k : Nat} {b : SB} (h : liveB S = true) (hl : look k S = some b) : lookS k S = some b := by
  have : ∀ {S : Sto}, liveB S = true → ∀ x ∈ S, x.2 ≠ .dead := by
    intro S
    induction S with
    | nil => intro _ x hx; cases hx
    | cons y r ih =>
      intro h x hx
      obtain ⟨k, b⟩ := y
      cases b with
      | dead => simp [liveB] at h
      | cells t is =>
        rcases List.mem_cons.1 hx with rfl | hx
        · simp
        · exact ih (by simpa [liveB] using h) x hx
      | data t sz rows =>
        rcases List.mem_cons.1 hx with rfl | hx
        · simp
        · exact ih (by simpa [liveB] using h) x hx
      | mp ps =>
        rcases List.mem_cons.1 hx with rfl | hx
        · simp
        · exact ih (by simpa [liveB] using h) x hx
  have hd := this h _ (look_mem hl)
  unfold lookS
  rw [hl]
  cases b with
  | dead => exact absurd rfl hd
  | _ => rfl
theorem tagsS_mem {k q : Nat} {b : SB} : ∀ {S : Sto}, look q S = some b → k ∈ b.tags → k ∈ tagsS S
  | (s, x) :: r, h, hk => by
    rw [tagsS, List.mem_append]
    by_cases e : s = q
    · subst e; rw [look_eq] at h; cases h; exact .inl hk
    · rw [look_ne e] at h; exact .inr (tagsS_mem h hk)
theorem look_app {α : Type} {j : Nat} : ∀ {l m : List (Nat × α)}, look j (l ++ m) = match look j l with | some x => some x | none => look j m
  | [], m => rfl
  | (s, x) :: l, m => by
    by_cases e : s = j
    · subst e; rw [List.cons_append, look_eq, look_eq]
    · rw [List.cons_append, look_ne e, look_ne e]; exact look_app
theorem look_none_of {α : Type} {j : Nat} : ∀ {l : List (Nat × α)}, look j l = none → ∀ x ∈ l, x.1 ≠ j
  | (s, x) :: l, h, y, hy => by
    by_cases e : s = j
    · subst e; rw [look_eq] at h; cases h
    · rw [look_ne e] at h
      rcases List.mem_cons.1 hy with rfl | hy
      · exact e
      · exact look_none_of h y hy
theorem look_mapS {ρ : Nat → Nat} {j : Nat} {x : Option SB} : ∀ {S : Sto}, look j (S.map fun x => (ρ x.1, some (x.2.ren ρ))) = some x → ∃ k b, look k S = some b ∧ ρ k = j ∧ x = some (b.ren ρ)
  | (s, b) :: r, h => by
    rw [List.map_cons] at h
    by_cases e : ρ s = j
    · subst e; rw [look_eq] at h; exact ⟨s, b, look_eq, rfl, (Option.some.inj h).symm⟩
    · rw [look_ne e] at h
      obtain ⟨k, b', h1, h2, h3⟩ := look_mapS h
      exact ⟨k, b', by rw [look_ne (fun e' => e (by rw [e', h2]))]; exact h1, h2, h3⟩
theorem look_chg {ρ : Nat → Nat} {Sc Sc' : Sto} {j : Nat} {sb : SB} (h : look j (callChg ρ Sc Sc') = some (some sb)) : ∃ k b, look k Sc' = some b ∧ ρ k = j ∧ sb = b.ren ρ := by
  rw [callChg, look_app] at h
  cases hx : look j (Sc'.map fun x => (ρ x.1, some (x.2.ren ρ))) with
  | some x =>
    rw [hx] at h
    obtain ⟨k, b, h1, h2, h3⟩ := look_mapS hx
    cases h
    cases h3
    exact ⟨k, b, h1, h2, rfl⟩
  | none =>
    rw [hx] at h
    have := look_mem h
    obtain ⟨k, _, hk⟩ := List.mem_map.1 this
    simp at hk
theorem chg_some {ρ : Nat → Nat} {Sc Sc' : Sto} {k : Nat} (h : k ∈ keysS Sc ∨ k ∈ keysS Sc') : look (ρ k) (callChg ρ Sc Sc') ≠ none := fun hn => by
  have h1 := look_none_of hn
  by_cases hk : k ∈ keysS Sc'
  · obtain ⟨x, hx, rfl⟩ := List.mem_map.1 hk
    exact h1 (ρ x.1, some (x.2.ren ρ)) (List.mem_append_left _ (List.mem_map.2 ⟨x, hx, rfl⟩)) rfl
  · have h2 := h.resolve_right hk
    refine h1 (ρ k, none) (List.mem_append_right _ (List.mem_map.2 ⟨k, List.mem_filter.2 ⟨h2, ?_⟩, rfl⟩)) rfl
    cases hh : hasTag k (keysS Sc') with
    | false => rfl
    | true => exact absurd (hasTag_iff.1 hh) hk
theorem distinct_map {ρ : Nat → Nat} : ∀ {l : List Nat}, distinct (l.map ρ) = true → ∀ {k k'}, k ∈ l → k' ∈ l → ρ k = ρ k' → k = k'
  | s :: r, h, k, k', h1, h2, e => by
    simp only [List.map_cons, distinct, Bool.and_eq_true, Bool.not_eq_true', List.any_eq_false] at h
    have key : ∀ {q}, q ∈ r → ρ s ≠ ρ q := fun hq e => by
      have h3 := h.1 _ (List.mem_map.2 ⟨_, hq, rfl⟩)
      simp [e] at h3
    rcases List.mem_cons.1 h1 with q1 | q1 <;> rcases List.mem_cons.1 h2 with q2 | q2
    · rw [q1, q2]
    · rw [q1] at e; exact absurd e (key q2)
    · rw [q2] at e; exact absurd e.symm (key q1)
    · exact distinct_map h.2 q1 q2 e

section
variable {c : Ctx} {P : Program} {F : Frm} {S : Sto} {ops : Array Oper} {T T2 N : List Nat} {d : Nat} {op : Op} {ty : TypeId} {pos : String} {af : Array Edge} {gd : Option (Nat × Bool)}
  {σ : Sig} {τ τ' : Nat → Value} {a : Act} {w w' : World} {δ : Chg}
theorem evs_all {o : Oper} (h : SatT c σ τ a w) (hA : AgreeF (o.looksAt ops) F σ) : ∀ {args : List Operand} {is : List IV}, (∀ x ∈ args, x ∈ o.op.operands) → evs F args = some is →
    AllI τ w (okOf c τ σ.sto) is (args.map a.eval) ∧ G.evs (actF a) args = some (args.map a.eval)
  | [], is, _, he => by simp [evs] at he; subst he; exact ⟨⟨rfl, fun i u v h1 => by simp at h1⟩, rfl⟩
  | x :: r, is, hm, he => by
    simp only [evs] at he
    split at he
    · rename_i i is' h1 h2
      cases he
      obtain ⟨q1, q2⟩ := h.opd hA (hm x (by simp)) h1
      obtain ⟨q3, q4⟩ := evs_all h hA (fun y hy => hm y (by simp [hy])) h2
      exact ⟨(AllI.single q1).app q3, by simp [G.evs, q2, q4]⟩
    · cases he
/-- **A call.** ρ takes the callee's names to the caller's; 'bor' names what is lent to be read. -/
theorem O.call {fo : Operand} {args : List Operand} {at_ : Array TypeId} {fi : IV} {f : FuncId} {la lb is as : List IV} {r r' : IV} {Sc Sc' : Sto} (ρ : Nat → Nat) (bor : List Nat)
    (hf : ev F fo = some fi) (hcal : callee fi = some (f, la, lb)) (ha : evs F args = some is) (hcon : Con P f as Sc r Sc') (harg : ArgsOk ρ S bor (la ++ is ++ lb) as) (hsto : SubS ρ S Sc) (hd1 : distinct ((keysS Sc ++ callNew Sc Sc').map ρ) = true)
    (hbor : disj bor ((keysS Sc).map ρ) = true) (hrt : subl r.tags (keysS Sc ++ callNew Sc Sc') = true) (hst : subl (tagsS Sc') (keysS Sc ++ callNew Sc Sc') = true) (hlive : liveB Sc' = true)
    (hflat : bor = [] ∨ (r.flat = true ∧ ∀ x ∈ Sc', x.2.flatP)) (hok : G.callOk P f = true) (hr' : r.ren ρ = r') (hd : Nat.blt d c.n = true) (hg : Taken ops F gd) :
    OpOk c P ops ⟨some d, .call { callee := .value fo, args := args.toArray, argTypes := at_ }, ty, pos, af, gd⟩ F S ((keysS Sc).map ρ ++ (callNew Sc Sc').map ρ ++ bor) ((callNew Sc Sc').map ρ) (some r') (callChg ρ Sc Sc') := by
  intro σ a w hA hB hN hS
  obtain ⟨τ, h⟩ := hS
  rw [if_pos (wanted_of h hA hg)]
  subst hr'
  obtain ⟨f1, f2⟩ := h.opd hA (by simp [Op.operands, Call.operands]) hf
  obtain ⟨va, vb, f3, f4, f5⟩ := callee_rep f1 hcal
  obtain ⟨g1, g2⟩ := evs_all h hA (args := args) (fun x hx => by simp [Op.operands, Call.operands, hx]) ha
  have hrun := G.run_call (P := P) (w := w) (F := actF a) (o := ⟨some d, .call { callee := .value fo, args := args.toArray, argTypes := at_ }, ty, pos, af, gd⟩) (ρ := a.eval) (all := va ++ args.map a.eval ++ vb) rfl
    (fun _ _ _ hx => actF_of hx) (f2.trans (by rw [f3])) g2 (by simp [G.calls]) hok
  rw [hrun]
  have hscS : ∀ k sb, lookS k Sc = some sb → σ.sto (ρ k) = some (sb.ren ρ) := fun k sb hk => (hB (ρ k) (by simp <;> exact .inl ⟨k, mem_keysS hk, rfl⟩)).trans (hsto.get hk)
  have hborB : AgreeS bor S σ := fun k hk => hB k (by simp [hk])
  have hin : In (fun k => τ (ρ k)) w (okB c τ σ bor) as Sc (va ++ args.map a.eval ++ vb) := by
    refine ⟨harg.rep hborB h ((f4.app g1).app f5), fun k sb hk => ?_, fun k k' sb sb' b h1 h2 h3 h4 => ?_, fun b hb ⟨k, sb, hk, hv⟩ => ?_⟩
    · exact ((h.sto _ _ (hscS k sb hk)).ren).mono (Nat.le_refl _) (fun b hb _ => ⟨.inl hb, rfl⟩) (fun _ _ => rfl) rfl (fun _ _ => rfl)
    · exact distinct_map hd1 (List.mem_append_left _ (mem_keysS h1)) (List.mem_append_left _ (mem_keysS h2)) (h.inj _ _ _ _ b (hscS _ _ h1) (hscS _ _ h2) h3 h4)
    · rcases hb with hb | ⟨q, hq, hv', hq'⟩
      · exact hb.2 _ _ (hscS k sb hk) hv
      · obtain ⟨sq, hsq⟩ := Option.ne_none_iff_exists'.1 hq'
        have := h.inj q (ρ k) sq _ b hsq (hscS k sb hk) hv' hv
        exact disj_spec hbor q hq (by rw [this]; exact List.mem_map.2 ⟨k, mem_keysS hk, rfl⟩)
  refine (hcon (fun k => τ (ρ k)) w _ (okB c τ σ bor) hin).mono fun e w' ⟨v, τc, he, out⟩ => ⟨v, he, ?_⟩
  -- the names behind the call
  obtain ⟨τ', hτ'⟩ : ∃ τ' : Nat → Value, τ' = fun j => match (callNew Sc Sc').find? (fun k => Nat.beq (ρ k) j) with | some k => τc k | none => τ j := ⟨_, rfl⟩
  have hnew : ∀ k ∈ callNew Sc Sc', τ' (ρ k) = τc k := fun k hk => by
    subst hτ'
    cases hfd : (callNew Sc Sc').find? (fun q => Nat.beq (ρ q) (ρ k)) with
    | none =>
      have := List.find?_eq_none.1 hfd k hk
      simp at this
    | some q =>
      have h1 := List.find?_some hfd
      have h2 := List.mem_of_find?_eq_some hfd
      have := distinct_map hd1 (List.mem_append_right _ h2) (List.mem_append_right _ hk) (Nat.eq_of_beq_eq_true h1)
      subst this
      simp only [hfd]
  have hold : ∀ j, j ∉ (callNew Sc Sc').map ρ → τ' j = τ j := fun j hj => by
    subst hτ'
    cases hfd : (callNew Sc Sc').find? (fun q => Nat.beq (ρ q) j) with
    | none => simp only [hfd]
    | some q =>
      have h0 := List.find?_some hfd
      have h1 : ρ q = j := Nat.eq_of_beq_eq_true h0
      exact absurd (List.mem_map.2 ⟨q, List.mem_of_find?_eq_some hfd, h1⟩) hj
  have hkc : ∀ k ∈ keysS Sc, τ' (ρ k) = τc k := fun k hk => by
    rw [out.pin k hk]
    refine hold _ fun hin => ?_
    obtain ⟨q, hq, e⟩ := List.mem_map.1 hin
    have := distinct_map hd1 (List.mem_append_right _ hq) (List.mem_append_left _ hk) e
    subst this
    have := (List.mem_filter.1 hq).2
    rw [hasTag_iff.2 hk] at this; cases this
  have hall : ∀ k ∈ keysS Sc ++ callNew Sc Sc', τ' (ρ k) = τc k := fun k hk => by
    rcases List.mem_append.1 hk with hk | hk
    · exact hkc k hk
    · exact hnew k hk
  have hkey' : ∀ k ∈ keysS Sc', k ∈ keysS Sc ++ callNew Sc Sc' := fun k hk => by
    by_cases hin : k ∈ keysS Sc
    · exact List.mem_append_left _ hin
    · refine List.mem_append_right _ (List.mem_filter.2 ⟨hk, ?_⟩)
      cases hh : hasTag k (keysS Sc) with
      | false => rfl
      | true => exact absurd (hasTag_iff.1 hh) hin
  have hchg := h.chg (N := (callNew Sc Sc').map ρ) (τ' := τ') (δ := callChg ρ Sc Sc') (B := MOf (fun k => τ (ρ k)) Sc) (w' := w') hN out.gr
    (fun b ⟨k, sb, hk, hv⟩ _ => ⟨ρ k, _, chg_some (.inl (mem_keysS hk)), hscS k sb hk, hv⟩) hold
    (fun j sb hj b hb => by
      obtain ⟨k, x, h1, rfl, rfl⟩ := look_chg hj
      have hl := liveB_look hlive h1
      rw [hall k (hkey' k (mem_keysS hl))] at hb
      rcases out.own k x b hl hb with ⟨q, sq, hq, hv⟩ | h2
      · exact .inr ⟨ρ q, _, chg_some (.inl (mem_keysS hq)), hscS q sq hq, hv⟩
      · exact .inl h2)
    (fun j j' s s' b hj hj' hb hb' => by
      obtain ⟨k, x, h1, rfl, rfl⟩ := look_chg hj
      obtain ⟨k', x', h1', rfl, rfl⟩ := look_chg hj'
      have hl := liveB_look hlive h1
      have hl' := liveB_look hlive h1'
      rw [hall k (hkey' k (mem_keysS hl))] at hb
      rw [hall k' (hkey' k' (mem_keysS hl'))] at hb'
      rw [out.inj k k' x x' b hl hl' hb hb'])
  -- what may be read behind the call
  have hokk : bor = [] → ∀ b, okOut (fun k => τ (ρ k)) w (okB c τ σ bor) Sc τc Sc' b → okOf c τ' (σ.upd none none (callChg ρ Sc Sc')).sto b := by
    intro hbn b ⟨h1, h2⟩
    subst hbn
    have h1' : okOf c τ σ.sto b ∨ MOf (fun k => τ (ρ k)) Sc b ∨ w.heap.size ≤ b := by
      rcases h1 with (h1 | ⟨q, hq, _⟩) | h1 | h1
      · exact .inl h1
      · cases hq
      · exact .inr (.inl h1)
      · exact .inr (.inr h1)
    refine ⟨?_, fun j sb hj hv => ?_⟩
    · rcases h1' with h3 | ⟨k, sb, hk, hv⟩ | h3
      · exact h3.1
      · rcases h.own _ _ b (hscS k sb hk) hv with h4 | h4
        · exact .inr (.inl h4)
        · exact .inr (.inr h4)
      · exact .inr (.inr (Nat.le_trans h.gr.size h3))
    · rcases upd_sto hj with hj | ⟨hjn, hj⟩
      · obtain ⟨k, x, q1, rfl, rfl⟩ := look_chg hj
        have hl := liveB_look hlive q1
        rw [hall k (hkey' k (mem_keysS hl))] at hv
        exact h2 k x hl hv
      · have hjN : j ∉ (callNew Sc Sc').map ρ := fun hin => by
          obtain ⟨q, hq, e⟩ := List.mem_map.1 hin
          subst e
          exact chg_some (Sc := Sc) (.inr (List.mem_filter.1 hq).1) hjn
        rw [hold j hjN] at hv
        rcases h1' with h3 | ⟨k, sk, hk, hv'⟩ | h3
        · exact h3.2 j sb hj hv
        · have := h.inj j (ρ k) sb _ b hj (hscS k sk hk) hv hv'
          subst this
          exact chg_some (.inl (mem_keysS hk)) hjn
        · have := vblk_lt (h.sto j sb hj) hv; omega
  have hfin := hchg fun hok' j sb hj => by
    obtain ⟨k, x, q1, rfl, rfl⟩ := look_chg hj
    have hl := liveB_look hlive q1
    have hrep := (out.sto k x hl).to (τ' := τ') (ρ := ρ) (fun q hq => hall q (subl_spec hst q (tagsS_mem q1 hq))) (hall k (hkey' k (mem_keysS hl)))
    rcases hflat with hb | ⟨_, hfl⟩
    · exact hrep.mono (Nat.le_refl _) (fun b hb' _ => ⟨hokk hb b hb', rfl⟩) (fun _ _ => rfl) rfl (fun _ _ => rfl)
    · refine hrep.of_flat ?_
      have := hfl _ (look_mem q1)
      revert this
      cases x with
      | cells t is =>
        intro this
        show IV.flatL (IV.renL ρ is) = true
        exact IV.flatL_ren _ this
      | data t sz rows => exact fun this => this
      | mp ps => exact fun this => this
      | dead => exact fun this => this
  refine ⟨τ', ?_⟩
  have hres := (out.res).to (τ' := τ') (ρ := ρ) (fun q hq => hall q (subl_spec hrt q hq))
  refine hfin.1.put (by simpa [Nat.blt_eq] using hd) ?_
  rcases hflat with hb | ⟨hfl, _⟩
  · exact hres.mono (Nat.le_refl _) (fun b hb' _ => ⟨hokk hb b hb', rfl⟩) (fun _ _ => rfl)
  · refine hres.of_flat ?_
    exact IV.flat_ren _ hfl
/-- A call that only computes: nothing is turned, nothing is made that is turned later. -/
theorem O.callp {fo : Operand} {args : List Operand} {at_ : Array TypeId} {fi : IV} {f : FuncId} {la lb is as : List IV} {r : UV} (hf : ev F fo = some fi) (hcal : callee fi = some (f, la, lb)) (ha : evs F args = some is) (hcon : Con P f as [] (.u r) []) (harg : ArgsOk (fun k => k) S [] (la ++ is ++ lb) as)
    (hok : G.callOk P f = true) (hd : Nat.blt d c.n = true) (hg : Taken ops F gd) :
    OpOk c P ops ⟨some d, .call { callee := .value fo, args := args.toArray, argTypes := at_ }, ty, pos, af, gd⟩ F S [] [] (some (.u r)) [] :=
  O.call (fun k => k) [] hf hcal ha hcon harg (show SubS _ S [] from trivial) rfl rfl rfl rfl rfl (.inl rfl) hok rfl hd hg
end
end Go.H
