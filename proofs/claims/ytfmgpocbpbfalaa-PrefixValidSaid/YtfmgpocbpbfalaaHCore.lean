/-
  Walks over a picture of memory: slots and the call's own memory are written down by name; where a block lies, and which world it is, stays hidden.
-/
import Derived.Test.YtfmgpocbpbfalaaGWrit
namespace Go.H
open Go Go.RowKit
open Go.G (Ext Gr Blk)

/-- A value whose memory nobody turns any more. -/
inductive UV where
  | sc (v : Value)
  | agg (us : List UV)
  | tup (us : List UV)
  | sl (sz : Nat) (rows : List (List UV))
  | ptr (us : List UV)
  | clo (fn : Fn) (first caps : List UV)
instance : Inhabited UV := ⟨.sc default⟩

/-- A value that may lie in memory of the call's own: by name. -/
inductive IV where
  | u (x : UV)
  | own (k : Nat)
  | ref (k off : Nat)
  | el (k sz i off : Nat)
  | osl (k sz lo hi : Nat)
  | agg (is : List IV)
  | tup (is : List IV)
  | clo (fn : Fn) (first caps : List IV)
  | junk
instance : Inhabited IV := ⟨.junk⟩

/-- A block of the call's own. -/
inductive SB where
  | cells (t : TypeId) (is : List IV)
  | data (t : TypeId) (sz : Nat) (rows : List (List UV))
  /-- a map: its keys and values, in the order in which the keys came -/
  | mp (ps : List (Value × Value))
  | dead

mutual
def IV.tags : IV → List Nat
  | .u _ => []
  | .own k => [k]
  | .ref k _ => [k]
  | .el k _ _ _ => [k]
  | .osl k _ _ _ => [k]
  | .agg l => IV.tagsL l
  | .tup l => IV.tagsL l
  | .clo _ f c => IV.tagsL f ++ IV.tagsL c
  | .junk => []
termination_by structural i => i
def IV.tagsL : List IV → List Nat
  | [] => []
  | i :: r => i.tags ++ IV.tagsL r
termination_by structural l => l
end
mutual
def IV.ren (ρ : Nat → Nat) : IV → IV
  | .u x => .u x
  | .own k => .own (ρ k)
  | .ref k o => .ref (ρ k) o
  | .el k s i o => .el (ρ k) s i o
  | .osl k s i o => .osl (ρ k) s i o
  | .agg l => .agg (IV.renL ρ l)
  | .tup l => .tup (IV.renL ρ l)
  | .clo fn f c => .clo fn (IV.renL ρ f) (IV.renL ρ c)
  | .junk => .junk
termination_by structural i => i
def IV.renL (ρ : Nat → Nat) : List IV → List IV
  | [] => []
  | i :: r => i.ren ρ :: IV.renL ρ r
termination_by structural l => l
end
def SB.tags : SB → List Nat
  | .cells _ is => IV.tagsL is
  | .data _ _ _ => []
  | .mp _ => []
  | .dead => []
def SB.ren (ρ : Nat → Nat) : SB → SB
  | .cells t is => .cells t (IV.renL ρ is)
  | .data t s rows => .data t s rows
  | .mp ps => .mp ps
  | .dead => .dead

theorem IV.renL_map (ρ : Nat → Nat) : ∀ l : List IV, IV.renL ρ l = l.map (·.ren ρ)
  | [] => rfl
  | i :: r => by rw [IV.renL, IV.renL_map ρ r]; rfl
theorem IV.tagsL_mem {k : Nat} : ∀ {l : List IV} {i : IV}, i ∈ l → k ∈ i.tags → k ∈ IV.tagsL l
  | j :: r, i, h, hk => by
    rw [IV.tagsL, List.mem_append]
    rcases List.mem_cons.1 h with rfl | h
    · exact .inl hk
    · exact .inr (IV.tagsL_mem h hk)

abbrev Frm := List (Nat × IV)
abbrev Sto := List (Nat × SB)
def look {α : Type} (t : Nat) : List (Nat × α) → Option α
  | [] => none
  | (s, v) :: r => match Nat.beq s t with
    | true => some v
    | false => look t r
theorem look_ne {α : Type} {s t : Nat} {i : α} {F : List (Nat × α)} (h : s ≠ t) : look t ((s, i) :: F) = look t F := by simp [look, G.beq_ne h]
theorem look_eq {α : Type} {t : Nat} {i : α} {F : List (Nat × α)} : look t ((t, i) :: F) = some i := by simp [look]
theorem look_mem {α : Type} {t : Nat} {i : α} : ∀ {F : List (Nat × α)}, look t F = some i → (t, i) ∈ F
  | [], h => by simp [look] at h
  | (s, j) :: r, h => by
    by_cases e : s = t
    · subst e; rw [look_eq] at h; cases h; exact List.mem_cons_self
    · rw [look_ne e] at h; exact List.mem_cons_of_mem _ (look_mem h)

def lookS (k : Nat) (S : Sto) : Option SB :=
  match look k S with
  | some (.cells t is) => some (.cells t is)
  | some (.data t sz rows) => some (.data t sz rows)
  | some (.mp ps) => some (.mp ps)
  | _ => none
theorem lookS_look {k : Nat} {S : Sto} {b : SB} (h : lookS k S = some b) : look k S = some b := by
  unfold lookS at h
  split at h
  · rename_i q; cases h; exact q
  · rename_i q; cases h; exact q
  · rename_i q; cases h; exact q
  · cases h
theorem lookS_ne {s t : Nat} {i : SB} {F : Sto} (h : s ≠ t) : lookS t ((s, i) :: F) = lookS t F := by unfold lookS; rw [look_ne h]
theorem lookS_cells {t ty : Nat} {is : List IV} {F : Sto} : lookS t ((t, .cells ty is) :: F) = some (.cells ty is) := by simp [lookS, look]
theorem lookS_data {t ty sz : Nat} {rows : List (List UV)} {F : Sto} : lookS t ((t, .data ty sz rows) :: F) = some (.data ty sz rows) := by simp [lookS, look]
theorem lookS_mp {t : Nat} {ps : List (Value × Value)} {F : Sto} : lookS t ((t, .mp ps) :: F) = some (.mp ps) := by simp [lookS, look]
theorem lookS_dead {t : Nat} {F : Sto} : lookS t ((t, .dead) :: F) = none := by simp [lookS, look]

/-! ### What it says of a world -/
def UV.one : UV → Bool
  | .sc v => v.oneCell'
  | .agg _ => false
  | .tup _ => false
  | _ => true
def IV.one : IV → Bool
  | .u x => x.one
  | .agg _ => false
  | .tup _ => false
  | .junk => false
  | _ => true
def vblk : Value → Option Nat
  | .pointer (some a) => some a.block
  | .slice (some a) _ _ => some a.block
  | .map r => r
  | _ => none

inductive RepU (w : World) (ok : Nat → Prop) : UV → Value → Prop
  | sc (v : Value) : RepU w ok (.sc v) v
  | agg {us : List UV} {vs : List Value} (hl : us.length = vs.length) (hg : ∀ (i : Nat) (u : UV) (v : Value), us[i]? = some u → vs[i]? = some v → RepU w ok u v) : RepU w ok (.agg us) (.agg vs.toArray)
  | tup {us : List UV} {vs : List Value} (hl : us.length = vs.length) (hg : ∀ (i : Nat) (u : UV) (v : Value), us[i]? = some u → vs[i]? = some v → RepU w ok u v) : RepU w ok (.tup us) (.tuple vs.toArray)
  | sl0 {sz : Nat} {A : Option Addr} {c : Nat} (hc : c ≤ maxLen) (hn : A = none → c = 0) : RepU w ok (.sl sz []) (.slice A 0 c)
  | sl {sz : Nat} {rows : List (List UV)} {a : Addr} {c : Nat} {cv : Nat → Value} (hne : rows ≠ []) (h1 : rows.length ≤ c) (h2 : c ≤ maxLen) (h3 : ∀ r ∈ rows, r.length = sz) (h4 : 0 < sz) (h5 : ∀ u ∈ rows.flatten, u.one = true)
      (hb : a.block < w.heap.size) (ho : ok a.block) (hc : ∀ (j : Nat) (u : UV), rows.flatten[j]? = some u → w.cell? (a.add j) = some (cv j))
      (hu : ∀ (j : Nat) (u : UV), rows.flatten[j]? = some u → RepU w ok u (cv j)) : RepU w ok (.sl sz rows) (.slice (some a) rows.length c)
  | ptr {us : List UV} {a : Addr} {cv : Nat → Value} (h5 : ∀ u ∈ us, u.one = true) (hb : a.block < w.heap.size) (ho : ok a.block) (hc : ∀ (j : Nat) (u : UV), us[j]? = some u → w.cell? (a.add j) = some (cv j))
      (hu : ∀ (j : Nat) (u : UV), us[j]? = some u → RepU w ok u (cv j)) : RepU w ok (.ptr us) (.pointer (some a))
  | clo {fn : Fn} {f c : List UV} {vf vc : List Value} (hl : f.length = vf.length) (hg : ∀ (i : Nat) (u : UV) (v : Value), f[i]? = some u → vf[i]? = some v → RepU w ok u v)
      (hl' : c.length = vc.length) (hg' : ∀ (i : Nat) (u : UV) (v : Value), c[i]? = some u → vc[i]? = some v → RepU w ok u v) : RepU w ok (.clo fn f c) (.func fn vf.toArray vc.toArray)

def AllU (w : World) (ok : Nat → Prop) (us : List UV) (vs : List Value) : Prop := us.length = vs.length ∧ ∀ (i : Nat) (u : UV) (v : Value), us[i]? = some u → vs[i]? = some v → RepU w ok u v

inductive RepI (τ : Nat → Value) (w : World) (ok : Nat → Prop) : IV → Value → Prop
  | u {x : UV} {v : Value} (h : RepU w ok x v) : RepI τ w ok (.u x) v
  | own (k : Nat) (h : (τ k).oneCell' = true) : RepI τ w ok (.own k) (τ k)
  | ref {k off g : Nat} (h : τ k = .pointer (some ⟨g, 0, none⟩)) : RepI τ w ok (.ref k off) (.pointer (some ⟨g, off, none⟩))
  | el {k sz i off g n c : Nat} (h : τ k = .slice (some ⟨g, 0, none⟩) n c) : RepI τ w ok (.el k sz i off) (.pointer (some ⟨g, i * sz + off, none⟩))
  | osl {k sz lo hi n c : Nat} {A : Option Addr} (h : τ k = .slice A n c) (h1 : lo ≤ hi) (h2 : hi ≤ n) : RepI τ w ok (.osl k sz lo hi) (G.subSl (.slice A n c) sz lo hi)
  | agg {us : List IV} {vs : List Value} (hl : us.length = vs.length) (hg : ∀ (i : Nat) (u : IV) (v : Value), us[i]? = some u → vs[i]? = some v → RepI τ w ok u v) : RepI τ w ok (.agg us) (.agg vs.toArray)
  | tup {us : List IV} {vs : List Value} (hl : us.length = vs.length) (hg : ∀ (i : Nat) (u : IV) (v : Value), us[i]? = some u → vs[i]? = some v → RepI τ w ok u v) : RepI τ w ok (.tup us) (.tuple vs.toArray)
  | clo {fn : Fn} {f c : List IV} {vf vc : List Value} (hl : f.length = vf.length) (hg : ∀ (i : Nat) (u : IV) (v : Value), f[i]? = some u → vf[i]? = some v → RepI τ w ok u v)
      (hl' : c.length = vc.length) (hg' : ∀ (i : Nat) (u : IV) (v : Value), c[i]? = some u → vc[i]? = some v → RepI τ w ok u v) : RepI τ w ok (.clo fn f c) (.func fn vf.toArray vc.toArray)
  | junk (v : Value) : RepI τ w ok .junk v

def AllI (τ : Nat → Value) (w : World) (ok : Nat → Prop) (us : List IV) (vs : List Value) : Prop := us.length = vs.length ∧ ∀ (i : Nat) (u : IV) (v : Value), us[i]? = some u → vs[i]? = some v → RepI τ w ok u v

def RepB (τ : Nat → Value) (w : World) (ok : Nat → Prop) (k : Nat) : SB → Prop
  | .cells t is => ∃ g vs, τ k = .pointer (some ⟨g, 0, none⟩) ∧ Blk w g t vs ∧ AllI τ w ok is vs ∧ ∀ i ∈ is, i.one = true
  | .data t sz rows => ∃ vs, w.ownsRow 0 t sz (τ k) rows.length vs ∧ AllU w ok rows.flatten vs ∧ (∀ r ∈ rows, r.length = sz) ∧ 0 < sz ∧ ∀ u ∈ rows.flatten, u.one = true
  | .mp ps => ∃ g es, τ k = .map (some g) ∧ w.heap[g]? = some (.map es es.size) ∧ es.toList.map (fun e => (e.key, e.val)) = ps ∧ ∀ (i : Nat) (e : MapEntry), es[i]? = some e → e.born = i
  | .dead => False

section
variable {w w' : World} {ok ok' : Nat → Prop} {τ τ' : Nat → Value}
theorem RepU.mono {u : UV} {v : Value} (h : RepU w ok u v) (hs : w.heap.size ≤ w'.heap.size) (hm : ∀ b, ok b → b < w.heap.size → ok' b ∧ w'.heap[b]? = w.heap[b]?) : RepU w' ok' u v := by
  induction h with
  | sc v => exact .sc v
  | agg hl _ ih => exact .agg hl ih
  | tup hl _ ih => exact .tup hl ih
  | sl0 hc hn => exact .sl0 hc hn
  | sl hne h1 h2 h3 h4 h5 hb ho hc _ ih =>
    obtain ⟨q1, q2⟩ := hm _ ho hb
    exact .sl hne h1 h2 h3 h4 h5 (Nat.lt_of_lt_of_le hb hs) q1 (fun j u hj => by rw [World.cell?_of_block (w := w) (by rw [G.block_add]; exact q2)]; exact hc j u hj) ih
  | ptr h5 hb ho hc _ ih =>
    obtain ⟨q1, q2⟩ := hm _ ho hb
    exact .ptr h5 (Nat.lt_of_lt_of_le hb hs) q1 (fun j u hj => by rw [World.cell?_of_block (w := w) (by rw [G.block_add]; exact q2)]; exact hc j u hj) ih
  | clo hl _ hl' _ ih ih' => exact .clo hl ih hl' ih'
theorem RepI.mono {u : IV} {v : Value} (h : RepI τ w ok u v) (hs : w.heap.size ≤ w'.heap.size) (hm : ∀ b, ok b → b < w.heap.size → ok' b ∧ w'.heap[b]? = w.heap[b]?) (ht : ∀ k ∈ u.tags, τ' k = τ k) : RepI τ' w' ok' u v := by
  induction h with
  | u h => exact .u (h.mono hs hm)
  | own k h => rw [← ht k (by simp [IV.tags])] at h ⊢; exact .own k h
  | ref h => exact .ref (by rw [ht _ (by simp [IV.tags]), h])
  | el h => exact .el (by rw [ht _ (by simp [IV.tags]), h])
  | osl h h1 h2 => exact .osl (by rw [ht _ (by simp [IV.tags]), h]) h1 h2
  | agg hl _ ih => exact .agg hl fun i u v h1 h2 => ih i u v h1 h2 fun k hk => ht k (by rw [IV.tags]; exact IV.tagsL_mem (List.mem_of_getElem? h1) hk)
  | tup hl _ ih => exact .tup hl fun i u v h1 h2 => ih i u v h1 h2 fun k hk => ht k (by rw [IV.tags]; exact IV.tagsL_mem (List.mem_of_getElem? h1) hk)
  | clo hl _ hl' _ ih ih' =>
    refine .clo hl (fun i u v h1 h2 => ih i u v h1 h2 fun k hk => ht k ?_) hl' (fun i u v h1 h2 => ih' i u v h1 h2 fun k hk => ht k ?_)
    · rw [IV.tags, List.mem_append]; exact .inl (IV.tagsL_mem (List.mem_of_getElem? h1) hk)
    · rw [IV.tags, List.mem_append]; exact .inr (IV.tagsL_mem (List.mem_of_getElem? h1) hk)
  | junk v => exact .junk v
theorem AllU.mono {us : List UV} {vs : List Value} (h : AllU w ok us vs) (hs : w.heap.size ≤ w'.heap.size) (hm : ∀ b, ok b → b < w.heap.size → ok' b ∧ w'.heap[b]? = w.heap[b]?) : AllU w' ok' us vs :=
  ⟨h.1, fun i u v h1 h2 => (h.2 i u v h1 h2).mono hs hm⟩
theorem AllI.mono {us : List IV} {vs : List Value} (h : AllI τ w ok us vs) (hs : w.heap.size ≤ w'.heap.size) (hm : ∀ b, ok b → b < w.heap.size → ok' b ∧ w'.heap[b]? = w.heap[b]?) (ht : ∀ k ∈ IV.tagsL us, τ' k = τ k) : AllI τ' w' ok' us vs :=
  ⟨h.1, fun i u v h1 h2 => (h.2 i u v h1 h2).mono hs hm fun k hk => ht k (IV.tagsL_mem (List.mem_of_getElem? h1) hk)⟩
theorem vblk_lt {sb : SB} {k b : Nat} (h : RepB τ w ok k sb) (hb : vblk (τ k) = some b) : b < w.heap.size := by
  cases sb with
  | cells t is =>
    obtain ⟨g, vs, h1, h2, _⟩ := h
    rw [h1] at hb; cases hb; exact h2.lt
  | data t sz rows =>
    obtain ⟨vs, h1, _⟩ := h
    have := h1.lt b (by
      obtain ⟨_, h2 | ⟨g, cap, cur, h2, _⟩⟩ := h1
      · rw [h2.1] at hb; cases hb
      · rw [h2] at hb ⊢; cases hb; rfl)
    exact this.2
  | mp ps =>
    obtain ⟨g, es, h1, h2, _⟩ := h
    rw [h1] at hb; cases hb; exact (Array.getElem?_eq_some_iff.1 h2).1
  | dead => exact h.elim
/-- A block that has not turned. -/
theorem RepB.mono {k : Nat} {sb : SB} (h : RepB τ w ok k sb) (hs : w.heap.size ≤ w'.heap.size) (hm : ∀ b, ok b → b < w.heap.size → ok' b ∧ w'.heap[b]? = w.heap[b]?) (ht : ∀ j ∈ sb.tags, τ' j = τ j) (hk : τ' k = τ k)
    (hb : ∀ b, vblk (τ k) = some b → w'.heap[b]? = w.heap[b]?) : RepB τ' w' ok' k sb := by
  cases sb with
  | cells t is =>
    obtain ⟨g, vs, h1, h2, h3, h4⟩ := h
    exact ⟨g, vs, hk.trans h1, (hb g (by rw [h1]; rfl)).trans h2, h3.mono hs hm ht, h4⟩
  | data t sz rows =>
    obtain ⟨vs, ⟨h0, h1⟩, h2, h3⟩ := h
    refine ⟨vs, ⟨h0, ?_⟩, h2.mono hs hm, h3⟩
    rcases h1 with ⟨h1, h4⟩ | ⟨g, cap, cur, h4, h5, h6, h7⟩
    · exact .inl ⟨hk.trans h1, h4⟩
    · exact .inr ⟨g, cap, cur, hk.trans h4, h5, (hb g (by rw [h4]; rfl)).trans h6, h7⟩
  | mp ps =>
    obtain ⟨g, es, h1, h2, h3⟩ := h
    exact ⟨g, es, hk.trans h1, (hb g (by rw [h1]; rfl)).trans h2, h3⟩
  | dead => exact h.elim
end

/-! ### The picture of a moment -/
structure Ctx where
  n : Nat
  w0 : World
  /-- blocks that were handed in to be turned -/
  M : Nat → Prop
  /-- blocks that were handed in to be read -/
  ok0 : Nat → Prop
  /-- names that were handed in -/
  pk : List Nat
  τ0 : Nat → Value
structure Sig where
  slot : Nat → Option IV
  sto : Nat → Option SB
def Ctx.may (c : Ctx) (b : Nat) : Prop := c.ok0 b ∨ c.M b ∨ c.w0.heap.size ≤ b
def okOf (c : Ctx) (τ : Nat → Value) (sto : Nat → Option SB) (b : Nat) : Prop := c.may b ∧ ∀ k sb, sto k = some sb → vblk (τ k) ≠ some b

structure SatT (c : Ctx) (σ : Sig) (τ : Nat → Value) (a : Act) (w : World) : Prop where
  size : a.tmps.size = c.n
  defers : a.defers = []
  gr : Gr c.M c.w0 w
  slot : ∀ t i, σ.slot t = some i → ∃ u, a.tmps[t]? = some u ∧ RepI τ w (okOf c τ σ.sto) i u
  sto : ∀ k sb, σ.sto k = some sb → RepB τ w (okOf c τ σ.sto) k sb
  inj : ∀ k k' sb sb' b, σ.sto k = some sb → σ.sto k' = some sb' → vblk (τ k) = some b → vblk (τ k') = some b → k = k'
  own : ∀ k sb b, σ.sto k = some sb → vblk (τ k) = some b → c.M b ∨ c.w0.heap.size ≤ b
  pin : ∀ k ∈ c.pk, τ k = c.τ0 k
def Sat (c : Ctx) (σ : Sig) (a : Act) (w : World) : Prop := ∃ τ, SatT c σ τ a w

def mk (F : Frm) (S : Sto) : Sig := ⟨fun t => look t F, fun k => lookS k S⟩

/-- The operand's value, by name. -/
def ev (F : Frm) : Operand → Option IV
  | .tmp t => look t F
  | .const v => some (.u (.sc v))
  | .global g => some (.u (.sc (.pointer (some ⟨g, 0, none⟩))))
  | .func f => some (.u (.sc (.func (.func f) #[] #[])))

/-! ### Names anew, or fewer of them -/
def SubF (ρ : Nat → Nat) (F : Frm) : Frm → Prop
  | [] => True
  | (t, i) :: r => look t F = some (i.ren ρ) ∧ SubF ρ F r
def SubS (ρ : Nat → Nat) (S : Sto) : Sto → Prop
  | [] => True
  | (k, b) :: r => lookS (ρ k) S = some (b.ren ρ) ∧ SubS ρ S r
theorem SubF.get {ρ : Nat → Nat} {F : Frm} : ∀ {F' : Frm}, SubF ρ F F' → ∀ {t i}, look t F' = some i → look t F = some (i.ren ρ)
  | (s, j) :: r, h, t, i, hl => by
    by_cases e : s = t
    · subst e; rw [look_eq] at hl; cases hl; exact h.1
    · rw [look_ne e] at hl; exact h.2.get hl
theorem SubS.get' {ρ : Nat → Nat} {S : Sto} : ∀ {S' : Sto}, SubS ρ S S' → ∀ {t i}, look t S' = some i → lookS (ρ t) S = some (i.ren ρ)
  | (s, j) :: r, h, t, i, hl => by
    by_cases e : s = t
    · subst e; rw [look_eq] at hl; cases hl; exact h.1
    · rw [look_ne e] at hl; exact h.2.get' hl
theorem SubS.get {ρ : Nat → Nat} {S S' : Sto} (h : SubS ρ S S') {t : Nat} {i : SB} (hl : lookS t S' = some i) : lookS (ρ t) S = some (i.ren ρ) := h.get' (lookS_look hl)
def distinct : List Nat → Bool
  | [] => true
  | k :: r => !(r.any (Nat.beq k)) && distinct r
theorem distinct_inj {ρ : Nat → Nat} : ∀ {S : Sto}, distinct (S.map fun x => ρ x.1) = true → ∀ {k k' b b'}, look k S = some b → look k' S = some b' → ρ k = ρ k' → k = k'
  | (s, j) :: r, h, k, k', b, b', h1, h2, e => by
    simp only [List.map_cons, distinct, Bool.and_eq_true, Bool.not_eq_true', List.any_eq_false] at h
    have key : ∀ {q c}, look q r = some c → ρ s ≠ ρ q := fun hq e => by
      have h3 := h.1 _ (List.mem_map.2 ⟨_, look_mem hq, rfl⟩)
      simp [e] at h3
    by_cases e1 : s = k
    · by_cases e2 : s = k'
      · exact e1.symm.trans e2
      · subst e1; rw [look_ne e2] at h2; exact absurd e (key h2)
    · rw [look_ne e1] at h1
      by_cases e2 : s = k'
      · subst e2; exact absurd e.symm (key h1)
      · rw [look_ne e2] at h2; exact distinct_inj h.2 h1 h2 e

theorem RepI.ren {ρ : Nat → Nat} {τ : Nat → Value} {w : World} {ok : Nat → Prop} : ∀ {i : IV} {v : Value}, RepI τ w ok (i.ren ρ) v → RepI (fun k => τ (ρ k)) w ok i v := by
  intro i v h
  generalize hj : i.ren ρ = j at h
  induction h generalizing i with
  | u h => cases i <;> simp [IV.ren] at hj; subst hj; exact .u h
  | own k h => cases i <;> simp [IV.ren] at hj; subst hj; exact .own (τ := fun k => τ (ρ k)) _ h
  | ref h => cases i <;> simp [IV.ren] at hj; obtain ⟨rfl, rfl⟩ := hj; exact .ref h
  | el h => cases i <;> simp [IV.ren] at hj; obtain ⟨rfl, rfl, rfl, rfl⟩ := hj; exact .el h
  | osl h h1 h2 => cases i <;> simp [IV.ren] at hj; obtain ⟨rfl, rfl, rfl, rfl⟩ := hj; exact .osl h h1 h2
  | agg hl hg ih =>
    cases i <;> simp [IV.ren] at hj
    rw [IV.renL_map] at hj; subst hj
    exact .agg (by simpa using hl) fun i u v h1 h2 => ih i (u.ren ρ) v (by simp [h1]) h2 rfl
  | tup hl hg ih =>
    cases i <;> simp [IV.ren] at hj
    rw [IV.renL_map] at hj; subst hj
    exact .tup (by simpa using hl) fun i u v h1 h2 => ih i (u.ren ρ) v (by simp [h1]) h2 rfl
  | clo hl hg hl' hg' ih ih' =>
    cases i <;> simp [IV.ren] at hj
    obtain ⟨rfl, rfl, rfl⟩ := hj
    rw [IV.renL_map] at hl hg ih
    rw [IV.renL_map] at hl' hg' ih'
    exact .clo (by simpa using hl) (fun i u v h1 h2 => ih i (u.ren ρ) v (by simp [h1]) h2 rfl) (by simpa using hl') (fun i u v h1 h2 => ih' i (u.ren ρ) v (by simp [h1]) h2 rfl)
  | junk v => cases i <;> simp [IV.ren] at hj; exact .junk v
theorem AllI.ren {ρ : Nat → Nat} {τ : Nat → Value} {w : World} {ok : Nat → Prop} {is : List IV} {vs : List Value} (h : AllI τ w ok (IV.renL ρ is) vs) : AllI (fun k => τ (ρ k)) w ok is vs := by
  rw [IV.renL_map] at h
  exact ⟨by simpa using h.1, fun i u v h1 h2 => (h.2 i (u.ren ρ) v (by simp [h1]) h2).ren⟩
theorem IV.one_ren {ρ : Nat → Nat} (i : IV) : (i.ren ρ).one = i.one := by cases i <;> rfl
theorem RepB.ren {ρ : Nat → Nat} {τ : Nat → Value} {w : World} {ok : Nat → Prop} {k : Nat} : ∀ {sb : SB}, RepB τ w ok (ρ k) (sb.ren ρ) → RepB (fun k => τ (ρ k)) w ok k sb
  | .cells _ is, ⟨g, vs, h1, h2, h3, h4⟩ => ⟨g, vs, h1, h2, h3.ren, fun i hi => by rw [← IV.one_ren (ρ := ρ)]; exact h4 _ (by rw [IV.renL_map]; exact List.mem_map_of_mem hi)⟩
  | .data _ _ _, ⟨vs, h1, h2, h3⟩ => ⟨vs, h1, h2, h3⟩
  | .mp _, h => h

theorem Sat.sub {c : Ctx} {F F' : Frm} {S S' : Sto} {a : Act} {w : World} (ρ : Nat → Nat) (h : Sat c (mk F S) a w) (hF : SubF ρ F F') (hS : SubS ρ S S') (hd : distinct (S'.map fun x => ρ x.1) = true)
    (hp : ∀ k ∈ c.pk, ρ k = k) : Sat c (mk F' S') a w := by
  obtain ⟨τ, h⟩ := h
  have hok : ∀ b, okOf c τ (mk F S).sto b → okOf c (fun k => τ (ρ k)) (mk F' S').sto b := fun b ⟨h1, h2⟩ => ⟨h1, fun k sb hk => h2 _ _ (hS.get hk)⟩
  have hm : ∀ b, okOf c τ (mk F S).sto b → b < w.heap.size → okOf c (fun k => τ (ρ k)) (mk F' S').sto b ∧ w.heap[b]? = w.heap[b]? := fun b hb _ => ⟨hok b hb, rfl⟩
  refine ⟨fun k => τ (ρ k), h.size, h.defers, h.gr, fun t i hl => ?_, fun k sb hl => ?_, fun k k' sb sb' b h1 h2 h3 h4 => ?_, fun k sb b h1 h2 => ?_, fun k hk => ?_⟩
  · obtain ⟨u, h1, h2⟩ := h.slot t _ (hF.get hl)
    exact ⟨u, h1, h2.ren.mono (Nat.le_refl _) hm (fun _ _ => rfl)⟩
  · exact ((h.sto _ _ (hS.get hl)).ren).mono (Nat.le_refl _) hm (fun _ _ => rfl) rfl (fun _ _ => rfl)
  · exact distinct_inj hd (lookS_look h1) (lookS_look h2) (h.inj _ _ _ _ b (hS.get h1) (hS.get h2) h3 h4)
  · exact h.own _ _ b (hS.get h1) h2
  · rw [hp k hk]; exact h.pin k hk

/-- A change of names, written down. -/
def rn : List (Nat × Nat) → Nat → Nat
  | [], k => k
  | (s, t) :: r, k => match Nat.beq s k with
    | true => t
    | false => rn r k

/-! ### Code -/
section
variable {c : Ctx} {P : Program} {Q : Exit → Act → World → Prop} {F F' : Frm} {S S' : Sto}
def W (c : Ctx) (P : Program) (cd : Code) (Q : Exit → Act → World → Prop) (F : Frm) (S : Sto) : Prop := ∀ a w, Sat c (mk F S) a w → cd.wp P Q a w
def E (c : Ctx) (Q : Exit → Act → World → Prop) (e : Exit) (F : Frm) (S : Sto) : Prop := ∀ a w, Sat c (mk F S) a w → Q e a w

theorem W.seq {x y : Code} (h : W c P x (Exit.then (y.wp P Q) Q) F S) : W c P (.seq x y) Q F S := fun a w ha => wp_seq (h a w ha)
theorem W.skip (h : E c Q .normal F S) : W c P .skip Q F S := fun a w ha => wp_skip (h a w ha)
theorem W.lab {l : Nat} (h : E c Q .normal F S) : W c P (.label l) Q F S := fun a w ha => wp_label (h a w ha)
theorem W.ret (h : E c Q .ret F S) : W c P .ret Q F S := fun a w ha => wp_ret (h a w ha)
theorem W.exit {id : Nat} (h : E c Q (.exit id) F S) : W c P (.exit id) Q F S := fun a w ha => wp_exit (h a w ha)
theorem W.block {id : Nat} {x : Code} (h : W c P x (Exit.inBlock id Q) F S) : W c P (.block id x) Q F S := fun a w ha => wp_block (h a w ha)

theorem Sat.eval {σ : Sig} {a : Act} {w : World} {x : Operand} {v : Value} (h : Sat c σ a w) (hF : ∀ t i, look t F = some i → x = .tmp t → σ.slot t = some i) (hx : ev F x = some (.u (.sc v))) : a.eval x = v := by
  obtain ⟨τ, h⟩ := h
  cases x with
  | tmp t =>
    obtain ⟨u, h1, h2⟩ := h.slot t _ (hF t _ hx rfl)
    cases h2 with
    | u h2 => cases h2; simp [Act.eval, h1]
  | const v => simp [ev] at hx; simp [Act.eval, hx]
  | global g => simp [ev] at hx; simp [Act.eval, hx]
  | func f => simp [ev] at hx; simp [Act.eval, hx]
theorem Sat.ev {a : Act} {w : World} {x : Operand} {v : Value} (h : Sat c (mk F S) a w) (hx : ev F x = some (.u (.sc v))) : a.eval x = v := h.eval (fun _ _ hl _ => hl) hx

theorem W.cond {x : Operand} {y z : Code} {b : Bool} (hc : ev F x = some (.u (.sc (.bool b)))) (ht : b = true → W c P y Q F S) (hf : b = false → W c P z Q F S) :
    W c P (.cond x y z) Q F S := fun a w ha => wp_cond_split (ha.ev hc) (fun e => ht e a w ha) (fun e => hf e a w ha)
theorem W.cond_t {x : Operand} {y z : Code} (hc : ev F x = some (.u (.sc (.bool true)))) (ht : W c P y Q F S) : W c P (.cond x y z) Q F S := W.cond hc (fun _ => ht) (fun e => by cases e)
theorem W.cond_f {x : Operand} {y z : Code} (hc : ev F x = some (.u (.sc (.bool false)))) (hf : W c P z Q F S) : W c P (.cond x y z) Q F S := W.cond hc (fun e => by cases e) (fun _ => hf)
theorem W.cond_d {x : Operand} {y z : Code} {p : Prop} [Decidable p] (hc : ev F x = some (.u (.sc (.bool (decide p))))) (ht : p → W c P y Q F S) (hf : ¬ p → W c P z Q F S) :
    W c P (.cond x y z) Q F S := W.cond hc (fun e => ht (of_decide_eq_true e)) (fun e => hf (of_decide_eq_false e))
theorem W.cond_nd {x : Operand} {y z : Code} {p : Prop} [Decidable p] (hc : ev F x = some (.u (.sc (.bool (!decide p))))) (ht : ¬ p → W c P y Q F S) (hf : p → W c P z Q F S) :
    W c P (.cond x y z) Q F S := W.cond hc (fun e => ht (by simpa using e)) (fun e => hf (by simpa using e))

/-- A loop: what it keeps to says slots and memory by ghosts. -/
def Again {ι : Type} (c : Ctx) (Fi : ι → Frm) (Si : ι → Sto) (Φ : ι → Prop) (μ : ι → Nat) (m : Nat) (a : Act) (w : World) : Prop := ∃ j, Sat c (mk (Fi j) (Si j)) a w ∧ Φ j ∧ μ j < m
theorem W.loop {cd : Code} {ι : Type} (Fi : ι → Frm) (Si : ι → Sto) (Φ : ι → Prop) (μ : ι → Nat) (i0 : ι) (ρ : Nat → Nat) (hF : SubF ρ F (Fi i0)) (hS : SubS ρ S (Si i0)) (hd : distinct ((Si i0).map fun x => ρ x.1) = true)
    (hp : ∀ k ∈ c.pk, ρ k = k) (h0 : Φ i0) (round : ∀ i, Φ i → W c P cd (Exit.then (Again c Fi Si Φ μ (μ i)) Q) (Fi i) (Si i)) : W c P (.loop cd) Q F S := by
  intro a w ha b k cs
  have key : ∀ m, ∀ i a w', μ i = m → Sat c (mk (Fi i) (Si i)) a w' → Φ i →
      ∃ e a' w'', Q e a' w'' ∧ Arrives P (lone (b.at a (.code cd :: .inLoop cd :: k)) cs w') b k cs e a' w'' := by
    intro m
    induction m using Nat.strongRecOn with
    | _ m ih =>
      intro i a w' hm hf hp
      obtain ⟨e, a1, w1, hq, harr⟩ := round i hp a w' hf b (.inLoop cd :: k) cs
      cases e with
      | normal =>
        obtain ⟨j, hf1, hp1, hlt⟩ := hq
        obtain ⟨e2, a2, w2, hq2, harr2⟩ := ih (μ j) (hm ▸ hlt) j a1 w1 rfl hf1 hp1
        exact ⟨e2, a2, w2, hq2, .of_steps (Steps.trans harr (.one step_inLoop)) harr2⟩
      | exit id => exact ⟨_, a1, w1, hq, .pass (x := .inLoop cd) rfl (fun _ _ => .inl (by simp)) harr⟩
      | goto l => exact ⟨_, a1, w1, hq, .pass (x := .inLoop cd) rfl (fun _ _ => .inl (by simp)) harr⟩
      | ret => exact ⟨_, a1, w1, hq, .pass (x := .inLoop cd) rfl (fun _ _ => .inl (by simp)) harr⟩
      | panic ch => exact ⟨_, a1, w1, hq, .pass (x := .inLoop cd) rfl (fun _ _ => .inl (by simp)) harr⟩
      | outgrown => exact ⟨_, a1, w1, hq, .pass (x := .inLoop cd) rfl (fun _ _ => .inl (by simp)) harr⟩
  obtain ⟨e, a', w', hq, harr⟩ := key _ i0 a w rfl (ha.sub ρ hF hS hd hp) h0
  exact ⟨e, a', w', hq, .of_steps (.one step_loop) harr⟩

/-! ### Ends -/
theorem E.to {y : Code} (h : W c P y Q F S) : E c (Exit.then (y.wp P Q) Q) .normal F S := h
theorem E.th {K : Act → World → Prop} {i : Nat} (h : E c Q (.exit i) F S) : E c (Exit.then K Q) (.exit i) F S := h
theorem E.thr {K : Act → World → Prop} (h : E c Q .ret F S) : E c (Exit.then K Q) .ret F S := h
theorem E.inn {i : Nat} (h : E c Q .normal F S) : E c (Exit.inBlock i Q) .normal F S := h
theorem E.inr {i : Nat} (h : E c Q .ret F S) : E c (Exit.inBlock i Q) .ret F S := h
theorem E.hit {i : Nat} (h : E c Q .normal F S) : E c (Exit.inBlock i Q) (.exit i) F S := fun a w ha => by
  have := h a w ha
  simpa [Exit.inBlock] using this
theorem E.miss {i j : Nat} (hne : Nat.beq j i = false) (h : E c Q (.exit j) F S) : E c (Exit.inBlock i Q) (.exit j) F S := fun a w ha => by
  have h1 := h a w ha
  have : j ≠ i := fun e => by subst e; simp at hne
  simpa [Exit.inBlock, this] using h1
theorem E.again {ι : Type} {Fi : ι → Frm} {Si : ι → Sto} {Φ : ι → Prop} {μ : ι → Nat} {m : Nat} (j : ι) (ρ : Nat → Nat) (hF : SubF ρ F (Fi j)) (hS : SubS ρ S (Si j)) (hd : distinct ((Si j).map fun x => ρ x.1) = true)
    (hp : ∀ k ∈ c.pk, ρ k = k) (h0 : Φ j) (hm : μ j < m) : E c (Exit.then (Again c Fi Si Φ μ m) Q) .normal F S := fun _ _ ha => ⟨j, ha.sub ρ hF hS hd hp, h0, hm⟩
theorem W.weak {cd : Code} (ρ : Nat → Nat) (hF : SubF ρ F F') (hS : SubS ρ S S') (hd : distinct (S'.map fun x => ρ x.1) = true) (hp : ∀ k ∈ c.pk, ρ k = k) (h : W c P cd Q F' S') : W c P cd Q F S :=
  fun a w ha => h a w (ha.sub ρ hF hS hd hp)
end
end Go.H
