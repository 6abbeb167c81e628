/-
  What the proof rests on: part 6 of 14.
-/
import Derived.Test.YtmekkjehkcjpdaaGreatCirculateRunP5
import Derived.Test.YtmekkjehkcjpdaaGreatRows
section
namespace Go.Proofs.YtmekkjehkcjpdaaGreat
open Go.G
theorem own : ownKnob Tryz.prog.godebug = none := by kernel_rfl
theorem laidOut : laidOutB Tryz.prog = true := by kernel_rfl
end Go.Proofs.YtmekkjehkcjpdaaGreat
end
section
namespace Go.G
open Go Go.RowKit

structure Gr (S : Nat → Prop) (w w' : World) : Prop where
  os : w'.os = w.os
  tape : w'.tape = w.tape
  output : w'.output = w.output
  size : w.heap.size ≤ w'.heap.size
  block : ∀ k, k < w.heap.size → ¬ S k → w'.heap[k]? = w.heap[k]?

section
variable {S T : Nat → Prop} {a b c w w' : World}
theorem Gr.of_ext (e : Ext w w') : Gr S w w' := ⟨e.os, e.tape, e.output, e.size, fun k hk _ => e.block k hk⟩
theorem Gr.refl (S : Nat → Prop) (w : World) : Gr S w w := .of_ext (Ext.rfl' w)
theorem Gr.trans (h : Gr S a b) (k : Gr S b c) : Gr S a c :=
  ⟨k.os.trans h.os, k.tape.trans h.tape, k.output.trans h.output, Nat.le_trans h.size k.size, fun i hi hn => (k.block i (Nat.lt_of_lt_of_le hi h.size) hn).trans (h.block i hi hn)⟩
theorem Gr.to_ext (h : Gr S a b) (hs : ∀ k, S k → k < a.heap.size → False) : Ext a b := ⟨h.os, h.tape, h.output, h.size, fun k hk => h.block k hk (fun q => hs k q hk)⟩
theorem Gr.of_grown {row : Option Nat} (h : w.grownBy w' row) (hs : ∀ k, row = some k → S k) : Gr S w w' :=
  ⟨h.os, h.tape, h.output, h.size, fun k hk hn => h.block k hk (fun e => hn (hs k e.symm))⟩
end

section
variable {n : Nat} {P : Program} {ops : Array Oper}

def givesUponG (S : Nat → Prop) (P : Program) (w : World) (i : Info) (Θ : World → Prop) : Result Next → Prop
  | .ok (.value u) w' => Gr S w w' ∧ i.ok u w' ∧ Θ w'
  | .ok .skip w' => Gr S w w' ∧ i.ok undef w' ∧ Θ w'
  | .ok (.enter f args) w' => Gr S w w' ∧ Calls P f args w' (fun e w'' => ∃ v, e = .returned v ∧ Gr S w' w'' ∧ i.ok v w'' ∧ Θ w'')
  | _ => False
def GivesG (S : Nat → Prop) (P : Program) (ops : Array Oper) (o : Oper) (a : Act) (w : World) (i : Info) (Θ : World → Prop) : Prop :=
  if Region.wanted o (yielded ops a.tmps) then givesUponG S P w i Θ ((execOp a.eval o).run P w) else i.ok undef w ∧ Θ w

structure Plan where
  rows : Nat → Nat → Prop
  dead : Nat → List Nat
  kd : List Nat
  needs : Nat → List Nat
  fin : List Nat

def ahead (ms : List Nat) (i j : Nat) : Bool := (ms.getD j 0).testBit i
def Plan.seen (p : Plan) (ms : List Nat) (m b : Nat) : Prop := ∃ j, j ≠ m ∧ ahead ms m j = false ∧ p.rows j b
def Plan.later (p : Plan) (ms : List Nat) (m b : Nat) : Prop := ∃ j, j ≠ m ∧ ahead ms j m = false ∧ j ∉ p.dead m ∧ p.rows j b
def Plan.all (p : Plan) (b : Nat) : Prop := ∃ j, p.rows j b
def stabT (Θ : World → Prop) (S : Nat → Prop) : Prop := ∀ w w', Θ w → Gr S w w' → Θ w'
def stab (i : Info) (S : Nat → Prop) : Prop := ∀ u w w', i.ok u w → Gr S w w' → i.ok u w'
def removes : List Nat → Frm → Frm
  | [], F => F
  | t :: r, F => remove t (removes r F)
theorem look_remove_self (t : Nat) : ∀ F : Frm, look t (remove t F) = none
  | [] => rfl
  | (u, i) :: r => by
    by_cases e : u = t
    · subst e; simp only [remove, Nat.beq_refl]; exact look_remove_self u r
    · simp only [remove, beq_ne e]; rw [look_cons_ne e]; exact look_remove_self t r

abbrev Facts := List (World → Prop)
def Facts.at (th : Facts) (j : Nat) (w : World) : Prop := (th.getD j (fun _ => True)) w
def WG (n : Nat) (P : Program) (ops : Array Oper) (ms : List Nat) (p : Plan) (w0 : World) (Z : Frm → World → Prop) : Facts → List Oper → Frm → Prop
  | th, [], F => ∀ w, Gr p.all w0 w → (∀ j ∈ p.fin, th.at j w) → Z (removes p.kd F) w
  | th, o :: r, F => dstOk n o = true ∧ ∃ (i : Info) (Θ : World → Prop), stab i (p.later ms th.length) ∧ stabT Θ (p.later ms th.length) ∧
    (∀ a w, Gr (p.seen ms th.length) w0 w → (∀ j ∈ p.needs th.length, th.at j w) → FitsOn (o.looksAt ops) n a F w → GivesG (p.rows th.length) P ops o a w i Θ) ∧ WG n P ops ms p w0 Z (th ++ [Θ]) r (push o.dst i F)

theorem Facts.at_app {th : Facts} {l : Facts} {j : Nat} (h : j < th.length) (w : World) : Facts.at (th ++ l) j w = th.at j w := by
  unfold Facts.at
  rw [List.getD_eq_getElem?_getD, List.getD_eq_getElem?_getD, List.getElem?_append_left h]

def killsOk (ops : Array Oper) (ms : List Nat) (h : Nat) (p : Plan) : Bool :=
  let dead := p.dead
  let kd := p.kd
  (p.fin.all fun m => Nat.blt m h && (dead m).isEmpty) && (List.range h).all fun m => match ops[m]? with
    | none => false
    | some o => ((p.needs m).all fun j => Nat.blt j m && ahead ms j m) && ((dead m).all fun j => (List.range h).all fun r => Nat.beq r j || !(p.needs r).contains m || ahead ms r j) && ((dead m).isEmpty || (match o.dst with
      | none => true
      | some t => kd.contains t && (dead m).all fun j => (List.range h).all fun r => Nat.beq r j || (match ops[r]? with
        | none => false
        | some q => !(q.looksAt ops).contains t || ahead ms r j)))

structure InvG (p : Plan) (n h : Nat) (ops : Array Oper) (w0 : World) (F : Frm) (is : List Info) (th : Facts) (listed : Array Bool) (a : Act) (w : World) : Prop where
  ext : Gr (fun b => ∃ j, listed.getD j false = true ∧ p.rows j b) w0 w
  size : a.tmps.size = n
  defers : a.defers = []
  head : HeadInv .any ops h listed
  slot : ∀ t i o, i < h → ops[i]? = some o → o.dst = some t → listed.getD i false = true →
    (∀ k o', k < h → ops[k]? = some o' → o'.dst = some t → listed.getD k false = true → k ≤ i) → (∀ j ∈ p.dead i, listed.getD j false = false) → ∀ inf, is[i]? = some inf → ∃ u, a.tmps[t]? = some u ∧ inf.ok u w
  base : ∀ t, (∀ k o', k < h → ops[k]? = some o' → o'.dst = some t → listed.getD k false = false) → ∀ v, look t F = some v → ∃ u, a.tmps[t]? = some u ∧ v.ok u w
  fact : ∀ i, i < h → listed.getD i false = true → (∀ j ∈ p.dead i, listed.getD j false = false) → th.at i w


end

section
variable {n : Nat} {P : Program} {ops : Array Oper} {F : Frm} {w0 w1 : World} {r : List Oper} {Z : Frm → World → Prop} {ty : TypeId} {S T : Nat → Prop} {ms : List Nat} {p : Plan} {m : Nat}
def Taken (ops : Array Oper) (F : Frm) : Option (Nat × Bool) → Prop
  | none => True
  | some (j, want) => ∃ g b, (ops[j]?).bind (·.dst) = some g ∧ look g F = some (.val (.bool b)) ∧ b = want

def GivesAllG (S : Nat → Prop) (n : Nat) (P : Program) (ops : Array Oper) (o : Oper) (F : Frm) (w1 : World) (i : Info) (Θ : World → Prop) : Prop := ∀ a, FitsOn (o.looksAt ops) n a F w1 → GivesG S P ops o a w1 i Θ
def NoT : World → Prop := fun _ => True
def grp (S : Nat → Prop) (φ : Value → World → Prop) (u : Value) (w : World) : Prop := ∃ w1, Gr S w1 w ∧ φ u w1
def AnyI : Info := .pred (fun _ _ => True)
end

section
variable {α : Type} {E : Enc α} {w w' : World} {lo hi base g : Nat} {t : TypeId} {v : Value} {xs : List α} {cs : List Value} {S : Nat → Prop}
end

section
variable {α β : Type} {E : Enc α} {E' : Enc β} {w w' : World} {base b' g : Nat} {t t' : TypeId} {v v' : Value} {xs : List α} {xs' : List β} {cs : List Value} {S : Nat → Prop}
structure OwnL (E : Enc α) (w : World) (base : Nat) (t : TypeId) (vs : List Value) (xs : List (List α)) : Prop where
  len : vs.length = xs.length
  get : ∀ {i : Nat}, i < xs.length → Own E w base t vs[i]! xs[i]!
end
end Go.G
end
section
namespace Go.H
open Go Go.RowKit
open Go.G (Ext Gr Blk)

inductive UV where
  | sc (v : Value)
  | agg (us : List UV)
  | tup (us : List UV)
  | sl (sz : Nat) (rows : List (List UV))
  | ptr (us : List UV)
  | clo (fn : Fn) (first caps : List UV)
instance : Inhabited UV := ⟨.sc default⟩

inductive IV where
  | u (x : UV)
  | own (k : Nat)
  | ref (k off : Nat)
  | el (k sz i off : Nat)
  | osl (k sz lo hi : Nat)
  | row (k i m : Nat)
  | rel (k i j : Nat)
  | agg (is : List IV)
  | tup (is : List IV)
  | clo (fn : Fn) (first caps : List IV)
  | junk
instance : Inhabited IV := ⟨.junk⟩

inductive SB where
  | cells (t : TypeId) (is : List IV)
  | data (t : TypeId) (sz : Nat) (rows : List (List UV))
  | mp (ps : List (Value × Value))
  | grid (tr te : TypeId) (rows : List (List UV))
  | dead

mutual
def IV.tags : IV → List Nat
  | .u _ => []
  | .own k => [k]
  | .ref k _ => [k]
  | .el k _ _ _ => [k]
  | .osl k _ _ _ => [k]
  | .row k _ _ => [k]
  | .rel k _ _ => [k]
  | .agg l => IV.tagsL l
  | .tup l => IV.tagsL l
  | .clo _ f c => IV.tagsL f ++ IV.tagsL c
  | .junk => []
termination_by structural i => i
def IV.tagsL : List IV → List Nat
  | [] => []
  | i :: r => i.tags ++ IV.tagsL r
termination_by structural l => l
end
mutual
def IV.ren (ρ : Nat → Nat) : IV → IV
  | .u x => .u x
  | .own k => .own (ρ k)
  | .ref k o => .ref (ρ k) o
  | .el k s i o => .el (ρ k) s i o
  | .osl k s i o => .osl (ρ k) s i o
  | .row k i m => .row (ρ k) i m
  | .rel k i j => .rel (ρ k) i j
  | .agg l => .agg (IV.renL ρ l)
  | .tup l => .tup (IV.renL ρ l)
  | .clo fn f c => .clo fn (IV.renL ρ f) (IV.renL ρ c)
  | .junk => .junk
termination_by structural i => i
def IV.renL (ρ : Nat → Nat) : List IV → List IV
  | [] => []
  | i :: r => i.ren ρ :: IV.renL ρ r
termination_by structural l => l
end
def SB.tags : SB → List Nat
  | .cells _ is => IV.tagsL is
  | .data _ _ _ => []
  | .mp _ => []
  | .grid _ _ _ => []
  | .dead => []
def SB.ren (ρ : Nat → Nat) : SB → SB
  | .cells t is => .cells t (IV.renL ρ is)
  | .data t s rows => .data t s rows
  | .mp ps => .mp ps
  | .grid tr te rows => .grid tr te rows
  | .dead => .dead

theorem IV.renL_map (ρ : Nat → Nat) : ∀ l : List IV, IV.renL ρ l = l.map (·.ren ρ)
  | [] => rfl
  | i :: r => by rw [IV.renL, IV.renL_map ρ r]; rfl
theorem IV.tagsL_mem {k : Nat} : ∀ {l : List IV} {i : IV}, i ∈ l → k ∈ i.tags → k ∈ IV.tagsL l
  | j :: r, i, h, hk => by
    rw [IV.tagsL, List.mem_append]
    rcases List.mem_cons.1 h with rfl | h
    · exact .inl hk
    · exact .inr (IV.tagsL_mem h hk)

abbrev Frm := List (Nat × IV)
abbrev Sto := List (Nat × SB)
def look {α : Type} (t : Nat) : List (Nat × α) → Option α
  | [] => none
  | (s, v) :: r => match Nat.beq s t with
    | true => some v
    | false => look t r
theorem look_ne {α : Type} {s t : Nat} {i : α} {F : List (Nat × α)} (h : s ≠ t) : look t ((s, i) :: F) = look t F := by simp [look, G.beq_ne h]
theorem look_eq {α : Type} {t : Nat} {i : α} {F : List (Nat × α)} : look t ((t, i) :: F) = some i := by simp [look]
theorem look_mem {α : Type} {t : Nat} {i : α} : ∀ {F : List (Nat × α)}, look t F = some i → (t, i) ∈ F
  | [], h => by simp [look] at h
  | (s, j) :: r, h => by
    by_cases e : s = t
    · subst e; rw [look_eq] at h; cases h; exact List.mem_cons_self
    · rw [look_ne e] at h; exact List.mem_cons_of_mem _ (look_mem h)

def lookS (k : Nat) (S : Sto) : Option SB :=
  match look k S with
  | some (.cells t is) => some (.cells t is)
  | some (.data t sz rows) => some (.data t sz rows)
  | some (.mp ps) => some (.mp ps)
  | some (.grid tr te rows) => some (.grid tr te rows)
  | _ => none
theorem lookS_look {k : Nat} {S : Sto} {b : SB} (h : lookS k S = some b) : look k S = some b := by
  unfold lookS at h
  split at h
  · rename_i q; cases h; exact q
  · rename_i q; cases h; exact q
  · rename_i q; cases h; exact q
  · rename_i q; cases h; exact q
  · cases h
theorem lookS_ne {s t : Nat} {i : SB} {F : Sto} (h : s ≠ t) : lookS t ((s, i) :: F) = lookS t F := by unfold lookS; rw [look_ne h]
theorem lookS_cells {t ty : Nat} {is : List IV} {F : Sto} : lookS t ((t, .cells ty is) :: F) = some (.cells ty is) := by simp [lookS, look]
theorem lookS_data {t ty sz : Nat} {rows : List (List UV)} {F : Sto} : lookS t ((t, .data ty sz rows) :: F) = some (.data ty sz rows) := by simp [lookS, look]
theorem lookS_dead {t : Nat} {F : Sto} : lookS t ((t, .dead) :: F) = none := by simp [lookS, look]

def UV.one : UV → Bool
  | .sc v => v.oneCell'
  | .agg _ => false
  | .tup _ => false
  | _ => true
def IV.one : IV → Bool
  | .u x => x.one
  | .agg _ => false
  | .tup _ => false
  | .junk => false
  | _ => true
def vblk : Value → Option Nat
  | .pointer (some a) => some a.block
  | .slice (some a) _ _ => some a.block
  | .map r => r
  | _ => none
def SB.has : SB → Value → Nat → Prop
  | .grid _ _ rows, v, b => rows ≠ [] ∧ ∃ g n c, v = .slice (some ⟨g, 0, none⟩) n c ∧ g ≤ b ∧ b ≤ g + rows.length
  | .cells _ _, v, b => vblk v = some b
  | .data _ _ _, v, b => vblk v = some b
  | .mp _, v, b => vblk v = some b
  | .dead, v, b => vblk v = some b
theorem SB.has_ren {ρ : Nat → Nat} {sb : SB} {v : Value} {b : Nat} : (sb.ren ρ).has v b ↔ sb.has v b := by cases sb <;> exact Iff.rfl

inductive RepU (w : World) (ok : Nat → Prop) : UV → Value → Prop
  | sc (v : Value) : RepU w ok (.sc v) v
  | agg {us : List UV} {vs : List Value} (hl : us.length = vs.length) (hg : ∀ (i : Nat) (u : UV) (v : Value), us[i]? = some u → vs[i]? = some v → RepU w ok u v) : RepU w ok (.agg us) (.agg vs.toArray)
  | tup {us : List UV} {vs : List Value} (hl : us.length = vs.length) (hg : ∀ (i : Nat) (u : UV) (v : Value), us[i]? = some u → vs[i]? = some v → RepU w ok u v) : RepU w ok (.tup us) (.tuple vs.toArray)
  | sl0 {sz : Nat} {A : Option Addr} {c : Nat} (hc : c ≤ maxLen) (hn : A = none → c = 0) : RepU w ok (.sl sz []) (.slice A 0 c)
  | sl {sz : Nat} {rows : List (List UV)} {a : Addr} {c : Nat} {cv : Nat → Value} (hne : rows ≠ []) (h1 : rows.length ≤ c) (h2 : c ≤ maxLen) (h3 : ∀ r ∈ rows, r.length = sz) (h4 : 0 < sz) (h5 : ∀ u ∈ rows.flatten, u.one = true)
      (hb : a.block < w.heap.size) (ho : ok a.block) (hc : ∀ (j : Nat) (u : UV), rows.flatten[j]? = some u → w.cell? (a.add j) = some (cv j))
      (hu : ∀ (j : Nat) (u : UV), rows.flatten[j]? = some u → RepU w ok u (cv j)) : RepU w ok (.sl sz rows) (.slice (some a) rows.length c)
  | ptr {us : List UV} {a : Addr} {cv : Nat → Value} (h5 : ∀ u ∈ us, u.one = true) (hb : a.block < w.heap.size) (ho : ok a.block) (hc : ∀ (j : Nat) (u : UV), us[j]? = some u → w.cell? (a.add j) = some (cv j))
      (hu : ∀ (j : Nat) (u : UV), us[j]? = some u → RepU w ok u (cv j)) : RepU w ok (.ptr us) (.pointer (some a))
  | clo {fn : Fn} {f c : List UV} {vf vc : List Value} (hl : f.length = vf.length) (hg : ∀ (i : Nat) (u : UV) (v : Value), f[i]? = some u → vf[i]? = some v → RepU w ok u v)
      (hl' : c.length = vc.length) (hg' : ∀ (i : Nat) (u : UV) (v : Value), c[i]? = some u → vc[i]? = some v → RepU w ok u v) : RepU w ok (.clo fn f c) (.func fn vf.toArray vc.toArray)

def AllU (w : World) (ok : Nat → Prop) (us : List UV) (vs : List Value) : Prop := us.length = vs.length ∧ ∀ (i : Nat) (u : UV) (v : Value), us[i]? = some u → vs[i]? = some v → RepU w ok u v

inductive RepI (τ : Nat → Value) (w : World) (ok : Nat → Prop) : IV → Value → Prop
  | u {x : UV} {v : Value} (h : RepU w ok x v) : RepI τ w ok (.u x) v
  | own (k : Nat) (h : (τ k).oneCell' = true) : RepI τ w ok (.own k) (τ k)
  | ref {k off g : Nat} (h : τ k = .pointer (some ⟨g, 0, none⟩)) : RepI τ w ok (.ref k off) (.pointer (some ⟨g, off, none⟩))
  | el {k sz i off g n c : Nat} (h : τ k = .slice (some ⟨g, 0, none⟩) n c) : RepI τ w ok (.el k sz i off) (.pointer (some ⟨g, i * sz + off, none⟩))
  | osl {k sz lo hi n c : Nat} {A : Option Addr} (h : τ k = .slice A n c) (h1 : lo ≤ hi) (h2 : hi ≤ n) : RepI τ w ok (.osl k sz lo hi) (G.subSl (.slice A n c) sz lo hi)
  | row {k i m g n c : Nat} (h : τ k = .slice (some ⟨g, 0, none⟩) n c) : RepI τ w ok (.row k i m) (.slice (some ⟨g + 1 + i, 0, none⟩) m m)
  | rel {k i j g n c : Nat} (h : τ k = .slice (some ⟨g, 0, none⟩) n c) : RepI τ w ok (.rel k i j) (.pointer (some ⟨g + 1 + i, j, none⟩))
  | agg {us : List IV} {vs : List Value} (hl : us.length = vs.length) (hg : ∀ (i : Nat) (u : IV) (v : Value), us[i]? = some u → vs[i]? = some v → RepI τ w ok u v) : RepI τ w ok (.agg us) (.agg vs.toArray)
  | tup {us : List IV} {vs : List Value} (hl : us.length = vs.length) (hg : ∀ (i : Nat) (u : IV) (v : Value), us[i]? = some u → vs[i]? = some v → RepI τ w ok u v) : RepI τ w ok (.tup us) (.tuple vs.toArray)
  | clo {fn : Fn} {f c : List IV} {vf vc : List Value} (hl : f.length = vf.length) (hg : ∀ (i : Nat) (u : IV) (v : Value), f[i]? = some u → vf[i]? = some v → RepI τ w ok u v)
      (hl' : c.length = vc.length) (hg' : ∀ (i : Nat) (u : IV) (v : Value), c[i]? = some u → vc[i]? = some v → RepI τ w ok u v) : RepI τ w ok (.clo fn f c) (.func fn vf.toArray vc.toArray)
  | junk (v : Value) : RepI τ w ok .junk v

def AllI (τ : Nat → Value) (w : World) (ok : Nat → Prop) (us : List IV) (vs : List Value) : Prop := us.length = vs.length ∧ ∀ (i : Nat) (u : IV) (v : Value), us[i]? = some u → vs[i]? = some v → RepI τ w ok u v

def RepB (τ : Nat → Value) (w : World) (ok : Nat → Prop) (k : Nat) : SB → Prop
  | .cells t is => ∃ g vs, τ k = .pointer (some ⟨g, 0, none⟩) ∧ Blk w g t vs ∧ AllI τ w ok is vs ∧ ∀ i ∈ is, i.one = true
  | .data t sz rows => ∃ vs, w.ownsRow 0 t sz (τ k) rows.length vs ∧ AllU w ok rows.flatten vs ∧ (∀ r ∈ rows, r.length = sz) ∧ 0 < sz ∧ ∀ u ∈ rows.flatten, u.one = true
  | .mp ps => ∃ g es clk, τ k = .map (some g) ∧ w.heap[g]? = some (.map es clk) ∧ es.toList.map (fun e => (e.key, e.val)) = ps
  | .grid tr te rows => (rows = [] ∧ ∃ A c, τ k = .slice A 0 c ∧ c ≤ maxLen ∧ (A = none → c = 0)) ∨
      (rows ≠ [] ∧ rows.length ≤ maxLen ∧ ∃ g m, m ≤ maxLen ∧ τ k = .slice (some ⟨g, 0, none⟩) rows.length rows.length ∧ Blk w g tr ((List.range rows.length).map fun i => Value.slice (some ⟨g + 1 + i, 0, none⟩) m m) ∧
        ∀ (i : Nat) (r : List UV), rows[i]? = some r → r.length = m ∧ ∃ vs, Blk w (g + 1 + i) te vs ∧ AllU w ok r vs ∧ ∀ u ∈ r, u.one = true)
  | .dead => False

section
variable {w w' : World} {ok ok' : Nat → Prop} {τ τ' : Nat → Value}
theorem RepU.mono {u : UV} {v : Value} (h : RepU w ok u v) (hs : w.heap.size ≤ w'.heap.size) (hm : ∀ b, ok b → b < w.heap.size → ok' b ∧ w'.heap[b]? = w.heap[b]?) : RepU w' ok' u v := by
  induction h with
  | sc v => exact .sc v
  | agg hl _ ih => exact .agg hl ih
  | tup hl _ ih => exact .tup hl ih
  | sl0 hc hn => exact .sl0 hc hn
  | sl hne h1 h2 h3 h4 h5 hb ho hc _ ih =>
    obtain ⟨q1, q2⟩ := hm _ ho hb
    exact .sl hne h1 h2 h3 h4 h5 (Nat.lt_of_lt_of_le hb hs) q1 (fun j u hj => by rw [World.cell?_of_block (w := w) (by rw [G.block_add]; exact q2)]; exact hc j u hj) ih
  | ptr h5 hb ho hc _ ih =>
    obtain ⟨q1, q2⟩ := hm _ ho hb
    exact .ptr h5 (Nat.lt_of_lt_of_le hb hs) q1 (fun j u hj => by rw [World.cell?_of_block (w := w) (by rw [G.block_add]; exact q2)]; exact hc j u hj) ih
  | clo hl _ hl' _ ih ih' => exact .clo hl ih hl' ih'
theorem RepI.mono {u : IV} {v : Value} (h : RepI τ w ok u v) (hs : w.heap.size ≤ w'.heap.size) (hm : ∀ b, ok b → b < w.heap.size → ok' b ∧ w'.heap[b]? = w.heap[b]?) (ht : ∀ k ∈ u.tags, τ' k = τ k) : RepI τ' w' ok' u v := by
  induction h with
  | u h => exact .u (h.mono hs hm)
  | own k h => rw [← ht k vF] at h ⊢; exact .own k h
  | ref h => exact .ref zA
  | el h => exact .el zA
  | osl h h1 h2 => exact .osl zA h1 h2
  | row h => exact .row zA
  | rel h => exact .rel zA
  | agg hl _ ih => exact .agg hl fun i u v h1 h2 => ih i u v h1 h2 fun k hk => ht k zV
  | tup hl _ ih => exact .tup hl fun i u v h1 h2 => ih i u v h1 h2 fun k hk => ht k zV
  | clo hl _ hl' _ ih ih' =>
    refine .clo hl (fun i u v h1 h2 => ih i u v h1 h2 fun k hk => ht k ?_) hl' (fun i u v h1 h2 => ih' i u v h1 h2 fun k hk => ht k ?_)
    · rw [IV.tags, List.mem_append]; exact .inl (IV.tagsL_mem (List.mem_of_getElem? h1) hk)
    · rw [IV.tags, List.mem_append]; exact .inr (IV.tagsL_mem (List.mem_of_getElem? h1) hk)
  | junk v => exact .junk v
theorem AllU.mono {us : List UV} {vs : List Value} (h : AllU w ok us vs) (hs : w.heap.size ≤ w'.heap.size) (hm : ∀ b, ok b → b < w.heap.size → ok' b ∧ w'.heap[b]? = w.heap[b]?) : AllU w' ok' us vs :=
  ⟨h.1, fun i u v h1 h2 => (h.2 i u v h1 h2).mono hs hm⟩
theorem AllI.mono {us : List IV} {vs : List Value} (h : AllI τ w ok us vs) (hs : w.heap.size ≤ w'.heap.size) (hm : ∀ b, ok b → b < w.heap.size → ok' b ∧ w'.heap[b]? = w.heap[b]?) (ht : ∀ k ∈ IV.tagsL us, τ' k = τ k) : AllI τ' w' ok' us vs :=
  ⟨h.1, fun i u v h1 h2 => (h.2 i u v h1 h2).mono hs hm fun k hk => ht k (IV.tagsL_mem (List.mem_of_getElem? h1) hk)⟩
theorem vblk_lt {sb : SB} {k b : Nat} (h : RepB τ w ok k sb) (hb : sb.has (τ k) b) : b < w.heap.size := by
  cases sb with
  | cells t is =>
    obtain ⟨g, vs, h1, h2, _⟩ := h
    rw [h1] at hb; cases hb; exact h2.lt
  | data t sz rows =>
    obtain ⟨vs, h1, _⟩ := h
    have := h1.lt b (by
      obtain ⟨_, h2 | ⟨g, cap, cur, h2, _⟩⟩ := h1
      · rw [h2.1] at hb; cases hb
      · rw [h2] at hb ⊢; cases hb; rfl)
    exact this.2
  | mp ps =>
    obtain ⟨g, es, _, h1, h2, _⟩ := h
    rw [h1] at hb; cases hb; exact (Array.getElem?_eq_some_iff.1 h2).1
  | grid tr te rows =>
    rcases h with ⟨h1, _⟩ | ⟨hne, _, g, m, _, h1, h2, h3⟩
    · exact absurd h1 hb.1
    · obtain ⟨_, g', n, c, q1, q2, q3⟩ := hb
      rw [h1] at q1
      simp only [Value.slice.injEq, Option.some.injEq, Addr.mk.injEq, and_true] at q1
      obtain ⟨rfl, _, _⟩ := q1
      by_cases e : b = g
      · rw [e]; exact h2.lt
      · obtain ⟨_, vs, h4, _⟩ := h3 (b - g - 1) rows[b - g - 1] (List.getElem?_eq_getElem xA)
        have := h4.lt
        omega
  | dead => exact h.elim
theorem RepB.mono {k : Nat} {sb : SB} (h : RepB τ w ok k sb) (hs : w.heap.size ≤ w'.heap.size) (hm : ∀ b, ok b → b < w.heap.size → ok' b ∧ w'.heap[b]? = w.heap[b]?) (ht : ∀ j ∈ sb.tags, τ' j = τ j) (hk : τ' k = τ k)
    (hb : ∀ b, sb.has (τ k) b → w'.heap[b]? = w.heap[b]?) : RepB τ' w' ok' k sb := by
  cases sb with
  | cells t is =>
    obtain ⟨g, vs, h1, h2, h3, h4⟩ := h
    exact ⟨g, vs, hk.trans h1, (hb g (by rw [h1]; rfl)).trans h2, h3.mono hs hm ht, h4⟩
  | data t sz rows =>
    obtain ⟨vs, ⟨h0, h1⟩, h2, h3⟩ := h
    refine ⟨vs, ⟨h0, ?_⟩, h2.mono hs hm, h3⟩
    rcases h1 with ⟨h1, h4⟩ | ⟨g, cap, cur, h4, h5, h6, h7⟩
    · exact .inl ⟨hk.trans h1, h4⟩
    · exact .inr ⟨g, cap, cur, hk.trans h4, h5, (hb g (by rw [h4]; rfl)).trans h6, h7⟩
  | mp ps =>
    obtain ⟨g, es, clk, h1, h2, h3⟩ := h
    exact ⟨g, es, clk, hk.trans h1, (hb g (by rw [h1]; rfl)).trans h2, h3⟩
  | grid tr te rows =>
    rcases h with ⟨h1, A, c, h2, h3⟩ | ⟨hne, hm1, g, m, hm2, h1, h2, h3⟩
    · exact .inl ⟨h1, A, c, hk.trans h2, h3⟩
    · refine .inr ⟨hne, hm1, g, m, hm2, hk.trans h1, (hb g ⟨hne, g, _, _, h1, Nat.le_refl _, Nat.le_add_right _ _⟩).trans h2, fun i r hr => ?_⟩
      obtain ⟨q1, vs, q2, q3, q4⟩ := h3 i r hr
      have hi := (List.getElem?_eq_some_iff.1 hr).1
      exact ⟨q1, vs, (hb (g + 1 + i) ⟨hne, g, _, _, h1, xA, xA⟩).trans q2, q3.mono hs hm, q4⟩
  | dead => exact h.elim
end

structure Ctx where
  n : Nat
  w0 : World
  M : Nat → Prop
  ok0 : Nat → Prop
  pk : List Nat
  τ0 : Nat → Value
structure Sig where
  slot : Nat → Option IV
  sto : Nat → Option SB
def Ctx.may (c : Ctx) (b : Nat) : Prop := c.ok0 b ∨ c.M b ∨ c.w0.heap.size ≤ b
def okOf (c : Ctx) (τ : Nat → Value) (sto : Nat → Option SB) (b : Nat) : Prop := c.may b ∧ ∀ k sb, sto k = some sb → ¬ sb.has (τ k) b

structure SatT (c : Ctx) (σ : Sig) (τ : Nat → Value) (a : Act) (w : World) : Prop where
  size : a.tmps.size = c.n
  defers : a.defers = []
  gr : Gr c.M c.w0 w
  slot : ∀ t i, σ.slot t = some i → ∃ u, a.tmps[t]? = some u ∧ RepI τ w (okOf c τ σ.sto) i u
  sto : ∀ k sb, σ.sto k = some sb → RepB τ w (okOf c τ σ.sto) k sb
  inj : ∀ k k' sb sb' b, σ.sto k = some sb → σ.sto k' = some sb' → sb.has (τ k) b → sb'.has (τ k') b → k = k'
  own : ∀ k sb b, σ.sto k = some sb → sb.has (τ k) b → c.M b ∨ c.w0.heap.size ≤ b
  pin : ∀ k ∈ c.pk, τ k = c.τ0 k
def Sat (c : Ctx) (σ : Sig) (a : Act) (w : World) : Prop := ∃ τ, SatT c σ τ a w

def mk (F : Frm) (S : Sto) : Sig := ⟨fun t => look t F, fun k => lookS k S⟩

def ev (F : Frm) : Operand → Option IV
  | .tmp t => look t F
  | .const v => some (.u (.sc v))
  | .global g => some (.u (.sc (.pointer (some ⟨g, 0, none⟩))))
  | .func f => some (.u (.sc (.func (.func f) #[] #[])))

def SubF (ρ : Nat → Nat) (F : Frm) : Frm → Prop
  | [] => True
  | (t, i) :: r => look t F = some (i.ren ρ) ∧ SubF ρ F r
def SubS (ρ : Nat → Nat) (S : Sto) : Sto → Prop
  | [] => True
  | (k, b) :: r => lookS (ρ k) S = some (b.ren ρ) ∧ SubS ρ S r
theorem SubF.get {ρ : Nat → Nat} {F : Frm} : ∀ {F' : Frm}, SubF ρ F F' → ∀ {t i}, look t F' = some i → look t F = some (i.ren ρ)
  | (s, j) :: r, h, t, i, hl => by
    by_cases e : s = t
    · subst e; rw [look_eq] at hl; cases hl; exact h.1
    · rw [look_ne e] at hl; exact h.2.get hl
theorem SubS.get' {ρ : Nat → Nat} {S : Sto} : ∀ {S' : Sto}, SubS ρ S S' → ∀ {t i}, look t S' = some i → lookS (ρ t) S = some (i.ren ρ)
  | (s, j) :: r, h, t, i, hl => by
    by_cases e : s = t
    · subst e; rw [look_eq] at hl; cases hl; exact h.1
    · rw [look_ne e] at hl; exact h.2.get' hl
theorem SubS.get {ρ : Nat → Nat} {S S' : Sto} (h : SubS ρ S S') {t : Nat} {i : SB} (hl : lookS t S' = some i) : lookS (ρ t) S = some (i.ren ρ) := h.get' (lookS_look hl)
def distinct : List Nat → Bool
  | [] => true
  | k :: r => !(r.any (Nat.beq k)) && distinct r
theorem distinct_inj {ρ : Nat → Nat} : ∀ {S : Sto}, distinct (S.map fun x => ρ x.1) = true → ∀ {k k' b b'}, look k S = some b → look k' S = some b' → ρ k = ρ k' → k = k'
  | (s, j) :: r, h, k, k', b, b', h1, h2, e => by
    simp only [List.map_cons, distinct, Bool.and_eq_true, Bool.not_eq_true', List.any_eq_false] at h
    have key : ∀ {q c}, look q r = some c → ρ s ≠ ρ q := fun hq e => by
      have h3 := h.1 _ (List.mem_map.2 ⟨_, look_mem hq, rfl⟩)
      simp [e] at h3
    by_cases e1 : s = k
    · by_cases e2 : s = k'
      · exact e1.symm.trans e2
      · subst e1; rw [look_ne e2] at h2; exact absurd e (key h2)
    · rw [look_ne e1] at h1
      by_cases e2 : s = k'
      · subst e2; exact absurd e.symm (key h1)
      · rw [look_ne e2] at h2; exact distinct_inj h.2 h1 h2 e

theorem RepI.ren {ρ : Nat → Nat} {τ : Nat → Value} {w : World} {ok : Nat → Prop} : ∀ {i : IV} {v : Value}, RepI τ w ok (i.ren ρ) v → RepI (fun k => τ (ρ k)) w ok i v := by
  intro i v h
  generalize hj : i.ren ρ = j at h
  induction h generalizing i with
  | u h => cases i <;> simp [IV.ren] at hj; subst hj; exact .u h
  | own k h => cases i <;> simp [IV.ren] at hj; subst hj; exact .own (τ := fun k => τ (ρ k)) _ h
  | ref h => cases i <;> simp [IV.ren] at hj; obtain ⟨rfl, rfl⟩ := hj; exact .ref h
  | el h => cases i <;> simp [IV.ren] at hj; obtain ⟨rfl, rfl, rfl, rfl⟩ := hj; exact .el h
  | osl h h1 h2 => cases i <;> simp [IV.ren] at hj; obtain ⟨rfl, rfl, rfl, rfl⟩ := hj; exact .osl h h1 h2
  | row h => cases i <;> simp [IV.ren] at hj; obtain ⟨rfl, rfl, rfl⟩ := hj; exact .row h
  | rel h => cases i <;> simp [IV.ren] at hj; obtain ⟨rfl, rfl, rfl⟩ := hj; exact .rel h
  | agg hl hg ih =>
    cases i <;> simp [IV.ren] at hj
    rw [IV.renL_map] at hj; subst hj
    exact .agg wA fun i u v h1 h2 => ih i (u.ren ρ) v (by simp [h1]) h2 rfl
  | tup hl hg ih =>
    cases i <;> simp [IV.ren] at hj
    rw [IV.renL_map] at hj; subst hj
    exact .tup wA fun i u v h1 h2 => ih i (u.ren ρ) v (by simp [h1]) h2 rfl
  | clo hl hg hl' hg' ih ih' =>
    cases i <;> simp [IV.ren] at hj
    obtain ⟨rfl, rfl, rfl⟩ := hj
    rw [IV.renL_map] at hl hg ih
    rw [IV.renL_map] at hl' hg' ih'
    exact .clo wA (fun i u v h1 h2 => ih i (u.ren ρ) v (by simp [h1]) h2 rfl) (by simpa using hl') (fun i u v h1 h2 => ih' i (u.ren ρ) v (by simp [h1]) h2 rfl)
  | junk v => cases i <;> simp [IV.ren] at hj; exact .junk v
theorem AllI.ren {ρ : Nat → Nat} {τ : Nat → Value} {w : World} {ok : Nat → Prop} {is : List IV} {vs : List Value} (h : AllI τ w ok (IV.renL ρ is) vs) : AllI (fun k => τ (ρ k)) w ok is vs := by
  rw [IV.renL_map] at h
  exact ⟨by simpa using h.1, fun i u v h1 h2 => (h.2 i (u.ren ρ) v (by simp [h1]) h2).ren⟩
theorem IV.one_ren {ρ : Nat → Nat} (i : IV) : (i.ren ρ).one = i.one := by cases i <;> rfl
theorem RepB.ren {ρ : Nat → Nat} {τ : Nat → Value} {w : World} {ok : Nat → Prop} {k : Nat} : ∀ {sb : SB}, RepB τ w ok (ρ k) (sb.ren ρ) → RepB (fun k => τ (ρ k)) w ok k sb
  | .cells _ is, ⟨g, vs, h1, h2, h3, h4⟩ => ⟨g, vs, h1, h2, h3.ren, fun i hi => by rw [← IV.one_ren (ρ := ρ)]; exact h4 _ (by rw [IV.renL_map]; exact List.mem_map_of_mem hi)⟩
  | .data _ _ _, ⟨vs, h1, h2, h3⟩ => ⟨vs, h1, h2, h3⟩
  | .mp _, h => h
  | .grid _ _ _, h => h

theorem Sat.sub {c : Ctx} {F F' : Frm} {S S' : Sto} {a : Act} {w : World} (ρ : Nat → Nat) (h : Sat c (mk F S) a w) (hF : SubF ρ F F') (hS : SubS ρ S S') (hd : distinct (S'.map fun x => ρ x.1) = true)
    (hp : ∀ k ∈ c.pk, ρ k = k) : Sat c (mk F' S') a w := by
  obtain ⟨τ, h⟩ := h
  have hok : ∀ b, okOf c τ (mk F S).sto b → okOf c (fun k => τ (ρ k)) (mk F' S').sto b := fun b ⟨h1, h2⟩ => ⟨h1, fun k sb hk hv => h2 _ _ (hS.get hk) (SB.has_ren.2 hv)⟩
  have hm : ∀ b, okOf c τ (mk F S).sto b → b < w.heap.size → okOf c (fun k => τ (ρ k)) (mk F' S').sto b ∧ w.heap[b]? = w.heap[b]? := fun b hb _ => ⟨hok b hb, rfl⟩
  refine ⟨fun k => τ (ρ k), h.size, h.defers, h.gr, fun t i hl => ?_, fun k sb hl => ?_, fun k k' sb sb' b h1 h2 h3 h4 => ?_, fun k sb b h1 h2 => ?_, fun k hk => ?_⟩
  · obtain ⟨u, h1, h2⟩ := h.slot t _ (hF.get hl)
    exact ⟨u, h1, h2.ren.mono (Nat.le_refl _) hm (fun _ _ => rfl)⟩
  · exact ((h.sto _ _ (hS.get hl)).ren).mono (Nat.le_refl _) hm (fun _ _ => rfl) rfl (fun _ _ => rfl)
  · exact vK
  · exact h.own _ _ b (hS.get h1) (SB.has_ren.2 h2)
  · rw [hp k hk]; exact h.pin k hk

def rn : List (Nat × Nat) → Nat → Nat
  | [], k => k
  | (s, t) :: r, k => match Nat.beq s k with
    | true => t
    | false => rn r k

section
variable {c : Ctx} {P : Program} {Q : Exit → Act → World → Prop} {F F' : Frm} {S S' : Sto}
def W (c : Ctx) (P : Program) (cd : Code) (Q : Exit → Act → World → Prop) (F : Frm) (S : Sto) : Prop := ∀ a w, Sat c (mk F S) a w → cd.wp P Q a w
def E (c : Ctx) (Q : Exit → Act → World → Prop) (e : Exit) (F : Frm) (S : Sto) : Prop := ∀ a w, Sat c (mk F S) a w → Q e a w

theorem W.seq {x y : Code} (h : W c P x (Exit.then (y.wp P Q) Q) F S) : W c P (.seq x y) Q F S := fun a w ha => wp_seq (h a w ha)
theorem W.skip (h : E c Q .normal F S) : W c P .skip Q F S := fun a w ha => wp_skip (h a w ha)
theorem W.ret (h : E c Q .ret F S) : W c P .ret Q F S := fun a w ha => wp_ret (h a w ha)
theorem W.exit {id : Nat} (h : E c Q (.exit id) F S) : W c P (.exit id) Q F S := fun a w ha => wp_exit (h a w ha)
theorem W.block {id : Nat} {x : Code} (h : W c P x (Exit.inBlock id Q) F S) : W c P (.block id x) Q F S := fun a w ha => wp_block (h a w ha)

theorem Sat.eval {σ : Sig} {a : Act} {w : World} {x : Operand} {v : Value} (h : Sat c σ a w) (hF : ∀ t i, look t F = some i → x = .tmp t → σ.slot t = some i) (hx : ev F x = some (.u (.sc v))) : a.eval x = v := by
  obtain ⟨τ, h⟩ := h
  cases x with
  | tmp t =>
    obtain ⟨u, h1, h2⟩ := h.slot t _ (hF t _ hx rfl)
    cases h2 with
    | u h2 => cases h2; simp [Act.eval, h1]
  | const v => simp [ev] at hx; simp [Act.eval, hx]
  | global g => simp [ev] at hx; simp [Act.eval, hx]
  | func f => simp [ev] at hx; simp [Act.eval, hx]
theorem Sat.ev {a : Act} {w : World} {x : Operand} {v : Value} (h : Sat c (mk F S) a w) (hx : ev F x = some (.u (.sc v))) : a.eval x = v := h.eval (fun _ _ hl _ => hl) hx

theorem W.cond {x : Operand} {y z : Code} {b : Bool} (hc : ev F x = some (.u (.sc (.bool b)))) (ht : b = true → W c P y Q F S) (hf : b = false → W c P z Q F S) :
    W c P (.cond x y z) Q F S := fun a w ha => wp_cond_split (ha.ev hc) (fun e => ht e a w ha) (fun e => hf e a w ha)
theorem W.cond_t {x : Operand} {y z : Code} (hc : ev F x = some (.u (.sc (.bool true)))) (ht : W c P y Q F S) : W c P (.cond x y z) Q F S := W.cond hc (fun _ => ht) (fun e => by cases e)
theorem W.cond_f {x : Operand} {y z : Code} (hc : ev F x = some (.u (.sc (.bool false)))) (hf : W c P z Q F S) : W c P (.cond x y z) Q F S := W.cond hc (fun e => by cases e) (fun _ => hf)
theorem W.cond_d {x : Operand} {y z : Code} {p : Prop} [Decidable p] (hc : ev F x = some (.u (.sc (.bool (decide p))))) (ht : p → W c P y Q F S) (hf : ¬ p → W c P z Q F S) :
    W c P (.cond x y z) Q F S := W.cond hc (fun e => ht (of_decide_eq_true e)) (fun e => hf (of_decide_eq_false e))
theorem W.cond_nd {x : Operand} {y z : Code} {p : Prop} [Decidable p] (hc : ev F x = some (.u (.sc (.bool (!decide p))))) (ht : ¬ p → W c P y Q F S) (hf : p → W c P z Q F S) :
    W c P (.cond x y z) Q F S := W.cond hc (fun e => ht (by simpa using e)) (fun e => hf (by simpa using e))

def Again {ι : Type} (c : Ctx) (Fi : ι → Frm) (Si : ι → Sto) (Φ : ι → Prop) (μ : ι → Nat) (m : Nat) (a : Act) (w : World) : Prop := ∃ j, Sat c (mk (Fi j) (Si j)) a w ∧ Φ j ∧ μ j < m
theorem W.loop {cd : Code} {ι : Type} (Fi : ι → Frm) (Si : ι → Sto) (Φ : ι → Prop) (μ : ι → Nat) (i0 : ι) (ρ : Nat → Nat) (hF : SubF ρ F (Fi i0)) (hS : SubS ρ S (Si i0)) (hd : distinct ((Si i0).map fun x => ρ x.1) = true)
    (hp : ∀ k ∈ c.pk, ρ k = k) (h0 : Φ i0) (round : ∀ i, Φ i → W c P cd (Exit.then (Again c Fi Si Φ μ (μ i)) Q) (Fi i) (Si i)) : W c P (.loop cd) Q F S := by
  intro a w ha b k cs
  have key : ∀ m, ∀ i a w', μ i = m → Sat c (mk (Fi i) (Si i)) a w' → Φ i →
      ∃ e a' w'', Q e a' w'' ∧ Arrives P (lone (b.at a (.code cd :: .inLoop cd :: k)) cs w') b k cs e a' w'' := by
    intro m
    induction m using Nat.strongRecOn with
    | _ m ih =>
      intro i a w' hm hf hp
      obtain ⟨e, a1, w1, hq, harr⟩ := round i hp a w' hf b (.inLoop cd :: k) cs
      cases e with
      | normal =>
        obtain ⟨j, hf1, hp1, hlt⟩ := hq
        obtain ⟨e2, a2, w2, hq2, harr2⟩ := ih (μ j) (hm ▸ hlt) j a1 w1 rfl hf1 hp1
        exact ⟨e2, a2, w2, hq2, .of_steps (Steps.trans harr (.one step_inLoop)) harr2⟩
      | exit id => exact ⟨_, a1, w1, hq, .pass (x := .inLoop cd) rfl (fun _ _ => .inl yE) harr⟩
      | goto l => exact ⟨_, a1, w1, hq, .pass (x := .inLoop cd) rfl (fun _ _ => .inl yE) harr⟩
      | ret => exact ⟨_, a1, w1, hq, .pass (x := .inLoop cd) rfl (fun _ _ => .inl yE) harr⟩
      | panic ch => exact ⟨_, a1, w1, hq, .pass (x := .inLoop cd) rfl (fun _ _ => .inl yE) harr⟩
      | outgrown => exact ⟨_, a1, w1, hq, .pass (x := .inLoop cd) rfl (fun _ _ => .inl yE) harr⟩
  obtain ⟨e, a', w', hq, harr⟩ := key _ i0 a w rfl (ha.sub ρ hF hS hd hp) h0
  exact ⟨e, a', w', hq, .of_steps (.one step_loop) harr⟩

theorem E.to {y : Code} (h : W c P y Q F S) : E c (Exit.then (y.wp P Q) Q) .normal F S := h
theorem E.th {K : Act → World → Prop} {i : Nat} (h : E c Q (.exit i) F S) : E c (Exit.then K Q) (.exit i) F S := h
theorem E.thr {K : Act → World → Prop} (h : E c Q .ret F S) : E c (Exit.then K Q) .ret F S := h
theorem E.inn {i : Nat} (h : E c Q .normal F S) : E c (Exit.inBlock i Q) .normal F S := h
theorem E.inr {i : Nat} (h : E c Q .ret F S) : E c (Exit.inBlock i Q) .ret F S := h
theorem E.hit {i : Nat} (h : E c Q .normal F S) : E c (Exit.inBlock i Q) (.exit i) F S := fun a w ha => by
  have := h a w ha
  simpa [Exit.inBlock] using this
theorem E.again {ι : Type} {Fi : ι → Frm} {Si : ι → Sto} {Φ : ι → Prop} {μ : ι → Nat} {m : Nat} (j : ι) (ρ : Nat → Nat) (hF : SubF ρ F (Fi j)) (hS : SubS ρ S (Si j)) (hd : distinct ((Si j).map fun x => ρ x.1) = true)
    (hp : ∀ k ∈ c.pk, ρ k = k) (h0 : Φ j) (hm : μ j < m) : E c (Exit.then (Again c Fi Si Φ μ m) Q) .normal F S := fun _ _ ha => ⟨j, ha.sub ρ hF hS hd hp, h0, hm⟩
end
end Go.H
end
section
namespace Go.H
open Go Go.RowKit
open Go.G (Ext Gr Blk)

abbrev Chg := List (Nat × Option SB)
def push (d : Option Nat) (i : Option IV) (F : Frm) : Frm :=
  match d, i with
  | some d, some i => (d, i) :: F
  | some d, none => (d, .junk) :: F
  | none, _ => F
def updS : Chg → Sto → Sto
  | [], S => S
  | (k, some b) :: r, S => (k, b) :: updS r S
  | (k, none) :: r, S => (k, .dead) :: updS r S
def Sig.upd (σ : Sig) (d : Option Nat) (i : Option IV) (δ : Chg) : Sig :=
  ⟨fun t => if d = some t then some (i.getD .junk) else σ.slot t, fun k => match look k δ with | some ob => (match ob with | some .dead => none | x => x) | none => σ.sto k⟩
theorem look_updS (k : Nat) (S : Sto) : ∀ δ : Chg, lookS k (updS δ S) = match look k δ with | some ob => (match ob with | some .dead => none | x => x) | none => lookS k S
  | [] => rfl
  | (j, some b) :: r => by
    by_cases e : j = k
    · subst e; rw [updS, look_eq]; cases b <;> simp [lookS, look]
    · rw [updS, lookS_ne e, look_ne e]; exact look_updS k S r
  | (j, none) :: r => by
    by_cases e : j = k
    · subst e; rw [updS, lookS_dead, look_eq]
    · rw [updS, lookS_ne e, look_ne e]; exact look_updS k S r
theorem mk_upd (d : Option Nat) (i : Option IV) (δ : Chg) (F : Frm) (S : Sto) : mk (push d i F) (updS δ S) = (mk F S).upd d i δ := by
  unfold mk Sig.upd
  congr 1
  · funext t
    cases d with
    | none => simp [push]
    | some d =>
      cases i with
      | none =>
        by_cases e : d = t
        · subst e; simp [push, look_eq]
        · simp [push, look_ne e, e]
      | some i =>
        by_cases e : d = t
        · subst e; simp [push, look_eq]
        · simp [push, look_ne e, e]
  · funext k; exact look_updS k S δ

def AgreeF (l : List Nat) (F : Frm) (σ : Sig) : Prop := ∀ t ∈ l, ∀ i, look t F = some i → σ.slot t = some i
def AgreeS (T : List Nat) (S : Sto) (σ : Sig) : Prop := ∀ k ∈ T, σ.sto k = lookS k S
def Sig.fresh (σ : Sig) (k : Nat) : Prop := (∀ t i, σ.slot t = some i → k ∉ i.tags) ∧ (∀ k' sb, σ.sto k' = some sb → k ∉ sb.tags)
def upon (P : Program) (K : Value → World → Prop) : Result Next → Prop
  | .ok (.value u) w' => K u w'
  | .ok .skip w' => K undef w'
  | .ok (.enter f args) w' => Calls P f args w' (fun e w'' => ∃ v, e = .returned v ∧ K v w'')
  | _ => False
def OpOk (c : Ctx) (P : Program) (ops : Array Oper) (o : Oper) (F : Frm) (S : Sto) (T N : List Nat) (i : Option IV) (δ : Chg) : Prop :=
  ∀ σ a w, AgreeF (o.looksAt ops) F σ → AgreeS T S σ → (∀ k ∈ N, σ.fresh k ∧ σ.sto k = none ∧ k ∉ c.pk) → Sat c σ a w →
    if Region.wanted o (yielded ops a.tmps) then upon P (fun u w' => Sat c (σ.upd o.dst i δ) (a.put o.dst u) w') ((execOp a.eval o).run P w)
    else Sat c (σ.upd o.dst i δ) (a.put o.dst undef) w

def hasTag (k : Nat) : List Nat → Bool
  | [] => false
  | j :: r => Nat.beq j k || hasTag k r
theorem hasTag_iff {k : Nat} : ∀ {l : List Nat}, hasTag k l = true ↔ k ∈ l
  | [] => by simp [hasTag]
  | j :: r => by
    simp only [hasTag, Bool.or_eq_true, hasTag_iff (l := r), List.mem_cons]
    constructor
    · rintro (h | h)
      · exact .inl (Nat.eq_of_beq_eq_true h).symm
      · exact .inr h
    · rintro (h | h)
      · subst h; simp
      · exact .inr h
def subl (l m : List Nat) : Bool := l.all fun k => hasTag k m
theorem subl_spec {l m : List Nat} (h : subl l m = true) : ∀ k ∈ l, k ∈ m := fun k hk => hasTag_iff.1 (List.all_eq_true.1 h k hk)
def disj (l m : List Nat) : Bool := l.all fun k => !hasTag k m
theorem disj_spec {l m : List Nat} (h : disj l m = true) : ∀ k ∈ l, k ∉ m := fun k hk hm => by
  have := List.all_eq_true.1 h k hk
  rw [hasTag_iff.2 hm] at this; cases this
def freshB (N : List Nat) (F : Frm) (S : Sto) : Bool :=
  N.all fun k => (F.all fun x => !hasTag k x.2.tags) && (S.all fun x => !Nat.beq x.1 k && !hasTag k x.2.tags)
theorem freshB_spec {N : List Nat} {F : Frm} {S : Sto} (h : freshB N F S = true) : ∀ k ∈ N, (mk F S).fresh k ∧ (mk F S).sto k = none := fun k hk => by
  have h1 := List.all_eq_true.1 h k hk
  rw [Bool.and_eq_true] at h1
  have h2 : ∀ k' sb, lookS k' S = some sb → k' ≠ k ∧ k ∉ sb.tags := fun k' sb hl => by
    have h3 := List.all_eq_true.1 h1.2 _ (look_mem (lookS_look hl))
    simp only [Bool.and_eq_true, Bool.not_eq_true'] at h3
    exact ⟨fun e => by subst e; simp at h3, fun hm => by rw [hasTag_iff.2 hm] at h3; cases h3.2⟩
  refine ⟨⟨fun t i hl hm => ?_, fun k' sb hl => (h2 k' sb hl).2⟩, ?_⟩
  · have h3 := List.all_eq_true.1 h1.1 _ (look_mem hl)
    simp only [Bool.not_eq_true'] at h3
    rw [hasTag_iff.2 hm] at h3; cases h3
  · cases hs : (mk F S).sto k with
    | none => rfl
    | some sb => exact absurd rfl (h2 k sb hs).1

section
variable {c : Ctx} {P : Program} {Q : Exit → Act → World → Prop} {F F' : Frm} {S S' : Sto} {ops : Array Oper} {o : Oper} {r : List Oper} {T N : List Nat} {i : Option IV} {δ : Chg}
theorem upon_wp {a : Act} {w : World} {K : Act → World → Prop} (h : upon P (fun u w' => K (a.put o.dst u) w') ((execOp a.eval o).run P w)) : o.wp P a w K Q := by
  unfold Oper.wp
  generalize (execOp a.eval o).run P w = r at h
  cases r with
  | ok nx w' =>
    cases nx <;> simp only [upon] at h <;> simp only [Oper.upon]
    case value u => exact h
    case skip => exact h
    case enter f' args =>
      refine h.mono fun e w'' ⟨v, he, hk⟩ => ?_
      subst he
      exact hk
  | halt x w' => simp only [upon] at h
def SL (c : Ctx) (P : Program) (ops : Array Oper) (Q : Exit → Act → World → Prop) (l : List Oper) (F : Frm) (S : Sto) : Prop := ∀ a w, Sat c (mk F S) a w → wpList P ops Q l a w
theorem W.region {id : Nat} {l : List Oper} (h : SL c P l.toArray Q l F S) : W c P (.region id l.toArray false) Q F S := fun a w ha => wp_region_lit (h a w ha)
theorem SL.nil (h : E c Q .normal F S) : SL c P ops Q [] F S := h
theorem SL.go (hg : OpOk c P ops o F S T N i δ) (hf : freshB N F S = true) (hp : disj N c.pk = true) (h : SL c P ops Q r (push o.dst i F) (updS δ S)) : SL c P ops Q (o :: r) F S := by
  intro a w ha
  have hfr := freshB_spec hf
  have := hg _ a w (fun _ _ _ hl => hl) (fun _ _ => rfl) (fun k hk => ⟨(hfr k hk).1, (hfr k hk).2, disj_spec hp k hk⟩) ha
  rw [← mk_upd] at this
  refine wpList_step fun K hK => ?_
  split
  · rename_i hw
    rw [if_pos hw] at this
    refine upon_wp ?_
    revert this
    generalize (execOp a.eval o).run P w = rr
    intro this
    cases rr with
    | ok nx w' =>
      cases nx <;> simp only [upon] at this ⊢
      case value u => exact hK _ _ (h _ _ this)
      case skip => exact hK _ _ (h _ _ this)
      case enter f' args => exact this.mono fun e w'' ⟨v, he, hk⟩ => ⟨v, he, hK _ _ (h _ _ hk)⟩
    | halt x w' => simp only [upon] at this
  · rename_i hw
    rw [if_neg hw] at this
    exact hK _ _ (h _ _ this)

structure Pl where
  T : List Nat
  Wr : List Nat
  N : List Nat
  M : List Nat
instance : Inhabited Pl := ⟨⟨[], [], [], []⟩⟩
def Pl.A (p : Pl) : List Nat := p.T ++ p.M
def tagsO : Option IV → List Nat
  | some i => i.tags
  | none => []
def keysC (δ : Chg) : List Nat := δ.map (·.1)
def tagsC : Chg → List Nat
  | [] => []
  | (_, some b) :: r => b.tags ++ tagsC r
  | (_, none) :: r => tagsC r
def WH (c : Ctx) (P : Program) (ops : Array Oper) (pl : List Pl) (Z : Frm → Sto → Prop) : Nat → List Oper → Frm → Sto → Prop
  | _, [], F, S => Z F S
  | m, o :: r, F, S => ∃ (i : Option IV) (δ : Chg), OpOk c P ops o F S (pl.getD m default).T (pl.getD m default).N i δ ∧
      subl (keysC δ) (pl.getD m default).Wr = true ∧ subl (tagsO i) (pl.getD m default).A = true ∧ subl (tagsC δ) (pl.getD m default).T = true ∧ WH c P ops pl Z (m + 1) r (push o.dst i F) (updS δ S)
theorem OpOk.wider {T' N' : List Nat} (h : OpOk c P ops o F S T N i δ) (hT : subl T T' = true) (hN : subl N N' = true) : OpOk c P ops o F S T' N' i δ :=
  fun σ a w h1 h2 h3 h4 => h σ a w h1 (fun k hk => h2 k (subl_spec hT k hk)) (fun k hk => h3 k (subl_spec hN k hk)) h4
theorem WH.go {pl : List Pl} {Z : Frm → Sto → Prop} {m : Nat} (hg : OpOk c P ops o F S T N i δ) (hT : subl T (pl.getD m default).T = true) (hN : subl N (pl.getD m default).N = true)
    (hk : subl (keysC δ) (pl.getD m default).Wr = true) (hi : subl (tagsO i) (pl.getD m default).A = true) (hd : subl (tagsC δ) (pl.getD m default).T = true)
    (h : WH c P ops pl Z (m + 1) r (push o.dst i F) (updS δ S)) : WH c P ops pl Z m (o :: r) F S := ⟨i, δ, hg.wider hT hN, hk, hi, hd, h⟩
theorem WH.nil {pl : List Pl} {Z : Frm → Sto → Prop} {m : Nat} (h : Z F S) : WH c P ops pl Z m [] F S := h

def allN : List Pl → List Nat
  | [] => []
  | p :: r => p.N ++ allN r
def ordB (ms : List Nat) (i j : Nat) : Bool := if Nat.blt i j then G.ahead ms i j else G.ahead ms j i
def planRow (ms : List Nat) (pl : List Pl) (h m : Nat) : Bool :=
  let p := pl.getD m default
  subl p.Wr p.T && (p.Wr.isEmpty && p.N.isEmpty || (List.range h).all fun j => Nat.beq j m || (let q := pl.getD j default
    (p.Wr.all fun k => !hasTag k q.T || ordB ms m j) && (p.N.all fun k => !hasTag k q.A || G.ahead ms m j)))
def planOk (ms : List Nat) (h : Nat) (pl : List Pl) : Bool := (List.range h).all fun m => planRow ms pl h m

structure PlanSpec (ms : List Nat) (h : Nat) (pl : List Pl) : Prop where
  sub : ∀ m, m < h → ∀ k ∈ (pl.getD m default).Wr, k ∈ (pl.getD m default).T
  wr : ∀ m j, m < h → j < h → j ≠ m → ∀ k ∈ (pl.getD m default).Wr, k ∈ (pl.getD j default).T → (m < j → G.ahead ms m j = true) ∧ (j < m → G.ahead ms j m = true)
  new : ∀ m j, m < h → j < h → j ≠ m → ∀ k ∈ (pl.getD m default).N, k ∈ (pl.getD j default).A → G.ahead ms m j = true
theorem planOk_spec {ms : List Nat} {h : Nat} {pl : List Pl} (hk : planOk ms h pl = true) : PlanSpec ms h pl := by
  have key : ∀ m, m < h → planRow ms pl h m = true := fun m hm => List.all_eq_true.1 hk m (List.mem_range.2 hm)
  have row : ∀ m j, m < h → j < h → j ≠ m → (pl.getD m default).Wr = [] ∧ (pl.getD m default).N = [] ∨
      ((∀ k ∈ (pl.getD m default).Wr, k ∈ (pl.getD j default).T → ordB ms m j = true) ∧ (∀ k ∈ (pl.getD m default).N, k ∈ (pl.getD j default).A → G.ahead ms m j = true)) := by
    intro m j hm hj hne
    have h1 := key m hm
    simp only [planRow, Bool.and_eq_true, Bool.or_eq_true, List.isEmpty_iff] at h1
    rcases h1.2 with h2 | h2
    · exact .inl h2
    · refine .inr ?_
      have h3 := List.all_eq_true.1 h2 j (List.mem_range.2 hj)
      simp only [Bool.or_eq_true, Bool.and_eq_true] at h3
      rcases h3 with h3 | ⟨h3, h4⟩
      · exact absurd (Nat.eq_of_beq_eq_true h3) hne
      · refine ⟨fun k hk hq => ?_, fun k hk hq => ?_⟩
        · have := List.all_eq_true.1 h3 k hk
          rw [hasTag_iff.2 hq] at this; simpa using this
        · have := List.all_eq_true.1 h4 k hk
          rw [hasTag_iff.2 hq] at this; simpa using this
  refine ⟨fun m hm k hk => ?_, fun m j hm hj hne k hk hq => ?_, fun m j hm hj hne k hk hq => ?_⟩
  · have h1 := key m hm
    simp only [planRow, Bool.and_eq_true] at h1
    exact subl_spec h1.1 k hk
  · rcases row m j hm hj hne with h1 | h1
    · rw [h1.1] at hk; cases hk
    · have := h1.1 k hk hq
      unfold ordB at this
      refine ⟨fun hlt => ?_, fun hlt => ?_⟩
      · rwa [if_pos (by simpa [Nat.blt_eq] using hlt)] at this
      · rwa [if_neg (by simp [Nat.blt_eq]; omega)] at this
  · rcases row m j hm hj hne with h1 | h1
    · rw [h1.2] at hk; cases hk
    · exact h1.2 k hk hq

def sg (σ0 : Sig) (dst : Nat → Option Nat) (inf : Nat → Option IV) (del : Nat → Chg) (L : Nat → Bool) : Nat → Sig
  | 0 => σ0
  | m + 1 => if L m then (sg σ0 dst inf del L m).upd (dst m) (inf m) (del m) else sg σ0 dst inf del L m
section
variable {σ0 : Sig} {dst : Nat → Option Nat} {inf : Nat → Option IV} {del : Nat → Chg} {L L' : Nat → Bool}
theorem upd_slot_ne {σ : Sig} {d : Option Nat} {j : Option IV} {δ : Chg} {t : Nat} (h : d ≠ some t) : (σ.upd d j δ).slot t = σ.slot t := if_neg h
theorem upd_sto_ne {σ : Sig} {d : Option Nat} {j : Option IV} {δ : Chg} {k : Nat} (h : look k δ = none) : (σ.upd d j δ).sto k = σ.sto k := by simp [Sig.upd, h]
theorem sg_slot_same {t : Nat} : ∀ {m : Nat}, (∀ j, j < m → dst j = some t → L j = L' j) → (sg σ0 dst inf del L m).slot t = (sg σ0 dst inf del L' m).slot t
  | 0, _ => rfl
  | m + 1, h => by
    have ih := sg_slot_same (m := m) fun j hj => h j xA
    by_cases e : dst m = some t
    · have := h m xA e
      simp only [sg, this]
      cases L' m
      · simpa using ih
      · simp [Sig.upd, e]
    · simp only [sg]
      split <;> split <;> (try simp only [upd_slot_ne e]) <;> exact ih
theorem sg_slot_tail {t m : Nat} : ∀ {h : Nat}, m ≤ h → (∀ j, m ≤ j → j < h → dst j = some t → L j = false) → (sg σ0 dst inf del L h).slot t = (sg σ0 dst inf del L m).slot t
  | 0, hm, _ => by rw [Nat.le_zero.1 hm]
  | h + 1, hm, hj => by
    rcases Nat.lt_or_ge h m with hlt | hge
    · rw [show m = h + 1 by omega]
    · have ih := sg_slot_tail (h := h) hge fun j h1 h2 => hj j h1 xA
      simp only [sg]
      split
      · rename_i hl
        rw [upd_slot_ne (fun e => by rw [hj h hge xA e] at hl; cases hl)]; exact ih
      · exact ih
theorem sg_sto_same {k : Nat} : ∀ {m : Nat}, (∀ j, j < m → look k (del j) ≠ none → L j = L' j) → (sg σ0 dst inf del L m).sto k = (sg σ0 dst inf del L' m).sto k
  | 0, _ => rfl
  | m + 1, h => by
    have ih := sg_sto_same (m := m) fun j hj => h j xA
    by_cases e : look k (del m) = none
    · simp only [sg]
      split <;> split <;> (try simp only [upd_sto_ne e]) <;> exact ih
    · have := h m xA e
      simp only [sg, this]
      cases L' m
      · simpa using ih
      · obtain ⟨x, hx⟩ := Option.ne_none_iff_exists'.1 e
        simp [Sig.upd, hx]
theorem sg_sto_tail {k m : Nat} : ∀ {h : Nat}, m ≤ h → (∀ j, m ≤ j → j < h → look k (del j) ≠ none → L j = false) → (sg σ0 dst inf del L h).sto k = (sg σ0 dst inf del L m).sto k
  | 0, hm, _ => by rw [Nat.le_zero.1 hm]
  | h + 1, hm, hj => by
    rcases Nat.lt_or_ge h m with hlt | hge
    · rw [show m = h + 1 by omega]
    · have ih := sg_sto_tail (h := h) hge fun j h1 h2 => hj j h1 xA
      simp only [sg]
      split
      · rename_i hl
        rw [upd_sto_ne (by
          cases hx : look k (del h) with
          | none => rfl
          | some x => rw [hj h hge xA (by rw [hx]; simp)] at hl; cases hl)]; exact ih
      · exact ih
theorem sg_slot_of {k : Nat} (h0 : ∀ t i, σ0.slot t = some i → k ∉ i.tags) : ∀ {m : Nat}, (∀ j, j < m → L j = true → k ∉ tagsO (inf j)) → ∀ t i, (sg σ0 dst inf del L m).slot t = some i → k ∉ i.tags
  | 0, _, t, i, hl => h0 t i hl
  | m + 1, h, t, i, hl => by
    simp only [sg] at hl
    split at hl
    · rename_i hL
      by_cases e : dst m = some t
      · have := h m xA hL
        simp only [Sig.upd, e, if_true, Option.some.injEq] at hl
        subst hl
        cases hi : inf m with
        | none => simp [IV.tags]
        | some i => rw [hi] at this; exact this
      · rw [upd_slot_ne e] at hl
        exact sg_slot_of h0 (fun j hj => h j xA) t i hl
    · exact sg_slot_of h0 (fun j hj => h j xA) t i hl
theorem mem_tagsC {k k' : Nat} {sb : SB} : ∀ {δ : Chg}, look k' δ = some (some sb) → k ∈ sb.tags → k ∈ tagsC δ
  | (j, some b) :: r, h, hk => by
    rw [tagsC, List.mem_append]
    by_cases e : j = k'
    · subst e; rw [look_eq] at h; cases h; exact .inl hk
    · rw [look_ne e] at h; exact .inr (mem_tagsC h hk)
  | (j, none) :: r, h, hk => by
    rw [tagsC]
    by_cases e : j = k'
    · subst e; rw [look_eq] at h; cases h
    · rw [look_ne e] at h; exact mem_tagsC h hk
theorem sg_sto_of {k : Nat} (h0 : ∀ t i, σ0.sto t = some i → k ∉ i.tags) : ∀ {m : Nat}, (∀ j, j < m → L j = true → k ∉ tagsC (del j)) → ∀ t i, (sg σ0 dst inf del L m).sto t = some i → k ∉ i.tags
  | 0, _, t, i, hl => h0 t i hl
  | m + 1, h, t, i, hl => by
    simp only [sg] at hl
    split at hl
    · rename_i hL
      cases hx : look t (del m) with
      | none => rw [upd_sto_ne hx] at hl; exact sg_sto_of h0 (fun j hj => h j xA) t i hl
      | some x =>
        simp only [Sig.upd, hx] at hl
        have : x = some i := by
          split at hl
          · cases hl
          · exact hl
        subst this
        exact fun hk => h m xA hL (mem_tagsC hx hk)
    · exact sg_sto_of h0 (fun j hj => h j xA) t i hl
theorem look_keys {k : Nat} : ∀ {δ : Chg}, look k δ ≠ none → k ∈ keysC δ
  | [], h => absurd rfl h
  | (j, b) :: r, h => by
    by_cases e : j = k
    · subst e; simp [keysC]
    · rw [look_ne e] at h
      have := look_keys h
      simp only [keysC, List.map_cons, List.mem_cons] at this ⊢
      exact .inr this
end

theorem WH.infos {pl : List Pl} {Z : Frm → Sto → Prop} : ∀ (l : List Oper) (m0 : Nat) (F : Frm) (S : Sto), WH c P ops pl Z m0 l F S →
    ∃ (inf : Nat → Option IV) (del : Nat → Chg) (Fs : Nat → Frm) (Ss : Nat → Sto), Fs 0 = F ∧ Ss 0 = S ∧ Z (Fs l.length) (Ss l.length) ∧ ∀ m o, l[m]? = some o →
      Fs (m + 1) = push o.dst (inf m) (Fs m) ∧ Ss (m + 1) = updS (del m) (Ss m) ∧
      OpOk c P ops o (Fs m) (Ss m) (pl.getD (m0 + m) default).T (pl.getD (m0 + m) default).N (inf m) (del m) ∧
      (∀ k ∈ keysC (del m), k ∈ (pl.getD (m0 + m) default).Wr) ∧ (∀ k ∈ tagsO (inf m), k ∈ (pl.getD (m0 + m) default).A) ∧ (∀ k ∈ tagsC (del m), k ∈ (pl.getD (m0 + m) default).T)
  | [], m0, F, S, h => ⟨fun _ => none, fun _ => [], fun _ => F, fun _ => S, rfl, rfl, h, fun m o hm => by simp at hm⟩
  | o :: r, m0, F, S, h => by
    obtain ⟨i, δ, hg, h1, h2, h3, hr⟩ := h
    obtain ⟨inf, del, Fs, Ss, e1, e2, e3, e4⟩ := WH.infos r (m0 + 1) _ _ hr
    refine ⟨fun m => match m with | 0 => i | m + 1 => inf m, fun m => match m with | 0 => δ | m + 1 => del m, fun m => match m with | 0 => F | m + 1 => Fs m, fun m => match m with | 0 => S | m + 1 => Ss m, rfl, rfl, e3, fun m o' hm => ?_⟩
    cases m with
    | zero =>
      simp only [List.getElem?_cons_zero, Option.some.injEq] at hm
      subst hm
      exact ⟨e1, e2, hg, subl_spec h1, subl_spec h2, subl_spec h3⟩
    | succ m =>
      simp only [List.getElem?_cons_succ] at hm
      have := e4 m o' hm
      rw [show m0 + 1 + m = m0 + (m + 1) by omega] at this
      exact this

theorem W.draw {id : Nat} {l : List Oper} (pl : List Pl) (hm : P.follows .mixedOrders = true) (hB : G.drawOk l.toArray l.length = true) (hk : planOk (G.masks l []) l.length pl = true)
    (hf : freshB (allN pl) F S = true) (hp : disj (allN pl) c.pk = true) (H : WH c P l.toArray pl (fun F' S' => E c Q .normal F' S') 0 l F S) : W c P (.region id l.toArray true) Q F S := by
  obtain ⟨inf, del, Fs, Ss, e1, e2, e3, e4⟩ := WH.infos l 0 F S H
  have hc := G.Chk.of hB
  have hpl := planOk_spec hk
  obtain ⟨ms, hms⟩ : ∃ ms, ms = G.masks l [] := ⟨_, rfl⟩
  rw [← hms] at hpl
  have hmk : G.MaskOk l.toArray ms := by rw [hms]; exact G.masks_ok l.toArray l [] (fun k => by simp) (fun _ _ j i hb => by simp at hb)
  obtain ⟨dst, hdst⟩ : ∃ dst : Nat → Option Nat, dst = fun m => (l[m]?).bind (·.dst) := ⟨_, rfl⟩
  have hd : ∀ m o, l[m]? = some o → dst m = o.dst := fun m o h => by rw [hdst]; simp [h]
  obtain ⟨σ0, hσ0⟩ : ∃ σ0, σ0 = mk F S := ⟨_, rfl⟩
  have hfull : ∀ m, m ≤ l.length → sg σ0 dst inf del (fun _ => true) m = mk (Fs m) (Ss m) := by
    intro m
    induction m with
    | zero => intro _; rw [e1, e2, hσ0]; rfl
    | succ m ih =>
      intro hle
      obtain ⟨q1, q2, _⟩ := e4 m l[m] (List.getElem?_eq_getElem xA)
      rw [q1, q2, mk_upd, sg, ih xA, hd m l[m] (List.getElem?_eq_getElem xA)]; rfl
  have h4 : ∀ m o, l[m]? = some o → OpOk c P l.toArray o (Fs m) (Ss m) (pl.getD m default).T (pl.getD m default).N (inf m) (del m) ∧
      (∀ k ∈ keysC (del m), k ∈ (pl.getD m default).Wr) ∧ (∀ k ∈ tagsO (inf m), k ∈ (pl.getD m default).A) ∧ (∀ k ∈ tagsC (del m), k ∈ (pl.getD m default).T) := fun m o h => by
    have := (e4 m o h).2.2
    simpa using this
  have hfr0 := freshB_spec hf
  have hN : ∀ (pl : List Pl) m k, k ∈ (pl.getD m default).N → k ∈ allN pl := by
    intro pl
    induction pl with
    | nil => intro m k hk; simp [default] at hk
    | cons p r ih =>
      intro m k hk
      rw [allN, List.mem_append]
      cases m with
      | zero => exact .inl (by simpa using hk)
      | succ m => exact .inr (ih m k (by simpa using hk))
  have main : ∀ f listed a w, HeadInv .any l.toArray l.length listed → Sat c (sg σ0 dst inf del (fun m => listed.getD m false) l.length) a w → G.cntU listed l.length = f →
      wpAny P .any l.toArray Q f listed a w := by
    intro f
    induction f with
    | zero =>
      intro listed a w hH hS hcn
      have hall := G.cntU_zero l.length hcn
      refine ⟨?_, ?_⟩
      · cases hr : Region.ready .any l.toArray listed with
        | nil => rfl
        | cons i r =>
          have hi : i ∈ Region.ready .any l.toArray listed := by rw [hr]; exact List.mem_cons_self
          obtain ⟨hiu, oi, hoi, _⟩ := mem_ready.1 hi
          have := hall i (by have := (Array.getElem?_eq_some_iff.1 hoi).1; simpa using this)
          rw [getD_both hiu] at this; cases this
      · have hE := e3 a w
        rw [← hfull l.length (Nat.le_refl _)] at hE
        refine hE ?_
        have : sg σ0 dst inf del (fun m => listed.getD m false) l.length = sg σ0 dst inf del (fun _ => true) l.length := by
          have h1 : ∀ t, (sg σ0 dst inf del (fun m => listed.getD m false) l.length).slot t = (sg σ0 dst inf del (fun _ => true) l.length).slot t := fun t => sg_slot_same fun j hj _ => hall j hj
          have h2 : ∀ t, (sg σ0 dst inf del (fun m => listed.getD m false) l.length).sto t = (sg σ0 dst inf del (fun _ => true) l.length).sto t := fun t => sg_sto_same fun j hj _ => hall j hj
          cases hA : sg σ0 dst inf del (fun m => listed.getD m false) l.length
          cases hB' : sg σ0 dst inf del (fun _ => true) l.length
          rw [hA, hB'] at h1 h2
          congr 1
          · funext t; exact h1 t
          · funext t; exact h2 t
        rwa [← this]
    | succ f ih =>
      intro listed a w hH hS hcn
      have hcl : G.Closed l.toArray listed := fun j o ho hl e he hb => hH.closed j o ho hl e he hb
      obtain ⟨i0, hi0, hu0, hmin⟩ := G.cntU_pos l.length (by omega : 0 < G.cntU listed l.length)
      have hr0 : i0 ∈ Region.ready .any l.toArray listed := by
        refine mem_ready.2 ⟨getD_in (by rw [hH.size]; simpa using hi0) hu0, l.toArray[i0]'(by simpa using hi0), Array.getElem?_eq_getElem (by simpa using hi0), fun e he hb => ?_⟩
        exact hmin _ (hc.back i0 _ (Array.getElem?_eq_getElem (by simpa using hi0)) e he hb)
      refine ⟨fun h0 => (by rw [h0] at hr0; cases hr0), fun i hi => ?_⟩
      obtain ⟨hiu, o, ho, hall⟩ := mem_ready.1 hi
      have his : i < l.length := by have := (Array.getElem?_eq_some_iff.1 ho).1; simpa using this
      have hol : l[i]? = some o := by simpa using ho
      have hiu' : listed.getD i false = false := getD_both hiu
      have hcl' : G.Closed l.toArray (listed.setIfInBounds i true) := fun j' o' ho' hl' e he hb => (hH.set hi his).closed j' o' ho' hl' e he hb
      have hseti : (listed.setIfInBounds i true).getD i false = true := by simp [hH.size, his]
      -- who is forced ahead of i is listed; who is listed is not forced behind i
      have hahead : ∀ j, G.ahead ms j i = true → j ≠ i → listed.getD j false = true := fun j hj hne => by
        have := hmk _ hcl' i j hj hseti
        rwa [getD_set_ne false (Ne.symm hne)] at this
      have hbehind : ∀ j, G.ahead ms i j = true → listed.getD j false = false := fun j hj => by
        cases hlj : listed.getD j false with
        | false => rfl
        | true => have := hmk listed hcl j i hj hlj; rw [hiu'] at this; cases this
      have hnm := fun t ht j oj (hj : j < l.length) (hoj : l[j]? = some oj) hdj hne => hc.names i o his ho t ht j oj hj (by simpa using hoj) hdj hne
      obtain ⟨hop, hWr, hTi, hTd⟩ := h4 i o hol
      have getl : ∀ j, j < l.length → ∃ oj, l[j]? = some oj := fun j hj => ⟨l[j], List.getElem?_eq_getElem hj⟩
      have hA : AgreeF (o.looksAt l.toArray) (Fs i) (sg σ0 dst inf del (fun m => listed.getD m false) l.length) := by
        intro t ht j hl
        have hl' : (mk (Fs i) (Ss i)).slot t = some j := hl
        rw [← hl', ← hfull i xA]
        rw [sg_slot_tail (m := i) xA (fun q h1 h2 hdq => ?_)]
        · refine sg_slot_same fun q hq hdq => ?_
          obtain ⟨oq, hoq⟩ := getl q xA
          rw [hd q oq hoq] at hdq
          have := (hnm t (List.mem_append_left _ ht) q oq xA hoq hdq xA _ hcl').1 hq hseti
          rwa [getD_set_ne false xA] at this
        · obtain ⟨oq, hoq⟩ := getl q h2
          rw [hd q oq hoq] at hdq
          rcases Nat.lt_or_ge i q with hlt | hge
          · cases hlq : listed.getD q false with
            | false => rfl
            | true =>
              have := (hnm t (List.mem_append_left _ ht) q oq h2 hoq hdq xA listed hcl).2 hlt hlq
              rw [hiu'] at this; cases this
          · rw [show q = i by omega]; exact hiu'
      have hB2 : AgreeS (pl.getD i default).T (Ss i) (sg σ0 dst inf del (fun m => listed.getD m false) l.length) := by
        intro k hk
        have : lookS k (Ss i) = (mk (Fs i) (Ss i)).sto k := rfl
        rw [this, ← hfull i xA]
        rw [sg_sto_tail (m := i) xA (fun q h1 h2 hdq => ?_)]
        · refine sg_sto_same fun q hq hdq => ?_
          obtain ⟨oq, hoq⟩ := getl q xA
          have h5 := (h4 q oq hoq).2.1 k (look_keys hdq)
          exact hahead q ((hpl.wr q i xA his xA k h5 hk).1 hq) xA
        · obtain ⟨oq, hoq⟩ := getl q h2
          rcases Nat.lt_or_ge i q with hlt | hge
          · have h5 := (h4 q oq hoq).2.1 k (look_keys hdq)
            exact hbehind q ((hpl.wr q i h2 his xA k h5 hk).2 hlt)
          · rw [show q = i by omega]; exact hiu'
      have hnT : ∀ k ∈ (pl.getD i default).N, ∀ j, j < l.length → listed.getD j false = true → k ∉ (pl.getD j default).A := fun k hk j hj hlj hin => by
        have hne : j ≠ i := fun e => by subst e; rw [hiu'] at hlj; cases hlj
        have := hbehind j (hpl.new i j his hj hne k hk hin)
        rw [hlj] at this; cases this
      have hfresh : ∀ k ∈ (pl.getD i default).N, (sg σ0 dst inf del (fun m => listed.getD m false) l.length).fresh k ∧ (sg σ0 dst inf del (fun m => listed.getD m false) l.length).sto k = none ∧ k ∉ c.pk := by
        intro k hk
        obtain ⟨⟨q1, q2⟩, q3⟩ := hfr0 k (hN pl i k hk)
        rw [← hσ0] at q1 q2 q3
        refine ⟨⟨sg_slot_of q1 fun j hj hlj hin => ?_, sg_sto_of q2 fun j hj hlj hin => ?_⟩, ?_, disj_spec hp k (hN pl i k hk)⟩
        · obtain ⟨oj, hoj⟩ := getl j hj
          exact hnT k hk j hj hlj ((h4 j oj hoj).2.2.1 k hin)
        · obtain ⟨oj, hoj⟩ := getl j hj
          exact hnT k hk j hj hlj (List.mem_append_left _ ((h4 j oj hoj).2.2.2 k hin))
        · rw [sg_sto_tail (m := 0) (Nat.zero_le _) (fun q _ h2 hdq => ?_)]
          · exact q3
          · cases hlq : listed.getD q false with
            | false => rfl
            | true =>
              obtain ⟨oq, hoq⟩ := getl q h2
              have h5 := (h4 q oq hoq).2.1 k (look_keys hdq)
              exact absurd (List.mem_append_left _ (hpl.sub q h2 k h5)) (hnT k hk q h2 hlq)
      have hsig : (sg σ0 dst inf del (fun m => listed.getD m false) l.length).upd o.dst (inf i) (del i) = sg σ0 dst inf del (fun m => (listed.setIfInBounds i true).getD m false) l.length := by
        have hset : ∀ j, j ≠ i → (listed.setIfInBounds i true).getD j false = listed.getD j false := fun j hj => getD_set_ne false (Ne.symm hj)
        have h1 : ∀ t, ((sg σ0 dst inf del (fun m => listed.getD m false) l.length).upd o.dst (inf i) (del i)).slot t = (sg σ0 dst inf del (fun m => (listed.setIfInBounds i true).getD m false) l.length).slot t := by
          intro t
          by_cases e : o.dst = some t
          · rw [sg_slot_tail (L := fun m => (listed.setIfInBounds i true).getD m false) (m := i + 1) xA (fun q h1 h2 hdq => ?_)]
            · simp [Sig.upd, e, sg, hseti, hd i o hol]
            · rw [hset q xA]
              obtain ⟨oq, hoq⟩ := getl q h2
              rw [hd q oq hoq] at hdq
              cases hlq : listed.getD q false with
              | false => rfl
              | true =>
                have := (hnm t (List.mem_append_right _ (by simp [e])) q oq h2 hoq hdq xA listed hcl).2 xA hlq
                rw [hiu'] at this; cases this
          · rw [upd_slot_ne e]
            refine sg_slot_same fun q _ hdq => ?_
            refine (hset q fun e2 => ?_).symm
            subst e2
            rw [hd q o hol] at hdq; exact e hdq
        have h2 : ∀ t, ((sg σ0 dst inf del (fun m => listed.getD m false) l.length).upd o.dst (inf i) (del i)).sto t = (sg σ0 dst inf del (fun m => (listed.setIfInBounds i true).getD m false) l.length).sto t := by
          intro t
          cases hx : look t (del i) with
          | none =>
            rw [upd_sto_ne hx]
            refine sg_sto_same fun q _ hdq => ?_
            refine (hset q fun e2 => ?_).symm
            subst e2
            exact hdq hx
          | some x =>
            have hin : t ∈ (pl.getD i default).T := hpl.sub i his t (hWr t (look_keys (by rw [hx]; simp)))
            rw [sg_sto_tail (L := fun m => (listed.setIfInBounds i true).getD m false) (m := i + 1) xA (fun q h1 h2 hdq => ?_)]
            · simp [Sig.upd, hx, sg, hseti]
            · rw [hset q xA]
              obtain ⟨oq, hoq⟩ := getl q h2
              have h5 := (h4 q oq hoq).2.1 t (look_keys hdq)
              exact hbehind q ((hpl.wr q i h2 his xA t h5 hin).2 xA)
        cases hA' : (sg σ0 dst inf del (fun m => listed.getD m false) l.length).upd o.dst (inf i) (del i)
        cases hB' : sg σ0 dst inf del (fun m => (listed.setIfInBounds i true).getD m false) l.length
        rw [hA', hB'] at h1 h2
        congr 1
        · funext t; exact h1 t
        · funext t; exact h2 t
      have hres := hop _ a w hA hB2 hfresh hS
      rw [hsig] at hres
      have hcn' : G.cntU (listed.setIfInBounds i true) l.length = f := by
        have := G.cntU_set (listed := listed) (i := i) (by rw [hH.size]; simpa using his) hiu' l.length his
        omega
      have hH' := hH.set hi his
      unfold wpOp
      simp only [ho]
      split
      · rename_i hw
        rw [if_pos hw] at hres
        refine .inl (upon_wp ?_)
        revert hres
        generalize (execOp a.eval o).run P w = rr
        intro hres
        cases rr with
        | ok nx w' =>
          cases nx <;> simp only [upon] at hres ⊢
          case value u => exact ih _ _ _ hH' hres hcn'
          case skip => exact ih _ _ _ hH' hres hcn'
          case enter f' args => exact hres.mono fun e w'' ⟨v, he, hk⟩ => ⟨v, he, ih _ _ _ hH' hk hcn'⟩
        | halt x w' => simp only [upon] at hres
      · rename_i hw
        rw [if_neg hw] at hres
        exact ih _ _ _ hH' hres hcn'
  intro a w ha
  refine wp_region_any hm ?_
  have hstart : HeadInv .any l.toArray l.length (Array.replicate l.toArray.size false) :=
    ⟨by simp, fun j oj _ hl => (by rw [getD_replicate_false] at hl; cases hl), fun t _ ht => getD_in (by simpa using ht) (getD_replicate_false _ _)⟩
  have hcn := G.cntU_new l.toArray.size l.length
  have := main l.length (Array.replicate l.toArray.size false) a { w with drawn := w.drawn + 1 } hstart ?_ (by simpa using hcn)
  · simpa using this
  · have hz : sg σ0 dst inf del (fun m => (Array.replicate l.toArray.size false).getD m false) l.length = mk F S := by
      rw [← hσ0]
      have h0 : ∀ m, sg σ0 dst inf del (fun m => (Array.replicate l.toArray.size false).getD m false) m = σ0 := by
        intro m
        induction m with
        | zero => rfl
        | succ m ih => rw [sg, ih, getD_replicate_false]; rfl
      exact h0 _
    rw [hz]
    obtain ⟨τ, h⟩ := ha
    refine ⟨τ, h.size, h.defers, Gr.trans h.gr (Gr.of_ext (Ext.draw w)), fun t i hl => ?_, fun k sb hl => ?_, h.inj, h.own, h.pin⟩
    · obtain ⟨u, h1, h2⟩ := h.slot t i hl
      exact ⟨u, h1, h2.mono (Nat.le_refl _) (fun b hb _ => ⟨hb, rfl⟩) (fun _ _ => rfl)⟩
    · exact (h.sto k sb hl).mono (Nat.le_refl _) (fun b hb _ => ⟨hb, rfl⟩) (fun _ _ => rfl) rfl (fun _ _ => rfl)
end
end Go.H
end
section
namespace Go.H
open Go Go.RowKit
open Go.G (Ext Gr Blk)

def actF (a : Act) : G.Frm := (List.range a.tmps.size).map fun t => (t, .val (a.tmps.getD t undef))
theorem look_rangeF (a : Act) (t : Nat) : ∀ (l : List Nat), (t ∈ l → G.look t (l.map fun t => (t, G.Info.val (a.tmps.getD t undef))) = some (.val (a.tmps.getD t undef))) ∧
    (∀ i, G.look t (l.map fun t => (t, G.Info.val (a.tmps.getD t undef))) = some i → i = .val (a.tmps.getD t undef))
  | [] => ⟨fun h => by simp at h, fun i h => by simp [G.look] at h⟩
  | s :: l => by
    have ih := look_rangeF a t l
    refine ⟨fun h => ?_, fun i h => ?_⟩
    · rw [List.map_cons]
      by_cases e : s = t
      · subst e; rw [G.look_cons_eq]
      · rw [G.look_cons_ne e]; exact ih.1 (by simpa [Ne.symm e] using h)
    · rw [List.map_cons] at h
      by_cases e : s = t
      · subst e; rw [G.look_cons_eq] at h; exact (Option.some.inj h).symm
      · rw [G.look_cons_ne e] at h; exact ih.2 i h
theorem actF_of {a : Act} {x : Operand} {u : Value} (h : G.ev (actF a) x = some u) : a.eval x = u := by
  cases x with
  | tmp t =>
    simp only [G.ev] at h
    cases hl : G.look t (actF a) with
    | none => simp [hl] at h
    | some i =>
      have := (look_rangeF a t _).2 i hl
      subst this
      simp [hl] at h
      simpa [Act.eval] using h
  | const v => simp [G.ev] at h; simp [Act.eval, h]
  | global g => simp [G.ev] at h; simp [Act.eval, h]
  | func f => simp [G.ev] at h; simp [Act.eval, h]
theorem actF_ev {a : Act} {x : Operand} (h : ∀ t, x = .tmp t → t < a.tmps.size) : G.ev (actF a) x = some (a.eval x) := by
  cases x with
  | tmp t =>
    have : G.look t (actF a) = some (.val (a.tmps.getD t undef)) := (look_rangeF a t _).1 (List.mem_range.2 (h t rfl))
    simp only [G.ev, this]; rfl
  | const v => rfl
  | global g => rfl
  | func f => rfl

section
variable {c : Ctx} {P : Program} {F : Frm} {S : Sto} {ops : Array Oper} {T N : List Nat} {d : Nat} {op : Go.Op} {ty : TypeId} {pos : String} {af : Array Edge} {gd : Option (Nat × Bool)}
  {σ : Sig} {τ : Nat → Value} {a : Act} {w : World}

theorem mem_looksAt {o : Oper} {x : Operand} {t : Nat} (hm : x ∈ o.op.operands) (e : x = .tmp t) : t ∈ o.looksAt ops := by
  subst e
  unfold Oper.looksAt
  rw [List.mem_append]
  exact .inl (List.mem_filterMap.2 ⟨_, by simpa using hm, rfl⟩)
theorem SatT.opd {o : Oper} {x : Operand} {i : IV} (h : SatT c σ τ a w) (hA : AgreeF (o.looksAt ops) F σ) (hm : x ∈ o.op.operands) (hx : ev F x = some i) :
    RepI τ w (okOf c τ σ.sto) i (a.eval x) ∧ G.ev (actF a) x = some (a.eval x) := by
  cases x with
  | tmp t =>
    obtain ⟨u, h1, h2⟩ := h.slot t i (hA t (mem_looksAt hm rfl) i hx)
    have e : a.eval (.tmp t) = u := by simp [Act.eval, h1]
    rw [e]
    refine ⟨h2, ?_⟩
    rw [actF_ev (fun s hs => by cases hs; exact (Array.getElem?_eq_some_iff.1 h1).1), e]
  | const v => simp only [ev, Option.some.injEq] at hx; subst hx; exact ⟨.u (.sc v), rfl⟩
  | global g => simp only [ev, Option.some.injEq] at hx; subst hx; exact ⟨.u (.sc _), rfl⟩
  | func f => simp only [ev, Option.some.injEq] at hx; subst hx; exact ⟨.u (.sc _), rfl⟩
theorem SatT.sc {o : Oper} {x : Operand} {v : Value} (h : SatT c σ τ a w) (hA : AgreeF (o.looksAt ops) F σ) (hm : x ∈ o.op.operands) (hx : ev F x = some (.u (.sc v))) : a.eval x = v ∧ G.ev (actF a) x = some v := by
  obtain ⟨h1, h2⟩ := h.opd hA hm hx
  cases h1 with
  | u h1 =>
    generalize a.eval x = u at h1 h2
    cases h1
    exact ⟨rfl, h2⟩

def Taken (ops : Array Oper) (F : Frm) : Option (Nat × Bool) → Prop
  | none => True
  | some (j, want) => ∃ g b, (ops[j]?).bind (·.dst) = some g ∧ look g F = some (.u (.sc (.bool b))) ∧ b = want
theorem Taken.no : Taken ops F none := trivial
theorem Taken.yes {j g : Nat} {b want : Bool} (hj : (ops[j]?).bind (·.dst) = some g) (hg : look g F = some (.u (.sc (.bool b)))) (hb : b = want) : Taken ops F (some (j, want)) := ⟨g, b, hj, hg, hb⟩
theorem yields_of {o : Oper} {j g : Nat} {b want : Bool} (h : SatT c σ τ a w) (hA : AgreeF (o.looksAt ops) F σ) (ho : o.guard = some (j, want)) (hj : (ops[j]?).bind (·.dst) = some g) (hg : look g F = some (.u (.sc (.bool b)))) :
    yielded ops a.tmps j = some b := by
  obtain ⟨u, h1, h2⟩ := h.slot g _ (hA g (G.mem_looks ho hj) _ hg)
  cases h2 with
  | u h2 =>
    cases h2
    exact G.yields_of (F := [(g, .val (.bool b))]) hj (by simp [G.look]) (w := w) (fun i hi => ⟨_, h1, by simp [G.look] at hi; subst hi; rfl⟩)
theorem wanted_of {o : Oper} (h : SatT c σ τ a w) (hA : AgreeF (o.looksAt ops) F σ) (hg : Taken ops F o.guard) : Region.wanted o (yielded ops a.tmps) = true := by
  cases hgd : o.guard with
  | none => simp [Region.wanted, hgd]
  | some q =>
    obtain ⟨j, want⟩ := q
    rw [hgd] at hg
    obtain ⟨g, b, hj, hl, hb⟩ := hg
    simp [Region.wanted, hgd, yields_of h hA hgd hj hl, hb]

theorem SatT.put {d : Nat} {i : IV} {u : Value} (h : SatT c σ τ a w) (hd : d < c.n) (hi : RepI τ w (okOf c τ σ.sto) i u) : SatT c (σ.upd (some d) (some i) []) τ (a.put (some d) u) w := by
  refine ⟨by simp [Act.put, h.size], by simp [Act.put, h.defers], h.gr, fun t j hl => ?_, h.sto, h.inj, h.own, h.pin⟩
  by_cases e : d = t
  · subst e
    simp only [Sig.upd, if_true, Option.getD_some, Option.some.injEq] at hl
    subst hl
    exact ⟨u, by simp [Act.put, h.size, hd], hi⟩
  · rw [upd_slot_ne (by simpa using e)] at hl
    obtain ⟨v, h1, h2⟩ := h.slot t j hl
    exact ⟨v, by simp [Act.put, Array.getElem?_setIfInBounds_ne e, h1], h2⟩

theorem OpOk.val {i : IV} (hd : Nat.blt d c.n = true) (hg : Taken ops F gd)
    (H : ∀ σ τ a w, AgreeF ((⟨some d, op, ty, pos, af, gd⟩ : Oper).looksAt ops) F σ → AgreeS T S σ → SatT c σ τ a w →
      ∃ v, (execOp a.eval ⟨some d, op, ty, pos, af, gd⟩).run P w = .ok (.value v) w ∧ RepI τ w (okOf c τ σ.sto) i v) : OpOk c P ops ⟨some d, op, ty, pos, af, gd⟩ F S T N (some i) [] := by
  intro σ a w hA hB _ hS
  obtain ⟨τ, h⟩ := hS
  rw [if_pos (wanted_of h hA hg)]
  obtain ⟨v, h1, h2⟩ := H σ τ a w hA hB h
  rw [h1]
  exact ⟨τ, h.put wN h2⟩
theorem OpOk.not {j g : Nat} {b want : Bool} {d : Option Nat} (hd : (match d with | some d => Nat.blt d c.n | none => true) = true) (hj : (ops[j]?).bind (·.dst) = some g) (hg : look g F = some (.u (.sc (.bool b)))) (hb : b ≠ want) :
    OpOk c P ops ⟨d, op, ty, pos, af, some (j, want)⟩ F S T N (some (.u (.sc undef))) [] := by
  intro σ a w hA hB _ hS
  obtain ⟨τ, h⟩ := hS
  rw [if_neg (by simp [Region.wanted, yields_of h hA rfl hj hg, hb])]
  cases d with
  | none => exact ⟨τ, h⟩
  | some d => exact ⟨τ, h.put (i := .u (.sc undef)) wN (.u (.sc _))⟩
theorem OpOk.not2 {j g : Nat} {want : Bool} {d : Option Nat} (hd : (match d with | some d => Nat.blt d c.n | none => true) = true) (hj : (ops[j]?).bind (·.dst) = some g) (hg : look g F = some (.u (.sc undef))) :
    OpOk c P ops ⟨d, op, ty, pos, af, some (j, want)⟩ F S T N (some (.u (.sc undef))) [] := by
  intro σ a w hA hB _ hS
  obtain ⟨τ, h⟩ := hS
  have hy : yielded ops a.tmps j = none := by
    obtain ⟨u, h1, h2⟩ := h.slot g _ (hA g (G.mem_looks (o := ⟨d, op, ty, pos, af, some (j, want)⟩) rfl hj) _ hg)
    cases h2 with
    | u h2 => cases h2; simp [yielded, hj, h1, undef]
  rw [if_neg (by simp [Region.wanted, hy])]
  cases d with
  | none => exact ⟨τ, h⟩
  | some d => exact ⟨τ, h.put (i := .u (.sc undef)) wN (.u (.sc _))⟩

def conv : IV → G.Info
  | .u (.sc v) => .val v
  | _ => .pred fun _ _ => True
theorem conv_val {i : IV} {v : Value} (h : conv i = .val v) : i = .u (.sc v) := by
  unfold conv at h
  split at h
  · cases h; rfl
  · cases h
def scal : Frm → G.Frm
  | [] => []
  | (t, i) :: r => (t, conv i) :: scal r
theorem scal_look {t : Nat} {v : Value} : ∀ {F : Frm}, G.look t (scal F) = some (.val v) → look t F = some (.u (.sc v))
  | [], h => by simp [scal, G.look] at h
  | (s, i) :: r, h => by
    rw [scal] at h
    by_cases e : s = t
    · subst e
      rw [G.look_cons_eq] at h
      rw [look_eq, conv_val (Option.some.inj h)]
    · rw [G.look_cons_ne e] at h; rw [look_ne e]; exact scal_look h
theorem scal_ev {x : Operand} {v : Value} (h : G.ev (scal F) x = some v) : ev F x = some (.u (.sc v)) := by
  cases x with
  | tmp t =>
    simp only [G.ev] at h
    cases hl : G.look t (scal F) with
    | none => simp [hl] at h
    | some i =>
      cases i with
      | val u => simp [hl] at h; subst h; exact scal_look hl
      | pred φ => simp [hl] at h
  | const v => simp [G.ev] at h; simp [ev, h]
  | global g => simp [G.ev] at h; simp [ev, h]
  | func f => simp [G.ev] at h; simp [ev, h]
theorem O.det {v : Value} (hr : ∀ w, G.Runs P w (scal F) op ty v) (hd : Nat.blt d c.n = true) (hg : Taken ops F gd) : OpOk c P ops ⟨some d, op, ty, pos, af, gd⟩ F S [] [] (some (.u (.sc v))) [] :=
  OpOk.val hd hg fun _ _ a w hA _ h => ⟨v, hr w ⟨some d, op, ty, pos, af, gd⟩ a.eval rfl rfl (fun _ hm _ hx => (h.sc hA hm (scal_ev hx)).1), .u (.sc v)⟩
theorem OpOk.runs {i : IV} (hd : Nat.blt d c.n = true) (hg : Taken ops F gd)
    (H : ∀ σ τ a w, AgreeF ((⟨some d, op, ty, pos, af, gd⟩ : Oper).looksAt ops) F σ → AgreeS T S σ → SatT c σ τ a w → ∃ v, G.Runs P w (actF a) op ty v ∧ RepI τ w (okOf c τ σ.sto) i v) :
    OpOk c P ops ⟨some d, op, ty, pos, af, gd⟩ F S T N (some i) [] :=
  OpOk.val hd hg fun σ τ a w hA hB h => let ⟨v, h1, h2⟩ := H σ τ a w hA hB h; ⟨v, h1 ⟨some d, op, ty, pos, af, gd⟩ a.eval rfl rfl (fun _ _ _ hx => actF_of hx), h2⟩

theorem O.move {x : Operand} {i : IV} (hx : ev F x = some i) (hd : Nat.blt d c.n = true) (hg : Taken ops F gd) : OpOk c P ops ⟨some d, .move x, ty, pos, af, gd⟩ F S [] [] (some i) [] :=
  OpOk.runs hd hg fun σ τ a w hA _ h => let ⟨h1, h2⟩ := h.opd hA xH hx; ⟨_, G.R.move h2, h1⟩
theorem O.assign {x : Operand} {i : IV} (hx : ev F x = some i) (hd : Nat.blt d c.n = true) (hg : Taken ops F gd) : OpOk c P ops ⟨some d, .assign x, ty, pos, af, gd⟩ F S [] [] (some i) [] :=
  OpOk.runs hd hg fun σ τ a w hA _ h => let ⟨h1, h2⟩ := h.opd hA xH hx; ⟨_, G.R.assign h2, h1⟩
theorem O.pick_t {q x y : Operand} {i : IV} {b : Bool} (hq : ev F q = some (.u (.sc (.bool b)))) (hb : b = true) (hx : ev F x = some i) (hd : Nat.blt d c.n = true) (hg : Taken ops F gd) : OpOk c P ops ⟨some d, .pick q x y, ty, pos, af, gd⟩ F S [] [] (some i) [] :=
  OpOk.runs hd hg fun σ τ a w hA _ h => let ⟨h1, h2⟩ := h.opd hA xH hx; ⟨_, G.R.pick_t (h.sc hA xH hq).2 hb h2, h1⟩
theorem O.pick_f {q x y : Operand} {i : IV} {b : Bool} (hq : ev F q = some (.u (.sc (.bool b)))) (hb : b = false) (hy : ev F y = some i) (hd : Nat.blt d c.n = true) (hg : Taken ops F gd) : OpOk c P ops ⟨some d, .pick q x y, ty, pos, af, gd⟩ F S [] [] (some i) [] :=
  OpOk.runs hd hg fun σ τ a w hA _ h => let ⟨h1, h2⟩ := h.opd hA xH hy; ⟨_, G.R.pick_f (h.sc hA xH hq).2 hb h2, h1⟩

def IV.part : IV → Nat → Option IV
  | .tup is, k => is[k]?
  | .u (.tup us), k => (us[k]?).map .u
  | .u (.sc (.tuple vs)), k => (vs[k]?).map fun v => .u (.sc v)
  | _, _ => none
theorem RepI.part {ok : Nat → Prop} {i j : IV} {k : Nat} {v : Value} (h : RepI τ w ok i v) (hj : i.part k = some j) : ∃ vs u, v = .tuple vs ∧ vs[k]? = some u ∧ RepI τ w ok j u := by
  cases h with
  | u h =>
    cases h with
    | sc v =>
      cases v <;> simp [IV.part] at hj
      rename_i vs
      obtain ⟨x, h1, h2⟩ := hj
      subst h2
      exact ⟨vs, x, rfl, h1, .u (.sc x)⟩
    | tup hl hg =>
      rename_i us vs
      simp only [IV.part, Option.map_eq_some_iff] at hj
      obtain ⟨u, h1, rfl⟩ := hj
      have hk : k < vs.length := by rw [← hl]; exact (List.getElem?_eq_some_iff.1 h1).1
      exact ⟨_, vs[k], rfl, by simp [hk], .u (hg k u _ h1 (List.getElem?_eq_getElem hk))⟩
    | agg hl hg => simp [IV.part] at hj
    | sl0 _ => simp [IV.part] at hj
    | sl => simp [IV.part] at hj
    | ptr => simp [IV.part] at hj
    | clo => simp [IV.part] at hj
  | tup hl hg =>
    rename_i us vs
    simp only [IV.part] at hj
    have hk : k < vs.length := by rw [← hl]; exact (List.getElem?_eq_some_iff.1 hj).1
    exact ⟨_, vs[k], rfl, by simp [hk], hg k j _ hj (List.getElem?_eq_getElem hk)⟩
  | own => simp [IV.part] at hj
  | ref => simp [IV.part] at hj
  | el => simp [IV.part] at hj
  | osl => simp [IV.part] at hj
  | row => simp [IV.part] at hj
  | rel => simp [IV.part] at hj
  | agg => simp [IV.part] at hj
  | clo => simp [IV.part] at hj
  | junk => simp [IV.part] at hj
theorem O.extract {x : Operand} {i j : IV} {k : Nat} (hx : ev F x = some i) (hj : i.part k = some j) (hd : Nat.blt d c.n = true) (hg : Taken ops F gd) : OpOk c P ops ⟨some d, .extract x k, ty, pos, af, gd⟩ F S [] [] (some j) [] :=
  OpOk.runs hd hg fun σ τ a w hA _ h => by
    obtain ⟨h1, h2⟩ := h.opd hA xH hx
    obtain ⟨vs, u, e, q1, q2⟩ := h1.part hj
    rw [e] at h2
    exact ⟨u, G.R.extract h2 q1, q2⟩

def IV.cells : IV → List IV
  | .agg is => is
  | .u (.agg us) => us.map .u
  | .u (.sc v) => v.cells.toList.map fun v => .u (.sc v)
  | .junk => []
  | i => [i]
theorem AllI.single {ok : Nat → Prop} {i : IV} {v : Value} (h : RepI τ w ok i v) : AllI τ w ok [i] [v] :=
  ⟨rfl, fun k u x h1 h2 => by
    cases k with
    | zero => simp at h1 h2; subst h1; subst h2; exact h
    | succ k => simp at h1⟩
theorem AllI.ofU {ok : Nat → Prop} {us : List UV} {vs : List Value} (h : AllU w ok us vs) : AllI τ w ok (us.map .u) vs :=
  ⟨by simpa using h.1, fun k u x h1 h2 => by
    rw [List.getElem?_map, Option.map_eq_some_iff] at h1
    obtain ⟨q, h1, rfl⟩ := h1
    exact .u (h.2 k q x h1 h2)⟩
theorem RepI.cells {ok : Nat → Prop} {i : IV} {v : Value} (h : RepI τ w ok i v) (hj : i ≠ .junk) : AllI τ w ok i.cells v.cells.toList := by
  have h0 := h
  cases h with
  | u h =>
    cases h with
    | sc v =>
      refine ⟨by simp [IV.cells], fun k u x h1 h2 => ?_⟩
      simp only [IV.cells, List.getElem?_map, h2, Option.map_some, Option.some.injEq] at h1
      subst h1
      exact .u (.sc x)
    | agg hl hg => simpa [IV.cells, Value.cells] using AllI.ofU (τ := τ) (w := w) (ok := ok) ⟨hl, hg⟩
    | tup hl hg => exact AllI.single h0
    | sl0 _ => exact AllI.single h0
    | sl => exact AllI.single h0
    | ptr => exact AllI.single h0
    | clo => exact AllI.single h0
  | agg hl hg =>
    rename_i us vs
    show AllI τ w ok us vs.toArray.toList
    rw [List.toList_toArray]
    exact ⟨hl, hg⟩
  | own k h =>
    have e : (τ k).cells.toList = [τ k] := by cases hv : τ k <;> simp [hv, Value.oneCell'] at h <;> rfl
    rw [e]; exact AllI.single h0
  | osl h h1 h2 => exact AllI.single h0
  | row h => exact AllI.single h0
  | rel h => exact AllI.single h0
  | tup => exact AllI.single h0
  | ref => exact AllI.single h0
  | el => exact AllI.single h0
  | clo => exact AllI.single h0
  | junk => exact absurd rfl hj
theorem RepI.isOne {ok : Nat → Prop} {i : IV} {v : Value} (h : RepI τ w ok i v) (ho : i.one = true) : v.oneCell' = true := by
  cases h with
  | u h =>
    cases h with
    | sc v => exact ho
    | agg => simp [IV.one, UV.one] at ho
    | tup => simp [IV.one, UV.one] at ho
    | sl0 => rfl
    | sl => rfl
    | ptr => rfl
    | clo => rfl
  | own k h => exact h
  | ref => rfl
  | el => rfl
  | osl => rfl
  | row => rfl
  | rel => rfl
  | agg => simp [IV.one] at ho
  | tup => simp [IV.one] at ho
  | clo => rfl
  | junk => simp [IV.one] at ho
theorem AllI.ones {ok : Nat → Prop} {is : List IV} {vs : List Value} (h : AllI τ w ok is vs) (ho : is.all IV.one = true) : G.cells1 vs = true := by
  refine List.all_eq_true.2 fun v hv => ?_
  obtain ⟨k, hk, e⟩ := List.mem_iff_getElem.1 hv
  have hk' : k < is.length := by rw [h.1]; exact hk
  exact (h.2 k is[k] v (List.getElem?_eq_getElem hk') (by rw [List.getElem?_eq_getElem hk, e])).isOne (List.all_eq_true.1 ho _ (List.getElem_mem hk'))

def IV.fld : IV → Nat → Option IV
  | .agg is, k => is[k]?
  | .u (.agg us), k => (us[k]?).map .u
  | .u (.sc (.agg vs)), k => (vs[k]?).map fun v => .u (.sc v)
  | _, _ => none
end
end Go.H
end
section
namespace Go.H
open Go Go.RowKit
open Go.G (Ext Gr Blk)

abbrev Row (sz : Nat) := {l : List Value // l.length = sz}
instance {sz : Nat} : Inhabited (Row sz) := ⟨⟨List.replicate sz default, by simp⟩⟩
def encRow (sz : Nat) (h : 0 < sz) : G.Enc (Row sz) := ⟨sz, (·.1), (·.2), h⟩
theorem rows_of {sz : Nat} (h : 0 < sz) : ∀ (n : Nat) (vs : List Value), vs.length = n * sz → ∃ xs : List (Row sz), (encRow sz h).all xs = vs ∧ xs.length = n
  | 0, vs, hl => by
    have : vs = [] := List.eq_nil_of_length_eq_zero wA
    subst this; exact ⟨[], rfl, rfl⟩
  | n + 1, vs, hl => by
    rw [Nat.add_mul, Nat.one_mul] at hl
    obtain ⟨xs, h1, h2⟩ := rows_of h n (vs.drop sz) (by rw [List.length_drop]; omega)
    refine ⟨⟨vs.take sz, by rw [List.length_take]; omega⟩ :: xs, ?_, by simp [h2]⟩
    show vs.take sz ++ (encRow sz h).all xs = vs
    rw [h1, List.take_append_drop]
section
variable {w w' : World} {ok ok' : Nat → Prop} {τ τ' : Nat → Value}
theorem AllU.app {us1 us2 : List UV} {vs1 vs2 : List Value} (h1 : AllU w ok us1 vs1) (h2 : AllU w ok us2 vs2) : AllU w ok (us1 ++ us2) (vs1 ++ vs2) :=
  ⟨by simp [h1.1, h2.1], fun i u v q1 q2 => by
    by_cases hi : i < us1.length
    · rw [List.getElem?_append_left hi] at q1
      rw [List.getElem?_append_left (by rw [← h1.1]; exact hi)] at q2
      exact h1.2 i u v q1 q2
    · rw [List.getElem?_append_right xA] at q1
      rw [List.getElem?_append_right (by rw [← h1.1]; omega), ← h1.1] at q2
      exact h2.2 _ u v q1 q2⟩
theorem AllU.split {us1 us2 : List UV} {vs1 vs2 : List Value} (h : AllU w ok (us1 ++ us2) (vs1 ++ vs2)) (hl : us1.length = vs1.length) : AllU w ok us1 vs1 ∧ AllU w ok us2 vs2 := by
  refine ⟨⟨hl, fun i u v q1 q2 => h.2 i u v ?_ ?_⟩, ⟨by have := h.1; simp at this; omega, fun i u v q1 q2 => h.2 (us1.length + i) u v ?_ ?_⟩⟩
  · rw [List.getElem?_append_left (List.getElem?_eq_some_iff.1 q1).1]; exact q1
  · rw [List.getElem?_append_left (List.getElem?_eq_some_iff.1 q2).1]; exact q2
  · rw [List.getElem?_append_right xA]; simpa using q1
  · rw [List.getElem?_append_right xA, hl]; simpa using q2
def AllRows (w : World) (ok : Nat → Prop) {sz : Nat} (rows : List (List UV)) (xs : List (Row sz)) : Prop :=
  rows.length = xs.length ∧ ∀ (i : Nat) (row : List UV) (x : Row sz), rows[i]? = some row → xs[i]? = some x → AllU w ok row x.1
theorem AllRows.of {sz : Nat} {h : 0 < sz} : ∀ {rows : List (List UV)} {xs : List (Row sz)}, rows.length = xs.length → (∀ r ∈ rows, r.length = sz) → AllU w ok rows.flatten ((encRow sz h).all xs) → AllRows w ok rows xs
  | [], [], _, _, _ => ⟨rfl, fun i row x h1 => by simp at h1⟩
  | r :: rows, x :: xs, hl, hr, hA => by
    obtain ⟨h1, h2⟩ := AllU.split (us1 := r) (vs1 := x.1) hA (by rw [hr r yE, x.2])
    have ih := AllRows.of (h := h) wA (fun r hr' => hr r (by simp [hr'])) h2
    refine ⟨hl, fun i row y q1 q2 => ?_⟩
    cases i with
    | zero => simp at q1 q2; subst q1; subst q2; exact h1
    | succ i => exact ih.2 i row y (by simpa using q1) (by simpa using q2)
theorem AllRows.flat {sz : Nat} {h : 0 < sz} : ∀ {rows : List (List UV)} {xs : List (Row sz)}, AllRows w ok rows xs → AllU w ok rows.flatten ((encRow sz h).all xs) ∧ ∀ r ∈ rows, r.length = sz
  | [], [], _ => ⟨⟨rfl, fun i u v h1 => by simp at h1⟩, fun r hr => by simp at hr⟩
  | [], x :: xs, hA => by have := hA.1; simp at this
  | r :: rows, [], hA => by have := hA.1; simp at this
  | r :: rows, x :: xs, hA => by
    have h0 := hA.2 0 r x rfl rfl
    obtain ⟨h1, h2⟩ := AllRows.flat (h := h) (rows := rows) (xs := xs) ⟨by simpa using hA.1, fun i row y q1 q2 => hA.2 (i + 1) row y (by simpa using q1) (by simpa using q2)⟩
    refine ⟨h0.app h1, fun q hq => ?_⟩
    rcases List.mem_cons.1 hq with rfl | hq
    · rw [h0.1, x.2]
    · exact h2 q hq
theorem AllRows.mono {sz : Nat} {rows : List (List UV)} {xs : List (Row sz)} (h : AllRows w ok rows xs) (hs : w.heap.size ≤ w'.heap.size) (hm : ∀ b, ok b → b < w.heap.size → ok' b ∧ w'.heap[b]? = w.heap[b]?) : AllRows w' ok' rows xs :=
  ⟨h.1, fun i row x h1 h2 => (h.2 i row x h1 h2).mono hs hm⟩
theorem AllRows.app {sz : Nat} {rows rows' : List (List UV)} {xs xs' : List (Row sz)} (h : AllRows w ok rows xs) (h' : AllRows w ok rows' xs') : AllRows w ok (rows ++ rows') (xs ++ xs') :=
  ⟨by simp [h.1, h'.1], fun i row x q1 q2 => by
    by_cases hi : i < rows.length
    · rw [List.getElem?_append_left hi] at q1
      rw [List.getElem?_append_left (by rw [← h.1]; exact hi)] at q2
      exact h.2 i row x q1 q2
    · rw [List.getElem?_append_right xA] at q1
      rw [List.getElem?_append_right (by rw [← h.1]; omega), ← h.1] at q2
      exact h'.2 _ row x q1 q2⟩
theorem AllRows.take {sz : Nat} {rows : List (List UV)} {xs : List (Row sz)} (h : AllRows w ok rows xs) (k : Nat) : AllRows w ok (rows.take k) (xs.take k) :=
  ⟨by simp [h.1], fun i row x q1 q2 => by
    rw [List.getElem?_take] at q1 q2
    split at q1
    · rename_i hi; rw [if_pos hi] at q2; exact h.2 i row x q1 q2
    · cases q1⟩
theorem AllRows.drop {sz : Nat} {rows : List (List UV)} {xs : List (Row sz)} (h : AllRows w ok rows xs) (k : Nat) : AllRows w ok (rows.drop k) (xs.drop k) :=
  ⟨by simp [h.1], fun i row x q1 q2 => by
    rw [List.getElem?_drop] at q1 q2
    exact h.2 _ row x q1 q2⟩

theorem RepB.own {k t sz : Nat} {rows : List (List UV)} (h : RepB τ w ok k (.data t sz rows)) : ∃ (hp : 0 < sz) (xs : List (Row sz)), G.Own (encRow sz hp) w 0 t (τ k) xs ∧ AllRows w ok rows xs ∧ ∀ u ∈ rows.flatten, u.one = true := by
  obtain ⟨vs, h1, h2, h3, h4, h5⟩ := h
  obtain ⟨xs, e1, e2⟩ := rows_of h4 rows.length vs h1.1
  refine ⟨h4, xs, ?_, AllRows.of (h := h4) e2.symm h3 (by rw [e1]; exact h2), h5⟩
  unfold G.Own
  rw [e1, e2]; exact h1
theorem RepB.of_own {k t sz : Nat} {rows : List (List UV)} (hp : 0 < sz) {xs : List (Row sz)} (h1 : G.Own (encRow sz hp) w 0 t (τ k) xs) (h2 : AllRows w ok rows xs) (h3 : ∀ u ∈ rows.flatten, u.one = true) : RepB τ w ok k (.data t sz rows) := by
  obtain ⟨q1, q2⟩ := h2.flat (h := hp)
  unfold G.Own at h1
  rw [← h2.1] at h1
  exact ⟨_, h1, q1, q2, hp, h3⟩
theorem own_one {k t sz : Nat} {rows : List (List UV)} (h : RepB τ w ok k (.data t sz rows)) : (τ k).oneCell' = true := by
  obtain ⟨vs, ⟨_, h1 | ⟨g, cap, cur, h1, _⟩⟩, _⟩ := h
  · rw [h1.1]; rfl
  · rw [h1]; rfl
theorem vblk_own {α : Type} {E : G.Enc α} {base t : Nat} {v : Value} {xs : List α} (h : G.Own E w base t v xs) : vblk v = v.ownBlock := by
  obtain ⟨_, h1 | ⟨g, cap, cur, h1, _⟩⟩ := h
  · rw [h1.1]; rfl
  · rw [h1]; rfl
end

section
variable {c : Ctx} {P : Program} {F : Frm} {S : Sto} {ops : Array Oper} {T N : List Nat} {d : Nat} {op : Go.Op} {ty : TypeId} {pos : String} {af : Array Edge} {gd : Option (Nat × Bool)}
  {σ : Sig} {τ τ' : Nat → Value} {a : Act} {w w' : World} {δ : Chg}
theorem upd_sto {k : Nat} {sb : SB} (h : (σ.upd none none δ).sto k = some sb) : look k δ = some (some sb) ∨ (look k δ = none ∧ σ.sto k = some sb) := by
  cases hx : look k δ with
  | none => rw [upd_sto_ne hx] at h; exact .inr ⟨rfl, h⟩
  | some ob =>
    simp only [Sig.upd, hx] at h
    split at h
    · cases h
    · subst h; exact .inl rfl
theorem SatT.chg {B : Nat → Prop} (h : SatT c σ τ a w) (hN : ∀ k ∈ N, σ.fresh k ∧ σ.sto k = none ∧ k ∉ c.pk) (hg : Gr B w w')
    (hB : ∀ b, B b → b < w.heap.size → ∃ k sb, look k δ ≠ none ∧ σ.sto k = some sb ∧ sb.has (τ k) b) (hτ : ∀ k, k ∉ N → τ' k = τ k)
    (hδ : ∀ k sb, look k δ = some (some sb) → ∀ b, sb.has (τ' k) b → w.heap.size ≤ b ∨ ∃ k0 sb0, look k0 δ ≠ none ∧ σ.sto k0 = some sb0 ∧ sb0.has (τ k0) b)
    (hinj : ∀ k k' sb sb' b, look k δ = some (some sb) → look k' δ = some (some sb') → sb.has (τ' k) b → sb'.has (τ' k') b → k = k')
    (hrep : (∀ b, okOf c τ σ.sto b → b < w.heap.size → okOf c τ' (σ.upd none none δ).sto b ∧ w'.heap[b]? = w.heap[b]?) → ∀ k sb, look k δ = some (some sb) → RepB τ' w' (okOf c τ' (σ.upd none none δ).sto) k sb) :
    SatT c (σ.upd none none δ) τ' a w' ∧ (∀ b, okOf c τ σ.sto b → b < w.heap.size → okOf c τ' (σ.upd none none δ).sto b ∧ w'.heap[b]? = w.heap[b]?) := by
  have hNn : ∀ k sb, σ.sto k = some sb → k ∉ N := fun k sb hs hk => by rw [(hN k hk).2.1] at hs; cases hs
  have hok : ∀ b, okOf c τ σ.sto b → b < w.heap.size → okOf c τ' (σ.upd none none δ).sto b ∧ w'.heap[b]? = w.heap[b]? := by
    intro b ⟨h1, h2⟩ hb
    refine ⟨⟨h1, fun k sb hk hv => ?_⟩, hg.block b hb fun hBb => ?_⟩
    · rcases upd_sto hk with hk | ⟨_, hk⟩
      · rcases hδ k sb hk b hv with h3 | ⟨k0, sb0, _, h4, h5⟩
        · omega
        · exact h2 k0 sb0 h4 h5
      · rw [hτ k (hNn k sb hk)] at hv; exact h2 k sb hk hv
    · obtain ⟨k, sb, _, h4, h5⟩ := hB b hBb hb
      exact h2 k sb h4 h5
  refine ⟨⟨h.size, h.defers, ?_, fun t i hl => ?_, fun k sb hk => ?_, fun k k' sb sb' b hk hk' hv hv' => ?_, fun k sb b hk hv => ?_, fun k hk => ?_⟩, hok⟩
  · refine ⟨hg.os.trans h.gr.os, hg.tape.trans h.gr.tape, hg.output.trans h.gr.output, Nat.le_trans h.gr.size hg.size, fun b hb hM => ?_⟩
    refine (hg.block b (Nat.lt_of_lt_of_le hb h.gr.size) fun hBb => ?_).trans (h.gr.block b hb hM)
    obtain ⟨k, sb, _, h4, h5⟩ := hB b hBb (Nat.lt_of_lt_of_le hb h.gr.size)
    rcases h.own k sb b h4 h5 with h6 | h6
    · exact hM h6
    · omega
  · obtain ⟨u, h1, h2⟩ := h.slot t i hl
    exact ⟨u, h1, h2.mono hg.size hok fun k hk => hτ k fun hin => (hN k hin).1.1 t i hl hk⟩
  · rcases upd_sto hk with hk | ⟨hn, hk⟩
    · exact hrep hok k sb hk
    · refine (h.sto k sb hk).mono hg.size hok (fun j hj => hτ j fun hin => (hN j hin).1.2 k sb hk hj) (hτ k (hNn k sb hk)) fun b hb => ?_
      refine hg.block b (vblk_lt (h.sto k sb hk) hb) fun hBb => ?_
      obtain ⟨k0, sb0, h3, h4, h5⟩ := hB b hBb (vblk_lt (h.sto k sb hk) hb)
      have := h.inj k k0 sb sb0 b hk h4 hb h5
      subst this
      exact h3 hn
  · have mixed : ∀ k k' sb sb', look k δ = some (some sb) → look k' δ = none → σ.sto k' = some sb' → sb.has (τ' k) b → sb'.has (τ' k') b → False := by
      intro k k' sb sb' h1 h2 h3 h4 h5
      rw [hτ k' (hNn k' sb' h3)] at h5
      rcases hδ k sb h1 b h4 with h6 | ⟨k0, sb0, h7, h8, h9⟩
      · have := vblk_lt (h.sto k' sb' h3) h5; omega
      · have := h.inj k' k0 sb' sb0 b h3 h8 h5 h9
        subst this
        exact h7 h2
    rcases upd_sto hk with hk | ⟨hn, hk⟩ <;> rcases upd_sto hk' with hk' | ⟨hn', hk'⟩
    · exact hinj k k' sb sb' b hk hk' hv hv'
    · exact (mixed k k' sb sb' hk hn' hk' hv hv').elim
    · exact (mixed k' k sb' sb hk' hn hk hv' hv).elim
    · rw [hτ k (hNn k sb hk)] at hv
      rw [hτ k' (hNn k' sb' hk')] at hv'
      exact h.inj k k' sb sb' b hk hk' hv hv'
  · rcases upd_sto hk with hk | ⟨hn, hk⟩
    · rcases hδ k sb hk b hv with h3 | ⟨k0, sb0, _, h4, h5⟩
      · exact .inr (Nat.le_trans h.gr.size h3)
      · exact h.own k0 sb0 b h4 h5
    · rw [hτ k (hNn k sb hk)] at hv; exact h.own k sb b hk hv
  · rw [hτ k fun hin => (hN k hin).2.2 hk]; exact h.pin k hk

theorem OpOk.mem {i : IV} (hd : Nat.blt d c.n = true) (hg : Taken ops F gd)
    (H : ∀ σ τ a w, AgreeF ((⟨some d, op, ty, pos, af, gd⟩ : Oper).looksAt ops) F σ → AgreeS T S σ → (∀ k ∈ N, σ.fresh k ∧ σ.sto k = none ∧ k ∉ c.pk) → SatT c σ τ a w →
      ∃ v w' τ', (execOp a.eval ⟨some d, op, ty, pos, af, gd⟩).run P w = .ok (.value v) w' ∧ SatT c (σ.upd none none δ) τ' a w' ∧ RepI τ' w' (okOf c τ' (σ.upd none none δ).sto) i v) : OpOk c P ops ⟨some d, op, ty, pos, af, gd⟩ F S T N (some i) δ := by
  intro σ a w hA hB hN hS
  obtain ⟨τ, h⟩ := hS
  rw [if_pos (wanted_of h hA hg)]
  obtain ⟨v, w', τ', h1, h2, h3⟩ := H σ τ a w hA hB hN h
  rw [h1]
  exact ⟨τ', h2.put wN h3⟩
theorem OpOk.does (hg : Taken ops F gd)
    (H : ∀ σ τ a w, AgreeF ((⟨none, op, ty, pos, af, gd⟩ : Oper).looksAt ops) F σ → AgreeS T S σ → SatT c σ τ a w →
      ∃ w' τ', (execOp a.eval ⟨none, op, ty, pos, af, gd⟩).run P w = .ok .skip w' ∧ SatT c (σ.upd none none δ) τ' a w') : OpOk c P ops ⟨none, op, ty, pos, af, gd⟩ F S T N none δ := by
  intro σ a w hA hB hN hS
  obtain ⟨τ, h⟩ := hS
  rw [if_pos (wanted_of h hA hg)]
  obtain ⟨w', τ', h1, h2⟩ := H σ τ a w hA hB h
  rw [h1]
  exact ⟨τ', h2⟩

def upτ (τ : Nat → Value) (k : Nat) (v : Value) : Nat → Value := fun j => if j = k then v else τ j
theorem upτ_eq {k : Nat} {v : Value} : upτ τ k v k = v := if_pos rfl
theorem upτ_ne {k j : Nat} {v : Value} (h : j ≠ k) : upτ τ k v j = τ j := if_neg h

theorem SatT.new {k : Nat} {sb : SB} {v : Value} (h : SatT c σ τ a w) (hN : ∀ j ∈ [k], σ.fresh j ∧ σ.sto j = none ∧ j ∉ c.pk) (he : Ext w w') (hv : ∀ b, sb.has v b → w.heap.size ≤ b)
    (hrep : (∀ b, okOf c τ σ.sto b → b < w.heap.size → okOf c (upτ τ k v) (σ.upd none none [(k, some sb)]).sto b ∧ w'.heap[b]? = w.heap[b]?) → RepB (upτ τ k v) w' (okOf c (upτ τ k v) (σ.upd none none [(k, some sb)]).sto) k sb) :
    SatT c (σ.upd none none [(k, some sb)]) (upτ τ k v) a w' ∧ (∀ b, okOf c τ σ.sto b → b < w.heap.size → okOf c (upτ τ k v) (σ.upd none none [(k, some sb)]).sto b ∧ w'.heap[b]? = w.heap[b]?) := by
  have hk : ∀ j x, look j [(k, some sb)] = some x → j = k ∧ x = some sb := fun j x hj => by
    by_cases e : k = j
    · subst e; rw [look_eq] at hj; exact ⟨rfl, (Option.some.inj hj).symm⟩
    · rw [look_ne e] at hj; simp [look] at hj
  refine h.chg (B := fun _ => False) hN (Gr.of_ext he) (fun b hb => hb.elim) (fun j hj => upτ_ne (by simpa using hj)) (fun j sb' hj b hb => ?_) (fun j j' s s' b hj hj' _ _ => ?_) (fun hok j sb' hj => ?_)
  · obtain ⟨rfl, e⟩ := hk j _ hj
    cases e
    rw [upτ_eq] at hb
    exact .inl (hv b hb)
  · rw [(hk j _ hj).1, (hk j' _ hj').1]
  · obtain ⟨rfl, h2⟩ := hk j _ hj
    cases h2
    exact hrep hok
theorem AllI.sc {ok : Nat → Prop} (vs : List Value) : AllI τ w ok (vs.map fun v => .u (.sc v)) vs :=
  ⟨by simp, fun i u v h1 h2 => by rw [List.getElem?_map, h2] at h1; cases h1; exact .u (.sc v)⟩

theorem tagsL_u {α : Type} (f : α → UV) : ∀ l : List α, IV.tagsL (l.map fun x => IV.u (f x)) = []
  | [] => rfl
  | x :: l => by rw [List.map_cons, IV.tagsL, tagsL_u f l]; rfl
theorem tags_cells {k : Nat} {i : IV} (h : k ∈ IV.tagsL i.cells) : k ∈ i.tags := by
  cases i with
  | u x =>
    cases x with
    | sc v => simp only [IV.cells] at h; rw [tagsL_u (fun v => UV.sc v)] at h; cases h
    | agg us =>
      have := tagsL_u (fun x : UV => x) us
      simp only [IV.cells] at h
      rw [show (us.map IV.u) = us.map (fun x => IV.u x) from rfl, this] at h; cases h
    | _ => simp [IV.cells, IV.tagsL, IV.tags] at h
  | agg is => exact h
  | junk => simp [IV.cells, IV.tagsL] at h
  | _ => simpa [IV.cells, IV.tagsL] using h
theorem opd_fresh {o : Oper} {x : Operand} {i : IV} {k : Nat} (hA : AgreeF (o.looksAt ops) F σ) (hm : x ∈ o.op.operands) (hx : ev F x = some i) (hf : σ.fresh k) : k ∉ i.tags := by
  cases x with
  | tmp s => exact hf.1 s i (hA s (mem_looksAt hm rfl) i hx)
  | const v => simp only [ev, Option.some.injEq] at hx; subst hx; simp [IV.tags]
  | global v => simp only [ev, Option.some.injEq] at hx; subst hx; simp [IV.tags]
  | func v => simp only [ev, Option.some.injEq] at hx; subst hx; simp [IV.tags]
theorem O.alloc {t : TypeId} {z : Value} {is : List IV} (k : Nat) (hz : (P.info? t).bind (·.zero) = some z) (hi : (z.cells.toList.map fun v => IV.u (.sc v)) = is) (h1 : is.all IV.one = true) (hd : Nat.blt d c.n = true) (hg : Taken ops F gd) :
    OpOk c P ops ⟨some d, .alloc t, ty, pos, af, gd⟩ F S [k] [k] (some (.ref k 0)) [(k, some (.cells t is))] := by
  subst hi
  refine OpOk.mem hd hg fun σ τ a w hA _ hN h => ?_
  obtain ⟨v, w', q1, g, rfl, rfl, q4, q5, q6⟩ := G.M.alloc (P := P) (w := w) (F := actF a) (ty := ty) hz ⟨some d, .alloc t, ty, pos, af, gd⟩ a.eval rfl rfl (fun _ _ _ hx => actF_of hx)
  have := h.new (k := k) (sb := .cells t (z.cells.toList.map fun v => IV.u (.sc v))) (v := .pointer (some ⟨w.heap.size, 0, none⟩)) hN q5 (fun b hb => by cases hb; exact Nat.le_refl _)
    (fun _ => ⟨_, _, upτ_eq, q6, AllI.sc _, fun i hi => List.all_eq_true.1 h1 i hi⟩)
  exact ⟨_, w', _, q1, this.1, .ref upτ_eq⟩
theorem O.box {t : TypeId} {x : Operand} {i : IV} {is : List IV} (k : Nat) (hx : ev F x = some i) (hj : i.cells = is) (hn : is ≠ []) (h1 : is.all IV.one = true) (hd : Nat.blt d c.n = true) (hg : Taken ops F gd) :
    OpOk c P ops ⟨some d, .box t x, ty, pos, af, gd⟩ F S [k] [k] (some (.ref k 0)) [(k, some (.cells t is))] := by
  refine OpOk.mem hd hg fun σ τ a w hA _ hN h => ?_
  obtain ⟨p1, p2⟩ := h.opd hA xH hx
  have hc := p1.cells (fun e => by subst e; exact hn hj.symm)
  rw [hj] at hc
  obtain ⟨v, w', q1, g, rfl, rfl, q4, q5, q6⟩ := G.M.box (P := P) (w := w) (F := actF a) (ty := ty) (t := t) (x := x) (cs := (a.eval x).cells.toList) p2 yE ⟨some d, .box t x, ty, pos, af, gd⟩ a.eval rfl rfl (fun _ _ _ hx => actF_of hx)
  have := h.new (k := k) (sb := .cells t is) (v := .pointer (some ⟨w.heap.size, 0, none⟩)) hN q5 (fun b hb => by cases hb; exact Nat.le_refl _)
    (fun hok => ⟨_, _, upτ_eq, q6, hc.mono q5.size hok (fun j hj2 => upτ_ne fun e => ?_), fun i hi => List.all_eq_true.1 h1 i hi⟩)
  · exact ⟨_, w', _, q1, this.1, .ref upτ_eq⟩
  · subst e
    subst hj
    exact opd_fresh (o := ⟨some d, .box t x, ty, pos, af, gd⟩) hA xH hx (hN j yE).1 (tags_cells hj2)
end
end Go.H
end
section
namespace Go.H
open Go Go.RowKit
open Go.G (Ext Gr Blk)

theorem flatten_get {sz : Nat} : ∀ {rows : List (List UV)} {i : Nat} {row : List UV}, (∀ r ∈ rows, r.length = sz) → rows[i]? = some row → ∀ {j : Nat} {u : UV}, row[j]? = some u → rows.flatten[i * sz + j]? = some u
  | [], i, row, _, h, j, u, _ => by simp at h
  | r :: rows, 0, row, hr, h, j, u, hu => by
    simp at h; subst h
    rw [List.flatten_cons, Nat.zero_mul, Nat.zero_add, List.getElem?_append_left (List.getElem?_eq_some_iff.1 hu).1]; exact hu
  | r :: rows, i + 1, row, hr, h, j, u, hu => by
    rw [List.flatten_cons, List.getElem?_append_right (by rw [hr r yE, Nat.add_mul]; omega)]
    have := flatten_get (rows := rows) (i := i) (row := row) (fun r hr' => hr r (by simp [hr'])) (by simpa using h) hu
    rw [hr r yE, Nat.add_mul, Nat.one_mul, show i * sz + sz + j - sz = i * sz + j by omega]; exact this
theorem flat_len {sz : Nat} : ∀ {l : List (List UV)}, (∀ r ∈ l, r.length = sz) → l.flatten.length = l.length * sz
  | [], _ => by simp
  | r :: l, hr => by rw [List.flatten_cons, List.length_append, flat_len (fun r hr' => hr r (by simp [hr'])), hr r yE, List.length_cons, Nat.add_mul]; omega
theorem row_mem {rows : List (List UV)} {i : Nat} {row : List UV} (h : rows[i]? = some row) : row ∈ rows := List.mem_of_getElem? h
theorem row_get {α : Type} [Inhabited α] {enc : α → List UV} {xs : List α} {i : Nat} (h : i < xs.length) : (xs.map enc)[i]? = some (enc xs[i]!) := by
  simp [h]

section
variable {c : Ctx} {P : Program} {F : Frm} {S : Sto} {ops : Array Oper} {T T2 N : List Nat} {d : Nat} {op : Go.Op} {ty : TypeId} {pos : String} {af : Array Edge} {gd : Option (Nat × Bool)}
  {σ : Sig} {τ τ' : Nat → Value} {a : Act} {w w' : World} {δ : Chg}

def SlOf (F : Frm) (S : Sto) (T : List Nat) (x : Operand) (sz : Nat) (rows : List (List UV)) : Prop :=
  ∃ i, ev F x = some i ∧ ∀ (c : Ctx) (σ : Sig) (τ : Nat → Value) (a : Act) (w : World) (v : Value), AgreeS T S σ → SatT c σ τ a w → RepI τ w (okOf c τ σ.sto) i v →
    ∃ (hp : 0 < sz) (xs : List (Row sz)) (lo hi : Nat), G.Sl (encRow sz hp) w lo hi v xs ∧ AllRows w (okOf c τ σ.sto) rows xs ∧ ∀ u ∈ rows.flatten, u.one = true
theorem SlOf.fz {x : Operand} {sz : Nat} {rows : List (List UV)} (hx : ev F x = some (.u (.sl sz rows))) (hp : 0 < sz) : SlOf F S [] x sz rows := by
  refine ⟨_, hx, fun c σ τ a w v _ h hr => ⟨hp, ?_⟩⟩
  cases hr with
  | u hr =>
    cases hr with
    | sl0 hc => exact ⟨[], 0, 0, ⟨_, _, rfl, Nat.zero_le _, hc, fun h => absurd rfl h⟩, ⟨rfl, fun i row x h1 => by simp at h1⟩, by simp⟩
    | @sl _ _ ad cc cv hne h1 h2 h3 h4 h5 hb ho hc hu =>
      have hfl : rows.flatten.length = rows.length * sz := flat_len h3
      obtain ⟨xs, e1, e2⟩ := rows_of hp rows.length ((List.range rows.flatten.length).map cv) (by simpa using hfl)
      have hA : AllU w (okOf c τ σ.sto) rows.flatten ((encRow sz hp).all xs) := by
        rw [e1]
        refine ⟨by simp, fun i u v q1 q2 => ?_⟩
        rw [List.getElem?_map, Option.map_eq_some_iff] at q2
        obtain ⟨j, q2, rfl⟩ := q2
        rw [List.getElem?_range (List.getElem?_eq_some_iff.1 q1).1] at q2
        cases q2
        exact hu i u q1
      refine ⟨xs, ad.block, ad.block + 1, ⟨some ad, cc, by rw [e2], xA, h2, fun _ => ⟨ad, rfl, Nat.le_refl _, Nat.lt_succ_self _, fun j u hj => ?_⟩⟩, AllRows.of e2.symm h3 hA, h5⟩
      rw [e1, List.getElem?_map, Option.map_eq_some_iff] at hj
      obtain ⟨q, hj, rfl⟩ := hj
      have hlt : j < rows.flatten.length := by have := (List.getElem?_eq_some_iff.1 hj).1; simpa using this
      rw [List.getElem?_range hlt] at hj
      cases hj
      exact hc j _ (List.getElem?_eq_getElem hlt)
theorem SlOf.own {x : Operand} {k t sz : Nat} {rows : List (List UV)} (hx : ev F x = some (.own k)) (hS : lookS k S = some (.data t sz rows)) : SlOf F S [k] x sz rows := by
  refine ⟨_, hx, fun c σ τ a w v hB h hr => ?_⟩
  obtain ⟨hp, xs, h1, h2, h3⟩ := (h.sto k _ ((hB k yE).trans hS)).own
  cases hr
  exact ⟨hp, xs, 0, w.heap.size, h1.sl, h2, h3⟩
theorem SlOf.osl {x : Operand} {k t sz lo hi : Nat} {rows : List (List UV)} (hx : ev F x = some (.osl k sz lo hi)) (hS : lookS k S = some (.data t sz rows)) : SlOf F S [k] x sz ((rows.take hi).drop lo) := by
  refine ⟨_, hx, fun c σ τ a w v hB h hr => ?_⟩
  obtain ⟨hp, xs, h1, h2, h3⟩ := (h.sto k _ ((hB k yE).trans hS)).own
  cases hr with
  | @osl _ _ _ _ n cc A hk q1 q2 =>
    have hn : n = xs.length := by
      obtain ⟨_, q | ⟨g, cap, cur, q, _⟩⟩ := h1
      · obtain ⟨q, q0⟩ := q
        rw [hk] at q
        simp only [Value.slice.injEq] at q
        omega
      · rw [hk] at q
        simp only [Value.slice.injEq] at q
        exact q.2.1
    have hsl := (h1.sl).sub (i := lo) (j := hi) q1 xA
    rw [hk] at hsl
    refine ⟨hp, _, 0, w.heap.size, hsl, (h2.take hi).drop lo, fun u hu => h3 u ?_⟩
    obtain ⟨r, hr, hu⟩ := List.mem_flatten.1 hu
    exact List.mem_flatten.2 ⟨r, List.mem_of_mem_take (List.mem_of_mem_drop hr), hu⟩

theorem O.len {x : Operand} {t e : TypeId} {sz : Nat} {rows : List (List UV)} (hs : SlOf F S T x sz rows) (ht : P.underlying t = some (.slice e)) (hd : Nat.blt d c.n = true) (hg : Taken ops F gd) :
    OpOk c P ops ⟨some d, .call { callee := .builtin .len, args := #[x], argTypes := #[t] }, ty, pos, af, gd⟩ F S T [] (some (.u (.sc (.int .i64 rows.length)))) [] :=
  OpOk.runs hd hg fun σ τ a w hA hB h => by
    obtain ⟨i, hx, hs⟩ := hs
    obtain ⟨h1, h2⟩ := h.opd hA yY hx
    obtain ⟨hp, xs, lo, hi, h3, h4, _⟩ := hs c σ τ a w _ hB h h1
    refine ⟨_, G.R.len_sl h2 h3 ht, ?_⟩
    rw [h4.1]; exact .u (.sc _)

def PtU (F : Frm) (S : Sto) (T : List Nat) (x : Operand) (us : List UV) : Prop :=
  ∃ i, ev F x = some i ∧ ∀ (c : Ctx) (σ : Sig) (τ : Nat → Value) (a : Act) (w : World) (v : Value), AgreeS T S σ → SatT c σ τ a w → RepI τ w (okOf c τ σ.sto) i v →
    ∃ ad vs, v = .pointer (some ad) ∧ G.At w ad vs ∧ AllU w (okOf c τ σ.sto) us vs
def PtI (F : Frm) (S : Sto) (T : List Nat) (x : Operand) (is : List IV) : Prop :=
  ∃ i, ev F x = some i ∧ ∀ (c : Ctx) (σ : Sig) (τ : Nat → Value) (a : Act) (w : World) (v : Value), AgreeS T S σ → SatT c σ τ a w → RepI τ w (okOf c τ σ.sto) i v →
    ∃ ad vs, v = .pointer (some ad) ∧ G.At w ad vs ∧ AllI τ w (okOf c τ σ.sto) is vs
theorem PtU.fz {x : Operand} {us : List UV} (hx : ev F x = some (.u (.ptr us))) : PtU F S [] x us := by
  refine ⟨_, hx, fun c σ τ a w v _ h hr => ?_⟩
  cases hr with
  | u hr =>
    cases hr with
    | @ptr _ ad cv h5 hb ho hc hu =>
      refine ⟨ad, (List.range us.length).map cv, rfl, fun j u hj => ?_, by simp, fun i u v q1 q2 => ?_⟩
      · rw [List.getElem?_map, Option.map_eq_some_iff] at hj
        obtain ⟨q, hj, rfl⟩ := hj
        have hlt : j < us.length := by have := (List.getElem?_eq_some_iff.1 hj).1; simpa using this
        rw [List.getElem?_range hlt] at hj
        cases hj
        exact hc j _ (List.getElem?_eq_getElem hlt)
      · rw [List.getElem?_map, Option.map_eq_some_iff] at q2
        obtain ⟨j, q2, rfl⟩ := q2
        rw [List.getElem?_range (List.getElem?_eq_some_iff.1 q1).1] at q2
        cases q2
        exact hu i u q1
theorem AllU.drop {ok : Nat → Prop} {us : List UV} {vs : List Value} (h : AllU w ok us vs) (k : Nat) : AllU w ok (us.drop k) (vs.drop k) :=
  ⟨by simp [h.1], fun i u v q1 q2 => by rw [List.getElem?_drop] at q1 q2; exact h.2 _ u v q1 q2⟩
theorem AllU.take {ok : Nat → Prop} {us : List UV} {vs : List Value} (h : AllU w ok us vs) (k : Nat) : AllU w ok (us.take k) (vs.take k) :=
  ⟨by simp [h.1], fun i u v q1 q2 => by
    rw [List.getElem?_take] at q1 q2
    split at q1
    · rename_i hi; rw [if_pos hi] at q2; exact h.2 i u v q1 q2
    · cases q1⟩
theorem AllI.drop {ok : Nat → Prop} {us : List IV} {vs : List Value} (h : AllI τ w ok us vs) (k : Nat) : AllI τ w ok (us.drop k) (vs.drop k) :=
  ⟨by simp [h.1], fun i u v q1 q2 => by rw [List.getElem?_drop] at q1 q2; exact h.2 _ u v q1 q2⟩
theorem AllI.take {ok : Nat → Prop} {us : List IV} {vs : List Value} (h : AllI τ w ok us vs) (k : Nat) : AllI τ w ok (us.take k) (vs.take k) :=
  ⟨by simp [h.1], fun i u v q1 q2 => by
    rw [List.getElem?_take] at q1 q2
    split at q1
    · rename_i hi; rw [if_pos hi] at q2; exact h.2 i u v q1 q2
    · cases q1⟩
theorem AllI.app {ok : Nat → Prop} {us1 us2 : List IV} {vs1 vs2 : List Value} (h1 : AllI τ w ok us1 vs1) (h2 : AllI τ w ok us2 vs2) : AllI τ w ok (us1 ++ us2) (vs1 ++ vs2) :=
  ⟨by simp [h1.1, h2.1], fun i u v q1 q2 => by
    by_cases hi : i < us1.length
    · rw [List.getElem?_append_left hi] at q1
      rw [List.getElem?_append_left (by rw [← h1.1]; exact hi)] at q2
      exact h1.2 i u v q1 q2
    · rw [List.getElem?_append_right xA] at q1
      rw [List.getElem?_append_right (by rw [← h1.1]; omega), ← h1.1] at q2
      exact h2.2 _ u v q1 q2⟩
theorem PtU.el {x : Operand} {k t sz i off : Nat} {rows : List (List UV)} {row : List UV} (hx : ev F x = some (.el k sz i off)) (hS : lookS k S = some (.data t sz rows)) (hrow : rows[i]? = some row) : PtU F S [k] x (row.drop off) := by
  refine ⟨_, hx, fun c σ τ a w v hB h hr => ?_⟩
  obtain ⟨hp, xs, h1, h2, h3⟩ := (h.sto k _ ((hB k yE).trans hS)).own
  have hi : i < xs.length := by rw [← h2.1]; exact (List.getElem?_eq_some_iff.1 hrow).1
  cases hr with
  | @el _ _ _ _ g n cc hk =>
    obtain ⟨ad, e1, _, _, hat⟩ := h1.sl.elem hi
    rw [hk] at e1
    simp only [G.elemPtr, Value.pointer.injEq, Option.some.injEq] at e1
    subst e1
    refine ⟨_, (xs[i]!).1.drop off, rfl, ?_, ?_⟩
    · have := hat.drop off
      rw [Addr.add_lit, Addr.add_lit, Nat.zero_add] at this
      exact this
    · refine AllU.drop (h2.2 i row _ hrow ?_) off
      simp [hi]
theorem PtI.ofU {x : Operand} {us : List UV} (h : PtU F S T x us) : PtI F S T x (us.map .u) := by
  obtain ⟨i, hx, h⟩ := h
  refine ⟨i, hx, fun c σ τ a w v hB hS hr => ?_⟩
  obtain ⟨ad, vs, h1, h2, h3⟩ := h c σ τ a w v hB hS hr
  exact ⟨ad, vs, h1, h2, AllI.ofU h3⟩
theorem PtI.ref {x : Operand} {k t off : Nat} {is : List IV} (hx : ev F x = some (.ref k off)) (hS : lookS k S = some (.cells t is)) : PtI F S [k] x (is.drop off) := by
  refine ⟨_, hx, fun c σ τ a w v hB h hr => ?_⟩
  obtain ⟨g, vs, h1, h2, h3, h4⟩ := h.sto k _ ((hB k yE).trans hS)
  cases hr with
  | @ref _ _ g' hk =>
    rw [hk] at h1
    simp only [Value.pointer.injEq, Option.some.injEq, Addr.mk.injEq, and_true] at h1
    subst h1
    refine ⟨_, vs.drop off, rfl, ?_, h3.drop off⟩
    have := h2.at.drop off
    rw [Addr.add_lit, Nat.zero_add] at this
    exact this

theorem O.ld1 {x : Operand} {t : TypeId} {dd : TypeDesc} {is r : List IV} {i : IV} (hp : PtI F S T x is) (hi : is = i :: r) (ht : P.underlying t = some dd) (ha : G.aggD dd = false) (hd : Nat.blt d c.n = true) (hg : Taken ops F gd) :
    OpOk c P ops ⟨some d, .load t x, ty, pos, af, gd⟩ F S T [] (some i) [] :=
  OpOk.runs hd hg fun σ τ a w hA hB h => by
    subst hi
    obtain ⟨j, hx, hp⟩ := hp
    obtain ⟨h1, h2⟩ := h.opd hA xH hx
    obtain ⟨ad, vs, h3, h4, h5⟩ := hp c σ τ a w _ hB h h1
    match vs, h5 with
    | [], h5 => have := h5.1; simp at this
    | v :: vs, h5 =>
      rw [h3] at h2
      exact ⟨v, G.R.ld1 h2 ⟨ad, rfl, Nat.le_refl _, Nat.lt_succ_self _, h4⟩ ht ha, h5.2 0 i v rfl rfl⟩
theorem O.ldN {x : Operand} {t : TypeId} {dd : TypeDesc} {is js : List IV} {m : Nat} (hp : PtI F S T x is) (hj : is.take m = js) (hm : m ≤ is.length) (ht : P.underlying t = some dd) (ha : G.aggD dd = true) (hs : (P.info? t).map (·.size) = some m)
    (hd : Nat.blt d c.n = true) (hg : Taken ops F gd) : OpOk c P ops ⟨some d, .load t x, ty, pos, af, gd⟩ F S T [] (some (.agg js)) [] :=
  OpOk.runs hd hg fun σ τ a w hA hB h => by
    subst hj
    obtain ⟨j, hx, hp⟩ := hp
    obtain ⟨h1, h2⟩ := h.opd hA xH hx
    obtain ⟨ad, vs, h3, h4, h5⟩ := hp c σ τ a w _ hB h h1
    rw [h3] at h2
    have hl : (vs.take m).length = m := by rw [List.length_take, ← h5.1]; omega
    refine ⟨_, G.R.ldN (cs := vs.take m) h2 ⟨ad, rfl, Nat.le_refl _, Nat.lt_succ_self _, h4.take m⟩ ht ha hs hl, ?_⟩
    exact .agg (h5.take m).1 (h5.take m).2
theorem O.ldU {x : Operand} {t : TypeId} {dd : TypeDesc} {us : List UV} {m : Nat} (hp : PtU F S T x us) (hm : us.length = m) (ht : P.underlying t = some dd) (ha : G.aggD dd = true) (hs : (P.info? t).map (·.size) = some m)
    (hd : Nat.blt d c.n = true) (hg : Taken ops F gd) : OpOk c P ops ⟨some d, .load t x, ty, pos, af, gd⟩ F S T [] (some (.u (.agg us))) [] :=
  OpOk.runs hd hg fun σ τ a w hA hB h => by
    obtain ⟨j, hx, hp⟩ := hp
    obtain ⟨h1, h2⟩ := h.opd hA xH hx
    obtain ⟨ad, vs, h3, h4, h5⟩ := hp c σ τ a w _ hB h h1
    rw [h3] at h2
    refine ⟨_, G.R.ldN h2 ⟨ad, rfl, Nat.le_refl _, Nat.lt_succ_self _, h4⟩ ht ha hs (by rw [← h5.1, hm]), ?_⟩
    exact .u (.agg h5.1 h5.2)

theorem ptr_drop {ok : Nat → Prop} {us : List UV} {ad : Addr} (h : RepU w ok (.ptr us) (.pointer (some ad))) (o : Nat) : RepU w ok (.ptr (us.drop o)) (.pointer (some (ad.add o))) := by
  cases h with
  | @ptr _ _ cv h5 hb ho hc hu =>
    refine .ptr (cv := fun j => cv (o + j)) (fun u hm => h5 u (List.mem_of_mem_drop hm)) (by rw [G.block_add]; exact hb) (by rw [G.block_add]; exact ho) (fun j u hj => ?_) (fun j u hj => ?_)
    · rw [G.add_add]; exact hc _ u (by rw [← hj, List.getElem?_drop])
    · exact hu _ u (by rw [← hj, List.getElem?_drop])
theorem O.fld_fz {x : Operand} {s : TypeId} {k : Nat} {fs : Array Field} {f : Field} {us vs : List UV} {m : Nat} (hx : ev F x = some (.u (.ptr us))) (ht : P.underlying s = some (.struct fs)) (hf : fs[k]? = some f)
    (hm : (P.info? f.type).map (·.size) = some (m + 1)) (he : us.drop f.offset = vs) (hd : Nat.blt d c.n = true) (hg : Taken ops F gd) : OpOk c P ops ⟨some d, .fieldAddr s x k, ty, pos, af, gd⟩ F S [] [] (some (.u (.ptr vs))) [] :=
  OpOk.runs hd hg fun σ τ a w hA _ h => by
    subst he
    obtain ⟨h1, h2⟩ := h.opd hA xH hx
    cases h1 with
    | u h1 =>
      generalize a.eval x = v at h1 h2
      have h0 := h1
      cases h1 with
      | ptr => exact ⟨_, G.R.fld h2 ht hf hm, .u (ptr_drop h0 _)⟩
theorem O.fld_ref {x : Operand} {s : TypeId} {k kk off o' : Nat} {fs : Array Field} {f : Field} {m : Nat} (hx : ev F x = some (.ref kk off)) (ht : P.underlying s = some (.struct fs)) (hf : fs[k]? = some f)
    (hm : (P.info? f.type).map (·.size) = some (m + 1)) (he : off + f.offset = o') (hd : Nat.blt d c.n = true) (hg : Taken ops F gd) : OpOk c P ops ⟨some d, .fieldAddr s x k, ty, pos, af, gd⟩ F S [] [] (some (.ref kk o')) [] :=
  OpOk.runs hd hg fun σ τ a w hA _ h => by
    subst he
    obtain ⟨h1, h2⟩ := h.opd hA xH hx
    generalize a.eval x = v at h1 h2
    cases h1 with
    | ref hk => exact ⟨_, G.R.fld h2 ht hf hm, by rw [Addr.add_lit]; exact .ref hk⟩
theorem O.fld_el {x : Operand} {s : TypeId} {k kk sz i off o' : Nat} {fs : Array Field} {f : Field} {m : Nat} (hx : ev F x = some (.el kk sz i off)) (ht : P.underlying s = some (.struct fs)) (hf : fs[k]? = some f)
    (hm : (P.info? f.type).map (·.size) = some (m + 1)) (he : off + f.offset = o') (hd : Nat.blt d c.n = true) (hg : Taken ops F gd) : OpOk c P ops ⟨some d, .fieldAddr s x k, ty, pos, af, gd⟩ F S [] [] (some (.el kk sz i o')) [] :=
  OpOk.runs hd hg fun σ τ a w hA _ h => by
    subst he
    obtain ⟨h1, h2⟩ := h.opd hA xH hx
    generalize a.eval x = v at h1 h2
    cases h1 with
    | el hk => exact ⟨_, G.R.fld h2 ht hf hm, by rw [Addr.add_lit, Nat.add_assoc]; exact .el hk⟩
theorem O.nilCheck {x : Operand} {i : IV} (hx : ev F x = some i) (hi : (match i with | .u (.ptr _) => true | .ref _ _ => true | .el _ _ _ _ => true | _ => false) = true) (hd : Nat.blt d c.n = true) (hg : Taken ops F gd) :
    OpOk c P ops ⟨some d, .nilCheck x, ty, pos, af, gd⟩ F S [] [] (some i) [] :=
  OpOk.runs hd hg fun σ τ a w hA _ h => by
    obtain ⟨h1, h2⟩ := h.opd hA xH hx
    generalize a.eval x = v at h1 h2
    have h0 := h1
    cases h1 with
    | u h1 =>
      cases h1 with
      | ptr => exact ⟨_, G.R.nilCheck h2, h0⟩
      | _ => simp at hi
    | ref hk => exact ⟨_, G.R.nilCheck h2, h0⟩
    | el hk => exact ⟨_, G.R.nilCheck h2, h0⟩
    | _ => simp at hi

theorem O.idx_fz {x y : Operand} {t e : TypeId} {k : IntKind} {i : Nat} {ii : Int} {inf : TypeInfo} {sz : Nat} {rows : List (List UV)} {row : List UV} (hx : ev F x = some (.u (.sl sz rows))) (hy : ev F y = some (.u (.sc (.int k ii)))) (hii : ii = (i : Int)) (hrow : rows[i]? = some row)
    (ht : P.underlying t = some (.slice e)) (he : P.info? e = some inf) (hs : inf.size = sz) (hd : Nat.blt d c.n = true) (hg : Taken ops F gd) : OpOk c P ops ⟨some d, .indexAddr t x y, ty, pos, af, gd⟩ F S [] [] (some (.u (.ptr row))) [] :=
  OpOk.runs hd hg fun σ τ a w hA hB h => by
    subst hii
    obtain ⟨h1, h2⟩ := h.opd hA xH hx
    have hy2 := (h.sc hA xH hy).2
    have hlt : i < rows.length := (List.getElem?_eq_some_iff.1 hrow).1
    have hp : 0 < sz := by
      cases h1 with
      | u h1 =>
        generalize a.eval x = v at h1
        cases h1 with
        | sl0 => simp at hlt
        | sl _ _ _ _ h4 => exact h4
    obtain ⟨_, hx', hs'⟩ := SlOf.fz (F := F) (S := S) hx hp
    rw [hx] at hx'; cases hx'
    obtain ⟨_, xs, lo, hi, q1, q2, _⟩ := hs' c σ τ a w _ (fun k hk => by cases hk) h h1
    refine ⟨_, G.R.idx h2 hy2 q1 (by rw [← q2.1]; exact hlt) ht he hs, ?_⟩
    cases h1 with
    | u h1 =>
      generalize a.eval x = v at h1
      cases h1 with
      | sl0 => simp at hlt
      | @sl _ _ ad cc cv hne h1 h2 h3 h4 h5 hb ho hc hu =>
        simp only [G.elemPtr]
        refine .u (.ptr (cv := fun j => cv (i * sz + j)) (fun u hm => h5 u (List.mem_flatten.2 ⟨row, row_mem hrow, hm⟩)) (by rw [G.block_add]; exact hb) (by rw [G.block_add]; exact ho) (fun j u hj => ?_) (fun j u hj => ?_))
        · show w.cell? ((ad.add (i * sz)).add j) = _
          rw [G.add_add]; exact hc _ u (flatten_get h3 hrow hj)
        · exact hu _ u (flatten_get h3 hrow hj)
theorem O.idx_own {x y : Operand} {t e tb : TypeId} {k : IntKind} {i kk : Nat} {ii : Int} {inf : TypeInfo} {sz : Nat} {rows : List (List UV)} (hx : ev F x = some (.own kk)) (hS : lookS kk S = some (.data tb sz rows)) (hy : ev F y = some (.u (.sc (.int k ii)))) (hii : ii = (i : Int)) (hlt : i < rows.length)
    (ht : P.underlying t = some (.slice e)) (he : P.info? e = some inf) (hs : inf.size = sz) (hd : Nat.blt d c.n = true) (hg : Taken ops F gd) : OpOk c P ops ⟨some d, .indexAddr t x y, ty, pos, af, gd⟩ F S [kk] [] (some (.el kk sz i 0)) [] :=
  OpOk.runs hd hg fun σ τ a w hA hB h => by
    subst hii
    obtain ⟨h1, h2⟩ := h.opd hA xH hx
    have hy2 := (h.sc hA xH hy).2
    obtain ⟨hp, xs, q1, q2, q3⟩ := (h.sto kk _ ((hB kk yE).trans hS)).own
    generalize a.eval x = v at h1 h2
    cases h1
    refine ⟨_, G.R.idx h2 hy2 q1.sl (by rw [← q2.1]; exact hlt) ht he hs, ?_⟩
    obtain ⟨g, cc, q4, _⟩ := q1.form (fun e => by rw [e] at q2; have := q2.1; simp at this; rw [this] at hlt; simp at hlt)
    rw [q4]
    simp only [G.elemPtr, Addr.add_lit, Nat.zero_add]
    exact .el (off := 0) q4

theorem slice_rep {ok : Nat → Prop} {sz : Nat} {rows : List (List UV)} {v : Value} {i j : Nat} (h : RepU w ok (.sl sz rows) v) (h1 : i ≤ j) (h2 : j ≤ rows.length) : RepU w ok (.sl sz ((rows.take j).drop i)) (G.subSl v sz i j) := by
  have hl : ((rows.take j).drop i).length = j - i := by simp; omega
  cases h with
  | @sl0 _ A cc hc hn =>
    have hj : j = 0 := by simpa using h2
    subst hj
    have hi : i = 0 := by omega
    subst hi
    refine .sl0 xA (fun e => ?_)
    split at e
    · omega
    · cases A with
      | none => have := hn rfl; omega
      | some a => simp at e
  | @sl _ _ ad cc cv hne q1 q2 h3 h4 h5 hb ho hc hu =>
    simp only [G.subSl]
    by_cases hij : i = j
    · subst hij
      have : (rows.take i).drop i = [] := List.eq_nil_of_length_eq_zero (by rw [hl]; omega)
      rw [this, Nat.sub_self]
      exact .sl0 xA (fun e => by split at e <;> simp at e)
    · rw [if_neg xA, ← hl]
      have hgen : ∀ {q : Nat} {u : UV}, ((rows.take j).drop i).flatten[q]? = some u → rows.flatten[i * sz + q]? = some u := by
        intro q u hq
        have e1 : (rows.take j).flatten = (rows.take i).flatten ++ ((rows.take j).drop i).flatten := by
          rw [← List.flatten_append]
          congr 1
          have := List.take_append_drop i (rows.take j)
          rw [List.take_take, Nat.min_eq_left h1] at this
          exact this.symm
        have e2 : rows.flatten = (rows.take j).flatten ++ (rows.drop j).flatten := by rw [← List.flatten_append, List.take_append_drop]
        have hlen : (rows.take i).flatten.length = i * sz := by
          rw [flat_len (fun r hr => h3 r (List.mem_of_mem_take hr)), List.length_take, Nat.min_eq_left xA]
        rw [e2, e1, List.append_assoc, List.getElem?_append_right xA, hlen, show i * sz + q - i * sz = q by omega,
          List.getElem?_append_left (List.getElem?_eq_some_iff.1 hq).1]
        exact hq
      refine .sl (cv := fun q => cv (i * sz + q)) (fun e => by rw [e] at hl; simp at hl; omega) (by rw [hl]; omega) xA (fun r hr => h3 r (List.mem_of_mem_take (List.mem_of_mem_drop hr))) h4
        (fun u hu => ?_) (by rw [G.block_add]; exact hb) (by rw [G.block_add]; exact ho) (fun q u hq => ?_) (fun q u hq => hu _ u (hgen hq))
      · obtain ⟨r, hr, hu⟩ := List.mem_flatten.1 hu
        exact h5 u (List.mem_flatten.2 ⟨r, List.mem_of_mem_take (List.mem_of_mem_drop hr), hu⟩)
      · rw [G.add_add]; exact hc _ u (hgen hq)
theorem sl_form {ok : Nat → Prop} {sz : Nat} {rows : List (List UV)} {v : Value} (h : RepU w ok (.sl sz rows) v) : ∃ A cc, v = .slice A rows.length cc ∧ rows.length ≤ cc := by
  cases h with
  | sl0 hc => exact ⟨_, _, rfl, Nat.zero_le _⟩
  | sl hne q1 => exact ⟨_, _, rfl, q1⟩
def BndG (a : Act) (l : Option Operand) (i q : Nat) : Prop := match l with
  | some y => ∃ k, G.ev (actF a) y = some (.int k (i : Int))
  | none => i = q
theorem run_sub {ad : Option Addr} {n cc : Nat} {x : Operand} {l h : Option Operand} {t e : TypeId} {inf : TypeInfo} {sz i j : Nat} (hx : G.ev (actF a) x = some (.slice ad n cc)) (hn : n ≤ cc)
    (hl : BndG a l i 0) (hh : BndG a h j n) (h1 : i ≤ j) (h2 : j ≤ cc)
    (ht : P.underlying t = some (.slice e)) (he : P.info? e = some inf) (hs : inf.size = sz) : G.Runs P w (actF a) (.slice t x l h none) ty (G.subSl (.slice ad n cc) sz i j) := fun o ρ ho _ hρ => by
  subst hs
  cases l with
  | none =>
    simp only [BndG] at hl
    subst hl
    cases h with
    | none =>
      simp only [BndG] at hh
      subst hh
      simp only [execOp, ho, hρ x xH _ hx, Option.map_none]
      simp [Instr.sliceAt, Instr.slice, Instr.sliceBounds, run_underlying ht, sizeOf, typeInfo, he, G.subSl]
    | some y =>
      obtain ⟨k, hh⟩ := hh
      simp only [execOp, ho, hρ x xH _ hx, hρ y xH _ hh, Option.map_none, Option.map_some]
      simp [Instr.sliceAt, Instr.slice, Instr.sliceBounds, Instr.sliceBound, asIntOf, run_underlying ht, sizeOf, typeInfo, he, G.subSl, h2]
  | some z =>
    obtain ⟨k, hl⟩ := hl
    cases h with
    | none =>
      simp only [BndG] at hh
      subst hh
      simp only [execOp, ho, hρ x xH _ hx, hρ z xH _ hl, Option.map_none, Option.map_some]
      simp [Instr.sliceAt, Instr.slice, Instr.sliceBounds, Instr.sliceBound, asIntOf, run_underlying ht, sizeOf, typeInfo, he, G.subSl, h1]
    | some y =>
      obtain ⟨k', hh⟩ := hh
      simp only [execOp, ho, hρ x xH _ hx, hρ z xH _ hl, hρ y xH _ hh, Option.map_some, Option.map_none]
      simp [Instr.sliceAt, Instr.slice, Instr.sliceBounds, Instr.sliceBound, asIntOf, run_underlying ht, sizeOf, typeInfo, he, G.subSl, h1, h2]
def Bnd (F : Frm) (l : Option Operand) (i dflt : Nat) : Prop := match l with
  | some y => ∃ k ii, ev F y = some (.u (.sc (.int k ii))) ∧ ii = (i : Int)
  | none => i = dflt
theorem Bnd.at {y : Operand} {k : IntKind} {ii : Int} {i q : Nat} (h : ev F y = some (.u (.sc (.int k ii)))) (e : ii = (i : Int)) : Bnd F (some y) i q := ⟨k, ii, h, e⟩
theorem Bnd.no {q : Nat} : Bnd F none q q := rfl
theorem Bnd.run {o : Oper} {l : Option Operand} {i q : Nat} (h : Bnd F l i q) (hS : SatT c σ τ a w) (hA : AgreeF (o.looksAt ops) F σ) (hm : ∀ y, l = some y → y ∈ o.op.operands) : BndG a l i q := by
  cases l with
  | none => exact h
  | some y =>
    obtain ⟨k, ii, h1, h2⟩ := h
    subst h2
    exact ⟨k, (hS.sc hA (hm y rfl) h1).2⟩
theorem O.sub_fz {x : Operand} {l h : Option Operand} {t e : TypeId} {inf : TypeInfo} {sz i j : Nat} {rows rows' : List (List UV)} (hx : ev F x = some (.u (.sl sz rows))) (hl : Bnd F l i 0) (hh : Bnd F h j rows.length) (h1 : i ≤ j) (h2 : j ≤ rows.length) (hr : (rows.take j).drop i = rows')
    (ht : P.underlying t = some (.slice e)) (he : P.info? e = some inf) (hs : inf.size = sz) (hd : Nat.blt d c.n = true) (hg : Taken ops F gd) :
    OpOk c P ops ⟨some d, .slice t x l h none, ty, pos, af, gd⟩ F S [] [] (some (.u (.sl sz rows'))) [] :=
  OpOk.runs hd hg fun σ τ a w hA hB hS => by
    subst hr
    obtain ⟨p1, p2⟩ := hS.opd hA xH hx
    cases p1 with
    | u p1 =>
      obtain ⟨A, cc, e1, e2⟩ := sl_form p1
      have hl' := hl.run hS hA (fun y hy => by subst hy; simp [Op.operands])
      have hh' := hh.run hS hA (fun y hy => by subst hy; simp [Op.operands])
      rw [e1] at p2 p1
      exact ⟨_, run_sub p2 e2 hl' hh' h1 xA ht he hs, .u (slice_rep p1 h1 h2)⟩
theorem O.sub_own {x : Operand} {l h : Option Operand} {t e tb : TypeId} {inf : TypeInfo} {kk sz i j : Nat} {rows : List (List UV)} (hx : ev F x = some (.own kk)) (hS : lookS kk S = some (.data tb sz rows)) (hl : Bnd F l i 0) (hh : Bnd F h j rows.length) (h1 : i ≤ j) (h2 : j ≤ rows.length)
    (ht : P.underlying t = some (.slice e)) (he : P.info? e = some inf) (hs : inf.size = sz) (hd : Nat.blt d c.n = true) (hg : Taken ops F gd) :
    OpOk c P ops ⟨some d, .slice t x l h none, ty, pos, af, gd⟩ F S [kk] [] (some (.osl kk sz i j)) [] :=
  OpOk.runs hd hg fun σ τ a w hA hB h => by
    obtain ⟨p1, p2⟩ := h.opd hA xH hx
    have hl' := hl.run h hA (fun y hy => by subst hy; simp [Op.operands])
    have hh' := hh.run h hA (fun y hy => by subst hy; simp [Op.operands])
    obtain ⟨hp, xs, q1, q2, q3⟩ := (h.sto kk _ ((hB kk yE).trans hS)).own
    obtain ⟨A, cc, e1, e2, _⟩ := q1.sl.out
    generalize a.eval x = v at p1 p2
    cases p1
    rw [← q2.1] at e1 e2
    rw [e1] at p2
    exact ⟨_, run_sub p2 e2 hl' hh' h1 xA ht he hs, .osl e1 h1 h2⟩

end
end Go.H
end
section
namespace Go.H
open Go Go.RowKit
open Go.G (Ext Gr Blk)

section
variable {c : Ctx} {P : Program} {F : Frm} {S : Sto} {ops : Array Oper} {T T2 N : List Nat} {d : Nat} {op : Go.Op} {ty : TypeId} {pos : String} {af : Array Edge} {gd : Option (Nat × Bool)}
  {σ : Sig} {τ τ' : Nat → Value} {a : Act} {w w' : World} {δ : Chg}

theorem look1 {k j : Nat} {x y : Option SB} (h : look j [(k, x)] = some y) : j = k ∧ y = x := by
  by_cases e : k = j
  · subst e; rw [look_eq] at h; exact ⟨rfl, (Option.some.inj h).symm⟩
  · rw [look_ne e] at h; simp [look] at h
theorem SatT.turn {k : Nat} {sb sb0 : SB} (h : SatT c σ τ a w) (h0 : σ.sto k = some sb0) (hg : Gr (fun b => sb0.has (τ k) b) w w')
    (hrep : (∀ b, okOf c τ σ.sto b → b < w.heap.size → okOf c τ (σ.upd none none [(k, some sb)]).sto b ∧ w'.heap[b]? = w.heap[b]?) → RepB τ w' (okOf c τ (σ.upd none none [(k, some sb)]).sto) k sb)
    (hs : ∀ b, sb.has (τ k) b → sb0.has (τ k) b := by exact fun _ q => q) :
    SatT c (σ.upd none none [(k, some sb)]) τ a w' :=
  (h.chg (N := []) (fun k hk => by cases hk) hg (fun b hb _ => ⟨k, sb0, by rw [look_eq]; simp, h0, hb⟩) (fun _ _ => rfl)
    (fun j s hj b hb => by obtain ⟨rfl, e⟩ := look1 hj; cases e; exact .inr ⟨j, sb0, by rw [look_eq]; simp, h0, hs b hb⟩)
    (fun j j' s s' b hj hj' _ _ => by rw [(look1 hj).1, (look1 hj').1]) (fun hok j s hj => by obtain ⟨rfl, e⟩ := look1 hj; cases e; exact hrep hok)).1
theorem run_skip {o : Oper} {R : World → Prop} {ρ : Operand → Value} {op : Go.Op} {ty : TypeId} (h : G.Does P w (actF a) op ty R) (h1 : o.op = op) (h2 : o.type = ty) (h3 : ρ = a.eval) : ∃ w', (execOp ρ o).run P w = .ok .skip w' ∧ R w' := by
  subst h3
  exact h o a.eval h1 h2 (fun _ _ _ hx => actF_of hx)

theorem O.st_ref {x y : Operand} {t tb : TypeId} {k off m : Nat} {is js is' : List IV} {j : IV} (hx : ev F x = some (.ref k off)) (hS : lookS k S = some (.cells tb is)) (hy : ev F y = some j) (hj : j.cells = js) (hm : js.length = m) (hs : (P.info? t).map (·.size) = some m)
    (hn : js ≠ []) (hfit : off + js.length ≤ is.length) (h1 : js.all IV.one = true) (hr : is.take off ++ js ++ is.drop (off + js.length) = is') (hg : Taken ops F gd) :
    OpOk c P ops ⟨none, .store t x y, ty, pos, af, gd⟩ F S [k] [] none [(k, some (.cells tb is'))] := by
  refine OpOk.does hg fun σ τ a w hA hB h => ?_
  subst hr
  obtain ⟨p1, p2⟩ := h.opd hA xH hx
  obtain ⟨q1, q2⟩ := h.opd hA xH hy
  have h0 := (hB k yE).trans hS
  obtain ⟨g, vs, e1, e2, e3, e4⟩ := h.sto k _ h0
  have hc := q1.cells (fun e => by subst e; exact hn hj.symm)
  rw [hj] at hc
  generalize a.eval x = v at p1 p2
  cases p1 with
  | @ref _ _ g' hk =>
    have : g' = g := by rw [hk] at e1; simp at e1; exact e1
    subst this
    obtain ⟨w', r1, r2, r3, r4⟩ := run_skip (o := ⟨none, .store t x y, ty, pos, af, gd⟩) (G.D.store (ty := ty) p2 q2 (vs := (a.eval y).cells.toList) yE hs (by rw [← hc.1, hm]) e2 (by rw [← hc.1, ← e3.1]; exact hfit) (hc.ones h1)) rfl rfl rfl
    refine ⟨w', τ, r1, h.turn h0 (Gr.of_grown r3 fun b hb => by rw [e1]; exact hb) fun hok => ⟨g', _, e1, r2, ?_, fun i hi => ?_⟩⟩
    · rw [← hc.1]
      exact (((e3.take off).app hc).app (e3.drop _)).mono (by rw [r4]; exact Nat.le_refl _) hok (fun _ _ => rfl)
    · rcases List.mem_append.1 hi with hi | hi
      · rcases List.mem_append.1 hi with hi | hi
        · exact e4 i (List.mem_of_mem_take hi)
        · exact List.all_eq_true.1 h1 i hi
      · exact e4 i (List.mem_of_mem_drop hi)

theorem flatten_set {sz : Nat} : ∀ {rows : List (List UV)} {i : Nat} {row row' : List UV}, (∀ r ∈ rows, r.length = sz) → rows[i]? = some row → row'.length = sz →
    (rows.set i row').flatten = rows.flatten.take (i * sz) ++ row' ++ rows.flatten.drop (i * sz + sz)
  | [], i, row, row', _, h, _ => by simp at h
  | r :: rows, 0, row, row', hr, h, hl => by
    rw [List.set_cons_zero, List.flatten_cons, List.flatten_cons, Nat.zero_mul, List.take_zero, List.nil_append, Nat.zero_add, List.drop_append, hr r yE, Nat.sub_self, List.drop_zero, List.drop_eq_nil_of_le (by rw [hr r yE]; exact Nat.le_refl _), List.nil_append]
  | r :: rows, i + 1, row, row', hr, h, hl => by
    have ih := flatten_set (rows := rows) (i := i) (row := row) (row' := row') (fun q hq => hr q (by simp [hq])) (by simpa using h) hl
    have e := hr r yE
    have t1 : r.take (i * sz + sz) = r := List.take_of_length_le xA
    have t2 : r.drop (i * sz + sz + sz) = [] := List.drop_eq_nil_of_le xA
    rw [List.set_cons_succ, List.flatten_cons, List.flatten_cons, ih, Nat.add_mul, Nat.one_mul, List.take_append, List.drop_append, e, t1, t2,
      List.nil_append, show i * sz + sz - sz = i * sz by omega, show i * sz + sz + sz - sz = i * sz + sz by omega]
    simp
theorem O.st_el {x y : Operand} {t tb : TypeId} {k sz i off m : Nat} {rows : List (List UV)} {row row' us : List UV} {j : IV} (hx : ev F x = some (.el k sz i off)) (hS : lookS k S = some (.data tb sz rows)) (hy : ev F y = some j) (hj : j.cells = us.map .u) (hm : us.length = m) (hs : (P.info? t).map (·.size) = some m)
    (hn : us ≠ []) (hrow : rows[i]? = some row) (hfit : off + us.length ≤ row.length) (h1 : us.all UV.one = true) (hr : row.take off ++ us ++ row.drop (off + us.length) = row') (hg : Taken ops F gd) :
    OpOk c P ops ⟨none, .store t x y, ty, pos, af, gd⟩ F S [k] [] none [(k, some (.data tb sz (rows.set i row')))] := by
  refine OpOk.does hg fun σ τ a w hA hB h => ?_
  subst hr
  obtain ⟨p1, p2⟩ := h.opd hA xH hx
  obtain ⟨q1, q2⟩ := h.opd hA xH hy
  have h0 := (hB k yE).trans hS
  obtain ⟨vs, ⟨f0, f1⟩, f2, f3, f4, f5⟩ := h.sto k _ h0
  have hc := q1.cells (fun e => by subst e; simp [IV.cells] at hj; exact hn hj)
  rw [hj] at hc
  have hcu : AllU w (okOf c τ σ.sto) us (a.eval y).cells.toList := ⟨by simpa using hc.1, fun q u v z1 z2 => by
    have := hc.2 q (.u u) v (by simp [z1]) z2
    cases this; assumption⟩
  have hrl : row.length = sz := f3 row (row_mem hrow)
  have hil : i < rows.length := (List.getElem?_eq_some_iff.1 hrow).1
  generalize a.eval x = v at p1 p2
  cases p1 with
  | @el _ _ _ _ g n cc hk =>
    rcases f1 with ⟨f1, _⟩ | ⟨g', cap, cur, f1, _, f6, f7, f8, f9, f10⟩
    · rw [hk] at f1; cases f1
    · have hgg : g' = g ∧ n = rows.length ∧ cap = cc := by
        rw [hk] at f1; simp only [Value.slice.injEq, Option.some.injEq, Addr.mk.injEq, and_true] at f1; exact ⟨f1.1.symm, f1.2.1, f1.2.2.symm⟩
      obtain ⟨rfl, rfl, rfl⟩ := hgg
      have hcur : rows.length * sz ≤ cur.toList.length := by
        have e : cur.toList.length = cap * sz := by rw [Array.length_toList]; exact f9
        rw [e]; exact Nat.mul_le_mul_right _ f7
      have hpos : i * sz + sz ≤ rows.length * sz := by
        have := Nat.mul_le_mul_right sz hil
        rw [Nat.succ_mul] at this; exact this
      have hlen : (a.eval y).cells.toList.length = us.length := hcu.1.symm
      obtain ⟨w', r1, r2, r3, r4⟩ := run_skip (o := ⟨none, .store t x y, ty, pos, af, gd⟩) (G.D.store (ty := ty) (cs := cur.toList) (o := i * sz + off) (g := g') p2 q2 (vs := (a.eval y).cells.toList) yE hs (by rw [hlen, hm]) (by unfold Blk; simpa using f6) (by rw [hlen]; omega) (hc.ones (by simpa [IV.one, Function.comp] using h1))) rfl rfl rfl
      refine ⟨w', τ, r1, h.turn h0 (Gr.of_grown r3 fun b hb => by rw [f1]; exact hb) fun hok => ?_⟩
      have hvs : vs = cur.toList.take (rows.length * sz) := f10.symm
      -- the cells behind it
      have hnew : AllU w (okOf c τ σ.sto) (rows.set i (row.take off ++ us ++ row.drop (off + us.length))).flatten ((cur.toList.take (i * sz + off) ++ (a.eval y).cells.toList ++ cur.toList.drop (i * sz + off + us.length)).take (rows.length * sz)) := by
        rw [flatten_set f3 hrow zB]
        have hfl : rows.flatten.length = rows.length * sz := flat_len f3
        have e1 : rows.flatten.take (i * sz) ++ (row.take off ++ us ++ row.drop (off + us.length)) ++ rows.flatten.drop (i * sz + sz) = rows.flatten.take (i * sz + off) ++ us ++ rows.flatten.drop (i * sz + off + us.length) := by
          have er : row = (rows.flatten.drop (i * sz)).take sz := by
            apply List.ext_getElem?
            intro q
            rw [List.getElem?_take]
            by_cases hq : q < sz
            · rw [if_pos hq, List.getElem?_drop, List.getElem?_eq_getElem xA]
              exact (flatten_get f3 hrow (List.getElem?_eq_getElem xA)).symm
            · rw [if_neg hq, List.getElem?_eq_none xA]
          rw [er, List.take_take, List.drop_take, List.drop_drop, Nat.min_eq_left xA]
          have t1 : rows.flatten.take (i * sz + off) = rows.flatten.take (i * sz) ++ (rows.flatten.drop (i * sz)).take off := by rw [List.take_add]
          have t2 : rows.flatten.drop (i * sz + off + us.length) = (rows.flatten.drop (i * sz + (off + us.length))).take (sz - (off + us.length)) ++ rows.flatten.drop (i * sz + sz) := by
            rw [show i * sz + off + us.length = i * sz + (off + us.length) by omega]
            have := List.take_append_drop (sz - (off + us.length)) (rows.flatten.drop (i * sz + (off + us.length)))
            rw [List.drop_drop, show i * sz + (off + us.length) + (sz - (off + us.length)) = i * sz + sz by omega] at this
            exact this.symm
          rw [t1, t2]
          simp
        rw [e1]
        have e2 : (cur.toList.take (i * sz + off) ++ (a.eval y).cells.toList ++ cur.toList.drop (i * sz + off + us.length)).take (rows.length * sz) = vs.take (i * sz + off) ++ (a.eval y).cells.toList ++ vs.drop (i * sz + off + us.length) := by
          have hAB : (cur.toList.take (i * sz + off) ++ (a.eval y).cells.toList).length = i * sz + off + us.length := by
            rw [List.length_append, List.length_take, Nat.min_eq_left xA, hlen]
          rw [hvs, List.take_append, hAB, List.take_of_length_le (by rw [hAB]; omega), List.take_take, Nat.min_eq_left xA, List.drop_take]
        rw [e2]
        exact ((f2.take _).app hcu).app (f2.drop _)
      refine ⟨_, ⟨?_, .inr ⟨g', cap, (cur.toList.take (i * sz + off) ++ (a.eval y).cells.toList ++ cur.toList.drop (i * sz + off + us.length)).toArray, by rw [f1]; simp, Nat.zero_le _, by rw [← hlen]; exact r2, by simpa using f7, f8, ?_, rfl⟩⟩, ?_, fun r hr => ?_, f4, fun u hu => ?_⟩
      · have hA1 : (cur.toList.take (i * sz + off)).length = i * sz + off := by rw [List.length_take, Nat.min_eq_left xA]
        simp only [List.length_take, List.length_append, hlen, List.length_drop, List.length_set, Nat.min_eq_left (show i * sz + off ≤ cur.toList.length by omega)]
        omega
      · simp only [List.size_toArray, List.length_append, List.length_take, List.length_drop, hlen]
        have e : cur.toList.length = cap * sz := by rw [Array.length_toList]; exact f9
        have := Nat.mul_le_mul_right sz f7
        rw [e]
        omega
      · simp only [List.length_set]
        exact hnew.mono (by rw [r4]; exact Nat.le_refl _) hok
      · rcases List.mem_or_eq_of_mem_set hr with hr | hr
        · exact f3 r hr
        · rw [hr]; simp; omega
      · obtain ⟨r, hr, hu⟩ := List.mem_flatten.1 hu
        rcases List.mem_or_eq_of_mem_set hr with hr | hr
        · exact f5 u (List.mem_flatten.2 ⟨r, hr, hu⟩)
        · rw [hr] at hu
          rcases List.mem_append.1 hu with hu | hu
          · rcases List.mem_append.1 hu with hu | hu
            · exact f5 u (List.mem_flatten.2 ⟨row, row_mem hrow, List.mem_of_mem_take hu⟩)
            · exact List.all_eq_true.1 h1 u hu
          · exact f5 u (List.mem_flatten.2 ⟨row, row_mem hrow, List.mem_of_mem_drop hu⟩)

theorem run_value {o : Oper} {R : Value → World → Prop} {ρ : Operand → Value} {op : Go.Op} {ty : TypeId} (h : G.Makes P w (actF a) op ty R) (h1 : o.op = op) (h2 : o.type = ty) (h3 : ρ = a.eval) : ∃ v w', (execOp ρ o).run P w = .ok (.value v) w' ∧ R v w' := by
  subst h3
  exact h o a.eval h1 h2 (fun _ _ _ hx => actF_of hx)
theorem O.make {x y : Operand} {t e : TypeId} {k k' : IntKind} {m kk sz : Nat} {mx my : Int} {z : Value} {zr : List UV} {inf : TypeInfo} (hx : ev F x = some (.u (.sc (.int k mx)))) (hy : ev F y = some (.u (.sc (.int k' my)))) (ex : mx = (m : Int)) (ey : my = (m : Int)) (ht : P.underlying t = some (.slice e)) (hi : P.info? e = some inf)
    (hz : inf.zero = some z) (hs : inf.size = sz) (hzr : (z.cells.toList.map .sc) = zr) (hzl : zr.length = sz) (hp : 0 < sz) (h1 : zr.all UV.one = true) (hb : inf.bytes * m ≤ 281474976710656) (hm : m ≤ 9223372036854775807) (hd : Nat.blt d c.n = true) (hg : Taken ops F gd) :
    OpOk c P ops ⟨some d, .makeSlice t x y, ty, pos, af, gd⟩ F S [kk] [kk] (some (.own kk)) [(kk, some (.data e sz (List.replicate m zr)))] := by
  refine OpOk.mem hd hg fun σ τ a w hA _ hN h => ?_
  subst ex; subst ey; subst hzr
  have hzl' : z.cells.toList.length = sz := by simpa using hzl
  obtain ⟨v, w', r1, g, rfl, rfl, r4, r5, r6⟩ := run_value (o := ⟨some d, .makeSlice t x y, ty, pos, af, gd⟩) (G.M.make (P := P) (w := w) (ty := ty) (E := encRow sz hp) (zx := ⟨z.cells.toList, hzl'⟩) (h.sc hA xH hx).2 (h.sc hA xH hy).2 ht hi hz hs (by simp [encRow]) hb hm) rfl rfl rfl
  have := h.new (k := kk) (sb := .data e sz (List.replicate m (z.cells.toList.map .sc))) (v := .slice (some ⟨w.heap.size, 0, none⟩) m m) hN r5 (fun b hb => by cases hb; exact Nat.le_refl _)
    (fun hok => RepB.of_own hp (xs := List.replicate m ⟨z.cells.toList, hzl'⟩) (by rw [upτ_eq]; exact r6.mono (Nat.zero_le _)) ⟨by simp, fun i row x q1 q2 => ?_⟩ (fun u hu => ?_))
  · have e' := own_one (this.1.sto kk (.data e sz (List.replicate m (z.cells.toList.map .sc))) (by simp [Sig.upd, look]))
    have hr := RepI.own (τ := upτ τ kk (.slice (some ⟨w.heap.size, 0, none⟩) m m)) (w := w') (ok := okOf c (upτ τ kk (.slice (some ⟨w.heap.size, 0, none⟩) m m)) (σ.upd none none [(kk, some (.data e sz (List.replicate m (z.cells.toList.map .sc))))]).sto) kk e'
    rw [upτ_eq] at hr
    exact ⟨_, w', _, r1, this.1, hr⟩
  · rw [List.getElem?_replicate] at q1 q2
    split at q1
    · rename_i hh
      rw [if_pos hh] at q2
      cases q1; cases q2
      exact ⟨by simp, fun j u v z1 z2 => by rw [List.getElem?_map, z2] at z1; cases z1; exact .sc v⟩
    · cases q1
  · obtain ⟨r, hr, hu⟩ := List.mem_flatten.1 hu
    rw [(List.mem_replicate.1 hr).2] at hu
    exact List.all_eq_true.1 h1 u hu

theorem O.app {x y : Operand} {t e : TypeId} {k k' sz : Nat} {rows ys rows' : List (List UV)} {inf : TypeInfo} {z : Value} (hx : ev F x = some (.own k)) (hS : lookS k S = some (.data e sz rows)) (hs : SlOf F S T y sz ys)
    (ht : P.underlying t = some (.slice e)) (hi : P.info? e = some inf) (hz : inf.zero = some z) (hsz : inf.size = sz) (hzs : z.cells.size = sz) (hne : Nat.beq k k' = false) (hr : rows ++ ys = rows')
    (hb : (rows.length + ys.length) * inf.bytes ≤ 140737488355328) (hlen : rows.length + ys.length ≤ 9223372036854775807) (hd : Nat.blt d c.n = true) (hg : Taken ops F gd) :
    OpOk c P ops ⟨some d, .call { callee := .builtin .append, args := #[x, y], argTypes := #[t, t] }, ty, pos, af, gd⟩ F S (k :: k' :: T) [k'] (some (.own k')) [(k', some (.data e sz rows')), (k, none)] := by
  subst hr
  refine OpOk.mem hd hg fun σ τ a w hA hB hN h => ?_
  have hkk : k ≠ k' := fun e => by subst e; simp at hne
  obtain ⟨p1, p2⟩ := h.opd hA yY hx
  obtain ⟨j, hy, hs⟩ := hs
  obtain ⟨q1, q2⟩ := h.opd hA yY hy
  have h0 := (hB k yE).trans hS
  obtain ⟨hp, xs, o1, o2, o3⟩ := (h.sto k _ h0).own
  obtain ⟨_, xs', lo, hi', s1, s2, s3⟩ := hs c σ τ a w _ (fun q hq => hB q (by simp [hq])) h q1
  generalize a.eval x = v at p1 p2
  cases p1 with
  | own _ hone =>
    have hcl : ∀ y ∈ xs', G.cells1 ((encRow sz hp).cells y) = true := by
      intro y hy
      refine List.all_eq_true.2 fun u hu => ?_
      obtain ⟨i, hi1, hi2⟩ := List.mem_iff_getElem.1 hy
      have hrl : i < ys.length := by rw [s2.1]; exact hi1
      have hrow := s2.2 i ys[i] y (List.getElem?_eq_getElem hrl) (by rw [List.getElem?_eq_getElem hi1, hi2])
      obtain ⟨q, hq1, hq2⟩ := List.mem_iff_getElem.1 hu
      have hq3 : q < ys[i].length := by rw [hrow.1]; exact hq1
      have hrep := hrow.2 q (ys[i])[q] u (List.getElem?_eq_getElem hq3) (by
        have : ((encRow sz hp).cells y)[q]? = some u := by rw [List.getElem?_eq_getElem hq1]; exact congrArg some hq2
        exact this)
      exact (RepI.u (τ := τ) hrep).isOne (s3 _ (List.mem_flatten.2 ⟨ys[i], List.getElem_mem hrl, List.getElem_mem hq3⟩))
    obtain ⟨v', w', r1, r2, r3, r4⟩ := run_value (o := ⟨some d, .call { callee := .builtin .append, args := #[x, y], argTypes := #[t, t] }, ty, pos, af, gd⟩)
      (G.M.append (P := P) (ty := ty) p2 q2 o1 s1 ht hi hz hsz hzs hcl (by rw [← o2.1, ← s2.1]; exact hb) (by rw [← o2.1, ← s2.1]; exact hlen) (Nat.zero_le _)) rfl rfl rfl
    · have hv : vblk (τ k) = (τ k).ownBlock := vblk_own o1
      have hv' : vblk v' = v'.ownBlock := vblk_own r2
      have hl1 : ∀ q x, look q [(k', some (SB.data e sz (rows ++ ys))), (k, none)] = some (some x) → q = k' ∧ x = .data e sz (rows ++ ys) := fun q x hq => by
        by_cases e1 : k' = q
        · subst e1; rw [look_eq] at hq; simp at hq; exact ⟨rfl, hq.symm⟩
        · rw [look_ne e1] at hq
          by_cases e2 : k = q
          · subst e2; rw [look_eq] at hq; cases hq
          · rw [look_ne e2] at hq; simp [look] at hq
      have hk0 : look k [(k', some (SB.data e sz (rows ++ ys))), (k, none)] ≠ none := by rw [look_ne (Ne.symm hkk), look_eq]; simp
      have := h.chg (N := [k']) (τ' := upτ τ k' v') (δ := [(k', some (.data e sz (rows ++ ys))), (k, none)]) (B := fun b => vblk (τ k) = some b) hN (Gr.of_grown r3 fun b hb => by rw [hv, hb])
        (fun b hb _ => ⟨k, _, hk0, h0, hb⟩) (fun q hq => upτ_ne (by simpa using hq))
        (fun q s hq b hb => by
          obtain ⟨rfl, rfl⟩ := hl1 q s hq
          replace hb : vblk (upτ τ q v' q) = some b := hb
          rw [upτ_eq, hv'] at hb
          rcases r4 with r4 | r4
          · exact .inr ⟨k, _, hk0, h0, by show vblk (τ k) = some b; rw [hv, ← r4, hb]⟩
          · rw [r4] at hb; cases hb; exact .inl (Nat.le_refl _))
        (fun q q' s s' b hq hq' _ _ => by rw [(hl1 q s hq).1, (hl1 q' s' hq').1])
        (fun hok q s hq => by
          obtain ⟨rfl, rfl⟩ := hl1 q s hq
          refine RepB.of_own hp (xs := xs ++ xs') (by rw [upτ_eq]; exact r2) ((o2.app s2).mono r3.size hok) fun u hu => ?_
          rw [List.flatten_append, List.mem_append] at hu
          rcases hu with hu | hu
          · exact o3 u hu
          · exact s3 u hu)
      have e' := own_one (this.1.sto k' (.data e sz (rows ++ ys)) (by simp [Sig.upd, look]))
      have hr := RepI.own (τ := upτ τ k' v') (w := w') (ok := okOf c (upτ τ k' v') (σ.upd none none [(k', some (.data e sz (rows ++ ys))), (k, none)]).sto) k' e'
      rw [upτ_eq] at hr
      exact ⟨_, w', _, r1, this.1, hr⟩

theorem Sat.adopt {S : Sto} {F : Frm} (t k : Nat) (e : TypeId) (sz : Nat) (hp : 0 < sz) (hx : look t F = some (.u (.sc (.slice none 0 0)))) (hf : freshB [k] F S = true) (hk : disj [k] c.pk = true) (h : Sat c (mk F S) a w) :
    Sat c (mk ((t, .own k) :: F) ((k, .data e sz []) :: S)) a w := by
  obtain ⟨τ, h⟩ := h
  have hfr := freshB_spec hf
  have := h.new (k := k) (sb := .data e sz []) (v := .slice none 0 0) (fun j hj => ⟨(hfr j hj).1, (hfr j hj).2, disj_spec hk j hj⟩) (Ext.rfl' w) (fun b hb => by simp [SB.has, vblk] at hb)
    (fun _ => RepB.of_own hp (xs := []) (by rw [upτ_eq]; exact G.Own.nil _ _ _ _) ⟨rfl, fun i row x h1 => by simp at h1⟩ yE)
  obtain ⟨u, h1, h2⟩ := h.slot t _ hx
  refine ⟨upτ τ k (.slice none 0 0), ?_⟩
  have he := mk_upd none none [(k, some (.data e sz []))] F S
  have hsat := this.1
  rw [← he] at hsat
  refine ⟨hsat.size, hsat.defers, hsat.gr, fun s i hl => ?_, hsat.sto, hsat.inj, hsat.own, hsat.pin⟩
  by_cases e2 : t = s
  · subst e2
    have : i = .own k := by
      have : look t ((t, IV.own k) :: F) = some i := hl
      rw [look_eq] at this; exact (Option.some.inj this).symm
    subst this
    cases h2 with
    | u h2 =>
      cases h2
      refine ⟨_, h1, ?_⟩
      have hr := RepI.own (τ := upτ τ k (.slice none 0 0)) (w := w) (ok := okOf c (upτ τ k (.slice none 0 0)) (mk ((t, .own k) :: F) ((k, .data e sz []) :: S)).sto) k (by rw [upτ_eq]; rfl)
      rw [upτ_eq] at hr
      exact hr
  · have : look s ((t, IV.own k) :: F) = some i := hl
    rw [look_ne e2] at this
    exact hsat.slot s i this
end
section
variable {c : Ctx} {P : Program} {Q : Exit → Act → World → Prop} {F : Frm} {S : Sto} {ops : Array Oper} {l : List Oper}
theorem W.adopt {cd : Code} (t k : Nat) (e : TypeId) (sz : Nat) (hp : 0 < sz) (hx : look t F = some (.u (.sc (.slice none 0 0)))) (hf : freshB [k] F S = true) (hk : disj [k] c.pk = true)
    (h : W c P cd Q ((t, .own k) :: F) ((k, .data e sz []) :: S)) : W c P cd Q F S := fun a w ha => h a w (ha.adopt t k e sz hp hx hf hk)
end
end Go.H
end
section
namespace Go.H
open Go Go.RowKit
open Go.G (Ext Gr Blk)

def keysS (S : Sto) : List Nat := S.map (·.1)
def MOf (τ : Nat → Value) (S : Sto) (b : Nat) : Prop := ∃ k sb, lookS k S = some sb ∧ sb.has (τ k) b
theorem mem_keysS {k : Nat} {S : Sto} {sb : SB} (h : lookS k S = some sb) : k ∈ keysS S := List.mem_map.2 ⟨_, look_mem (lookS_look h), rfl⟩

structure In (τ : Nat → Value) (w : World) (ok : Nat → Prop) (ivs : List IV) (S : Sto) (vs : List Value) : Prop where
  args : AllI τ w ok ivs vs
  sto : ∀ k sb, lookS k S = some sb → RepB τ w ok k sb
  inj : ∀ k k' sb sb' b, lookS k S = some sb → lookS k' S = some sb' → sb.has (τ k) b → sb'.has (τ k') b → k = k'
  ap : ∀ b, ok b → ¬ MOf τ S b
def okOut (τ : Nat → Value) (w : World) (ok : Nat → Prop) (S : Sto) (τ' : Nat → Value) (S' : Sto) (b : Nat) : Prop := (ok b ∨ MOf τ S b ∨ w.heap.size ≤ b) ∧ ∀ k sb, lookS k S' = some sb → ¬ sb.has (τ' k) b
structure Out (τ : Nat → Value) (w : World) (ok : Nat → Prop) (S : Sto) (r : IV) (S' : Sto) (τ' : Nat → Value) (v : Value) (w' : World) : Prop where
  gr : Gr (MOf τ S) w w'
  pin : ∀ k ∈ keysS S, τ' k = τ k
  res : RepI τ' w' (okOut τ w ok S τ' S') r v
  sto : ∀ k sb, lookS k S' = some sb → RepB τ' w' (okOut τ w ok S τ' S') k sb
  inj : ∀ k k' sb sb' b, lookS k S' = some sb → lookS k' S' = some sb' → sb.has (τ' k) b → sb'.has (τ' k') b → k = k'
  own : ∀ k sb b, lookS k S' = some sb → sb.has (τ' k) b → MOf τ S b ∨ w.heap.size ≤ b
def Con (P : Program) (f : FuncId) (ivs : List IV) (S : Sto) (r : IV) (S' : Sto) : Prop :=
  ∀ τ w vs ok, In τ w ok ivs S vs → Calls P f vs.toArray w (fun e w' => ∃ v τ', e = .returned v ∧ Out τ w ok S r S' τ' v w')

def args0 : Nat → List IV → Frm
  | _, [] => []
  | k, v :: r => (k, v) :: args0 (k + 1) r
theorem look_args0 : ∀ (l : List IV) (k t : Nat) (i : IV), look t (args0 k l) = some i → k ≤ t ∧ l[t - k]? = some i
  | [], k, t, i, h => by simp [args0, look] at h
  | v :: r, k, t, i, h => by
    by_cases e : k = t
    · subst e
      rw [args0, look_eq] at h
      cases h
      exact ⟨Nat.le_refl _, by simp⟩
    · rw [args0, look_ne e] at h
      obtain ⟨h2, h3⟩ := look_args0 r (k + 1) t i h
      refine ⟨xA, ?_⟩
      have : t - k = (t - (k + 1)) + 1 := by omega
      rw [this]
      simpa using h3
def cx (n : Nat) (S : Sto) (τ : Nat → Value) (w : World) (ok : Nat → Prop) : Ctx := ⟨n, w, MOf τ S, ok, keysS S, τ⟩
def Post (P : Program) (fn : Func) (S : Sto) (τ : Nat → Value) (w : World) (ok : Nat → Prop) (r : IV) (S' : Sto) : Exit → Act → World → Prop :=
  bodyPost P fn (fun e w' => ∃ v τ', e = .returned v ∧ Out τ w ok S r S' τ' v w')

section
variable {P : Program} {fn : Func} {f : FuncId} {cd : Code} {n : Nat} {S S' S0 S1 : Sto} {ivs : List IV} {r : IV} {τ : Nat → Value} {w : World} {ok : Nat → Prop} {F : Frm}
theorem Con.enter' {vs : List Value} (hf : P.funcs[f]? = some fn) (hb : fn.body = some cd) (hn : fn.ntmps = n) (hl : Nat.ble ivs.length n = true)
    (h : W (cx n S τ w ok) P cd (Post P fn S τ w ok r S') (args0 0 ivs) S) (hin : In τ w ok ivs S vs) : Calls P f vs.toArray w (fun e w' => ∃ v τ', e = .returned v ∧ Out τ w ok S r S' τ' v w') := by
  have hl' : ivs.length ≤ n := Nat.le_of_ble_eq_true hl
  refine calls_of_wp hf hb (h _ w ⟨τ, by simp [cx, hn, ← hin.args.1]; omega, rfl, Gr.refl _ _, fun t i hi => ?_, fun k sb hk => ?_, hin.inj, fun k sb b hk hv => .inl ⟨k, sb, hk, hv⟩, fun _ _ => rfl⟩)
  · obtain ⟨_, hv⟩ := look_args0 ivs 0 t i hi
    rw [Nat.sub_zero] at hv
    have ht : t < vs.length := by rw [← hin.args.1]; exact (List.getElem?_eq_some_iff.1 hv).1
    refine ⟨vs[t], ?_, (hin.args.2 t i vs[t] hv (List.getElem?_eq_getElem ht)).mono (Nat.le_refl _) (fun b hb _ => ⟨⟨.inl hb, fun k sb hk hv => hin.ap b hb ⟨k, sb, hk, hv⟩⟩, rfl⟩) (fun _ _ => rfl)⟩
    rw [Array.getElem?_append_left (by simpa using ht)]
    simp [ht]
  · exact (hin.sto k sb hk).mono (Nat.le_refl _) (fun b hb _ => ⟨⟨.inl hb, fun k sb hk hv => hin.ap b hb ⟨k, sb, hk, hv⟩⟩, rfl⟩) (fun _ _ => rfl) rfl (fun _ _ => rfl)


def resF (tmps : Array Value) : ResultVar → Sem Value
  | .tmp t => pure (tmps.getD t undef)
  | .cell a t => do loadVar t (← asAddr (tmps.getD a undef))
theorem results_eq (fn : Func) (tmps : Array Value) : results fn tmps = (do
    let vs ← fn.results.mapM (resF tmps)
    pure (if h : vs.size = 1 then vs[0] else .tuple vs)) := rfl
def ResOne (P : Program) (F : Frm) (S : Sto) (rv : ResultVar) (i : IV) : Prop :=
  ∀ (c : Ctx) (τ : Nat → Value) (a : Act) (w : World), SatT c (mk F S) τ a w → ∃ v, (resF a.tmps rv).run P w = .ok v w ∧ RepI τ w (okOf c τ (mk F S).sto) i v
theorem ResOne.tmp {t : Nat} {i : IV} (h : look t F = some i) : ResOne P F S (.tmp t) i := fun c τ a w hS => by
  obtain ⟨u, h1, h2⟩ := hS.slot t i h
  exact ⟨u, by simp [resF, h1], h2⟩
theorem ResOne.cellN {t : Nat} {tt : TypeId} {dd : TypeDesc} {is js : List IV} {m : Nat} {T : List Nat} (hp : PtI F S T (.tmp t) is) (hj : is.take m = js) (hm : m ≤ is.length) (ht : P.underlying tt = some dd) (ha : G.aggD dd = true) (hs : (P.info? tt).map (·.size) = some m) :
    ResOne P F S (.cell t tt) (.agg js) := fun c τ a w hS => by
  subst hj
  obtain ⟨j, hx, hp⟩ := hp
  obtain ⟨u, h1, h2⟩ := hS.slot t j hx
  obtain ⟨ad, vs, h3, h4, h5⟩ := hp c _ τ a w u (fun _ _ => rfl) hS h2
  subst h3
  obtain ⟨inf, hi, hs⟩ := Option.map_eq_some_iff.1 hs
  have hl : (vs.take m).length = m := by rw [List.length_take, ← h5.1]; omega
  have hld := run_loadCells_list (P := P) (w := w) ad (vs.take m) (h4.take m)
  rw [hl] at hld
  refine ⟨.agg (vs.take m).toArray, ?_, .agg (h5.take m).1 (h5.take m).2⟩
  simp [resF, h1, asAddr, loadVar, G.run_isAgg' ht, ha, sizeOf, typeInfo, hi, hs, hld]
def ResAll (P : Program) (F : Frm) (S : Sto) : List ResultVar → List IV → Prop
  | [], [] => True
  | rv :: rs, i :: is => ResOne P F S rv i ∧ ResAll P F S rs is
  | _, _ => False
theorem resAll_run {c : Ctx} {a : Act} (hS : SatT c (mk F S) τ a w) : ∀ {rs : List ResultVar} {is : List IV}, ResAll P F S rs is → ∃ vs : List Value, (rs.mapM (resF a.tmps)).run P w = .ok vs w ∧ AllI τ w (okOf c τ (mk F S).sto) is vs
  | [], [], _ => ⟨[], rfl, rfl, fun i u v h1 => by simp at h1⟩
  | rv :: rs, i :: is, h => by
    obtain ⟨v, h1, h2⟩ := h.1 c τ a w hS
    obtain ⟨vs, h3, h4⟩ := resAll_run hS h.2
    refine ⟨v :: vs, ?_, (AllI.single h2).app h4⟩
    rw [List.mapM_cons, Sem.run_bind, h1, Result.andThen_ok, Sem.run_bind, h3, Result.andThen_ok]; rfl
  | [], _ :: _, h => h.elim
  | _ :: _, [], h => h.elim
def resI : List IV → IV
  | [i] => i
  | is => .tup is
theorem E.fin {e : Exit} {rs : List ResultVar} {is : List IV} (ρ : Nat → Nat) (he : e = .ret ∨ e = .normal) (hr : fn.results = rs.toArray) (hres : ResAll P F S rs is) (hi : r.ren ρ = resI is) (hS : SubS ρ S S1) (hd : distinct (S1.map fun x => ρ x.1) = true)
    (hp : ∀ k ∈ keysS S0, ρ k = k) : E (cx n S0 τ w ok) (Post P fn S0 τ w ok r S1) e F S := by
  intro a w' ha
  obtain ⟨τ', h⟩ := ha
  obtain ⟨vs, h1, h2⟩ := resAll_run h hres
  have hval : ∃ v, (results fn a.tmps).run P w' = .ok v w' ∧ RepI τ' w' (okOf (cx n S0 τ w ok) τ' (mk F S).sto) (resI is) v := by
    have hrun : (fn.results.mapM (resF a.tmps)).run P w' = .ok vs.toArray w' := by
      rw [hr, List.mapM_toArray]
      simp only [Sem.run_map, h1]
      rfl
    rw [results_eq, Sem.run_bind, hrun, Result.andThen_ok]
    match is, vs, h2 with
    | [], [], h2 => exact ⟨_, rfl, .tup h2.1 h2.2⟩
    | [i], [v], h2 => exact ⟨v, rfl, h2.2 0 i v rfl rfl⟩
    | i :: j :: is, u :: v :: vs, h2 => exact ⟨_, rfl, .tup h2.1 h2.2⟩
    | [], _ :: _, h2 => have := h2.1; simp at this
    | [_], [], h2 => have := h2.1; simp at this
    | [_], _ :: _ :: _, h2 => have := h2.1; simp at this
    | _ :: _ :: _, [], h2 => have := h2.1; simp at this
    | _ :: _ :: _, [_], h2 => have := h2.1; simp at this
  obtain ⟨v, q1, q2⟩ := hval
  rw [← hi] at q2
  have hok : ∀ b, okOf (cx n S0 τ w ok) τ' (mk F S).sto b → b < w'.heap.size → okOut τ w ok S0 (fun k => τ' (ρ k)) S1 b ∧ w'.heap[b]? = w'.heap[b]? := fun b hb _ => by
    refine ⟨⟨?_, fun k sb hk hv => hb.2 _ _ (hS.get hk) (SB.has_ren.2 hv)⟩, rfl⟩
    exact hb.1
  have hout : Out τ w ok S0 r S1 (fun k => τ' (ρ k)) v w' := by
    refine ⟨h.gr, fun k hk => ?_, q2.ren.mono (Nat.le_refl _) hok (fun _ _ => rfl), fun k sb hk => ?_, fun k k' sb sb' b h1 h2 h3 h4 => ?_, fun k sb b h1 h2 => h.own _ _ b (hS.get h1) (SB.has_ren.2 h2)⟩
    · show τ' (ρ k) = τ k
      rw [hp k hk]; exact h.pin k hk
    · exact ((h.sto _ _ (hS.get hk)).ren).mono (Nat.le_refl _) hok (fun _ _ => rfl) rfl (fun _ _ => rfl)
    · exact vK
  rcases he with rfl | rfl <;> exact ⟨h.defers, v, q1, v, _, rfl, hout⟩
end

def evs (F : Frm) : List Operand → Option (List IV)
  | [] => some []
  | x :: r => match ev F x, evs F r with
    | some i, some is => some (i :: is)
    | _, _ => none
def callee : IV → Option (FuncId × List IV × List IV)
  | .u (.sc (.func (.func f) a b)) => some (f, a.toList.map fun v => .u (.sc v), b.toList.map fun v => .u (.sc v))
  | .u (.clo (.func f) a b) => some (f, a.map .u, b.map .u)
  | .clo (.func f) a b => some (f, a, b)
  | _ => none
theorem callee_rep {τ : Nat → Value} {w : World} {ok : Nat → Prop} {i : IV} {v : Value} {f : FuncId} {a b : List IV} (h : RepI τ w ok i v) (hc : callee i = some (f, a, b)) :
    ∃ va vb : List Value, v = .func (.func f) va.toArray vb.toArray ∧ AllI τ w ok a va ∧ AllI τ w ok b vb := by
  cases h with
  | u h =>
    cases h with
    | sc v =>
      cases v <;> simp [callee] at hc
      rename_i fn x y
      cases fn <;> simp at hc
      obtain ⟨rfl, rfl, rfl⟩ := hc
      refine ⟨x.toList, y.toList, by simp, AllI.sc _, AllI.sc _⟩
    | @clo fn x y vx vy hl hg hl' hg' =>
      cases fn <;> simp [callee] at hc
      obtain ⟨rfl, rfl, rfl⟩ := hc
      exact ⟨_, _, rfl, AllI.ofU ⟨hl, hg⟩, AllI.ofU ⟨hl', hg'⟩⟩
    | agg => simp [callee] at hc
    | tup => simp [callee] at hc
    | sl0 => simp [callee] at hc
    | sl => simp [callee] at hc
    | ptr => simp [callee] at hc
  | @clo fn x y vx vy hl hg hl' hg' =>
    cases fn <;> simp [callee] at hc
    obtain ⟨rfl, rfl, rfl⟩ := hc
    exact ⟨_, _, rfl, ⟨hl, hg⟩, ⟨hl', hg'⟩⟩
  | own => simp [callee] at hc
  | ref => simp [callee] at hc
  | el => simp [callee] at hc
  | osl => simp [callee] at hc
  | row => simp [callee] at hc
  | rel => simp [callee] at hc
  | agg => simp [callee] at hc
  | tup => simp [callee] at hc
  | junk => simp [callee] at hc

def UV.isSc : UV → Bool
  | .sc _ => true
  | _ => false
mutual
def IV.flat : IV → Bool
  | .u x => x.isSc
  | .agg l => IV.flatL l
  | .tup l => IV.flatL l
  | .clo _ f c => IV.flatL f && IV.flatL c
  | _ => true
termination_by structural i => i
def IV.flatL : List IV → Bool
  | [] => true
  | i :: r => i.flat && IV.flatL r
termination_by structural l => l
end
theorem IV.flatL_mem : ∀ {l : List IV} {i : IV}, IV.flatL l = true → i ∈ l → i.flat = true
  | j :: r, i, h, hi => by
    rw [IV.flatL, Bool.and_eq_true] at h
    rcases List.mem_cons.1 hi with rfl | hi
    · exact h.1
    · exact IV.flatL_mem h.2 hi
def SB.flatP : SB → Prop
  | .cells _ is => IV.flatL is = true
  | .data _ _ rows => ∀ u ∈ rows.flatten, u.isSc = true
  | .mp _ => True
  | .grid _ _ rows => ∀ u ∈ rows.flatten, u.isSc = true
  | .dead => True
section
variable {τ τ' : Nat → Value} {w w' : World} {ok ok' : Nat → Prop}
theorem RepU.of_sc {u : UV} {v : Value} (h : RepU w ok u v) (hf : u.isSc = true) : RepU w' ok' u v := by
  cases u with
  | sc x => cases h; exact .sc _
  | _ => simp [UV.isSc] at hf
theorem RepI.of_flat {i : IV} {v : Value} (h : RepI τ w ok i v) (hf : i.flat = true) : RepI τ w' ok' i v := by
  induction h with
  | u h => exact .u (h.of_sc (by simpa [IV.flat] using hf))
  | own k h => exact .own k h
  | ref h => exact .ref h
  | el h => exact .el h
  | osl h h1 h2 => exact .osl h h1 h2
  | row h => exact .row h
  | rel h => exact .rel h
  | agg hl _ ih => exact .agg hl fun i u v h1 h2 => ih i u v h1 h2 (IV.flatL_mem (by simpa [IV.flat] using hf) (List.mem_of_getElem? h1))
  | tup hl _ ih => exact .tup hl fun i u v h1 h2 => ih i u v h1 h2 (IV.flatL_mem (by simpa [IV.flat] using hf) (List.mem_of_getElem? h1))
  | clo hl _ hl' _ ih ih' =>
    rw [IV.flat, Bool.and_eq_true] at hf
    exact .clo hl (fun i u v h1 h2 => ih i u v h1 h2 (IV.flatL_mem hf.1 (List.mem_of_getElem? h1))) hl' (fun i u v h1 h2 => ih' i u v h1 h2 (IV.flatL_mem hf.2 (List.mem_of_getElem? h1)))
  | junk v => exact .junk v
theorem RepB.of_flat {k : Nat} {sb : SB} (h : RepB τ w ok k sb) (hf : sb.flatP) : RepB τ w ok' k sb := by
  cases sb with
  | cells t is =>
    obtain ⟨g, vs, h1, h2, h3, h4⟩ := h
    exact ⟨g, vs, h1, h2, ⟨h3.1, fun i u v q1 q2 => (h3.2 i u v q1 q2).of_flat (IV.flatL_mem hf (List.mem_of_getElem? q1))⟩, h4⟩
  | data t sz rows =>
    obtain ⟨vs, h1, h2, h3⟩ := h
    exact ⟨vs, h1, ⟨h2.1, fun i u v q1 q2 => (h2.2 i u v q1 q2).of_sc (hf u (List.mem_of_getElem? q1))⟩, h3⟩
  | mp ps => exact h
  | grid tr te rows =>
    rcases h with h | ⟨hne, hm1, g, m, hm2, h1, h2, h3⟩
    · exact .inl h
    · refine .inr ⟨hne, hm1, g, m, hm2, h1, h2, fun i r hr => ?_⟩
      obtain ⟨q1, vs, q2, q3, q4⟩ := h3 i r hr
      exact ⟨q1, vs, q2, ⟨q3.1, fun j u v e1 e2 => (q3.2 j u v e1 e2).of_sc (hf u (List.mem_flatten.2 ⟨r, List.mem_of_getElem? hr, List.mem_of_getElem? e1⟩))⟩, q4⟩
  | dead => exact h.elim
theorem RepI.to {ρ : Nat → Nat} {i : IV} {v : Value} (h : RepI τ w ok i v) (ht : ∀ k ∈ i.tags, τ' (ρ k) = τ k) : RepI τ' w ok (i.ren ρ) v := by
  induction h with
  | u h => exact .u h
  | own k h =>
    have e := ht k vF
    have := RepI.own (τ := τ') (w := w) (ok := ok) (ρ k) (by rw [e]; exact h)
    rw [e] at this; exact this
  | ref h => exact .ref zA
  | el h => exact .el zA
  | osl h h1 h2 => exact .osl zA h1 h2
  | row h => exact .row zA
  | rel h => exact .rel zA
  | agg hl _ ih =>
    rw [IV.ren, IV.renL_map]
    refine .agg wA fun i u v h1 h2 => ?_
    rw [List.getElem?_map, Option.map_eq_some_iff] at h1
    obtain ⟨x, h1, rfl⟩ := h1
    exact ih i x v h1 h2 fun k hk => ht k zV
  | tup hl _ ih =>
    rw [IV.ren, IV.renL_map]
    refine .tup wA fun i u v h1 h2 => ?_
    rw [List.getElem?_map, Option.map_eq_some_iff] at h1
    obtain ⟨x, h1, rfl⟩ := h1
    exact ih i x v h1 h2 fun k hk => ht k zV
  | clo hl _ hl' _ ih ih' =>
    rw [IV.ren, IV.renL_map, IV.renL_map]
    refine .clo wA (fun i u v h1 h2 => ?_) (by simpa using hl') (fun i u v h1 h2 => ?_)
    · rw [List.getElem?_map, Option.map_eq_some_iff] at h1
      obtain ⟨x, h1, rfl⟩ := h1
      exact ih i x v h1 h2 fun k hk => ht k (by rw [IV.tags, List.mem_append]; exact .inl (IV.tagsL_mem (List.mem_of_getElem? h1) hk))
    · rw [List.getElem?_map, Option.map_eq_some_iff] at h1
      obtain ⟨x, h1, rfl⟩ := h1
      exact ih' i x v h1 h2 fun k hk => ht k (by rw [IV.tags, List.mem_append]; exact .inr (IV.tagsL_mem (List.mem_of_getElem? h1) hk))
  | junk v => exact .junk v
theorem RepB.to {ρ : Nat → Nat} {k : Nat} {sb : SB} (h : RepB τ w ok k sb) (ht : ∀ j ∈ sb.tags, τ' (ρ j) = τ j) (hk : τ' (ρ k) = τ k) : RepB τ' w ok (ρ k) (sb.ren ρ) := by
  cases sb with
  | cells t is =>
    obtain ⟨g, vs, h1, h2, h3, h4⟩ := h
    refine ⟨g, vs, hk.trans h1, h2, ⟨by rw [IV.renL_map]; simpa using h3.1, fun i u v q1 q2 => ?_⟩, fun i hi => ?_⟩
    · rw [IV.renL_map, List.getElem?_map, Option.map_eq_some_iff] at q1
      obtain ⟨x, q1, rfl⟩ := q1
      exact (h3.2 i x v q1 q2).to fun j hj => ht j (IV.tagsL_mem (List.mem_of_getElem? q1) hj)
    · rw [IV.renL_map, List.mem_map] at hi
      obtain ⟨x, hx, rfl⟩ := hi
      rw [IV.one_ren]; exact h4 x hx
  | data t sz rows =>
    obtain ⟨vs, h1, h2, h3⟩ := h
    refine ⟨vs, ?_, h2, h3⟩
    rw [hk]; exact h1
  | mp ps =>
    obtain ⟨g, es, clk, h1, h2⟩ := h
    exact ⟨g, es, clk, hk.trans h1, h2⟩
  | grid tr te rows =>
    rcases h with ⟨h1, A, c, h2, h3⟩ | ⟨hne, hm1, g, m, hm2, h1, h2, h3⟩
    · exact .inl ⟨h1, A, c, hk.trans h2, h3⟩
    · exact .inr ⟨hne, hm1, g, m, hm2, hk.trans h1, h2, h3⟩
  | dead => exact h.elim
end
end Go.H
end
section
namespace Go.H
open Go Go.RowKit
open Go.G (Ext Gr Blk)

section
variable {τ τ' : Nat → Value} {w w' : World} {ok ok' : Nat → Prop}
theorem own_sl {k t sz : Nat} {rows : List (List UV)} (h : RepB τ w ok k (.data t sz rows)) (h1 : ∀ b, vblk (τ k) = some b → ok' b) (h2 : ∀ b, ok b → ok' b) : RepU w ok' (.sl sz rows) (τ k) := by
  obtain ⟨vs, ⟨f0, f1⟩, f2, f3, f4, f5⟩ := h
  rcases f1 with ⟨f1, fn⟩ | ⟨g, cap, cur, f1, _, f6, f7, f8, f9, f10⟩
  · rw [f1]
    have : rows = [] := List.eq_nil_of_length_eq_zero fn
    subst this
    exact .sl0 (by simp [maxLen]) (fun _ => rfl)
  · rw [f1]
    by_cases hne : rows = []
    · subst hne; exact .sl0 f8 (fun e => by cases e)
    · have hfl : rows.flatten.length = rows.length * sz := flat_len f3
      have hsz := Nat.mul_le_mul_right sz f7
      have hcell : ∀ (j : Nat) (u : UV), rows.flatten[j]? = some u → j < vs.length := fun j u hj => by
        rw [← f2.1]; exact (List.getElem?_eq_some_iff.1 hj).1
      refine .sl (cv := fun j => vs.getD j undef) hne f7 f8 f3 f4 f5 (Array.getElem?_eq_some_iff.1 f6).1 (h1 g (by rw [f1]; rfl)) (fun j u hj => ?_) (fun j u hj => ?_)
      · have hlt := hcell j u hj
        rw [Addr.add_lit, Nat.zero_add, cell_of_row w g j cur t (0, 0) f6]
        have e : vs[j]? = cur[j]? := by
          rw [← f10, List.getElem?_take, if_pos xA, Array.getElem?_toList]
        rw [← e, List.getD_eq_getElem?_getD, List.getElem?_eq_getElem hlt]; rfl
      · have hlt := hcell j u hj
        have := f2.2 j u (vs.getD j undef) hj (by rw [List.getD_eq_getElem?_getD, List.getElem?_eq_getElem hlt]; rfl)
        exact this.mono (Nat.le_refl _) (fun b hb _ => ⟨h2 b hb, rfl⟩)
theorem cells_ptr {k t : Nat} {is : List IV} {us : List UV} {off : Nat} {g : Nat} (h : RepB τ w ok k (.cells t is)) (hk : τ k = .pointer (some ⟨g, 0, none⟩)) (hu : is.drop off = us.map .u) (h1 : ∀ b, vblk (τ k) = some b → ok' b) (h2 : ∀ b, ok b → ok' b) : RepU w ok' (.ptr us) (.pointer (some ⟨g, off, none⟩)) := by
  obtain ⟨g', vs, e1, e2, e3, e4⟩ := h
  have : g' = g := by rw [hk] at e1; simp at e1; exact e1.symm
  subst this
  have hd := e3.drop off
  rw [hu] at hd
  refine .ptr (cv := fun j => (vs.drop off).getD j undef) (fun u hu' => ?_) e2.lt (h1 g' (by rw [hk]; rfl)) (fun j u hj => ?_) (fun j u hj => ?_)
  · have : IV.u u ∈ is.drop off := by rw [hu]; exact List.mem_map_of_mem hu'
    exact e4 _ (List.mem_of_mem_drop this)
  · have hlt : j < (vs.drop off).length := by rw [← hd.1]; simpa using (List.getElem?_eq_some_iff.1 hj).1
    have hat := e2.at.drop off j ((vs.drop off).getD j undef) (by rw [List.getD_eq_getElem?_getD, List.getElem?_eq_getElem hlt]; rfl)
    rw [Addr.add_lit, Nat.zero_add] at hat
    exact hat
  · have hlt : j < (vs.drop off).length := by rw [← hd.1]; simpa using (List.getElem?_eq_some_iff.1 hj).1
    have := hd.2 j (.u u) ((vs.drop off).getD j undef) (by simp [hj]) (by rw [List.getD_eq_getElem?_getD, List.getElem?_eq_getElem hlt]; rfl)
    cases this with
    | u h => exact h.mono (Nat.le_refl _) (fun b hb _ => ⟨h2 b hb, rfl⟩)
end

def okB (c : Ctx) (τ : Nat → Value) (σ : Sig) (bor : List Nat) (b : Nat) : Prop := okOf c τ σ.sto b ∨ ∃ k ∈ bor, ∃ sb, σ.sto k = some sb ∧ sb.has (τ k) b
def ArgOk (ρ : Nat → Nat) (S : Sto) (bor : List Nat) (i j : IV) : Prop :=
  ∀ (c : Ctx) (σ : Sig) (τ : Nat → Value) (a : Act) (w : World) (v : Value), AgreeS bor S σ → SatT c σ τ a w → RepI τ w (okOf c τ σ.sto) i v → RepI (fun k => τ (ρ k)) w (okB c τ σ bor) j v
def ArgsOk (ρ : Nat → Nat) (S : Sto) (bor : List Nat) : List IV → List IV → Prop
  | [], [] => True
  | i :: is, j :: js => ArgOk ρ S bor i j ∧ ArgsOk ρ S bor is js
  | _, _ => False
theorem ArgsOk.rep {ρ : Nat → Nat} {S : Sto} {bor : List Nat} {c : Ctx} {σ : Sig} {τ : Nat → Value} {a : Act} {w : World} (hB : AgreeS bor S σ) (hS : SatT c σ τ a w) : ∀ {is js : List IV} {vs : List Value}, ArgsOk ρ S bor is js → AllI τ w (okOf c τ σ.sto) is vs → AllI (fun k => τ (ρ k)) w (okB c τ σ bor) js vs
  | [], [], vs, _, h => ⟨h.1, fun i u v h1 => by simp at h1⟩
  | i :: is, j :: js, [], _, h => by have := h.1; simp at this
  | i :: is, j :: js, v :: vs, hA, h => by
    have h0 := h.2 0 i v rfl rfl
    have ih := ArgsOk.rep hB hS hA.2 (vs := vs) ⟨by simpa using h.1, fun q u x h1 h2 => h.2 (q + 1) u x (by simpa using h1) (by simpa using h2)⟩
    exact (AllI.single (hA.1 c σ τ a w v hB hS h0)).app ih
  | [], _ :: _, _, h, _ => h.elim
  | _ :: _, [], _, h, _ => h.elim
section
variable {ρ : Nat → Nat} {S : Sto} {bor : List Nat} {i j : IV}
theorem ArgOk.same (h : j.ren ρ = i) : ArgOk ρ S bor i j := fun c σ τ a w v _ hS hr => by
  subst h
  exact hr.ren.mono (Nat.le_refl _) (fun b hb _ => ⟨.inl hb, rfl⟩) (fun _ _ => rfl)
theorem ArgOk.own {k t sz : Nat} {rows : List (List UV)} (hk : hasTag k bor = true) (hS : lookS k S = some (.data t sz rows)) : ArgOk ρ S bor (.own k) (.u (.sl sz rows)) := fun c σ τ a w v hB hS' hr => by
  have h0 := (hB k (hasTag_iff.1 hk)).trans hS
  cases hr
  exact .u (own_sl (hS'.sto k _ h0) (fun b hb => .inr ⟨k, hasTag_iff.1 hk, _, h0, hb⟩) (fun b hb => .inl hb))
theorem ArgOk.ref {k t off : Nat} {is : List IV} {us : List UV} (hk : hasTag k bor = true) (hS : lookS k S = some (.cells t is)) (hu : is.drop off = us.map .u) : ArgOk ρ S bor (.ref k off) (.u (.ptr us)) := fun c σ τ a w v hB hS' hr => by
  have h0 := (hB k (hasTag_iff.1 hk)).trans hS
  cases hr with
  | ref hg => exact .u (cells_ptr (hS'.sto k _ h0) hg hu (fun b hb => .inr ⟨k, hasTag_iff.1 hk, _, h0, hb⟩) (fun b hb => .inl hb))
theorem ArgOk.nil {sz : Nat} : ArgOk ρ S bor (.u (.sc (.slice none 0 0))) (.u (.sl sz [])) := fun c σ τ a w v _ hS hr => by
  cases hr with
  | u h => cases h; exact .u (.sl0 (by simp [maxLen]) (fun _ => rfl))
theorem allU_of {τ : Nat → Value} {w : World} {ok : Nat → Prop} {us : List UV} {vs : List Value} (h : AllI τ w ok (us.map .u) vs) : AllU w ok us vs :=
  ⟨by simpa using h.1, fun i u v h1 h2 => by
    have := h.2 i (.u u) v (by simp [h1]) h2
    cases this; assumption⟩
theorem ArgOk.aggU {is : List IV} {us : List UV} (h : ArgsOk ρ S bor is (us.map .u)) : ArgOk ρ S bor (.agg is) (.u (.agg us)) := fun c σ τ a w v hB hS hr => by
  cases hr with
  | agg hl hg => have := allU_of (h.rep hB hS ⟨hl, hg⟩); exact .u (.agg this.1 this.2)
theorem ArgOk.cloU {fn : Fn} {f c : List IV} {f' c' : List UV} (h : ArgsOk ρ S bor f (f'.map .u)) (h' : ArgsOk ρ S bor c (c'.map .u)) : ArgOk ρ S bor (.clo fn f c) (.u (.clo fn f' c')) := fun cc σ τ a w v hB hS hr => by
  cases hr with
  | clo hl hg hl' hg' =>
    have h1 := allU_of (h.rep hB hS ⟨hl, hg⟩)
    have h2 := allU_of (h'.rep hB hS ⟨hl', hg'⟩)
    exact .u (.clo h1.1 h1.2 h2.1 h2.2)
end

mutual
theorem IV.flat_ren {ρ : Nat → Nat} : ∀ i : IV, i.flat = true → (i.ren ρ).flat = true
  | .u _, h => h
  | .own _, _ => rfl
  | .ref _ _, _ => rfl
  | .el _ _ _ _, _ => rfl
  | .osl _ _ _ _, _ => rfl
  | .row _ _ _, _ => rfl
  | .rel _ _ _, _ => rfl
  | .agg l, h => IV.flatL_ren l h
  | .tup l, h => IV.flatL_ren l h
  | .clo _ f c, h => by
    rw [IV.flat, Bool.and_eq_true] at h
    rw [IV.ren, IV.flat, IV.flatL_ren f h.1, IV.flatL_ren c h.2]; rfl
  | .junk, _ => rfl
theorem IV.flatL_ren {ρ : Nat → Nat} : ∀ l : List IV, IV.flatL l = true → IV.flatL (IV.renL ρ l) = true
  | [], _ => rfl
  | i :: r, h => by
    rw [IV.flatL, Bool.and_eq_true] at h
    rw [IV.renL, IV.flatL, IV.flat_ren i h.1, IV.flatL_ren r h.2]; rfl
end
def callNew (Sc Sc' : Sto) : List Nat := (keysS Sc').filter fun k => !hasTag k (keysS Sc)
def callChg (ρ : Nat → Nat) (Sc Sc' : Sto) : Chg := (Sc'.map fun x => (ρ x.1, some (x.2.ren ρ))) ++ (((keysS Sc).filter fun k => !hasTag k (keysS Sc')).map fun k => (ρ k, none))
def liveB : Sto → Bool
  | [] => true
  | (_, .dead) :: _ => false
  | _ :: r => liveB r
def tagsS : Sto → List Nat
  | [] => []
  | x :: r => x.2.tags ++ tagsS r
theorem liveB_look {S : Sto} {k : Nat} {b : SB} (h : liveB S = true) (hl : look k S = some b) : lookS k S = some b := by
  have : ∀ {S : Sto}, liveB S = true → ∀ x ∈ S, x.2 ≠ .dead := by
    intro S
    induction S with
    | nil => intro _ x hx; cases hx
    | cons y r ih =>
      intro h x hx
      obtain ⟨k, b⟩ := y
      cases b with
      | dead => simp [liveB] at h
      | cells t is =>
        rcases List.mem_cons.1 hx with rfl | hx
        · simp
        · exact ih (by simpa [liveB] using h) x hx
      | data t sz rows =>
        rcases List.mem_cons.1 hx with rfl | hx
        · simp
        · exact ih (by simpa [liveB] using h) x hx
      | grid t sz rows =>
        rcases List.mem_cons.1 hx with rfl | hx
        · simp
        · exact ih (by simpa [liveB] using h) x hx
      | mp ps =>
        rcases List.mem_cons.1 hx with rfl | hx
        · simp
        · exact ih (by simpa [liveB] using h) x hx
  have hd := this h _ (look_mem hl)
  unfold lookS
  rw [hl]
  cases b with
  | dead => exact absurd rfl hd
  | _ => rfl
theorem tagsS_mem {k q : Nat} {b : SB} : ∀ {S : Sto}, look q S = some b → k ∈ b.tags → k ∈ tagsS S
  | (s, x) :: r, h, hk => by
    rw [tagsS, List.mem_append]
    by_cases e : s = q
    · subst e; rw [look_eq] at h; cases h; exact .inl hk
    · rw [look_ne e] at h; exact .inr (tagsS_mem h hk)
theorem look_app {α : Type} {j : Nat} : ∀ {l m : List (Nat × α)}, look j (l ++ m) = match look j l with | some x => some x | none => look j m
  | [], m => rfl
  | (s, x) :: l, m => by
    by_cases e : s = j
    · subst e; rw [List.cons_append, look_eq, look_eq]
    · rw [List.cons_append, look_ne e, look_ne e]; exact look_app
theorem look_none_of {α : Type} {j : Nat} : ∀ {l : List (Nat × α)}, look j l = none → ∀ x ∈ l, x.1 ≠ j
  | (s, x) :: l, h, y, hy => by
    by_cases e : s = j
    · subst e; rw [look_eq] at h; cases h
    · rw [look_ne e] at h
      rcases List.mem_cons.1 hy with rfl | hy
      · exact e
      · exact look_none_of h y hy
theorem look_mapS {ρ : Nat → Nat} {j : Nat} {x : Option SB} : ∀ {S : Sto}, look j (S.map fun x => (ρ x.1, some (x.2.ren ρ))) = some x → ∃ k b, look k S = some b ∧ ρ k = j ∧ x = some (b.ren ρ)
  | (s, b) :: r, h => by
    rw [List.map_cons] at h
    by_cases e : ρ s = j
    · subst e; rw [look_eq] at h; exact ⟨s, b, look_eq, rfl, (Option.some.inj h).symm⟩
    · rw [look_ne e] at h
      obtain ⟨k, b', h1, h2, h3⟩ := look_mapS h
      exact ⟨k, b', by rw [look_ne (fun e' => e (by rw [e', h2]))]; exact h1, h2, h3⟩
theorem look_chg {ρ : Nat → Nat} {Sc Sc' : Sto} {j : Nat} {sb : SB} (h : look j (callChg ρ Sc Sc') = some (some sb)) : ∃ k b, look k Sc' = some b ∧ ρ k = j ∧ sb = b.ren ρ := by
  rw [callChg, look_app] at h
  cases hx : look j (Sc'.map fun x => (ρ x.1, some (x.2.ren ρ))) with
  | some x =>
    rw [hx] at h
    obtain ⟨k, b, h1, h2, h3⟩ := look_mapS hx
    cases h
    cases h3
    exact ⟨k, b, h1, h2, rfl⟩
  | none =>
    rw [hx] at h
    have := look_mem h
    obtain ⟨k, _, hk⟩ := List.mem_map.1 this
    simp at hk
theorem chg_some {ρ : Nat → Nat} {Sc Sc' : Sto} {k : Nat} (h : k ∈ keysS Sc ∨ k ∈ keysS Sc') : look (ρ k) (callChg ρ Sc Sc') ≠ none := fun hn => by
  have h1 := look_none_of hn
  by_cases hk : k ∈ keysS Sc'
  · obtain ⟨x, hx, rfl⟩ := List.mem_map.1 hk
    exact h1 (ρ x.1, some (x.2.ren ρ)) (List.mem_append_left _ (List.mem_map.2 ⟨x, hx, rfl⟩)) rfl
  · have h2 := h.resolve_right hk
    refine h1 (ρ k, none) (List.mem_append_right _ (List.mem_map.2 ⟨k, List.mem_filter.2 ⟨h2, ?_⟩, rfl⟩)) rfl
    cases hh : hasTag k (keysS Sc') with
    | false => rfl
    | true => exact absurd (hasTag_iff.1 hh) hk
theorem distinct_map {ρ : Nat → Nat} : ∀ {l : List Nat}, distinct (l.map ρ) = true → ∀ {k k'}, k ∈ l → k' ∈ l → ρ k = ρ k' → k = k'
  | s :: r, h, k, k', h1, h2, e => by
    simp only [List.map_cons, distinct, Bool.and_eq_true, Bool.not_eq_true', List.any_eq_false] at h
    have key : ∀ {q}, q ∈ r → ρ s ≠ ρ q := fun hq e => by
      have h3 := h.1 _ (List.mem_map.2 ⟨_, hq, rfl⟩)
      simp [e] at h3
    rcases List.mem_cons.1 h1 with q1 | q1 <;> rcases List.mem_cons.1 h2 with q2 | q2
    · rw [q1, q2]
    · rw [q1] at e; exact absurd e (key q2)
    · rw [q2] at e; exact absurd e.symm (key q1)
    · exact distinct_map h.2 q1 q2 e

section
variable {c : Ctx} {P : Program} {F : Frm} {S : Sto} {ops : Array Oper} {T T2 N : List Nat} {d : Nat} {op : Go.Op} {ty : TypeId} {pos : String} {af : Array Edge} {gd : Option (Nat × Bool)}
  {σ : Sig} {τ τ' : Nat → Value} {a : Act} {w w' : World} {δ : Chg}
theorem evs_all {o : Oper} (h : SatT c σ τ a w) (hA : AgreeF (o.looksAt ops) F σ) : ∀ {args : List Operand} {is : List IV}, (∀ x ∈ args, x ∈ o.op.operands) → evs F args = some is →
    AllI τ w (okOf c τ σ.sto) is (args.map a.eval) ∧ G.evs (actF a) args = some (args.map a.eval)
  | [], is, _, he => by simp [evs] at he; subst he; exact ⟨⟨rfl, fun i u v h1 => by simp at h1⟩, rfl⟩
  | x :: r, is, hm, he => by
    simp only [evs] at he
    split at he
    · rename_i i is' h1 h2
      cases he
      obtain ⟨q1, q2⟩ := h.opd hA (hm x yE) h1
      obtain ⟨q3, q4⟩ := evs_all h hA (fun y hy => hm y (by simp [hy])) h2
      exact ⟨(AllI.single q1).app q3, by simp [G.evs, q2, q4]⟩
    · cases he
theorem O.call {fo : Operand} {args : List Operand} {at_ : Array TypeId} {fi : IV} {f : FuncId} {la lb is ivs : List IV} {r r' : IV} {Sc Sc' : Sto} (ρ : Nat → Nat) (bor : List Nat)
    (hf : ev F fo = some fi) (hcal : callee fi = some (f, la, lb)) (ha : evs F args = some is) (hcon : Con P f ivs Sc r Sc') (harg : ArgsOk ρ S bor (la ++ is ++ lb) ivs) (hsto : SubS ρ S Sc) (hd1 : distinct ((keysS Sc ++ callNew Sc Sc').map ρ) = true)
    (hbor : disj bor ((keysS Sc).map ρ) = true) (hrt : subl r.tags (keysS Sc ++ callNew Sc Sc') = true) (hst : subl (tagsS Sc') (keysS Sc ++ callNew Sc Sc') = true) (hlive : liveB Sc' = true)
    (hflat : bor = [] ∨ (r.flat = true ∧ ∀ x ∈ Sc', x.2.flatP)) (hok : G.callOk P f = true) (hr' : r.ren ρ = r') (hd : Nat.blt d c.n = true) (hg : Taken ops F gd) :
    OpOk c P ops ⟨some d, .call { callee := .value fo, args := args.toArray, argTypes := at_ }, ty, pos, af, gd⟩ F S ((keysS Sc).map ρ ++ (callNew Sc Sc').map ρ ++ bor) ((callNew Sc Sc').map ρ) (some r') (callChg ρ Sc Sc') := by
  intro σ a w hA hB hN hS
  obtain ⟨τ, h⟩ := hS
  rw [if_pos (wanted_of h hA hg)]
  subst hr'
  obtain ⟨f1, f2⟩ := h.opd hA yY hf
  obtain ⟨va, vb, f3, f4, f5⟩ := callee_rep f1 hcal
  obtain ⟨g1, g2⟩ := evs_all h hA (args := args) (fun x hx => by simp [Op.operands, Call.operands, hx]) ha
  have hrun := G.run_call (P := P) (w := w) (F := actF a) (o := ⟨some d, .call { callee := .value fo, args := args.toArray, argTypes := at_ }, ty, pos, af, gd⟩) (ρ := a.eval) (all := va ++ args.map a.eval ++ vb) rfl
    (fun _ _ _ hx => actF_of hx) (f2.trans (by rw [f3])) g2 (by simp [G.calls]) hok
  rw [hrun]
  have hscS : ∀ k sb, lookS k Sc = some sb → σ.sto (ρ k) = some (sb.ren ρ) := fun k sb hk => (hB (ρ k) (by simp <;> exact .inl ⟨k, mem_keysS hk, rfl⟩)).trans (hsto.get hk)
  have hborB : AgreeS bor S σ := fun k hk => hB k (by simp [hk])
  have hin : In (fun k => τ (ρ k)) w (okB c τ σ bor) ivs Sc (va ++ args.map a.eval ++ vb) := by
    refine ⟨harg.rep hborB h ((f4.app g1).app f5), fun k sb hk => ?_, fun k k' sb sb' b h1 h2 h3 h4 => ?_, fun b hb ⟨k, sb, hk, hv⟩ => ?_⟩
    · exact ((h.sto _ _ (hscS k sb hk)).ren).mono (Nat.le_refl _) (fun b hb _ => ⟨.inl hb, rfl⟩) (fun _ _ => rfl) rfl (fun _ _ => rfl)
    · exact distinct_map hd1 (List.mem_append_left _ (mem_keysS h1)) (List.mem_append_left _ (mem_keysS h2)) (h.inj _ _ _ _ b (hscS _ _ h1) (hscS _ _ h2) (SB.has_ren.2 h3) (SB.has_ren.2 h4))
    · rcases hb with hb | ⟨q, hq, sq, hsq, hv'⟩
      · exact hb.2 _ _ (hscS k sb hk) (SB.has_ren.2 hv)
      · have := h.inj q (ρ k) sq _ b hsq (hscS k sb hk) hv' (SB.has_ren.2 hv)
        exact disj_spec hbor q hq (by rw [this]; exact List.mem_map.2 ⟨k, mem_keysS hk, rfl⟩)
  refine (hcon (fun k => τ (ρ k)) w _ (okB c τ σ bor) hin).mono fun e w' ⟨v, τc, he, out⟩ => ⟨v, he, ?_⟩
  -- the names behind the call
  obtain ⟨τ', hτ'⟩ : ∃ τ' : Nat → Value, τ' = fun j => match (callNew Sc Sc').find? (fun k => Nat.beq (ρ k) j) with | some k => τc k | none => τ j := ⟨_, rfl⟩
  have hnew : ∀ k ∈ callNew Sc Sc', τ' (ρ k) = τc k := fun k hk => by
    subst hτ'
    cases hfd : (callNew Sc Sc').find? (fun q => Nat.beq (ρ q) (ρ k)) with
    | none =>
      have := List.find?_eq_none.1 hfd k hk
      simp at this
    | some q =>
      have h1 := List.find?_some hfd
      have h2 := List.mem_of_find?_eq_some hfd
      have := distinct_map hd1 (List.mem_append_right _ h2) (List.mem_append_right _ hk) (Nat.eq_of_beq_eq_true h1)
      subst this
      simp only [hfd]
  have hold : ∀ j, j ∉ (callNew Sc Sc').map ρ → τ' j = τ j := fun j hj => by
    subst hτ'
    cases hfd : (callNew Sc Sc').find? (fun q => Nat.beq (ρ q) j) with
    | none => simp only [hfd]
    | some q =>
      have h0 := List.find?_some hfd
      have h1 : ρ q = j := Nat.eq_of_beq_eq_true h0
      exact absurd (List.mem_map.2 ⟨q, List.mem_of_find?_eq_some hfd, h1⟩) hj
  have hkc : ∀ k ∈ keysS Sc, τ' (ρ k) = τc k := fun k hk => by
    rw [out.pin k hk]
    refine hold _ fun hin => ?_
    obtain ⟨q, hq, e⟩ := List.mem_map.1 hin
    have := distinct_map hd1 (List.mem_append_right _ hq) (List.mem_append_left _ hk) e
    subst this
    have := (List.mem_filter.1 hq).2
    rw [hasTag_iff.2 hk] at this; cases this
  have hall : ∀ k ∈ keysS Sc ++ callNew Sc Sc', τ' (ρ k) = τc k := fun k hk => by
    rcases List.mem_append.1 hk with hk | hk
    · exact hkc k hk
    · exact hnew k hk
  have hkey' : ∀ k ∈ keysS Sc', k ∈ keysS Sc ++ callNew Sc Sc' := fun k hk => by
    by_cases hin : k ∈ keysS Sc
    · exact List.mem_append_left _ hin
    · refine List.mem_append_right _ (List.mem_filter.2 ⟨hk, ?_⟩)
      cases hh : hasTag k (keysS Sc) with
      | false => rfl
      | true => exact absurd (hasTag_iff.1 hh) hin
  have hchg := h.chg (N := (callNew Sc Sc').map ρ) (τ' := τ') (δ := callChg ρ Sc Sc') (B := MOf (fun k => τ (ρ k)) Sc) (w' := w') hN out.gr
    (fun b ⟨k, sb, hk, hv⟩ _ => ⟨ρ k, _, chg_some (.inl (mem_keysS hk)), hscS k sb hk, SB.has_ren.2 hv⟩) hold
    (fun j sb hj b hb => by
      obtain ⟨k, x, h1, rfl, rfl⟩ := look_chg hj
      have hl := liveB_look hlive h1
      rw [hall k (hkey' k (mem_keysS hl))] at hb
      rcases out.own k x b hl (SB.has_ren.1 hb) with ⟨q, sq, hq, hv⟩ | h2
      · exact .inr ⟨ρ q, _, chg_some (.inl (mem_keysS hq)), hscS q sq hq, SB.has_ren.2 hv⟩
      · exact .inl h2)
    (fun j j' s s' b hj hj' hb hb' => by
      obtain ⟨k, x, h1, rfl, rfl⟩ := look_chg hj
      obtain ⟨k', x', h1', rfl, rfl⟩ := look_chg hj'
      have hl := liveB_look hlive h1
      have hl' := liveB_look hlive h1'
      rw [hall k (hkey' k (mem_keysS hl))] at hb
      rw [hall k' (hkey' k' (mem_keysS hl'))] at hb'
      rw [out.inj k k' x x' b hl hl' (SB.has_ren.1 hb) (SB.has_ren.1 hb')])
  -- what may be read behind the call
  have hokk : bor = [] → ∀ b, okOut (fun k => τ (ρ k)) w (okB c τ σ bor) Sc τc Sc' b → okOf c τ' (σ.upd none none (callChg ρ Sc Sc')).sto b := by
    intro hbn b ⟨h1, h2⟩
    subst hbn
    have h1' : okOf c τ σ.sto b ∨ MOf (fun k => τ (ρ k)) Sc b ∨ w.heap.size ≤ b := by
      rcases h1 with (h1 | ⟨q, hq, _⟩) | h1 | h1
      · exact .inl h1
      · cases hq
      · exact .inr (.inl h1)
      · exact .inr (.inr h1)
    refine ⟨?_, fun j sb hj hv => ?_⟩
    · rcases h1' with h3 | ⟨k, sb, hk, hv⟩ | h3
      · exact h3.1
      · rcases h.own _ _ b (hscS k sb hk) (SB.has_ren.2 hv) with h4 | h4
        · exact .inr (.inl h4)
        · exact .inr (.inr h4)
      · exact .inr (.inr (Nat.le_trans h.gr.size h3))
    · rcases upd_sto hj with hj | ⟨hjn, hj⟩
      · obtain ⟨k, x, q1, rfl, rfl⟩ := look_chg hj
        have hl := liveB_look hlive q1
        rw [hall k (hkey' k (mem_keysS hl))] at hv
        exact h2 k x hl (SB.has_ren.1 hv)
      · have hjN : j ∉ (callNew Sc Sc').map ρ := fun hin => by
          obtain ⟨q, hq, e⟩ := List.mem_map.1 hin
          subst e
          exact chg_some (Sc := Sc) (.inr (List.mem_filter.1 hq).1) hjn
        rw [hold j hjN] at hv
        rcases h1' with h3 | ⟨k, sk, hk, hv'⟩ | h3
        · exact h3.2 j sb hj hv
        · have := h.inj j (ρ k) sb _ b hj (hscS k sk hk) hv (SB.has_ren.2 hv')
          subst this
          exact chg_some (.inl (mem_keysS hk)) hjn
        · have := vblk_lt (h.sto j sb hj) hv; omega
  have hfin := hchg fun hok' j sb hj => by
    obtain ⟨k, x, q1, rfl, rfl⟩ := look_chg hj
    have hl := liveB_look hlive q1
    have hrep := (out.sto k x hl).to (τ' := τ') (ρ := ρ) (fun q hq => hall q (subl_spec hst q (tagsS_mem q1 hq))) (hall k (hkey' k (mem_keysS hl)))
    rcases hflat with hb | ⟨_, hfl⟩
    · exact hrep.mono (Nat.le_refl _) (fun b hb' _ => ⟨hokk hb b hb', rfl⟩) (fun _ _ => rfl) rfl (fun _ _ => rfl)
    · refine hrep.of_flat ?_
      have := hfl _ (look_mem q1)
      revert this
      cases x with
      | cells t is =>
        intro this
        show IV.flatL (IV.renL ρ is) = true
        exact IV.flatL_ren _ this
      | data t sz rows => exact fun this => this
      | mp ps => exact fun this => this
      | grid tr te rows => exact fun this => this
      | dead => exact fun this => this
  refine ⟨τ', ?_⟩
  have hres := (out.res).to (τ' := τ') (ρ := ρ) (fun q hq => hall q (subl_spec hrt q hq))
  refine hfin.1.put wN ?_
  rcases hflat with hb | ⟨hfl, _⟩
  · exact hres.mono (Nat.le_refl _) (fun b hb' _ => ⟨hokk hb b hb', rfl⟩) (fun _ _ => rfl)
  · refine hres.of_flat ?_
    exact IV.flat_ren _ hfl
theorem O.callp {fo : Operand} {args : List Operand} {at_ : Array TypeId} {fi : IV} {f : FuncId} {la lb is ivs : List IV} {r : UV} (hf : ev F fo = some fi) (hcal : callee fi = some (f, la, lb)) (ha : evs F args = some is) (hcon : Con P f ivs [] (.u r) []) (harg : ArgsOk (fun k => k) S [] (la ++ is ++ lb) ivs)
    (hok : G.callOk P f = true) (hd : Nat.blt d c.n = true) (hg : Taken ops F gd) :
    OpOk c P ops ⟨some d, .call { callee := .value fo, args := args.toArray, argTypes := at_ }, ty, pos, af, gd⟩ F S [] [] (some (.u r)) [] :=
  O.call (fun k => k) [] hf hcal ha hcon harg (show SubS _ S [] from trivial) rfl rfl rfl rfl rfl (.inl rfl) hok rfl hd hg
end
end Go.H
end
section
namespace Go.H
open Go Go.RowKit
open Go.G (Ext Gr Blk)

def IV.toU : IV → UV
  | .u x => x
  | _ => .sc undef
def IV.isU : IV → Bool
  | .u _ => true
  | _ => false
def IV.us (i : IV) : List UV := i.cells.map IV.toU
def usOk (sz : Nat) (i : IV) : Bool := i.cells.all IV.isU && Nat.beq i.us.length sz && i.us.all UV.one
theorem us_map {l : List IV} (h : l.all IV.isU = true) : (l.map IV.toU).map IV.u = l := by
  induction l with
  | nil => rfl
  | cons i r ih =>
    simp only [List.all_cons, Bool.and_eq_true] at h
    rw [List.map_cons, List.map_cons, ih h.2]
    cases i with
    | u x => rfl
    | _ => simp [IV.isU] at h
section
variable {c : Ctx} {P : Program} {F : Frm} {S : Sto} {ops : Array Oper} {T T2 N : List Nat} {d : Nat} {op : Go.Op} {ty : TypeId} {pos : String} {af : Array Edge} {gd : Option (Nat × Bool)}
  {σ : Sig} {τ τ' : Nat → Value} {a : Act} {w w' : World} {δ : Chg}
theorem us_rep {ok : Nat → Prop} {i : IV} {v : Value} {sz : Nat} (h : RepI τ w ok i v) (ho : usOk sz i = true) (hp : 0 < sz) : AllU w ok i.us v.cells.toList ∧ i.us.length = sz ∧ ∀ u ∈ i.us, u.one = true := by
  simp only [usOk, Bool.and_eq_true] at ho
  have hl : i.us.length = sz := Nat.eq_of_beq_eq_true ho.1.2
  have hne : i ≠ .junk := fun e => by subst e; simp [IV.us, IV.cells] at hl; omega
  have hc := h.cells hne
  rw [← us_map ho.1.1] at hc
  exact ⟨allU_of hc, hl, fun u hu => List.all_eq_true.1 ho.2 u hu⟩
theorem O.buildSlice {t e : TypeId} {len sz : Nat} {parts : List (Nat × Operand)} {is : List IV} {rows : List (List UV)} {inf : TypeInfo} {z : Value} (kk : Nat) (hv : evs F (parts.map (·.2)) = some is) (hp1 : parts.map (·.1) = List.range' 0 len) (ht : P.underlying t = some (.slice e))
    (hi : P.info? e = some inf) (hz : inf.zero = some z) (hs : inf.size = sz) (hp : 0 < sz) (hlen : is.length = len) (hsmall : len * sz ≤ 16777216) (hus : is.all (usOk sz) = true) (hr : is.map IV.us = rows) (hd : Nat.blt d c.n = true) (hg : Taken ops F gd) :
    OpOk c P ops ⟨some d, .buildSlice t len parts.toArray, ty, pos, af, gd⟩ F S [kk] [kk] (some (.own kk)) [(kk, some (.data e sz rows))] := by
  refine OpOk.mem hd hg fun σ τ a w hA _ hN h => ?_
  subst hr
  obtain ⟨g1, g2⟩ := evs_all h hA (args := parts.map (·.2)) (fun x hx => by simpa [Op.operands] using hx) hv
  have hrows : ∀ (i : Nat) (iv : IV) (v : Value), is[i]? = some iv → ((parts.map (·.2)).map a.eval)[i]? = some v → AllU w (okOf c τ σ.sto) iv.us v.cells.toList ∧ iv.us.length = sz ∧ ∀ u ∈ iv.us, u.one = true :=
    fun i iv v h1 h2 => us_rep (g1.2 i iv v h1 h2) (List.all_eq_true.1 hus iv (List.mem_of_getElem? h1)) hp
  obtain ⟨vs, hvs⟩ : ∃ vs, vs = (parts.map (·.2)).map a.eval := ⟨_, rfl⟩
  rw [← hvs] at g1 g2 hrows
  have hvl : vs.length = len := by rw [← g1.1, hlen]
  have hcz : ∀ v ∈ vs, v.cells.toList.length = sz := fun v hv' => by
    obtain ⟨i, hi1, hi2⟩ := List.mem_iff_getElem.1 hv'
    have hi3 : i < is.length := by rw [g1.1]; exact hi1
    obtain ⟨q1, q2, _⟩ := hrows i is[i] v (List.getElem?_eq_getElem hi3) (by rw [List.getElem?_eq_getElem hi1, hi2])
    rw [← q1.1, q2]
  obtain ⟨xs, hxs⟩ : ∃ xs : List (Row sz), xs.map (·.1) = vs.map (·.cells.toList) := by
    clear hrows hvs g1 g2 hvl
    induction vs with
    | nil => exact ⟨[], rfl⟩
    | cons v r ih =>
      obtain ⟨xs, hxs⟩ := ih (fun u hu => hcz u (by simp [hu]))
      exact ⟨⟨v.cells.toList, hcz v yE⟩ :: xs, by simp [hxs]⟩
  have hxl : xs.length = vs.length := by have := congrArg List.length hxs; simpa using this
  have hall : (encRow sz hp).all xs = vs.flatMap (fun v => v.cells.toList) := by
    show xs.flatMap (·.1) = _
    rw [List.flatMap_def, List.flatMap_def, hxs]
  obtain ⟨v, w', r1, g, rfl, rfl, r4, r5, r6⟩ := run_value (o := ⟨some d, .buildSlice t len parts.toArray, ty, pos, af, gd⟩) (G.M.buildSlice (P := P) (w := w) (ty := ty) (E := encRow sz hp) (ys := xs) g2 hp1 ht hi hz hs (by rw [hxl, hvl]) hvl hsmall
    (fun v hv' => by have := hcz v hv'; simpa [encRow] using this) hall) rfl rfl rfl
  have hrep : AllRows w (okOf c τ σ.sto) (is.map IV.us) xs := by
    refine ⟨by simp [hxl, ← g1.1], fun i row x q1 q2 => ?_⟩
    rw [List.getElem?_map, Option.map_eq_some_iff] at q1
    obtain ⟨iv, q1, rfl⟩ := q1
    have hi1 : i < vs.length := by rw [← hxl]; exact (List.getElem?_eq_some_iff.1 q2).1
    have e1 : (xs.map (·.1))[i]? = some x.1 := by simp [q2]
    rw [hxs, List.getElem?_map, Option.map_eq_some_iff] at e1
    obtain ⟨v, e1, e2⟩ := e1
    rw [← e2]
    exact (hrows i iv v q1 e1).1
  have hone : ∀ u ∈ (is.map IV.us).flatten, u.one = true := fun u hu => by
    obtain ⟨r, hr, hu⟩ := List.mem_flatten.1 hu
    obtain ⟨iv, hiv, rfl⟩ := List.mem_map.1 hr
    have := List.all_eq_true.1 hus iv hiv
    simp only [usOk, Bool.and_eq_true] at this
    exact List.all_eq_true.1 this.2 u hu
  have := h.new (k := kk) (sb := .data e sz (is.map IV.us)) (v := .slice (some ⟨w.heap.size, 0, none⟩) xs.length xs.length) hN r5 (fun b hb => by cases hb; exact Nat.le_refl _)
    (fun hok => RepB.of_own hp (xs := xs) (by rw [upτ_eq]; exact r6.mono (Nat.zero_le _)) (hrep.mono r5.size hok) hone)
  have e' := own_one (this.1.sto kk (.data e sz (is.map IV.us)) (by simp [Sig.upd, look]))
  have hr := RepI.own (τ := upτ τ kk (.slice (some ⟨w.heap.size, 0, none⟩) xs.length xs.length)) (w := w') (ok := okOf c (upτ τ kk (.slice (some ⟨w.heap.size, 0, none⟩) xs.length xs.length)) (σ.upd none none [(kk, some (.data e sz (is.map IV.us)))]).sto) kk e'
  rw [upτ_eq] at hr
  exact ⟨_, w', _, r1, this.1, hr⟩

def fillI (place : Nat → Option (Nat × Nat)) (cells : List IV) : List (Nat × IV) → Option (List IV)
  | [] => some cells
  | (i, x) :: rest => match place i with
    | none => none
    | some (off, size) => if !Nat.beq x.cells.length size || !Nat.ble (off + size) cells.length then none else fillI place (cells.take off ++ x.cells ++ cells.drop (off + x.cells.length)) rest
theorem fill_rep {ok : Nat → Prop} {place : Nat → Option (Nat × Nat)} : ∀ {ps : List Nat} {is : List IV} {vs : List Value} {ci res : List IV} {cv : List Value}, AllI τ w ok ci cv → AllI τ w ok is vs → (∀ i ∈ is, i ≠ .junk) →
    fillI place ci (ps.zip is) = some res → ∃ rv : List Value, Instr.fill place cv.toArray (ps.zip vs) = some rv.toArray ∧ AllI τ w ok res rv
  | [], is, vs, ci, res, cv, hc, hi, _, hf => by simp [fillI] at hf; subst hf; exact ⟨cv, by simp [Instr.fill], hc⟩
  | p :: ps, [], [], ci, res, cv, hc, hi, _, hf => by simp [fillI] at hf; subst hf; exact ⟨cv, by simp [Instr.fill], hc⟩
  | p :: ps, [], _ :: _, ci, res, cv, hc, hi, _, hf => by have := hi.1; simp at this
  | p :: ps, _ :: _, [], ci, res, cv, hc, hi, _, hf => by have := hi.1; simp at this
  | p :: ps, i :: is, v :: vs, ci, res, cv, hc, hi, hj, hf => by
    rw [List.zip_cons_cons, fillI] at hf
    cases hpl : place p with
    | none => rw [hpl] at hf; cases hf
    | some q =>
      obtain ⟨off, size⟩ := q
      rw [hpl] at hf
      simp only at hf
      split at hf
      · cases hf
      · rename_i hcond
        simp only [Bool.or_eq_true, Bool.not_eq_true', not_or, Bool.not_eq_false] at hcond
        have e1 : i.cells.length = size := Nat.eq_of_beq_eq_true hcond.1
        have e2 : off + size ≤ ci.length := Nat.le_of_ble_eq_true hcond.2
        have hv := (hi.2 0 i v rfl rfl).cells (hj i yE)
        have hsz : v.cells.toList.length = size := by rw [← hv.1, e1]
        have hfit : ¬ (v.cells.size ≠ size || decide (off + v.cells.size > cv.toArray.size)) = true := by
          have : v.cells.size = size := by simpa using hsz
          simp [this, ← hc.1]; omega
        have hset : v.cells.zipIdx.foldl (fun (cs : Array Value) (p : Value × Nat) => cs.setIfInBounds (off + p.2) p.1) cv.toArray = (cv.take off ++ v.cells.toList ++ cv.drop (off + i.cells.length)).toArray := by
          have h1 := G.set_all off v.cells.toList 0 cv.toArray (by rw [hsz]; simp [← hc.1]; omega)
          rw [← Array.foldl_toList, Array.toList_zipIdx, h1]
          simp only [Nat.add_zero, hsz, e1]
        obtain ⟨rv, q1, q2⟩ := fill_rep (ps := ps) (is := is) (vs := vs) (((hc.take off).app hv).app (hc.drop (off + i.cells.length))) ⟨by simpa using hi.1, fun j u x h1 h2 => hi.2 (j + 1) u x (by simpa using h1) (by simpa using h2)⟩ (fun j hj' => hj j (by simp [hj'])) hf
        refine ⟨rv, ?_, q2⟩
        rw [List.zip_cons_cons, Instr.fill, hpl]
        simp only [if_neg hfit]
        have hb : (fun (cs : Array Value) (x : Value × Nat) => match x with | (c, j) => cs.setIfInBounds (off + j) c) = (fun (cs : Array Value) (p : Value × Nat) => cs.setIfInBounds (off + p.2) p.1) := rfl
        rw [hb, hset, q1]
def notJunk : IV → Bool
  | .junk => false
  | _ => true
theorem O.build {t : TypeId} {parts : List (Nat × Operand)} {is res : List IV} {fs : Array Field} {places : List (Nat × Nat)} {z : Value} (hv : evs F (parts.map (·.2)) = some is) (hj : is.all notJunk = true) (ht : P.underlying t = some (.struct fs)) (hz : (P.info? t).bind (·.zero) = some z)
    (hp : ∀ w : World, (fs.mapM (fun f => do pure (f.offset, ← sizeOf f.type) : Field → Sem (Nat × Nat))).run P w = .ok places.toArray w)
    (hfill : fillI (places.toArray[·]?) (z.cells.toList.map fun v => .u (.sc v)) ((parts.map (·.1)).zip is) = some res) (hd : Nat.blt d c.n = true) (hg : Taken ops F gd) :
    OpOk c P ops ⟨some d, .build t parts.toArray, ty, pos, af, gd⟩ F S [] [] (some (.agg res)) [] :=
  OpOk.runs hd hg fun σ τ a w hA hB h => by
    obtain ⟨g1, g2⟩ := evs_all h hA (args := parts.map (·.2)) (fun x hx => by simpa [Op.operands] using hx) hv
    obtain ⟨rv, q1, q2⟩ := fill_rep (ps := parts.map (·.1)) (AllI.sc z.cells.toList) g1 (fun i hi e => by have := List.all_eq_true.1 hj i hi; subst e; simp [notJunk] at this) hfill
    exact ⟨_, G.R.build g2 ht hz hp (by rw [← q1]), .agg q2.1 q2.2⟩

def eB (b : UInt8) : List UV := [.sc (.int .u8 b.toNat)]
def eI (n : Int) : List UV := [.sc (.int .i64 n)]
def eS (s : ByteArray) : List UV := [.sc (.string s)]
theorem flat_eB (l : List UInt8) : (l.map eB).flatten = l.map fun b => .sc (.int .u8 b.toNat) := by
  induction l with
  | nil => rfl
  | cons b l ih => rw [List.map_cons, List.flatten_cons, ih]; rfl
theorem O.makeFunc {fn : Fn} {first caps : List Operand} {f c' : List IV} (hf : evs F first = some f) (hc : evs F caps = some c') (hd : Nat.blt d c.n = true) (hg : Taken ops F gd) :
    OpOk c P ops ⟨some d, .makeFunc fn first.toArray caps.toArray, ty, pos, af, gd⟩ F S [] [] (some (.clo fn f c')) [] :=
  OpOk.val hd hg fun σ τ a w hA _ h => by
    obtain ⟨g1, _⟩ := evs_all h hA (args := first) (fun x hx => by simp [Op.operands, hx]) hf
    obtain ⟨g2, _⟩ := evs_all h hA (args := caps) (fun x hx => by simp [Op.operands, hx]) hc
    refine ⟨.func fn (first.map a.eval).toArray (caps.map a.eval).toArray, ?_, .clo g1.1 g1.2 g2.1 g2.2⟩
    simp [execOp, Instr.makeFunc]

mutual
def IV.fz (k : Nat) (x : UV) : IV → IV
  | .u y => .u y
  | .own j => match Nat.beq j k with | true => .u x | false => .own j
  | .ref j o => match Nat.beq j k with | true => .junk | false => .ref j o
  | .el j s i o => match Nat.beq j k with | true => .junk | false => .el j s i o
  | .osl j s i o => match Nat.beq j k with | true => .junk | false => .osl j s i o
  | .row j i m => match Nat.beq j k with | true => .junk | false => .row j i m
  | .rel j i m => match Nat.beq j k with | true => .junk | false => .rel j i m
  | .agg l => .agg (IV.fzL k x l)
  | .tup l => .tup (IV.fzL k x l)
  | .clo fn f c => .clo fn (IV.fzL k x f) (IV.fzL k x c)
  | .junk => .junk
termination_by structural i => i
def IV.fzL (k : Nat) (x : UV) : List IV → List IV
  | [] => []
  | i :: r => i.fz k x :: IV.fzL k x r
termination_by structural l => l
end
theorem IV.fzL_map (k : Nat) (x : UV) : ∀ l : List IV, IV.fzL k x l = l.map (·.fz k x)
  | [] => rfl
  | i :: r => by rw [IV.fzL, IV.fzL_map k x r]; rfl
theorem RepI.fz {ok ok' : Nat → Prop} {k : Nat} {x : UV} {i : IV} {v : Value} (h : RepI τ w ok i v) (hok : ∀ b, ok b → ok' b) (hx : RepU w ok' x (τ k)) : RepI τ w ok' (i.fz k x) v := by
  induction h with
  | u h => exact .u (h.mono (Nat.le_refl _) (fun b hb _ => ⟨hok b hb, rfl⟩))
  | own j h =>
    rw [IV.fz]
    split
    · rename_i e; rw [Nat.eq_of_beq_eq_true e]; exact .u hx
    · exact .own j h
  | ref h => rw [IV.fz]; split <;> first | exact .junk _ | exact .ref h
  | el h => rw [IV.fz]; split <;> first | exact .junk _ | exact .el h
  | osl h h1 h2 => rw [IV.fz]; split <;> first | exact .junk _ | exact .osl h h1 h2
  | row h => rw [IV.fz]; split <;> first | exact .junk _ | exact .row h
  | rel h => rw [IV.fz]; split <;> first | exact .junk _ | exact .rel h
  | agg hl _ ih =>
    rw [IV.fz, IV.fzL_map]
    refine .agg wA fun i u v h1 h2 => ?_
    rw [List.getElem?_map, Option.map_eq_some_iff] at h1
    obtain ⟨y, h1, rfl⟩ := h1
    exact ih i y v h1 h2
  | tup hl _ ih =>
    rw [IV.fz, IV.fzL_map]
    refine .tup wA fun i u v h1 h2 => ?_
    rw [List.getElem?_map, Option.map_eq_some_iff] at h1
    obtain ⟨y, h1, rfl⟩ := h1
    exact ih i y v h1 h2
  | clo hl _ hl' _ ih ih' =>
    rw [IV.fz, IV.fzL_map, IV.fzL_map]
    refine .clo wA (fun i u v h1 h2 => ?_) (by simpa using hl') (fun i u v h1 h2 => ?_)
    · rw [List.getElem?_map, Option.map_eq_some_iff] at h1
      obtain ⟨y, h1, rfl⟩ := h1
      exact ih i y v h1 h2
    · rw [List.getElem?_map, Option.map_eq_some_iff] at h1
      obtain ⟨y, h1, rfl⟩ := h1
      exact ih' i y v h1 h2
  | junk v => exact .junk v
def fzF (k : Nat) (x : UV) (F : Frm) : List Nat → Frm
  | [] => F
  | t :: r => (t, match look t F with | some i => i.fz k x | none => .junk) :: fzF k x F r
def FzF (k : Nat) (x : UV) (F : Frm) : Frm → Prop
  | [] => True
  | (t, j) :: r => (∃ i, look t F = some i ∧ i.fz k x = j) ∧ FzF k x F r
theorem okOf_dead {k : Nat} {F F' : Frm} {b : Nat} (hb : okOf c τ (mk F S).sto b) : okOf c τ (mk F' ((k, .dead) :: S)).sto b :=
  ⟨hb.1, fun j sb hj => by
    by_cases e : k = j
    · subst e; have : lookS k ((k, .dead) :: S) = some sb := hj; rw [lookS_dead] at this; cases this
    · have : lookS j ((k, .dead) :: S) = some sb := hj; rw [lookS_ne e] at this; exact hb.2 j sb this⟩
theorem Sat.freeze {F' : Frm} {t sz k : Nat} {rows : List (List UV)} (hS : lookS k S = some (.data t sz rows)) (hF : FzF k (.sl sz rows) F F') (h : Sat c (mk F S) a w) : Sat c (mk (F' ++ F) ((k, .dead) :: S)) a w := by
  obtain ⟨τ, h⟩ := h
  have hok : ∀ b, okOf c τ (mk F S).sto b → b < w.heap.size → okOf c τ (mk (F' ++ F) ((k, .dead) :: S)).sto b ∧ w.heap[b]? = w.heap[b]? := fun b hb _ => ⟨okOf_dead hb, rfl⟩
  have hsto : ∀ j sb, (mk (F' ++ F) ((k, .dead) :: S)).sto j = some sb → j ≠ k ∧ lookS j S = some sb := fun j sb hj => by
    have hj' : lookS j ((k, .dead) :: S) = some sb := hj
    by_cases e : k = j
    · subst e; rw [lookS_dead] at hj'; cases hj'
    · rw [lookS_ne e] at hj'; exact ⟨Ne.symm e, hj'⟩
  have hx : RepU w (okOf c τ (mk (F' ++ F) ((k, .dead) :: S)).sto) (.sl sz rows) (τ k) := by
    refine own_sl (h.sto k _ hS) (fun b hb => ⟨?_, fun j sb hj hv => ?_⟩) (fun b hb => okOf_dead hb)
    · rcases h.own k _ b hS hb with h1 | h1
      · exact .inr (.inl h1)
      · exact .inr (.inr h1)
    · obtain ⟨h1, h2⟩ := hsto j sb hj
      exact h1 (h.inj j k sb _ b h2 hS hv hb)
  refine ⟨τ, h.size, h.defers, h.gr, fun s i hl => ?_, fun j sb hj => ?_, fun j j' s s' b h1 h2 => h.inj j j' s s' b (hsto j s h1).2 (hsto j' s' h2).2, fun j sb b h1 => h.own j sb b (hsto j sb h1).2, h.pin⟩
  · have key : ∀ {F' : Frm}, FzF k (.sl sz rows) F F' → ∀ {i}, look s (F' ++ F) = some i → (∃ i0, look s F = some i0 ∧ i0.fz k (.sl sz rows) = i) ∨ look s F = some i := by
      intro F'
      induction F' with
      | nil => intro _ i hi; exact .inr hi
      | cons y r ih =>
        intro hh i hi
        obtain ⟨q, j⟩ := y
        rw [List.cons_append] at hi
        by_cases e : q = s
        · subst e; rw [look_eq] at hi; cases hi; exact .inl hh.1
        · rw [look_ne e] at hi; exact ih hh.2 hi
    rcases key hF hl with ⟨i0, h1, rfl⟩ | h1
    · obtain ⟨u, q1, q2⟩ := h.slot s i0 h1
      exact ⟨u, q1, q2.fz (fun b hb => okOf_dead hb) hx⟩
    · obtain ⟨u, q1, q2⟩ := h.slot s i h1
      exact ⟨u, q1, q2.mono (Nat.le_refl _) hok (fun _ _ => rfl)⟩
  · exact (h.sto j sb (hsto j sb hj).2).mono (Nat.le_refl _) hok (fun _ _ => rfl) rfl (fun _ _ => rfl)
theorem Sat.nilsl {t : Nat} (sz : Nat) (hx : look t F = some (.u (.sc (.slice none 0 0)))) (h : Sat c (mk F S) a w) : Sat c (mk ((t, .u (.sl sz [])) :: F) S) a w := by
  obtain ⟨τ, h⟩ := h
  refine ⟨τ, h.size, h.defers, h.gr, fun s i hl => ?_, h.sto, h.inj, h.own, h.pin⟩
  by_cases e : t = s
  · subst e
    have : look t ((t, IV.u (.sl sz [])) :: F) = some i := hl
    rw [look_eq] at this; cases this
    obtain ⟨u, h1, h2⟩ := h.slot t _ hx
    cases h2 with
    | u h2 => cases h2; exact ⟨_, h1, .u (.sl0 (by simp [maxLen]) (fun _ => rfl))⟩
  · have : look s ((t, IV.u (.sl sz [])) :: F) = some i := hl
    rw [look_ne e] at this; exact h.slot s i this
theorem Con.fz {f : FuncId} {ivs : List IV} {r r' : IV} {t sz k : Nat} {rows : List (List UV)} {Sc Sr : Sto} (hcon : Con P f ivs Sc r ((k, .data t sz rows) :: Sr)) (hk : hasTag k (keysS Sc ++ keysS Sr) = false) (hr : r.fz k (.sl sz rows) = r') : Con P f ivs Sc r' Sr := by
  subst hr
  intro τ w vs ok hin
  refine (hcon τ w vs ok hin).mono fun e w' ⟨v, τ', he, out⟩ => ⟨v, τ', he, ?_⟩
  have hls : lookS k ((k, SB.data t sz rows) :: Sr) = some (.data t sz rows) := lookS_data
  have hne : ∀ j sb, lookS j Sr = some sb → lookS j ((k, SB.data t sz rows) :: Sr) = some sb ∧ j ≠ k := fun j sb hj => by
    have hjk : k ≠ j := fun e => by
      subst e
      have : hasTag k (keysS Sc ++ keysS Sr) = true := hasTag_iff.2 (List.mem_append_right _ (mem_keysS hj))
      rw [this] at hk; cases hk
    exact ⟨by rw [lookS_ne hjk]; exact hj, Ne.symm hjk⟩
  have hok : ∀ b, okOut τ w ok Sc τ' ((k, .data t sz rows) :: Sr) b → okOut τ w ok Sc τ' Sr b := fun b hb => ⟨hb.1, fun j sb hj => hb.2 j sb (hne j sb hj).1⟩
  refine ⟨out.gr, out.pin, out.res.fz hok ?_, fun j sb hj => ?_, fun j j' s s' b hj hj' => out.inj j j' s s' b (hne j s hj).1 (hne j' s' hj').1, fun j sb b hj => out.own j sb b (hne j sb hj).1⟩
  · refine own_sl (out.sto k _ hls) (fun b hb => ⟨?_, fun j sb hj hv => ?_⟩) hok
    · rcases out.own k _ b hls hb with h1 | h1
      · exact .inr (.inl h1)
      · exact .inr (.inr h1)
    · exact (hne j sb hj).2 (out.inj j k sb _ b (hne j sb hj).1 hls hv hb)
  · exact (out.sto j sb (hne j sb hj).1).mono (Nat.le_refl _) (fun b hb _ => ⟨hok b hb, rfl⟩) (fun _ _ => rfl) rfl (fun _ _ => rfl)
end

section
variable {c : Ctx} {P : Program} {Q : Exit → Act → World → Prop} {F F' K : Frm} {S Z : Sto} {ops : Array Oper} {l : List Oper}
theorem SL.freeze {t sz : Nat} {rows : List (List UV)} (k : Nat) (hS : lookS k S = some (.data t sz rows)) (hF : FzF k (.sl sz rows) F F') (h : SL c P ops Q l (F' ++ F) ((k, .dead) :: S)) : SL c P ops Q l F S := fun a w ha => h a w (ha.freeze hS hF)
theorem E.freeze {e : Exit} {t sz : Nat} {rows : List (List UV)} (k : Nat) (hS : lookS k S = some (.data t sz rows)) (hF : FzF k (.sl sz rows) F F') (h : E c Q e (F' ++ F) ((k, .dead) :: S)) : E c Q e F S := fun a w ha => h a w (ha.freeze hS hF)

def Pick {α : Type} (F : List (Nat × α)) : List (Nat × α) → Prop
  | [] => True
  | (t, i) :: r => look t F = some i ∧ Pick F r
theorem Pick.get {α : Type} {F : List (Nat × α)} : ∀ {K : List (Nat × α)}, Pick F K → ∀ {t i}, look t K = some i → look t F = some i
  | (s, j) :: r, h, t, i, hl => by
    by_cases e : s = t
    · subst e; rw [look_eq] at hl; cases hl; exact h.1
    · rw [look_ne e] at hl; exact Pick.get h.2 hl
def PickS (S : Sto) : Sto → Prop
  | [] => True
  | (t, i) :: r => lookS t S = some i ∧ PickS S r
theorem PickS.get {S : Sto} : ∀ {K : Sto}, PickS S K → ∀ {t i}, look t K = some i → lookS t S = some i
  | (s, j) :: r, h, t, i, hl => by
    by_cases e : s = t
    · subst e; rw [look_eq] at hl; cases hl; exact h.1
    · rw [look_ne e] at hl; exact PickS.get h.2 hl
theorem Sat.pick {a : Act} {w : World} (h : Sat c (mk F S) a w) (hF : Pick F K) (hS : PickS S Z) : Sat c (mk K Z) a w := by
  obtain ⟨τ, h⟩ := h
  have hst : ∀ k sb, (mk K Z).sto k = some sb → (mk F S).sto k = some sb := fun k sb hk => hS.get (lookS_look hk)
  have hok : ∀ b, okOf c τ (mk F S).sto b → b < w.heap.size → okOf c τ (mk K Z).sto b ∧ w.heap[b]? = w.heap[b]? := fun b hb _ => ⟨⟨hb.1, fun k sb hk => hb.2 k sb (hst k sb hk)⟩, rfl⟩
  refine ⟨τ, h.size, h.defers, h.gr, fun t i hl => ?_, fun k sb hk => ?_, fun j j' s s' b h1 h2 => h.inj j j' s s' b (hst _ _ h1) (hst _ _ h2), fun j sb b h1 => h.own j sb b (hst _ _ h1), h.pin⟩
  · obtain ⟨u, h1, h2⟩ := h.slot t i (Pick.get hF hl)
    exact wI
  · exact (h.sto k sb (hst k sb hk)).mono (Nat.le_refl _) hok (fun _ _ => rfl) rfl (fun _ _ => rfl)
theorem W.pick {cd : Code} (hF : Pick F K) (hS : PickS S Z) (h : W c P cd Q K Z) : W c P cd Q F S := fun a w ha => h a w (ha.pick hF hS)

variable {r : List Oper} {d : Nat} {op : Go.Op} {ty : TypeId} {pos : String} {af : Array Edge} {gd : Option (Nat × Bool)} {T N : List Nat} {i : IV} {δ : Chg}
theorem SL.val (hg : OpOk c P ops ⟨some d, op, ty, pos, af, gd⟩ F S T [] (some i) []) (h : SL c P ops Q r ((d, i) :: F) S) : SL c P ops Q (⟨some d, op, ty, pos, af, gd⟩ :: r) F S := SL.go hg rfl rfl h
theorem SL.mem (hg : OpOk c P ops ⟨some d, op, ty, pos, af, gd⟩ F S T N (some i) δ) (hf : freshB N F S = true) (hp : disj N c.pk = true) (h : SL c P ops Q r ((d, i) :: F) (updS δ S)) : SL c P ops Q (⟨some d, op, ty, pos, af, gd⟩ :: r) F S := SL.go hg hf hp h
theorem SL.eff (hg : OpOk c P ops ⟨none, op, ty, pos, af, gd⟩ F S T [] none δ) (h : SL c P ops Q r F (updS δ S)) : SL c P ops Q (⟨none, op, ty, pos, af, gd⟩ :: r) F S := SL.go hg rfl rfl h
theorem SL.skip (hg : OpOk c P ops ⟨some d, op, ty, pos, af, gd⟩ F S [] [] (some (.u (.sc undef))) []) (h : SL c P ops Q r ((d, .u (.sc undef)) :: F) S) : SL c P ops Q (⟨some d, op, ty, pos, af, gd⟩ :: r) F S := SL.go hg rfl rfl h
theorem SL.case {j g : Nat} {b want : Bool} (_ : (ops[j]?).bind (·.dst) = some g) (_ : look g F = some (.u (.sc (.bool b)))) (h1 : b = want → SL c P ops Q l F S) (h2 : b ≠ want → SL c P ops Q l F S) : SL c P ops Q l F S :=
  if h : b = want then h1 h else h2 h
theorem SL.as {i' : IV} (t : Nat) (hl : look t F = some i) (he : i = i') (h : SL c P ops Q l ((t, i') :: F) S) : SL c P ops Q l F S := by
  subst he
  intro a w ha
  refine h a w ?_
  have : mk ((t, i) :: F) S = mk F S := by
    unfold mk
    congr 1
    funext s
    by_cases e : t = s
    · subst e; rw [look_eq, hl]
    · rw [look_ne e]
  rw [this]; exact ha
variable {pl : List Pl} {Zp : Frm → Sto → Prop} {m : Nat}
theorem WH.val (hg : OpOk c P ops ⟨some d, op, ty, pos, af, gd⟩ F S T [] (some i) []) (hT : subl T (pl.getD m default).T = true) (hi : subl i.tags (pl.getD m default).A = true) (h : WH c P ops pl Zp (m + 1) r ((d, i) :: F) S) : WH c P ops pl Zp m (⟨some d, op, ty, pos, af, gd⟩ :: r) F S :=
  WH.go hg hT rfl rfl hi rfl h
theorem WH.mem (hg : OpOk c P ops ⟨some d, op, ty, pos, af, gd⟩ F S T N (some i) δ) (hT : subl T (pl.getD m default).T = true) (hN : subl N (pl.getD m default).N = true) (hk : subl (keysC δ) (pl.getD m default).Wr = true) (hi : subl i.tags (pl.getD m default).A = true) (hd : subl (tagsC δ) (pl.getD m default).T = true)
    (h : WH c P ops pl Zp (m + 1) r ((d, i) :: F) (updS δ S)) : WH c P ops pl Zp m (⟨some d, op, ty, pos, af, gd⟩ :: r) F S := WH.go hg hT hN hk hi hd h
theorem WH.eff (hg : OpOk c P ops ⟨none, op, ty, pos, af, gd⟩ F S T [] none δ) (hT : subl T (pl.getD m default).T = true) (hk : subl (keysC δ) (pl.getD m default).Wr = true) (hd : subl (tagsC δ) (pl.getD m default).T = true)
    (h : WH c P ops pl Zp (m + 1) r F (updS δ S)) : WH c P ops pl Zp m (⟨none, op, ty, pos, af, gd⟩ :: r) F S := WH.go hg hT rfl hk rfl hd h
theorem WH.skip (hg : OpOk c P ops ⟨some d, op, ty, pos, af, gd⟩ F S [] [] (some (.u (.sc undef))) []) (h : WH c P ops pl Zp (m + 1) r ((d, .u (.sc undef)) :: F) S) : WH c P ops pl Zp m (⟨some d, op, ty, pos, af, gd⟩ :: r) F S := WH.go hg rfl rfl rfl rfl rfl h
theorem WH.case {j g : Nat} {b want : Bool} (_ : (ops[j]?).bind (·.dst) = some g) (_ : look g F = some (.u (.sc (.bool b)))) (h1 : b = want → WH c P ops pl Zp m l F S) (h2 : b ≠ want → WH c P ops pl Zp m l F S) : WH c P ops pl Zp m l F S :=
  if h : b = want then h1 h else h2 h
end
end Go.H
end
section
namespace Go.H
open Go Go.RowKit
section
variable {c : Ctx} {P : Program} {Q : Exit → Act → World → Prop} {F : Frm} {S : Sto} {ops : Array Oper} {r : List Oper} {d : Nat} {op : Go.Op} {ty : TypeId} {pos : String} {af : Array Edge} {x : Operand} {i : IV}
variable {pl : List Pl} {Zp : Frm → Sto → Prop} {m : Nat}
theorem SL.mv (hx : ev F x = some i) (hd : Nat.blt d c.n = true) (h : SL c P ops Q r ((d, i) :: F) S) : SL c P ops Q (⟨some d, .move x, ty, pos, af, none⟩ :: r) F S := SL.val (O.move hx hd Taken.no) h
theorem SL.an (hx : ev F x = some i) (hd : Nat.blt d c.n = true) (h : SL c P ops Q r ((d, i) :: F) S) : SL c P ops Q (⟨some d, .assign x, ty, pos, af, none⟩ :: r) F S := SL.val (O.assign hx hd Taken.no) h
theorem WH.mv (hx : ev F x = some i) (hd : Nat.blt d c.n = true) (hi : subl i.tags (pl.getD m default).A = true) (h : WH c P ops pl Zp (m + 1) r ((d, i) :: F) S) : WH c P ops pl Zp m (⟨some d, .move x, ty, pos, af, none⟩ :: r) F S := WH.val (O.move hx hd Taken.no) rfl hi h
theorem SL.sk {j g : Nat} {b want : Bool} (hd : Nat.blt d c.n = true) (hj : (ops[j]?).bind (·.dst) = some g) (hg : look g F = some (.u (.sc (.bool b)))) (hb : b ≠ want) (h : SL c P ops Q r ((d, .u (.sc undef)) :: F) S) : SL c P ops Q (⟨some d, op, ty, pos, af, some (j, want)⟩ :: r) F S := SL.skip (OpOk.not hd hj hg hb) h
theorem WH.sk {j g : Nat} {b want : Bool} (hd : Nat.blt d c.n = true) (hj : (ops[j]?).bind (·.dst) = some g) (hg : look g F = some (.u (.sc (.bool b)))) (hb : b ≠ want) (h : WH c P ops pl Zp (m + 1) r ((d, .u (.sc undef)) :: F) S) : WH c P ops pl Zp m (⟨some d, op, ty, pos, af, some (j, want)⟩ :: r) F S := WH.skip (OpOk.not hd hj hg hb) h
theorem E.fo {y : Code} (h : W c P y Q F S) : SL c P ops (Exit.then (y.wp P Q) Q) [] F S := SL.nil (E.to h)
theorem W.rg {id : Nat} {l : List Oper} {y : Code} (h : SL c P l.toArray (Exit.then (y.wp P Q) Q) l F S) : W c P (.seq (.region id l.toArray false) y) Q F S := W.seq (W.region h)
end
end Go.H
end
section
namespace Go.H
open Go Go.RowKit

theorem SubF.cons {ρ : Nat → Nat} {F F' : Frm} {t : Nat} {i : IV} (h : look t F = some (i.ren ρ)) (r : SubF ρ F F') : SubF ρ F ((t, i) :: F') := ⟨h, r⟩
theorem SubF.val {ρ : Nat → Nat} {F F' : Frm} {t : Nat} {i j : IV} (h : look t F = some j) (e : j = i.ren ρ) (r : SubF ρ F F') : SubF ρ F ((t, i) :: F') := ⟨by rw [h, e], r⟩
theorem SubF.nil {ρ : Nat → Nat} {F : Frm} : SubF ρ F [] := trivial
theorem SubS.cons {ρ : Nat → Nat} {S S' : Sto} {k : Nat} {b : SB} (h : lookS (ρ k) S = some (b.ren ρ)) (r : SubS ρ S S') : SubS ρ S ((k, b) :: S') := ⟨h, r⟩
theorem SubS.val {ρ : Nat → Nat} {S S' : Sto} {k : Nat} {b b' : SB} (h : lookS (ρ k) S = some b') (e : b' = b.ren ρ) (r : SubS ρ S S') : SubS ρ S ((k, b) :: S') := ⟨by rw [h, e], r⟩
theorem SubS.nil {ρ : Nat → Nat} {S : Sto} : SubS ρ S [] := trivial
theorem Pick.cons {α : Type} {F K : List (Nat × α)} {t : Nat} {i : α} (h : look t F = some i) (r : Pick F K) : Pick F ((t, i) :: K) := ⟨h, r⟩
theorem Pick.nil {α : Type} {F : List (Nat × α)} : Pick F [] := trivial
theorem PickS.cons {S K : Sto} {t : Nat} {i : SB} (h : lookS t S = some i) (r : PickS S K) : PickS S ((t, i) :: K) := ⟨h, r⟩
theorem PickS.nil {S : Sto} : PickS S [] := trivial
def tagsF : Frm → List Nat
  | [] => []
  | x :: r => x.2.tags ++ tagsF r
def fixL (ρ : Nat → Nat) (l : List Nat) : Bool := l.all fun k => Nat.beq (ρ k) k
theorem fixL_spec {ρ : Nat → Nat} {l : List Nat} (h : fixL ρ l = true) : ∀ k ∈ l, ρ k = k := fun k hk => Nat.eq_of_beq_eq_true (List.all_eq_true.1 h k hk)
mutual
theorem ren_fix {ρ : Nat → Nat} : ∀ i : IV, (∀ k ∈ i.tags, ρ k = k) → i.ren ρ = i
  | .u _, _ => rfl
  | .own k, h => by rw [IV.ren, h k vF]
  | .ref k _, h => by rw [IV.ren, h k vF]
  | .el k _ _ _, h => by rw [IV.ren, h k vF]
  | .osl k _ _ _, h => by rw [IV.ren, h k vF]
  | .row k _ _, h => by rw [IV.ren, h k vF]
  | .rel k _ _, h => by rw [IV.ren, h k vF]
  | .agg l, h => by rw [IV.ren, renL_fix l h]
  | .tup l, h => by rw [IV.ren, renL_fix l h]
  | .clo _ f c, h => by rw [IV.ren, renL_fix f (fun k hk => h k (by rw [IV.tags]; exact List.mem_append_left _ hk)), renL_fix c (fun k hk => h k (by rw [IV.tags]; exact List.mem_append_right _ hk))]
  | .junk, _ => rfl
theorem renL_fix {ρ : Nat → Nat} : ∀ l : List IV, (∀ k ∈ IV.tagsL l, ρ k = k) → IV.renL ρ l = l
  | [], _ => rfl
  | i :: r, h => by rw [IV.renL, ren_fix i (fun k hk => h k (by rw [IV.tagsL]; exact List.mem_append_left _ hk)), renL_fix r (fun k hk => h k (by rw [IV.tagsL]; exact List.mem_append_right _ hk))]
end
theorem SubF.ofPick {ρ : Nat → Nat} {F : Frm} : ∀ {K : Frm}, Pick F K → (∀ k ∈ tagsF K, ρ k = k) → SubF ρ F K
  | [], _, _ => trivial
  | (t, i) :: r, h, hf => ⟨by rw [ren_fix i (fun k hk => hf k (by rw [tagsF]; exact List.mem_append_left _ hk))]; exact h.1, SubF.ofPick h.2 (fun k hk => hf k (by rw [tagsF]; exact List.mem_append_right _ hk))⟩
theorem SubS.ofPick {ρ : Nat → Nat} {S : Sto} : ∀ {K : Sto}, PickS S K → (∀ k ∈ tagsS K, ρ k = k) → (∀ k ∈ keysS K, ρ k = k) → SubS ρ S K
  | [], _, _, _ => trivial
  | (t, b) :: r, h, hf, hk => by
    refine ⟨?_, SubS.ofPick h.2 (fun k hq => hf k (by rw [tagsS]; exact List.mem_append_right _ hq)) (fun k hq => hk k (by simp only [keysS, List.map_cons]; exact List.mem_cons_of_mem _ hq))⟩
    rw [hk t (by simp [keysS]), h.1]
    cases b with
    | cells ty is => rw [SB.ren, renL_fix is (fun k hq => hf k (by rw [tagsS]; exact List.mem_append_left _ hq))]
    | data ty sz rows => rfl
    | mp ps => rfl
    | grid tr te rows => rfl
    | dead => rfl
theorem SubF.app {ρ : Nat → Nat} {F : Frm} : ∀ {A B : Frm}, SubF ρ F A → SubF ρ F B → SubF ρ F (A ++ B)
  | [], _, _, h => h
  | _ :: _, _, h, h' => ⟨h.1, SubF.app h.2 h'⟩
theorem SubS.app {ρ : Nat → Nat} {F : Sto} : ∀ {A B : Sto}, SubS ρ F A → SubS ρ F B → SubS ρ F (A ++ B)
  | [], _, _, h => h
  | _ :: _, _, h, h' => ⟨h.1, SubS.app h.2 h'⟩
def fixB (ρ : Nat → Nat) (K : Frm) (Z : Sto) : Bool := fixL ρ (tagsF K) && fixL ρ (tagsS Z) && fixL ρ (keysS Z)

theorem iv_int {k : IntKind} {a b : Int} (h : a = b) : IV.u (.sc (.int k a)) = .u (.sc (.int k b)) := by rw [h]
theorem iv_bool {a b : Bool} (h : a = b) : IV.u (.sc (.bool a)) = .u (.sc (.bool b)) := by rw [h]
theorem sb_data {t sz : Nat} {a b : List (List UV)} (h : a = b) : SB.data t sz a = .data t sz b := by rw [h]
theorem map_snoc {α : Type} {enc : α → List UV} {xs : List α} {x : α} {row : List UV} (h : row = enc x) : xs.map enc ++ [row] = (xs ++ [x]).map enc := by rw [h]; simp
theorem app_map {α : Type} {enc : α → List UV} {xs ys : List α} : xs.map enc ++ ys.map enc = (xs ++ ys).map enc := by simp
theorem set_map {α : Type} {enc : α → List UV} {xs : List α} {i : Nat} {x : α} {row : List UV} (h : row = enc x) : (xs.map enc).set i row = (xs.set i x).map enc := by rw [h]; simp

section
variable {c : Ctx} {P : Program} {Q : Exit → Act → World → Prop} {F K : Frm} {S Z : Sto}

theorem W.loopx1 {cd : Code} {A0 : Type} (Fi : A0 → Frm) (Si : A0 → Sto) (Φ : A0 → Prop) (μ : A0 → Nat) (i0 : A0) (ρ : Nat → Nat) (hK : Pick F K) (hZ : PickS S Z) (hfx : fixB ρ K Z = true) (hF : SubF ρ F (Fi i0)) (hS : SubS ρ S (Si i0))
    (hd : distinct ((Si i0 ++ Z).map fun x => ρ x.1) = true) (hp : fixL ρ c.pk = true) (h0 : Φ i0) (round : ∀ (i0 : A0), Φ i0 → W c P cd (Exit.then (Again c (fun x : A0 => Fi x ++ K) (fun x : A0 => Si x ++ Z) (fun x : A0 => Φ x) (fun x : A0 => μ x) (μ i0)) Q) (Fi i0 ++ K) (Si i0 ++ Z)) : W c P (.loop cd) Q F S := by
  simp only [fixB, Bool.and_eq_true] at hfx
  exact W.loop (fun x : A0 => Fi x ++ K) (fun x : A0 => Si x ++ Z) (fun x : A0 => Φ x) (fun x : A0 => μ x) i0 ρ (hF.app (SubF.ofPick hK (fixL_spec hfx.1.1))) (hS.app (SubS.ofPick hZ (fixL_spec hfx.1.2) (fixL_spec hfx.2))) hd (fixL_spec hp) h0 (fun x hx => round x hx)

theorem W.loopx2 {cd : Code} {A0 A1 : Type} (Fi : A0 → A1 → Frm) (Si : A0 → A1 → Sto) (Φ : A0 → A1 → Prop) (μ : A0 → A1 → Nat) (i0 : A0) (i1 : A1) (ρ : Nat → Nat) (hK : Pick F K) (hZ : PickS S Z) (hfx : fixB ρ K Z = true) (hF : SubF ρ F (Fi i0 i1)) (hS : SubS ρ S (Si i0 i1))
    (hd : distinct ((Si i0 i1 ++ Z).map fun x => ρ x.1) = true) (hp : fixL ρ c.pk = true) (h0 : Φ i0 i1) (round : ∀ (i0 : A0) (i1 : A1), Φ i0 i1 → W c P cd (Exit.then (Again c (fun x : A0 × A1 => Fi x.1 x.2 ++ K) (fun x : A0 × A1 => Si x.1 x.2 ++ Z) (fun x : A0 × A1 => Φ x.1 x.2) (fun x : A0 × A1 => μ x.1 x.2) (μ i0 i1)) Q) (Fi i0 i1 ++ K) (Si i0 i1 ++ Z)) : W c P (.loop cd) Q F S := by
  simp only [fixB, Bool.and_eq_true] at hfx
  exact W.loop (fun x : A0 × A1 => Fi x.1 x.2 ++ K) (fun x : A0 × A1 => Si x.1 x.2 ++ Z) (fun x : A0 × A1 => Φ x.1 x.2) (fun x : A0 × A1 => μ x.1 x.2) (i0, i1) ρ (hF.app (SubF.ofPick hK (fixL_spec hfx.1.1))) (hS.app (SubS.ofPick hZ (fixL_spec hfx.1.2) (fixL_spec hfx.2))) hd (fixL_spec hp) h0 (fun x hx => round x.1 x.2 hx)

theorem W.loopx3 {cd : Code} {A0 A1 A2 : Type} (Fi : A0 → A1 → A2 → Frm) (Si : A0 → A1 → A2 → Sto) (Φ : A0 → A1 → A2 → Prop) (μ : A0 → A1 → A2 → Nat) (i0 : A0) (i1 : A1) (i2 : A2) (ρ : Nat → Nat) (hK : Pick F K) (hZ : PickS S Z) (hfx : fixB ρ K Z = true) (hF : SubF ρ F (Fi i0 i1 i2)) (hS : SubS ρ S (Si i0 i1 i2))
    (hd : distinct ((Si i0 i1 i2 ++ Z).map fun x => ρ x.1) = true) (hp : fixL ρ c.pk = true) (h0 : Φ i0 i1 i2) (round : ∀ (i0 : A0) (i1 : A1) (i2 : A2), Φ i0 i1 i2 → W c P cd (Exit.then (Again c (fun x : A0 × A1 × A2 => Fi x.1 x.2.1 x.2.2 ++ K) (fun x : A0 × A1 × A2 => Si x.1 x.2.1 x.2.2 ++ Z) (fun x : A0 × A1 × A2 => Φ x.1 x.2.1 x.2.2) (fun x : A0 × A1 × A2 => μ x.1 x.2.1 x.2.2) (μ i0 i1 i2)) Q) (Fi i0 i1 i2 ++ K) (Si i0 i1 i2 ++ Z)) : W c P (.loop cd) Q F S := by
  simp only [fixB, Bool.and_eq_true] at hfx
  exact W.loop (fun x : A0 × A1 × A2 => Fi x.1 x.2.1 x.2.2 ++ K) (fun x : A0 × A1 × A2 => Si x.1 x.2.1 x.2.2 ++ Z) (fun x : A0 × A1 × A2 => Φ x.1 x.2.1 x.2.2) (fun x : A0 × A1 × A2 => μ x.1 x.2.1 x.2.2) (i0, i1, i2) ρ (hF.app (SubF.ofPick hK (fixL_spec hfx.1.1))) (hS.app (SubS.ofPick hZ (fixL_spec hfx.1.2) (fixL_spec hfx.2))) hd (fixL_spec hp) h0 (fun x hx => round x.1 x.2.1 x.2.2 hx)








end
end Go.H
end
section
namespace Go.H
open Go Go.RowKit
open Go.G (Gr)

theorem ResAll.cons {P : Program} {F : Frm} {S : Sto} {rv : ResultVar} {rs : List ResultVar} {i : IV} {is : List IV} (h : ResOne P F S rv i) (r : ResAll P F S rs is) : ResAll P F S (rv :: rs) (i :: is) := ⟨h, r⟩
theorem ResAll.nil {P : Program} {F : Frm} {S : Sto} : ResAll P F S [] [] := trivial
theorem ArgsOk.cons {ρ : Nat → Nat} {S : Sto} {bor : List Nat} {i j : IV} {is js : List IV} (h : ArgOk ρ S bor i j) (r : ArgsOk ρ S bor is js) : ArgsOk ρ S bor (i :: is) (j :: js) := ⟨h, r⟩
theorem ArgsOk.nil {ρ : Nat → Nat} {S : Sto} {bor : List Nat} : ArgsOk ρ S bor [] [] := trivial
abbrev vI (n : Int) : IV := .u (.sc (.int .i64 n))
abbrev vN (k : IntKind) (n : Int) : IV := .u (.sc (.int k n))
abbrev vB (b : Bool) : IV := .u (.sc (.bool b))
abbrev vS (s : ByteArray) : IV := .u (.sc (.string s))
abbrev vL (sz : Nat) (rows : List (List UV)) : IV := .u (.sl sz rows)
abbrev vA (us : List UV) : IV := .u (.agg us)
abbrev uI (n : Int) : UV := .sc (.int .i64 n)
abbrev uN (k : IntKind) (n : Int) : UV := .sc (.int k n)
abbrev uB (b : Bool) : UV := .sc (.bool b)
abbrev uS (s : ByteArray) : UV := .sc (.string s)
def eL (l : List UInt8) : List UV := [.sl 1 (l.map eB)]

section
variable {c : Ctx} {P : Program} {Q : Exit → Act → World → Prop} {F F' K : Frm} {S S' Z : Sto} {ops : Array Oper} {l r : List Oper} {d : Nat} {op : Go.Op} {ty : TypeId} {pos : String} {af : Array Edge} {gd : Option (Nat × Bool)} {T N : List Nat} {i : IV} {δ : Chg}
  {pl : List Pl} {Zp : Frm → Sto → Prop} {m : Nat}
theorem SL.memS (hg : OpOk c P ops ⟨some d, op, ty, pos, af, gd⟩ F S T N (some i) δ) (hf : freshB N F S = true) (hp : disj N c.pk = true) (hS : updS δ S = S') (h : SL c P ops Q r ((d, i) :: F) S') : SL c P ops Q (⟨some d, op, ty, pos, af, gd⟩ :: r) F S := SL.mem hg hf hp (hS ▸ h)
theorem SL.effS (hg : OpOk c P ops ⟨none, op, ty, pos, af, gd⟩ F S T [] none δ) (hS : updS δ S = S') (h : SL c P ops Q r F S') : SL c P ops Q (⟨none, op, ty, pos, af, gd⟩ :: r) F S := SL.eff hg (hS ▸ h)
theorem WH.memS (hg : OpOk c P ops ⟨some d, op, ty, pos, af, gd⟩ F S T N (some i) δ) (hT : subl T (pl.getD m default).T = true) (hN : subl N (pl.getD m default).N = true) (hk : subl (keysC δ) (pl.getD m default).Wr = true) (hi : subl i.tags (pl.getD m default).A = true) (hd : subl (tagsC δ) (pl.getD m default).T = true)
    (hS : updS δ S = S') (h : WH c P ops pl Zp (m + 1) r ((d, i) :: F) S') : WH c P ops pl Zp m (⟨some d, op, ty, pos, af, gd⟩ :: r) F S := WH.mem hg hT hN hk hi hd (hS ▸ h)
theorem WH.effS (hg : OpOk c P ops ⟨none, op, ty, pos, af, gd⟩ F S T [] none δ) (hT : subl T (pl.getD m default).T = true) (hk : subl (keysC δ) (pl.getD m default).Wr = true) (hd : subl (tagsC δ) (pl.getD m default).T = true)
    (hS : updS δ S = S') (h : WH c P ops pl Zp (m + 1) r F S') : WH c P ops pl Zp m (⟨none, op, ty, pos, af, gd⟩ :: r) F S := WH.eff hg hT hk hd (hS ▸ h)
theorem E.nilsl {e : Exit} (t sz : Nat) (hx : look t F = some (.u (.sc (.slice none 0 0)))) (h : E c Q e ((t, .u (.sl sz [])) :: F) S) : E c Q e F S := fun a w ha => h a w (ha.nilsl sz hx)
theorem E.adopt {e : Exit} (t k : Nat) (et : TypeId) (sz : Nat) (hp : 0 < sz) (hx : look t F = some (.u (.sc (.slice none 0 0)))) (hf : freshB [k] F S = true) (hk : disj [k] c.pk = true)
    (h : E c Q e ((t, .own k) :: F) ((k, .data et sz []) :: S)) : E c Q e F S := fun a w ha => h a w (ha.adopt t k et sz hp hx hf hk)

theorem Sat.adoptC {a : Act} {w : World} (kb q k : Nat) (e : TypeId) (sz : Nat) {tb : TypeId} {is is' : List IV} (hp : 0 < sz) (hb : lookS kb S = some (.cells tb is)) (hq : is[q]? = some (.u (.sc (.slice none 0 0)))) (hf : freshB [k] F S = true) (hk : disj [k] c.pk = true) (he : is.set q (.own k) = is')
    (h : Sat c (mk F S) a w) : Sat c (mk F ((kb, .cells tb is') :: (k, .data e sz []) :: S)) a w := by
  subst he
  obtain ⟨τ, h⟩ := h
  have hfr := freshB_spec hf
  have hkb : kb ≠ k := fun e => by subst e; have := (hfr kb yE).2; rw [show (mk F S).sto kb = some (.cells tb is) from hb] at this; cases this
  have := h.new (k := k) (sb := .data e sz []) (v := .slice none 0 0) (fun j hj => ⟨(hfr j hj).1, (hfr j hj).2, disj_spec hk j hj⟩) (G.Ext.rfl' w) (fun b hb => by simp [SB.has, vblk] at hb)
    (fun _ => RepB.of_own hp (xs := []) (by rw [upτ_eq]; exact G.Own.nil _ _ _ _) ⟨rfl, fun i row x h1 => by simp at h1⟩ yE)
  refine ⟨upτ τ k (.slice none 0 0), ?_⟩
  have he := mk_upd none none [(k, some (.data e sz []))] F S
  have hsat := this.1
  rw [← he] at hsat
  have hs1 : lookS kb ((k, SB.data e sz []) :: S) = some (.cells tb is) := by rw [lookS_ne (Ne.symm hkb)]; exact hb
  have hall : ∀ j sb, lookS j ((kb, SB.cells tb (is.set q (.own k))) :: (k, SB.data e sz []) :: S) = some sb → (j = kb ∧ sb = .cells tb (is.set q (.own k))) ∨ (j ≠ kb ∧ lookS j ((k, SB.data e sz []) :: S) = some sb) := fun j sb hj => by
    by_cases e : kb = j
    · subst e; rw [lookS_cells] at hj; exact .inl ⟨rfl, (Option.some.inj hj).symm⟩
    · rw [lookS_ne e] at hj; exact .inr ⟨Ne.symm e, hj⟩
  have hlive : ∀ j sb, lookS j ((kb, SB.cells tb (is.set q (.own k))) :: (k, SB.data e sz []) :: S) = some sb → ∃ sb', lookS j ((k, SB.data e sz []) :: S) = some sb' ∧ ∀ v b, sb.has v b → sb'.has v b := fun j sb hj => by
    rcases hall j sb hj with ⟨rfl, rfl⟩ | ⟨_, h2⟩
    · exact ⟨_, hs1, fun _ _ q => q⟩
    · exact ⟨_, h2, fun _ _ q => q⟩
  have hok : ∀ b, okOf c (upτ τ k (.slice none 0 0)) (mk (push none none F) (updS [(k, some (.data e sz []))] S)).sto b → b < w.heap.size → okOf c (upτ τ k (.slice none 0 0)) (mk F ((kb, .cells tb (is.set q (.own k))) :: (k, .data e sz []) :: S)).sto b ∧ w.heap[b]? = w.heap[b]? :=
    fun b hb' _ => ⟨⟨hb'.1, fun j sb hj => by obtain ⟨sb', h2, h3⟩ := hlive j sb hj; exact fun hv => hb'.2 j sb' h2 (h3 _ _ hv)⟩, rfl⟩
  refine ⟨hsat.size, hsat.defers, hsat.gr, fun s i hl => ?_, fun j sb hj => ?_, fun j j' s s' b h1 h2 => ?_, fun j sb b h1 => ?_, hsat.pin⟩
  · obtain ⟨u, h1, h2⟩ := hsat.slot s i hl
    exact wI
  · rcases hall j sb hj with ⟨rfl, rfl⟩ | ⟨_, h2⟩
    · obtain ⟨g, vs, e1, e2, e3, e4⟩ := (hsat.sto j _ hs1).mono (Nat.le_refl _) hok (fun _ _ => rfl) rfl (fun _ _ => rfl)
      refine ⟨g, vs, e1, e2, ⟨by simpa using e3.1, fun n u v h1 h2 => ?_⟩, fun i hi => ?_⟩
      · rw [List.getElem?_set] at h1
        split at h1
        · rename_i hn
          subst hn
          split at h1
          · cases h1
            have := e3.2 q _ v hq h2
            cases this with
            | u h => cases h; have hr := RepI.own (τ := upτ τ k (.slice none 0 0)) (w := w) (ok := okOf c (upτ τ k (.slice none 0 0)) (mk F ((j, .cells tb (is.set q (.own k))) :: (k, .data e sz []) :: S)).sto) k (by rw [upτ_eq]; rfl)
                     rw [upτ_eq] at hr; exact hr
          · cases h1
        · exact e3.2 n u v h1 h2
      · rcases List.mem_or_eq_of_mem_set hi with hi | hi
        · exact e4 i hi
        · subst hi; rfl
    · exact (hsat.sto j sb h2).mono (Nat.le_refl _) hok (fun _ _ => rfl) rfl (fun _ _ => rfl)
  · obtain ⟨a1, q1, z1⟩ := hlive j s h1
    obtain ⟨a2, q2, z2⟩ := hlive j' s' h2
    exact fun w1 w2 => hsat.inj j j' a1 a2 b q1 q2 (z1 _ _ w1) (z2 _ _ w2)
  · obtain ⟨a1, q1, z1⟩ := hlive j sb h1
    exact fun w1 => hsat.own j a1 b q1 (z1 _ _ w1)
theorem W.adoptC {cd : Code} (kb q k : Nat) (e : TypeId) (sz : Nat) {tb : TypeId} {is is' : List IV} (hp : 0 < sz) (hb : lookS kb S = some (.cells tb is)) (hq : is[q]? = some (.u (.sc (.slice none 0 0)))) (hf : freshB [k] F S = true) (hk : disj [k] c.pk = true) (he : is.set q (.own k) = is')
    (h : W c P cd Q F ((kb, .cells tb is') :: (k, .data e sz []) :: S)) : W c P cd Q F S := fun a w ha => h a w (ha.adoptC kb q k e sz hp hb hq hf hk he)
end

theorem sub_lo {α : Type} {enc : α → List UV} {xs : List α} {i : Nat} : ((xs.map enc).take (xs.map enc).length).drop i = (xs.drop i).map enc := by
  rw [List.take_of_length_le (Nat.le_refl _), List.map_drop]
theorem sub_hi {α : Type} {enc : α → List UV} {xs : List α} {j : Nat} : ((xs.map enc).take j).drop 0 = (xs.take j).map enc := by simp
section
variable {c : Ctx} {P : Program} {F : Frm} {S : Sto} {ops : Array Oper} {T : List Nat} {d : Nat} {ty : TypeId} {pos : String} {af : Array Edge} {gd : Option (Nat × Bool)}
theorem O.lenE {x : Operand} {t e : TypeId} {sz n : Nat} {rows : List (List UV)} (hs : SlOf F S T x sz rows) (hn : rows.length = n) (ht : P.underlying t = some (.slice e)) (hd : Nat.blt d c.n = true) (hg : Taken ops F gd) :
    OpOk c P ops ⟨some d, .call { callee := .builtin .len, args := #[x], argTypes := #[t] }, ty, pos, af, gd⟩ F S T [] (some (.u (.sc (.int .i64 n)))) [] := by
  subst hn; exact O.len hs ht hd hg
end

theorem RepU.len {w : World} {ok : Nat → Prop} {sz : Nat} {rows : List (List UV)} {v : Value} (h : RepU w ok (.sl sz rows) v) : rows.length ≤ 9223372036854775807 := by
  cases h with
  | sl0 => simp
  | sl hne h1 h2 => simp only [maxLen] at h2; omega
section
variable {τ : Nat → Value} {w : World} {ok : Nat → Prop} {ivs : List IV} {S : Sto} {vs : List Value} {i j sz : Nat} {rows : List (List UV)} {us : List UV}
theorem In.len (h : In τ w ok ivs S vs) (hi : ivs[i]? = some (.u (.sl sz rows))) : rows.length ≤ 9223372036854775807 := by
  have hl : i < vs.length := by rw [← h.args.1]; exact (List.getElem?_eq_some_iff.1 hi).1
  have := h.args.2 i _ vs[i] hi (List.getElem?_eq_getElem hl)
  cases this with
  | u h => exact h.len
theorem In.lenA (h : In τ w ok ivs S vs) (hi : ivs[i]? = some (.u (.agg us))) (hj : us[j]? = some (.sl sz rows)) : rows.length ≤ 9223372036854775807 := by
  have hl : i < vs.length := by rw [← h.args.1]; exact (List.getElem?_eq_some_iff.1 hi).1
  have := h.args.2 i _ vs[i] hi (List.getElem?_eq_getElem hl)
  cases this with
  | u h =>
    generalize vs[i] = x at h
    cases h with
    | agg hl hg =>
      rename_i ws
      have hl2 : j < ws.length := by rw [← hl]; exact (List.getElem?_eq_some_iff.1 hj).1
      exact (hg j _ ws[j] hj (List.getElem?_eq_getElem hl2)).len
end
theorem Con.enterL {P : Program} {fn : Func} {f : FuncId} {cd : Code} {n : Nat} {S S' : Sto} {ivs : List IV} {r : IV} (hf : P.funcs[f]? = some fn) (hb : fn.body = some cd) (hn : fn.ntmps = n) (hl : Nat.ble ivs.length n = true)
    (h : ∀ τ w ok vs, In τ w ok ivs S vs → W (cx n S τ w ok) P cd (Post P fn S τ w ok r S') (args0 0 ivs) S) : Con P f ivs S r S' := by
  intro τ w vs ok hin
  exact Con.enter' hf hb hn hl (h τ w ok vs hin) hin

theorem take_flat {sz : Nat} : ∀ {rows : List (List UV)} {j : Nat}, (∀ r ∈ rows, r.length = sz) → (rows.take j).flatten = rows.flatten.take (j * sz)
  | [], j, _ => by simp
  | r :: rows, 0, _ => by simp
  | r :: rows, j + 1, h => by
    have e := h r yE
    have t1 : r.take (j * sz + sz) = r := List.take_of_length_le xA
    rw [List.take_succ_cons, List.flatten_cons, List.flatten_cons, take_flat (fun q hq => h q (by simp [hq])), Nat.add_mul, Nat.one_mul, List.take_append, t1, e, Nat.add_sub_cancel]
section
variable {c : Ctx} {P : Program} {Q : Exit → Act → World → Prop} {F F' : Frm} {S S' : Sto} {ops : Array Oper} {l : List Oper}
theorem lookS_hd {kb tb j : Nat} {is : List IV} {sb : SB} (hj : lookS j ((kb, SB.cells tb is) :: S) = some sb) : (j = kb ∧ sb = .cells tb is) ∨ (j ≠ kb ∧ lookS j S = some sb) := by
  by_cases e : kb = j
  · subst e; rw [lookS_cells] at hj; exact .inl ⟨rfl, (Option.some.inj hj).symm⟩
  · rw [lookS_ne e] at hj; exact .inr ⟨Ne.symm e, hj⟩
theorem lookS_hdd {k j : Nat} {sb : SB} (hj : lookS j ((k, SB.dead) :: S) = some sb) : j ≠ k ∧ lookS j S = some sb := by
  by_cases e : k = j
  · subst e; rw [lookS_dead] at hj; cases hj
  · rw [lookS_ne e] at hj; exact ⟨Ne.symm e, hj⟩
theorem rep_set {τ : Nat → Value} {w : World} {ok : Nat → Prop} {kb tb q : Nat} {is : List IV} {i i' : IV} (h : RepB τ w ok kb (.cells tb is)) (hq : is[q]? = some i) (h1 : i'.one = true) (hi : ∀ v, RepI τ w ok i v → RepI τ w ok i' v) : RepB τ w ok kb (.cells tb (is.set q i')) := by
  obtain ⟨g, vs, e1, e2, e3, e4⟩ := h
  refine ⟨g, vs, e1, e2, ⟨by simpa using e3.1, fun n u v h1 h2 => ?_⟩, fun j hj => ?_⟩
  · rw [List.getElem?_set] at h1
    split at h1
    · rename_i hn
      subst hn
      split at h1
      · cases h1; exact hi v (e3.2 q i v hq h2)
      · cases h1
    · exact e3.2 n u v h1 h2
  · rcases List.mem_or_eq_of_mem_set hj with hj | hj
    · exact e4 j hj
    · subst hj; exact h1
theorem Sat.nilslC {a : Act} {w : World} (kb q sz : Nat) {tb : TypeId} {is is' : List IV} (hb : lookS kb S = some (.cells tb is)) (hq : is[q]? = some (.u (.sc (.slice none 0 0)))) (he : is.set q (.u (.sl sz [])) = is')
    (h : Sat c (mk F S) a w) : Sat c (mk F ((kb, .cells tb is') :: S)) a w := by
  subst he
  obtain ⟨τ, h⟩ := h
  have hlive : ∀ j sb, lookS j ((kb, SB.cells tb (is.set q (.u (.sl sz [])))) :: S) = some sb → ∃ sb', lookS j S = some sb' ∧ ∀ v b, sb.has v b → sb'.has v b := fun j sb hj => by
    rcases lookS_hd hj with ⟨rfl, rfl⟩ | ⟨_, h2⟩
    · exact ⟨_, hb, fun _ _ q => q⟩
    · exact ⟨_, h2, fun _ _ q => q⟩
  have hok : ∀ b, okOf c τ (mk F S).sto b → b < w.heap.size → okOf c τ (mk F ((kb, .cells tb (is.set q (.u (.sl sz [])))) :: S)).sto b ∧ w.heap[b]? = w.heap[b]? :=
    fun b hb' _ => ⟨⟨hb'.1, fun j sb hj => by obtain ⟨sb', h2, h3⟩ := hlive j sb hj; exact fun hv => hb'.2 j sb' h2 (h3 _ _ hv)⟩, rfl⟩
  refine ⟨τ, h.size, h.defers, h.gr, fun s i hl => ?_, fun j sb hj => ?_, fun j j' s s' b h1 h2 => ?_, fun j sb b h1 => ?_, h.pin⟩
  · obtain ⟨u, h1, h2⟩ := h.slot s i hl
    exact wI
  · rcases lookS_hd hj with ⟨rfl, rfl⟩ | ⟨_, h2⟩
    · exact rep_set ((h.sto j _ hb).mono (Nat.le_refl _) hok (fun _ _ => rfl) rfl (fun _ _ => rfl)) hq rfl (fun v hv => by cases hv with | u hv => cases hv; exact .u (.sl0 (by simp [maxLen]) (fun _ => rfl)))
    · exact (h.sto j sb h2).mono (Nat.le_refl _) hok (fun _ _ => rfl) rfl (fun _ _ => rfl)
  · obtain ⟨a1, q1, z1⟩ := hlive j s h1
    obtain ⟨a2, q2, z2⟩ := hlive j' s' h2
    exact fun w1 w2 => h.inj j j' a1 a2 b q1 q2 (z1 _ _ w1) (z2 _ _ w2)
  · obtain ⟨a1, q1, z1⟩ := hlive j sb h1
    exact fun w1 => h.own j a1 b q1 (z1 _ _ w1)
theorem Sat.freezeC {a : Act} {w : World} (kb q k : Nat) {t sz : Nat} {rows : List (List UV)} {tb : TypeId} {is is' : List IV} (hS : lookS k S = some (.data t sz rows)) (hb : lookS kb S = some (.cells tb is)) (hq : is[q]? = some (.own k)) (he : is.set q (.u (.sl sz rows)) = is')
    (h : Sat c (mk F S) a w) : Sat c (mk F ((kb, .cells tb is') :: (k, .dead) :: S)) a w := by
  subst he
  obtain ⟨τ, h⟩ := h
  have hkb : kb ≠ k := fun e => by subst e; rw [hb] at hS; cases hS
  have hlive : ∀ j sb, lookS j ((kb, SB.cells tb (is.set q (.u (.sl sz rows)))) :: (k, .dead) :: S) = some sb → j ≠ k ∧ ∃ sb', lookS j S = some sb' ∧ ∀ v b, sb.has v b → sb'.has v b := fun j sb hj => by
    rcases lookS_hd hj with ⟨rfl, rfl⟩ | ⟨_, h2⟩
    · exact ⟨hkb, _, hb, fun _ _ q => q⟩
    · obtain ⟨h3, h4⟩ := lookS_hdd h2; exact ⟨h3, _, h4, fun _ _ q => q⟩
  have hok : ∀ b, okOf c τ (mk F S).sto b → b < w.heap.size → okOf c τ (mk F ((kb, .cells tb (is.set q (.u (.sl sz rows)))) :: (k, .dead) :: S)).sto b ∧ w.heap[b]? = w.heap[b]? :=
    fun b hb' _ => ⟨⟨hb'.1, fun j sb hj => by obtain ⟨_, sb', h2, h3⟩ := hlive j sb hj; exact fun hv => hb'.2 j sb' h2 (h3 _ _ hv)⟩, rfl⟩
  have hx : RepU w (okOf c τ (mk F ((kb, .cells tb (is.set q (.u (.sl sz rows)))) :: (k, .dead) :: S)).sto) (.sl sz rows) (τ k) := by
    refine own_sl (h.sto k _ hS) (fun b hv => ⟨?_, fun j sb hj hv' => ?_⟩) (fun b hb' => ⟨hb'.1, fun j sb hj => by obtain ⟨_, sb', h2, h3⟩ := hlive j sb hj; exact fun hv => hb'.2 j sb' h2 (h3 _ _ hv)⟩)
    · rcases h.own k _ b hS hv with h1 | h1
      · exact .inr (.inl h1)
      · exact .inr (.inr h1)
    · obtain ⟨h1, sb', h2, h3⟩ := hlive j sb hj
      exact h1 (h.inj j k sb' _ b h2 hS (h3 _ _ hv') hv)
  refine ⟨τ, h.size, h.defers, h.gr, fun s i hl => ?_, fun j sb hj => ?_, fun j j' s s' b h1 h2 => ?_, fun j sb b h1 => ?_, h.pin⟩
  · obtain ⟨u, h1, h2⟩ := h.slot s i hl
    exact wI
  · rcases lookS_hd hj with ⟨rfl, rfl⟩ | ⟨_, h2⟩
    · exact rep_set ((h.sto j _ hb).mono (Nat.le_refl _) hok (fun _ _ => rfl) rfl (fun _ _ => rfl)) hq rfl (fun v hv => by cases hv; exact .u hx)
    · exact (h.sto j sb (lookS_hdd h2).2).mono (Nat.le_refl _) hok (fun _ _ => rfl) rfl (fun _ _ => rfl)
  · obtain ⟨_, a1, q1, z1⟩ := hlive j s h1
    obtain ⟨_, a2, q2, z2⟩ := hlive j' s' h2
    exact fun w1 w2 => h.inj j j' a1 a2 b q1 q2 (z1 _ _ w1) (z2 _ _ w2)
  · obtain ⟨_, a1, q1, z1⟩ := hlive j sb h1
    exact fun w1 => h.own j a1 b q1 (z1 _ _ w1)
theorem E.nilslC {x : Exit} (kb q sz : Nat) {tb : TypeId} {is is' : List IV} (hb : lookS kb S = some (.cells tb is)) (hq : is[q]? = some (.u (.sc (.slice none 0 0)))) (he : is.set q (.u (.sl sz [])) = is') (h : E c Q x F ((kb, .cells tb is') :: S)) : E c Q x F S := fun a w ha => h a w (ha.nilslC kb q sz hb hq he)
theorem W.freezeC {cd : Code} (kb q k : Nat) {t sz : Nat} {rows : List (List UV)} {tb : TypeId} {is is' : List IV} (hS : lookS k S = some (.data t sz rows)) (hb : lookS kb S = some (.cells tb is)) (hq : is[q]? = some (.own k)) (he : is.set q (.u (.sl sz rows)) = is') (h : W c P cd Q F ((kb, .cells tb is') :: (k, .dead) :: S)) : W c P cd Q F S := fun a w ha => h a w (ha.freezeC kb q k hS hb hq he)
theorem E.freezeC {x : Exit} (kb q k : Nat) {t sz : Nat} {rows : List (List UV)} {tb : TypeId} {is is' : List IV} (hS : lookS k S = some (.data t sz rows)) (hb : lookS kb S = some (.cells tb is)) (hq : is[q]? = some (.own k)) (he : is.set q (.u (.sl sz rows)) = is') (h : E c Q x F ((kb, .cells tb is') :: (k, .dead) :: S)) : E c Q x F S := fun a w ha => h a w (ha.freezeC kb q k hS hb hq he)
theorem SL.freezeC (kb q k : Nat) {t sz : Nat} {rows : List (List UV)} {tb : TypeId} {is is' : List IV} (hS : lookS k S = some (.data t sz rows)) (hb : lookS kb S = some (.cells tb is)) (hq : is[q]? = some (.own k)) (he : is.set q (.u (.sl sz rows)) = is') (h : SL c P ops Q l F ((kb, .cells tb is') :: (k, .dead) :: S)) : SL c P ops Q l F S := fun a w ha => h a w (ha.freezeC kb q k hS hb hq he)
end

section
variable {c : Ctx} {P : Program} {Q : Exit → Act → World → Prop} {F F' : Frm} {S S' : Sto} {ops : Array Oper} {l r : List Oper} {T : List Nat} {d : Nat} {ty : TypeId} {pos : String} {af : Array Edge} {gd : Option (Nat × Bool)}
theorem SL.isnil {x : Operand} {tx t' e : TypeId} {sz : Nat} {rows : List (List UV)} (hs : SlOf F S T x sz rows) (ht : P.underlying tx = some (.slice e)) (hd : Nat.blt d c.n = true) (hg : Taken ops F gd)
    (h : ∀ b : Bool, (b = true → rows.length = 0) → SL c P ops Q r ((d, .u (.sc (.bool b))) :: F) S) : SL c P ops Q (⟨some d, .binOp .eql tx x (.const (.slice none 0 0)) t', ty, pos, af, gd⟩ :: r) F S := by
  intro a w ha
  obtain ⟨τ, h0⟩ := ha
  obtain ⟨i, hx, hs⟩ := hs
  obtain ⟨p1, p2⟩ := h0.opd (o := ⟨some d, .binOp .eql tx x (.const (.slice none 0 0)) t', ty, pos, af, gd⟩) (F := F) (ops := ops) (fun _ _ _ hl => hl) xH hx
  obtain ⟨hp, xs, lo, hi, h3, h4, _⟩ := hs c _ τ a w _ (fun _ _ => rfl) h0 p1
  have hrun := G.R.isnil (t' := t') (ty := ty) p2 h3 ht
  have hnil : G.nilB (a.eval x) = true → rows.length = 0 := fun hb => by
    obtain ⟨A, cc, e1, _, _, e4⟩ := h3.out
    rw [h4.1]
    by_cases hne : xs = []
    · rw [hne]; rfl
    · obtain ⟨ad, rfl, _⟩ := e4 hne
      rw [e1] at hb; cases hb
  have hSL : SL c P ops Q (⟨some d, .binOp .eql tx x (.const (.slice none 0 0)) t', ty, pos, af, gd⟩ :: r) F S → wpList P ops Q (⟨some d, .binOp .eql tx x (.const (.slice none 0 0)) t', ty, pos, af, gd⟩ :: r) a w := fun hh => hh a w ⟨τ, h0⟩
  refine wpList_step fun K hK => ?_
  have hw := wanted_of (o := ⟨some d, .binOp .eql tx x (.const (.slice none 0 0)) t', ty, pos, af, gd⟩) (ops := ops) h0 (fun _ _ _ hl => hl) hg
  rw [if_pos hw]
  refine upon_wp ?_
  rw [hrun ⟨some d, .binOp .eql tx x (.const (.slice none 0 0)) t', ty, pos, af, gd⟩ a.eval rfl rfl (fun _ _ _ hx => actF_of hx)]
  refine hK _ _ (h _ hnil _ _ ⟨τ, ?_⟩)
  have := h0.put (d := d) wN (i := .u (.sc (.bool (G.nilB (a.eval x))))) (.u (.sc _))
  have he := mk_upd (some d) (some (.u (.sc (.bool (G.nilB (a.eval x)))))) [] F S
  rw [← he] at this
  exact this
theorem Sat.trunc {a : Act} {w : World} {t k k' sz j tb : Nat} {rows rows' : List (List UV)} (hx : look t F = some (.osl k sz 0 j)) (hS : lookS k S = some (.data tb sz rows)) (hr : rows.take j = rows') (hf : freshB [k'] F S = true) (hk : disj [k'] c.pk = true) (h : Sat c (mk F S) a w) :
    Sat c (mk ((t, .own k') :: F) ((k', .data tb sz rows') :: (k, .dead) :: S)) a w := by
  subst hr
  obtain ⟨τ, h⟩ := h
  have hfr := freshB_spec hf k' yE
  have hpk := disj_spec hk k' yE
  have hkk : k ≠ k' := fun e => by subst e; rw [show (mk F S).sto k = some (.data tb sz rows) from hS] at hfr; cases hfr.2
  obtain ⟨u, h1, h2⟩ := h.slot t _ hx
  have hB := h.sto k _ hS
  cases h2 with
  | @osl _ _ _ _ n cc A hk1 q1 q2 =>
    have hl1 : ∀ q x, look q [(k', some (SB.data tb sz (rows.take j))), (k, none)] = some (some x) → q = k' ∧ x = .data tb sz (rows.take j) := fun q x hq => by
      by_cases e1 : k' = q
      · subst e1; rw [look_eq] at hq; simp at hq; exact ⟨rfl, hq.symm⟩
      · rw [look_ne e1] at hq
        by_cases e2 : k = q
        · subst e2; rw [look_eq] at hq; cases hq
        · rw [look_ne e2] at hq; simp [look] at hq
    have hk0 : look k [(k', some (SB.data tb sz (rows.take j))), (k, none)] ≠ none := by rw [look_ne (Ne.symm hkk), look_eq]; simp
    have hv : G.subSl (.slice A n cc) sz 0 j = .slice A j cc := by
      simp only [G.subSl, Nat.sub_zero, Nat.zero_mul]
      congr 1
      split
      · rfl
      · cases A <;> simp [Addr.add]
    rw [hv] at h1
    have hrb : ∀ {τ2 ok2}, τ2 k' = .slice A j cc → (∀ b, okOf c τ (mk F S).sto b → ok2 b) → RepB τ2 w ok2 k' (.data tb sz (rows.take j)) := fun {τ2 ok2} e hok => by
      obtain ⟨vs, ⟨f0, f1⟩, f2, f3, f4, f5⟩ := hB
      have hjl : j ≤ rows.length := by
        rcases f1 with ⟨f1, fn⟩ | ⟨g, cap, cur, f1, _⟩
        · rw [hk1] at f1; simp only [Value.slice.injEq] at f1; obtain ⟨_, e1, _⟩ := f1; omega
        · rw [hk1] at f1; simp only [Value.slice.injEq] at f1; obtain ⟨_, e1, _⟩ := f1; omega
      have hfl : (rows.take j).flatten = rows.flatten.take (j * sz) := take_flat f3
      refine ⟨vs.take (j * sz), ⟨?_, ?_⟩, ?_, fun r hr => f3 r (List.mem_of_mem_take hr), f4, fun u hu => ?_⟩
      · rw [List.length_take, f0, List.length_take, Nat.min_eq_left hjl, Nat.min_eq_left (Nat.mul_le_mul_right _ hjl)]
      · rw [e, List.length_take, Nat.min_eq_left hjl]
        rcases f1 with ⟨f1, fn⟩ | ⟨g, cap, cur, f1, _, f6, f7, f8, f9, f10⟩
        · rw [hk1] at f1; simp only [Value.slice.injEq] at f1
          obtain ⟨rfl, e1, rfl⟩ := f1
          have : j = 0 := by omega
          subst this
          exact .inl ⟨rfl, rfl⟩
        · rw [hk1] at f1; simp only [Value.slice.injEq] at f1
          obtain ⟨rfl, rfl, rfl⟩ := f1
          refine .inr ⟨g, cc, cur, rfl, Nat.zero_le _, f6, xA, f8, f9, ?_⟩
          rw [← f10, List.take_take, Nat.min_eq_left (Nat.mul_le_mul_right _ hjl)]
      · rw [hfl]; exact (f2.take _).mono (Nat.le_refl _) (fun b hb _ => ⟨hok b hb, rfl⟩)
      · rw [hfl] at hu; exact f5 u (List.mem_of_mem_take hu)
    have hvb : vblk (Value.slice A j cc) = vblk (τ k) := by rw [hk1]; cases A <;> rfl
    have := h.chg (N := [k']) (τ' := upτ τ k' (.slice A j cc)) (δ := [(k', some (.data tb sz (rows.take j))), (k, none)]) (w' := w) (B := fun _ => False)
      (fun q hq => by rw [List.mem_singleton] at hq; subst hq; exact ⟨hfr.1, hfr.2, hpk⟩) (Gr.refl _ _) (fun b hb => hb.elim) (fun q hq => upτ_ne (by simpa using hq))
      (fun q s hq b hb => by
        obtain ⟨rfl, rfl⟩ := hl1 q s hq
        replace hb : vblk (upτ τ q (.slice A j cc) q) = some b := hb
        rw [upτ_eq, hvb] at hb
        exact .inr ⟨k, _, hk0, hS, hb⟩)
      (fun q q' s s' b hq hq' _ _ => by rw [(hl1 q s hq).1, (hl1 q' s' hq').1])
      (fun hok q s hq => by
        obtain ⟨rfl, rfl⟩ := hl1 q s hq
        exact (hrb upτ_eq (fun b hb => hb)).mono (Nat.le_refl _) (fun b hb hb2 => hok b hb hb2) (fun _ _ => rfl) rfl (fun _ _ => rfl))
    have he := mk_upd none none [(k', some (.data tb sz (rows.take j))), (k, none)] F S
    have hsat := this.1
    rw [← he] at hsat
    refine ⟨upτ τ k' (.slice A j cc), hsat.size, hsat.defers, hsat.gr, fun s i hl => ?_, hsat.sto, hsat.inj, hsat.own, hsat.pin⟩
    by_cases e2 : t = s
    · subst e2
      have hi : i = .own k' := by
        have : look t ((t, IV.own k') :: F) = some i := hl
        rw [look_eq] at this; exact (Option.some.inj this).symm
      subst hi
      have hr := RepI.own (τ := upτ τ k' (.slice A j cc)) (w := w) (ok := okOf c (upτ τ k' (.slice A j cc)) (mk ((t, .own k') :: F) ((k', .data tb sz (rows.take j)) :: (k, .dead) :: S)).sto) k' (by rw [upτ_eq]; rfl)
      rw [upτ_eq] at hr
      exact ⟨_, h1, hr⟩
    · have : look s ((t, IV.own k') :: F) = some i := hl
      rw [look_ne e2] at this
      exact hsat.slot s i this
theorem SL.trunc (t k' : Nat) {k sz j tb : Nat} {rows rows' : List (List UV)} (hx : look t F = some (.osl k sz 0 j)) (hS : lookS k S = some (.data tb sz rows)) (hr : rows.take j = rows') (hf : freshB [k'] F S = true) (hk : disj [k'] c.pk = true)
    (h : SL c P ops Q l ((t, .own k') :: F) ((k', .data tb sz rows') :: (k, .dead) :: S)) : SL c P ops Q l F S := fun a w ha => h a w (ha.trunc hx hS hr hf hk)
end

section
variable {c : Ctx} {P : Program} {F : Frm} {S : Sto} {ops : Array Oper} {T : List Nat} {d : Nat} {ty : TypeId} {pos : String} {af : Array Edge} {gd : Option (Nat × Bool)} {G0 : G.Frm} {w : World}
end

theorem u8_sl {w : World} {ok : Nat → Prop} {lo hi : Nat} {v : Value} {l : List UInt8} (h : G.Sl G.encU8 w lo hi v l) (hne : l ≠ []) (ho : ∀ b, lo ≤ b → b < hi → ok b) : RepU w ok (.sl 1 (l.map eB)) v := by
  obtain ⟨A, cc, e1, e2, e3, e4⟩ := h.out
  obtain ⟨ad, rfl, z2, z3, z4⟩ := e4 hne
  subst e1
  have := RepU.sl (w := w) (ok := ok) (sz := 1) (rows := l.map eB) (a := ad) (c := cc) (cv := fun j => (G.encU8.all l).getD j undef) (by simpa using hne) (by simpa using e2) e3 (fun r hr => by obtain ⟨b, _, rfl⟩ := List.mem_map.1 hr; rfl) xI
    (fun u hu => by rw [flat_eB, List.mem_map] at hu; obtain ⟨b, _, rfl⟩ := hu; rfl)
    (G.Sl.lt_size hne z4) (ho _ z2 z3) (fun j u hj => by
      have hj2 : j < l.length := by have := (List.getElem?_eq_some_iff.1 hj).1; rw [flat_eB] at this; simpa using this
      have hj3 : j < (G.encU8.all l).length := by rw [G.encU8_all]; simpa using hj2
      rw [List.getD_eq_getElem?_getD, List.getElem?_eq_getElem hj3]
      exact z4 j _ (List.getElem?_eq_getElem hj3))
    (fun j u hj => by
      rw [flat_eB, List.getElem?_map, Option.map_eq_some_iff] at hj
      obtain ⟨b, hj, rfl⟩ := hj
      rw [G.encU8_all, List.getD_eq_getElem?_getD, List.getElem?_map, hj]
      exact .sc _)
  rw [List.length_map] at this
  exact this
section
variable {c : Ctx} {P : Program} {F : Frm} {S : Sto} {ops : Array Oper} {d : Nat} {ty : TypeId} {pos : String} {af : Array Edge} {gd : Option (Nat × Bool)}
end

section
variable {c : Ctx} {P : Program} {F : Frm} {S : Sto} {ops : Array Oper} {T : List Nat} {i : IV}
theorem OpOk.re {i' : IV} {N : List Nat} {o : Oper} {δ : Chg} (h : OpOk c P ops o F S T N (some i) δ) (e : i = i') : OpOk c P ops o F S T N (some i') δ := by subst e; exact h
theorem O.st_els {ty : TypeId} {pos : String} {af : Array Edge} {gd : Option (Nat × Bool)} {x y : Operand} {t tb : TypeId} {k sz i off m : Nat} {rows rows' : List (List UV)} {row row' us : List UV} {j : IV} (hx : ev F x = some (.el k sz i off)) (hS : lookS k S = some (.data tb sz rows)) (hy : ev F y = some j) (hj : j.cells = us.map .u) (hm : us.length = m) (hs : (P.info? t).map (·.size) = some m)
    (hn : us ≠ []) (hrow : rows[i]? = some row) (hfit : off + us.length ≤ row.length) (h1 : us.all UV.one = true) (hr : row.take off ++ us ++ row.drop (off + us.length) = row') (hq : rows.set i row' = rows') (hg : Taken ops F gd) :
    OpOk c P ops ⟨none, .store t x y, ty, pos, af, gd⟩ F S [k] [] none [(k, some (.data tb sz rows'))] := by
  subst hq
  exact O.st_el hx hS hy hj hm hs hn hrow hfit h1 hr hg
end
theorem rep_sc {τ : Nat → Value} {w : World} {ok : Nat → Prop} {u v : Value} (h : RepI τ w ok (.u (.sc u)) v) : v = u := by
  cases h with
  | u h => cases h; rfl
end Go.H
end
