/-
  What the proof rests on: part 8 of 12.
-/
import Derived.Test.YtbkbeplddddgeaaOptimumPartsP7
import Derived.ChangeArms
section
namespace Go.H
open Go Go.RowKit Go.ChangeShapes Go.WideShapes Go.Deep
section
variable {H : Type} {henc : TypeId × Value → H} {P : Program} {w : World} {sp : Nat → Bool} {held : Bool}
def OpFs {H : Type} (henc : TypeId × Value → H) (P : Program) (w : World) (sp : Nat → Bool) (held : Bool) (fs : List Field) (off m : Nat) {α : Type} (enc : α → List UV) (good : α → Prop) : Prop :=
  ∀ n (cs : List Value), (∀ f ∈ fs, ∃ y, DataW.trod henc P w 0 sp held n f.type ((cs.drop f.offset).take (P.cellsOf f.type)) = some y) → ∃ a : α, good a ∧ AllU w okAll (enc a) ((cs.drop off).take m) ∧ ∀ u ∈ enc a, u.one = true
theorem OpFs.last {f : Field} {off m : Nat} {α : Type} {enc : α → List UV} {good : α → Prop} (o : f.offset = off) (hm : P.cellsOf f.type = m) (h : Op henc P w sp held f.type enc good) : OpFs henc P w sp held [f] off m enc good := fun n cs hf => by
  obtain ⟨y, hy⟩ := hf f (by simp)
  rw [o, hm] at hy
  exact h _ _ _ hy
theorem OpFs.cons {f : Field} {fs : List Field} {off m1 m2 : Nat} {α β : Type} {e0 : α → List UV} {e1 : β → List UV} {g0 : α → Prop} {g1 : β → Prop} (o : f.offset = off) (hm : P.cellsOf f.type = m1) (h : Op henc P w sp held f.type e0 g0)
    (r : OpFs henc P w sp held fs (off + m1) m2 e1 g1) : OpFs henc P w sp held (f :: fs) off (m1 + m2) (fun x : α × β => e0 x.1 ++ e1 x.2) (fun x => g0 x.1 ∧ g1 x.2) := fun n cs hf => by
  obtain ⟨y, hy⟩ := hf f (by simp)
  rw [o, hm] at hy
  obtain ⟨a, a1, a2, a3⟩ := h _ _ _ hy
  obtain ⟨b, b1, b2, b3⟩ := r n cs (fun g hg => hf g (by simp [hg]))
  refine ⟨(a, b), ⟨a1, b1⟩, ?_, fun u hu => ?_⟩
  · have e1 : ((cs.drop off).take (m1 + m2)).take m1 = (cs.drop off).take m1 := by rw [List.take_take, Nat.min_eq_left (by omega)]
    have e2 : ((cs.drop off).take (m1 + m2)).drop m1 = (cs.drop (off + m1)).take m2 := by rw [List.drop_take, List.drop_drop, Nat.add_sub_cancel_left]
    exact AllU.app2 (k := m1) (by rw [e1]; exact a2) (by rw [e2]; exact b2)
  · rcases List.mem_append.1 hu with hu | hu
    · exact a3 u hu
    · exact b3 u hu
theorem Op.structN {t : TypeId} {fs : Array Field} {m : Nat} {α : Type} {enc : α → List UV} {good : α → Prop} (ht : P.underlying t = some (.struct fs)) (hm : P.cellsOf t = m) (h : OpFs henc P w sp held fs.toList 0 m enc good) : Op henc P w sp held t enc good := fun fuel cs x h0 => by
  obtain ⟨xs, n, _, _, hl, hlen, hf⟩ := DataW.trod_struct ht h0
  obtain ⟨a, a1, a2, a3⟩ := h n cs (fun f hf' => by
    obtain ⟨i, hi, rfl⟩ := List.getElem_of_mem hf'
    have := hf i fs.toList[i] (by simp)
    have hi' : i < xs.length := by simp at hi; omega
    rw [List.getElem?_eq_getElem hi'] at this
    exact ⟨_, this⟩)
  refine ⟨a, a1, ?_, a3⟩
  rw [List.drop_zero, List.take_of_length_le (by omega)] at a2
  exact a2
end
end Go.H
end
section
namespace Go.H
open Go Go.RowKit
open Go.G (Ext Gr Blk)
section
variable {c : Ctx} {P : Program} {F : Frm} {S : Sto} {ops : Array Oper} {T : List Nat} {d : Nat} {ty : TypeId} {pos : String} {af : Array Edge} {gd : Option (Nat × Bool)} {σ : Sig} {τ : Nat → Value} {a : Act} {w : World}
  {k tb sz lo : Nat} {rows ys rows' : List (List UV)}
def PartOf (F : Frm) (x : Operand) (k sz lo hi n : Nat) : Prop := (ev F x = some (.own k) ∧ lo = 0 ∧ hi = n) ∨ (ev F x = some (.osl k sz lo hi) ∧ lo ≤ hi ∧ hi ≤ n)
theorem OpOk.doesV (hg : Taken ops F gd) {op : Go.Op} {N : List Nat} {δ : Chg}
    (H : ∀ σ τ a w, AgreeF ((⟨none, op, ty, pos, af, gd⟩ : Oper).looksAt ops) F σ → AgreeS T S σ → SatT c σ τ a w →
      ∃ v w' τ', (execOp a.eval ⟨none, op, ty, pos, af, gd⟩).run P w = .ok (.value v) w' ∧ SatT c (σ.upd none none δ) τ' a w') : OpOk c P ops ⟨none, op, ty, pos, af, gd⟩ F S T N none δ := by
  intro σ a w hA hB hN hS
  obtain ⟨τ, h⟩ := hS
  rw [if_pos (wanted_of h hA hg)]
  obtain ⟨v, w', τ', h1, h2⟩ := H σ τ a w hA hB h
  rw [h1]
  exact ⟨τ', h2⟩
end
theorem ArgsOk.caps {ρ : Nat → Nat} {S : Sto} {bor : List Nat} : ∀ c : List UV, ArgsOk ρ S bor (c.map .u) (c.map .u)
  | [] => trivial
  | _ :: r => ⟨ArgOk.same rfl, ArgsOk.caps r⟩
end Go.H
end
section
namespace Go.H
open Go Go.RowKit
def eqv : Value → Value → Bool
  | .int _ a, .int _ b => a == b
  | .string a, .string b => a.toList == b.toList
  | .bool a, .bool b => a == b
  | _, _ => false
def fitv (d : Option TypeDesc) (x y : Value) : Bool := match d, x, y with
  | some (.int _), .int k _, .int k' _ => k == k'
  | some .string, .string _, .string _ => true
  | some .bool, .bool _, .bool _ => true
  | _, _, _ => false
def eqvL : List Value → List Value → Bool
  | x :: xs, y :: ys => eqv x y && eqvL xs ys
  | _, _ => true
def fitF (P : Program) : List Field → Nat → List Value → List Value → Bool
  | [], _, [], [] => true
  | f :: fs, i, x :: xs, y :: ys => f.name != "_" && f.offset == i && fitv (P.underlying f.type) x y && fitF P fs (i + 1) xs ys
  | _, _, _, _ => false
section
variable {P : Program} {w : World}
theorem run_eqv {t : TypeId} {d : Nat} {x y : Value} (h : fitv (P.underlying t) x y = true) : (Op.equalIn (d + 1) t x y).run P w = .ok (eqv x y) w := by
  unfold fitv at h
  split at h
  · rename_i ht
    rename_i k a k' b
    have : k = k' := by simpa using h
    subst this
    exact run_equalIn_int w d t _ _ a b ht
  · rename_i ht; exact run_equalIn_string w d t _ _ ht
  · rename_i ht; exact run_equalIn_bool w d t _ _ ht
  · cases h
theorem run_partv {t : TypeId} {xs : Array Value} {i : Nat} {x y : Value} (h : fitv (P.underlying t) x y = true) (hx : xs[i]? = some x) : (part t xs i).run P w = .ok x w := by
  unfold fitv at h
  split at h
  all_goals first
    | (rename_i ht; simp [part, isAgg, run_underlying ht, hx]; done)
    | cases h
theorem drop_one {α : Type} {X : Array α} {i : Nat} {x : α} {xs : List α} (h : X.toList.drop i = x :: xs) : X[i]? = some x ∧ X.toList.drop (i + 1) = xs := by
  have h1 : (X.toList.drop i)[0]? = some x := by rw [h]; rfl
  rw [List.getElem?_drop, Nat.add_zero, Array.getElem?_toList] at h1
  refine ⟨h1, ?_⟩
  rw [← List.drop_drop, h]; rfl
end
def AggOf (F : Frm) (x : Operand) (ls : List Value) : Prop := ev F x = some (.u (.agg (ls.map .sc))) ∨ ev F x = some (.agg (ls.map fun v => .u (.sc v)))
section
variable {c : Ctx} {P : Program} {F : Frm} {S : Sto} {ops : Array Oper} {T : List Nat} {d : Nat} {ty : TypeId} {pos : String} {af : Array Edge} {gd : Option (Nat × Bool)} {σ : Sig} {τ : Nat → Value} {a : Act} {w : World}
end
end Go.H
end
section
namespace Go.G
open Go Go.RowKit
section
variable {n : Nat} {P : Program} {F : Frm} {w : World} {ty : TypeId}
theorem R.buildA {t e : TypeId} {N m : Nat} {inf : TypeInfo} {parts : List (Nat × Operand)} {vs : List Value} {cs : List Value} {z : Value} (hv : evs F (parts.map (·.2)) = some vs) (ht : P.underlying t = some (.array N e)) (hz : (P.info? t).bind (·.zero) = some z)
    (hi : P.info? e = some inf) (hs : inf.size = m) (hfill : Instr.fill (fun i => some (i * m, m)) z.cells ((parts.map (·.1)).zip vs) = some cs.toArray) :
    Runs P w F (.build t parts.toArray) ty (.agg cs.toArray) := fun o ρ ho _ hρ => by
  obtain ⟨i, hi', hz⟩ := Option.bind_eq_some_iff.1 hz
  have hpp : parts.map (fun (i, x) => (i, ρ x)) = (parts.map (·.1)).zip vs := evs_parts parts vs (fun x hx => hρ x (by simpa [Op.operands] using hx)) hv
  simp only [execOp, ho, List.map_toArray, hpp]
  simp only [Instr.build, Sem.run_bind, zeroValue, sizeOf, typeInfo, show (program : Sem Program).run P w = .ok P w from rfl, Result.andThen_ok, hi', hi, hz, Sem.run_pure, run_underlying ht, hs, hfill]
end
end Go.G
namespace Go.H
open Go Go.RowKit
section
variable {c : Ctx} {P : Program} {F : Frm} {S : Sto} {ops : Array Oper} {d : Nat} {ty : TypeId} {pos : String} {af : Array Edge} {gd : Option (Nat × Bool)}
theorem O.buildA {t e : TypeId} {N m : Nat} {inf : TypeInfo} {parts : List (Nat × Operand)} {is res : List IV} {z : Value} (hv : evs F (parts.map (·.2)) = some is) (hj : is.all notJunk = true) (ht : P.underlying t = some (.array N e)) (hz : (P.info? t).bind (·.zero) = some z)
    (hi : P.info? e = some inf) (hs : inf.size = m) (hfill : fillI (fun i => some (i * m, m)) (z.cells.toList.map fun v => .u (.sc v)) ((parts.map (·.1)).zip is) = some res) (hd : Nat.blt d c.n = true) (hg : Taken ops F gd) :
    OpOk c P ops ⟨some d, .build t parts.toArray, ty, pos, af, gd⟩ F S [] [] (some (.agg res)) [] :=
  OpOk.runs hd hg fun σ τ a w hA hB h => by
    obtain ⟨g1, g2⟩ := evs_all h hA (args := parts.map (·.2)) (fun x hx => by simpa [Op.operands] using hx) hv
    obtain ⟨rv, q1, q2⟩ := fill_rep (ps := parts.map (·.1)) (AllI.sc z.cells.toList) g1 (fun i hi e => by have := List.all_eq_true.1 hj i hi; subst e; simp [notJunk] at this) hfill
    exact ⟨_, G.R.buildA g2 ht hz hi hs (by rw [← q1]), .agg q2.1 q2.2⟩
end
end Go.H
end
