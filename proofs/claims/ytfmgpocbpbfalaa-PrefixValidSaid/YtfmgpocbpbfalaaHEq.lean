/-
  '==' of structs of numbers, strings and bools.
-/
import Derived.Test.YtfmgpocbpbfalaaHEdit
namespace Go.H
open Go Go.RowKit
/-- '==' of two cells. -/
def eqv : Value → Value → Bool
  | .int _ a, .int _ b => a == b
  | .string a, .string b => a.toList == b.toList
  | .bool a, .bool b => a == b
  | _, _ => false
/-- Cells that fit the type, alike. -/
def fitv (d : Option TypeDesc) (x y : Value) : Bool := match d, x, y with
  | some (.int _), .int k _, .int k' _ => k == k'
  | some .string, .string _, .string _ => true
  | some .bool, .bool _, .bool _ => true
  | _, _, _ => false
def eqvL : List Value → List Value → Bool
  | x :: xs, y :: ys => eqv x y && eqvL xs ys
  | _, _ => true
def fitF (P : Program) : List Field → Nat → List Value → List Value → Bool
  | [], _, [], [] => true
  | f :: fs, i, x :: xs, y :: ys => f.name != "_" && f.offset == i && fitv (P.underlying f.type) x y && fitF P fs (i + 1) xs ys
  | _, _, _, _ => false
section
variable {P : Program} {w : World}
theorem run_eqv {t : TypeId} {d : Nat} {x y : Value} (h : fitv (P.underlying t) x y = true) : (Op.equalIn (d + 1) t x y).run P w = .ok (eqv x y) w := by
  unfold fitv at h
  split at h
  · rename_i ht
    rename_i k a k' b
    have : k = k' := by simpa using h
    subst this
    exact run_equalIn_int w d t _ _ a b ht
  · rename_i ht; exact run_equalIn_string w d t _ _ ht
  · rename_i ht; exact run_equalIn_bool w d t _ _ ht
  · cases h
theorem run_partv {t : TypeId} {xs : Array Value} {i : Nat} {x y : Value} (h : fitv (P.underlying t) x y = true) (hx : xs[i]? = some x) : (part t xs i).run P w = .ok x w := by
  unfold fitv at h
  split at h
  all_goals first
    | (rename_i ht; simp [part, isAgg, run_underlying ht, hx]; done)
    | cases h
theorem drop_one {α : Type} {X : Array α} {i : Nat} {x : α} {xs : List α} (h : X.toList.drop i = x :: xs) : X[i]? = some x ∧ X.toList.drop (i + 1) = xs := by
  have h1 : (X.toList.drop i)[0]? = some x := by rw [h]; rfl
  rw [List.getElem?_drop, Nat.add_zero, Array.getElem?_toList] at h1
  refine ⟨h1, ?_⟩
  rw [← List.drop_drop, h]; rfl
theorem run_eqFields {d : Nat} {X Y : Array Value} : ∀ (fs : List Field) (i : Nat) (xs ys : List Value), fitF P fs i xs ys = true → X.toList.drop i = xs → Y.toList.drop i = ys → (Op.eqFields (d + 1) X Y fs).run P w = .ok (eqvL xs ys) w
  | [], i, xs, ys, h, _, _ => by
    cases xs <;> cases ys <;> simp [fitF] at h <;> rfl
  | f :: fs, i, [], ys, h, _, _ => by cases ys <;> simp [fitF] at h
  | f :: fs, i, x :: xs, [], h, _, _ => by simp [fitF] at h
  | f :: fs, i, x :: xs, y :: ys, h, hX, hY => by
    simp only [fitF, Bool.and_eq_true, bne_iff_ne, ne_eq, beq_iff_eq] at h
    obtain ⟨⟨⟨h1, h2⟩, h3⟩, h4⟩ := h
    obtain ⟨x1, x2⟩ := drop_one hX
    obtain ⟨y1, y2⟩ := drop_one hY
    have h3' : fitv (P.underlying f.type) y x = true := by
      unfold fitv at h3 ⊢
      split at h3 <;> simp_all
    have ih := run_eqFields (d := d) fs (i + 1) xs ys h4 x2 y2
    subst h2
    simp only [Op.eqFields, if_pos h1, Sem.run_bind, run_partv h3 x1, run_partv h3' y1, run_eqv h3, Result.andThen_ok, eqvL]
    cases he : eqv x y
    · simp
    · simp [ih]
theorem R.eqAgg {F : G.Frm} {tx t' ty : TypeId} {x y : Operand} {ls ms : List Value} (hx : G.ev F x = some (.agg ls.toArray)) (hy : G.ev F y = some (.agg ms.toArray)) (ht : P.underlying tx = some (.struct (P.fieldsOf tx))) (hs : P.stoodInHeld tx = false) (hm : P.eqGuardType P.depth tx = false)
    (hf : fitF P (P.fieldsOf tx).toList 0 ls ms = true) : G.Runs P w F (.binOp .eql tx x y t') ty (.bool (eqvL ls ms)) := fun o ρ ho _ hρ => by
  simp only [execOp, ho, hρ x (by simp [Op.operands]) _ hx, hρ y (by simp [Op.operands]) _ hy]
  have h1 := run_eqGuard_agg (P := P) w .eql tx x y ls.toArray ms.toArray hm
  have h2 : (Op.equal tx (.agg ls.toArray) (.agg ms.toArray)).run P w = .ok (eqvL ls ms) w := by
    show (Op.equalIn (9998 + 1 + 1) tx _ _).run P w = _
    rw [run_equalIn_struct w (9998 + 1) tx _ _ ht hs]
    exact run_eqFields _ 0 ls ms hf (by simp) (by simp)
  simp [Sem.run_bind, h1, binOp, h2]
theorem R.neAgg {F : G.Frm} {tx t' ty : TypeId} {x y : Operand} {ls ms : List Value} (hx : G.ev F x = some (.agg ls.toArray)) (hy : G.ev F y = some (.agg ms.toArray)) (ht : P.underlying tx = some (.struct (P.fieldsOf tx))) (hs : P.stoodInHeld tx = false) (hm : P.eqGuardType P.depth tx = false)
    (hf : fitF P (P.fieldsOf tx).toList 0 ls ms = true) : G.Runs P w F (.binOp .neq tx x y t') ty (.bool (!eqvL ls ms)) := fun o ρ ho _ hρ => by
  simp only [execOp, ho, hρ x (by simp [Op.operands]) _ hx, hρ y (by simp [Op.operands]) _ hy]
  have h1 := run_eqGuard_agg (P := P) w .neq tx x y ls.toArray ms.toArray hm
  have h2 : (Op.equal tx (.agg ls.toArray) (.agg ms.toArray)).run P w = .ok (eqvL ls ms) w := by
    show (Op.equalIn (9998 + 1 + 1) tx _ _).run P w = _
    rw [run_equalIn_struct w (9998 + 1) tx _ _ ht hs]
    exact run_eqFields _ 0 ls ms hf (by simp) (by simp)
  simp [Sem.run_bind, h1, binOp, h2]
end
/-- A slot with a struct of scalars. -/
def AggOf (F : Frm) (x : Operand) (ls : List Value) : Prop := ev F x = some (.u (.agg (ls.map .sc))) ∨ ev F x = some (.agg (ls.map fun v => .u (.sc v)))
section
variable {c : Ctx} {P : Program} {F : Frm} {S : Sto} {ops : Array Oper} {T : List Nat} {d : Nat} {ty : TypeId} {pos : String} {af : Array Edge} {gd : Option (Nat × Bool)} {σ : Sig} {τ : Nat → Value} {a : Act} {w : World}
theorem AggOf.val {o : Oper} {x : Operand} {ls : List Value} (hx : AggOf F x ls) (h : SatT c σ τ a w) (hA : AgreeF (o.looksAt ops) F σ) (hm : x ∈ o.op.operands) : G.ev (actF a) x = some (.agg ls.toArray) := by
  rcases hx with hx | hx
  · obtain ⟨p1, p2⟩ := h.opd hA hm hx
    rw [p2]
    generalize a.eval x = v at p1
    cases p1 with
    | u p1 =>
      cases p1 with
      | @agg _ vs hl hg =>
        congr 3
        apply List.ext_getElem (by simpa using hl.symm)
        intro i h1 h2
        exact rep_sc (.u (τ := τ) (hg i (.sc ls[i]) vs[i] (by simp [h2]) (by simp)))
  · obtain ⟨p1, p2⟩ := h.opd hA hm hx
    rw [p2]
    generalize a.eval x = v at p1
    cases p1 with
    | @agg _ vs hl hg =>
      congr 3
      apply List.ext_getElem (by simpa using hl.symm)
      intro i h1 h2
      exact rep_sc (hg i (.u (.sc ls[i])) vs[i] (by simp [h2]) (by simp))
theorem O.eqAgg {x y : Operand} {tx t' : TypeId} {ls ms : List Value} {r : Bool} (hx : AggOf F x ls) (hy : AggOf F y ms) (ht : P.underlying tx = some (.struct (P.fieldsOf tx))) (hs : P.stoodInHeld tx = false) (hm : P.eqGuardType P.depth tx = false)
    (hf : fitF P (P.fieldsOf tx).toList 0 ls ms = true) (hr : eqvL ls ms = r) (hd : Nat.blt d c.n = true) (hg : Taken ops F gd) :
    OpOk c P ops ⟨some d, .binOp .eql tx x y t', ty, pos, af, gd⟩ F S [] [] (some (.u (.sc (.bool r)))) [] :=
  OpOk.runs hd hg fun σ τ a w hA hB hst => by
    subst hr
    exact ⟨_, R.eqAgg (hx.val hst hA (by simp [Op.operands])) (hy.val hst hA (by simp [Op.operands])) ht hs hm hf, .u (.sc _)⟩
theorem O.neAgg {x y : Operand} {tx t' : TypeId} {ls ms : List Value} {r : Bool} (hx : AggOf F x ls) (hy : AggOf F y ms) (ht : P.underlying tx = some (.struct (P.fieldsOf tx))) (hs : P.stoodInHeld tx = false) (hm : P.eqGuardType P.depth tx = false)
    (hf : fitF P (P.fieldsOf tx).toList 0 ls ms = true) (hr : (!eqvL ls ms) = r) (hd : Nat.blt d c.n = true) (hg : Taken ops F gd) :
    OpOk c P ops ⟨some d, .binOp .neq tx x y t', ty, pos, af, gd⟩ F S [] [] (some (.u (.sc (.bool r)))) [] :=
  OpOk.runs hd hg fun σ τ a w hA hB hst => by
    subst hr
    exact ⟨_, R.neAgg (hx.val hst hA (by simp [Op.operands])) (hy.val hst hA (by simp [Op.operands])) ht hs hm hf, .u (.sc _)⟩
end
end Go.H
