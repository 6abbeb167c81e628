/-
  Operations that make or turn memory.
-/
import Derived.Test.YtfmgpocbpbfalaaGMem
import Derived.Maps.AppendAt
import Derived.Laws.OwnMore
import Derived.Laws.MakeOwn
namespace Go.G
open Go Go.RowKit

section
variable {n : Nat} {P : Program} {ops : Array Oper} {Q : Exit → Act → World → Prop} {F : Frm} {w w' w0 : World} {r : List Oper} {Z : Frm → World → Prop} {ty : TypeId}

def vals : Frm → Bool
  | [] => true
  | (_, .val _) :: r => vals r
  | _ :: _ => false
theorem look_vals {t : Nat} {i : Info} : ∀ {F : Frm}, vals F = true → look t F = some i → ∃ v, i = .val v
  | [], _, h => by simp [look] at h
  | (s, .val v) :: r, hv, h => by
    by_cases e : s = t
    · subst e; rw [look_cons_eq] at h; cases h; exact ⟨v, rfl⟩
    · rw [look_cons_ne e] at h; exact look_vals (F := r) hv h
  | (s, .pred φ) :: r, hv, h => by simp [vals] at hv
theorem Fits.world {a : Act} (hv : vals F = true) (h : Fits n a F w) (w' : World) : Fits n a F w' :=
  ⟨h.size, h.defers, fun t i hl => by
    obtain ⟨v, rfl⟩ := look_vals hv hl
    exact h.get t _ hl⟩

def remove (t : Nat) : Frm → Frm
  | [] => []
  | (s, i) :: r => match Nat.beq s t with
    | true => remove t r
    | false => (s, i) :: remove t r
theorem look_remove {t s : Nat} (h : s ≠ t) : ∀ F : Frm, look s (remove t F) = look s F
  | [] => rfl
  | (u, i) :: r => by
    by_cases e : u = t
    · subst e
      simp only [remove, Nat.beq_refl]
      rw [look_cons_ne (Ne.symm h)]; exact look_remove h r
    · simp only [remove, beq_ne e]
      by_cases e2 : u = s
      · subst e2; rw [look_cons_eq, look_cons_eq]
      · rw [look_cons_ne e2, look_cons_ne e2]; exact look_remove h r
/-- What a drawn region left in a slot, by name. -/
theorem WL.open {t : Nat} {φ : Value → World → Prop} {l : List Oper} (ht : look t F = some (.pred φ)) (h : ∀ v w1, Ext w1 w → φ v w1 → WL n P ops Q l ((t, .val v) :: remove t F) w) : WL n P ops Q l F w := by
  intro a ha
  obtain ⟨u, h1, w1, h2, h3⟩ := ha.get t _ ht
  refine h u w1 h2 h3 a ⟨ha.size, ha.defers, fun s i hl => ?_⟩
  by_cases e : t = s
  · subst e; rw [look_cons_eq] at hl; cases hl; exact ⟨u, h1, rfl⟩
  · rw [look_cons_ne e, look_remove (Ne.symm e)] at hl; exact ha.get s i hl

theorem Le_remove (t : Nat) (F : Frm) : Le F (remove t F) := fun s i hl => by
  by_cases e : s = t
  · subst e
    have : look s (remove s F) = none := by
      clear hl
      induction F with
      | nil => rfl
      | cons x r ih =>
        obtain ⟨u, k⟩ := x
        by_cases e2 : u = s
        · subst e2; simp only [remove, Nat.beq_refl]; exact ih
        · simp only [remove, beq_ne e2]; rw [look_cons_ne e2]; exact ih
    rw [this] at hl; cases hl
  · rw [look_remove e] at hl; exact hl
theorem WL.forget (t : Nat) {l : List Oper} (h : WL n P ops Q l (remove t F) w) : WL n P ops Q l F w := WL.le (Le_remove t F) h
/-- The operation makes a value, and a world. -/
def Makes (P : Program) (w : World) (F : Frm) (op : Op) (ty : TypeId) (R : Value → World → Prop) : Prop :=
  ∀ (o : Oper) (ρ : Operand → Value), o.op = op → o.type = ty → (∀ x ∈ op.operands, ∀ u, ev F x = some u → ρ x = u) → ∃ v w', (execOp ρ o).run P w = .ok (.value v) w' ∧ R v w'
def Does (P : Program) (w : World) (F : Frm) (op : Op) (ty : TypeId) (R : World → Prop) : Prop :=
  ∀ (o : Oper) (ρ : Operand → Value), o.op = op → o.type = ty → (∀ x ∈ op.operands, ∀ u, ev F x = some u → ρ x = u) → ∃ w', (execOp ρ o).run P w = .ok .skip w' ∧ R w'

theorem WL.mk {d : Nat} {op : Op} {pos : String} {af : Array Edge} {R : Value → World → Prop} (hm : Makes P w F op ty R) (hv : vals F = true) (hlt : Nat.blt d n = true)
    (h : ∀ v w', R v w' → WL n P ops Q r ((d, .val v) :: F) w') : WL n P ops Q (⟨some d, op, ty, pos, af, none⟩ :: r) F w := by
  intro a ha
  obtain ⟨v, w', h1, h2⟩ := hm ⟨some d, op, ty, pos, af, none⟩ a.eval rfl rfl (fun x _ u hx => ha.ev hx)
  refine wpList_plain rfl fun K hK => ?_
  unfold Oper.wp
  rw [h1]
  exact hK _ _ (h v w' h2 _ ((ha.world hv w').put hlt rfl))
theorem WL.mkg {d : Nat} {op : Op} {pos : String} {af : Array Edge} {R : Value → World → Prop} {g j : Nat} {b want : Bool} (hm : Makes P w F op ty R) (hv : vals F = true) (hlt : Nat.blt d n = true)
    (hj : (ops[j]?).bind (·.dst) = some g) (hg : look g F = some (.val (.bool b))) (hb : b = want)
    (h : ∀ v w', R v w' → WL n P ops Q r ((d, .val v) :: F) w') : WL n P ops Q (⟨some d, op, ty, pos, af, some (j, want)⟩ :: r) F w := by
  intro a ha
  obtain ⟨v, w', h1, h2⟩ := hm ⟨some d, op, ty, pos, af, some (j, want)⟩ a.eval rfl rfl (fun x _ u hx => ha.ev hx)
  have hy := yields_of hj hg (fun i hi => ha.get g i hi)
  refine wpList_step fun K hK => ?_
  rw [if_pos (by simp [Region.wanted, hy, hb])]
  unfold Oper.wp
  rw [h1]
  exact hK _ _ (h v w' h2 _ ((ha.world hv w').put hlt rfl))
theorem WL.do {op : Op} {pos : String} {af : Array Edge} {R : World → Prop} (hm : Does P w F op ty R) (hv : vals F = true)
    (h : ∀ w', R w' → WL n P ops Q r F w') : WL n P ops Q (⟨none, op, ty, pos, af, none⟩ :: r) F w := by
  intro a ha
  obtain ⟨w', h1, h2⟩ := hm ⟨none, op, ty, pos, af, none⟩ a.eval rfl rfl (fun x _ u hx => ha.ev hx)
  refine wpList_plain rfl fun K hK => ?_
  unfold Oper.wp
  rw [h1]
  exact hK _ _ (h w' h2 _ (ha.world hv w'))
theorem WD.mk {d : Nat} {op : Op} {pos : String} {af : Array Edge} {φ : Value → World → Prop} (hm : ∀ w1, Ext w0 w1 → Makes P w1 F op ty (fun v w' => Ext w1 w' ∧ φ v w')) (hlt : Nat.blt d n = true)
    (h : WD n P ops w0 Z r ((d, .pred φ) :: F)) : WD n P ops w0 Z (⟨some d, op, ty, pos, af, none⟩ :: r) F := by
  refine ⟨hlt, .pred φ, fun a w1 he hf => ?_, h⟩
  obtain ⟨v, w', h1, h2, h3⟩ := hm w1 he ⟨some d, op, ty, pos, af, none⟩ a.eval rfl rfl (fun x hm u hx => hf.ev hm hx)
  unfold Gives
  rw [if_pos (by simp [Region.wanted]), h1]
  exact ⟨h2, w', Ext.rfl' _, h3⟩
theorem WD.nil (h : ∀ w, Ext w0 w → Z F w) : WD n P ops w0 Z [] F := h

/-! ### Calls -/
def callOk (P : Program) (f : FuncId) : Bool := match P.funcs[f]? with
  | some fn => fn.body.isSome && !(fn.name == "runtime.NumGoroutine")
  | none => false
theorem run_callFunc {f : FuncId} (h : callOk P f = true) (args : Array Value) : (callFunc f args).run P w = .ok (.enter f args) w := by
  unfold callOk at h
  split at h
  · rename_i fn hf
    simp only [Bool.and_eq_true, Bool.not_eq_true', beq_eq_false_iff_ne, ne_eq] at h
    have hb : fn.body.isNone = false := by cases hh : fn.body <;> simp_all
    have hn : (fn.name == "runtime.NumGoroutine") = false := by simpa using h.2
    have hp : (program : Sem Program).run P w = .ok P w := rfl
    rw [callFunc, Sem.run_bind, hp]
    simp only [Result.andThen_ok, hf, hn, hb]
    rfl
  · cases h

def evs (F : Frm) : List Operand → Option (List Value)
  | [] => some []
  | x :: r => match ev F x, evs F r with
    | some v, some vs => some (v :: vs)
    | _, _ => none
theorem evs_map {ρ : Operand → Value} : ∀ (l : List Operand) (vs : List Value), (∀ x ∈ l, ∀ u, ev F x = some u → ρ x = u) → evs F l = some vs → l.map ρ = vs
  | [], vs, _, h => by simp [evs] at h; simp [h]
  | x :: r, vs, hρ, h => by
    simp only [evs] at h
    split at h
    · rename_i v vs' h1 h2
      simp only [Option.some.injEq] at h
      subst h
      rw [List.map_cons, hρ x (by simp) v h1, evs_map r vs' (fun y hy => hρ y (by simp [hy])) h2]
    · cases h

/-- Whom a value calls, and with what ahead and behind. -/
def calls (f : Value) (f' : FuncId) (vs : List Value) (all : List Value) : Prop := match f with
  | .func (.func g) first captured => g = f' ∧ all = first.toList ++ vs ++ captured.toList
  | _ => False

theorem run_call {o : Oper} {ρ : Operand → Value} {fo : Operand} {args : List Operand} {at_ : Array TypeId} {fv : Value} {f : FuncId} {vs all : List Value} (ho : o.op = .call { callee := .value fo, args := args.toArray, argTypes := at_ })
    (hρ : ∀ x ∈ (Op.call { callee := .value fo, args := args.toArray, argTypes := at_ }).operands, ∀ u, ev F x = some u → ρ x = u)
    (hf : ev F fo = some fv) (ha : evs F args = some vs) (hc : calls fv f vs all) (hok : callOk P f = true) : (execOp ρ o).run P w = .ok (.enter f all.toArray) w := by
  have h1 : ρ fo = fv := hρ fo (by simp [Op.operands, Call.operands]) fv hf
  have h2 : args.map ρ = vs := evs_map args vs (fun x hx => hρ x (by simp [Op.operands, Call.operands, hx])) ha
  unfold calls at hc
  split at hc
  · rename_i g first captured
    obtain ⟨rfl, rfl⟩ := hc
    simp only [execOp, ho, resolve, h1, List.map_toArray, h2, Deferred.ofValue, Sem.run_bind, Sem.run_pure, Result.andThen_ok, invoke]
    rw [run_callFunc hok]
    congr 2
    apply Array.ext'
    simp
  · exact hc.elim

theorem WL.call {d : Nat} {fo : Operand} {args : List Operand} {at_ : Array TypeId} {pos : String} {af : Array Edge} {fv : Value} {f : FuncId} {vs all : List Value} {R : Value → World → Prop}
    (hf : ev F fo = some fv) (ha : evs F args = some vs) (hc : calls fv f vs all) (hok : callOk P f = true) (hv : vals F = true) (hlt : Nat.blt d n = true)
    (hC : Calls P f all.toArray w (fun e w' => ∃ v, e = .returned v ∧ R v w')) (h : ∀ v w', R v w' → WL n P ops Q r ((d, .val v) :: F) w') :
    WL n P ops Q (⟨some d, .call { callee := .value fo, args := args.toArray, argTypes := at_ }, ty, pos, af, none⟩ :: r) F w := by
  intro a ha'
  have hr := run_call (P := P) (w := w) (o := ⟨some d, .call { callee := .value fo, args := args.toArray, argTypes := at_ }, ty, pos, af, none⟩) (ρ := a.eval) rfl (fun x _ u hx => ha'.ev hx) hf ha hc hok
  refine wpList_plain rfl fun K hK => ?_
  unfold Oper.wp
  rw [hr]
  refine hC.mono fun e w' ⟨v, he, hR⟩ => ?_
  subst he
  exact hK _ _ (h v w' hR _ ((ha'.world hv w').put hlt rfl))
theorem WL.callg {d : Nat} {fo : Operand} {args : List Operand} {at_ : Array TypeId} {pos : String} {af : Array Edge} {fv : Value} {f : FuncId} {vs all : List Value} {R : Value → World → Prop} {g j : Nat} {b want : Bool}
    (hf : ev F fo = some fv) (ha : evs F args = some vs) (hc : calls fv f vs all) (hok : callOk P f = true) (hv : vals F = true) (hlt : Nat.blt d n = true)
    (hj : (ops[j]?).bind (·.dst) = some g) (hg : look g F = some (.val (.bool b))) (hb : b = want)
    (hC : Calls P f all.toArray w (fun e w' => ∃ v, e = .returned v ∧ R v w')) (h : ∀ v w', R v w' → WL n P ops Q r ((d, .val v) :: F) w') :
    WL n P ops Q (⟨some d, .call { callee := .value fo, args := args.toArray, argTypes := at_ }, ty, pos, af, some (j, want)⟩ :: r) F w := by
  intro a ha'
  have hr := run_call (P := P) (w := w) (o := ⟨some d, .call { callee := .value fo, args := args.toArray, argTypes := at_ }, ty, pos, af, some (j, want)⟩) (ρ := a.eval) rfl (fun x _ u hx => ha'.ev hx) hf ha hc hok
  have hy := yields_of hj hg (fun i hi => ha'.get g i hi)
  refine wpList_step fun K hK => ?_
  rw [if_pos (by simp [Region.wanted, hy, hb])]
  unfold Oper.wp
  rw [hr]
  refine hC.mono fun e w' ⟨v, he, hR⟩ => ?_
  subst he
  exact hK _ _ (h v w' hR _ ((ha'.world hv w').put hlt rfl))
/-- In a drawn region: one value, whatever the order. -/
theorem WD.callv {d : Nat} {fo : Operand} {args : List Operand} {at_ : Array TypeId} {pos : String} {af : Array Edge} {fv : Value} {f : FuncId} {vs all : List Value} {v : Value}
    (hf : ev F fo = some fv) (ha : evs F args = some vs) (hc : calls fv f vs all) (hok : callOk P f = true) (hlt : Nat.blt d n = true)
    (hC : ∀ w1, Ext w0 w1 → Calls P f all.toArray w1 (fun e w' => e = .returned v ∧ Ext w1 w')) (h : WD n P ops w0 Z r ((d, .val v) :: F)) :
    WD n P ops w0 Z (⟨some d, .call { callee := .value fo, args := args.toArray, argTypes := at_ }, ty, pos, af, none⟩ :: r) F := by
  refine ⟨hlt, .val v, fun a w1 he hfit => ?_, h⟩
  have hr := run_call (P := P) (w := w1) (o := ⟨some d, .call { callee := .value fo, args := args.toArray, argTypes := at_ }, ty, pos, af, none⟩) (ρ := a.eval) rfl (fun x hm u hx => hfit.ev hm hx) hf ha hc hok
  unfold Gives
  rw [if_pos (by simp [Region.wanted]), hr]
  exact ⟨Ext.rfl' _, (hC w1 he).mono fun e w' ⟨h1, h2⟩ => ⟨v, h1, h2, rfl⟩⟩
theorem WD.callvg {d : Nat} {fo : Operand} {args : List Operand} {at_ : Array TypeId} {pos : String} {af : Array Edge} {fv : Value} {f : FuncId} {vs all : List Value} {v : Value} {g j : Nat} {b want : Bool}
    (hf : ev F fo = some fv) (ha : evs F args = some vs) (hc : calls fv f vs all) (hok : callOk P f = true) (hlt : Nat.blt d n = true)
    (hj : (ops[j]?).bind (·.dst) = some g) (hg : look g F = some (.val (.bool b))) (hb : b = want)
    (hC : ∀ w1, Ext w0 w1 → Calls P f all.toArray w1 (fun e w' => e = .returned v ∧ Ext w1 w')) (h : WD n P ops w0 Z r ((d, .val v) :: F)) :
    WD n P ops w0 Z (⟨some d, .call { callee := .value fo, args := args.toArray, argTypes := at_ }, ty, pos, af, some (j, want)⟩ :: r) F := by
  refine ⟨hlt, .val v, fun a w1 he hfit => ?_, h⟩
  have hr := run_call (P := P) (w := w1) (o := ⟨some d, .call { callee := .value fo, args := args.toArray, argTypes := at_ }, ty, pos, af, some (j, want)⟩) (ρ := a.eval) rfl (fun x hm u hx => hfit.ev hm hx) hf ha hc hok
  have hy := yields_of hj hg (fun i hi => hfit.get g (mem_looks (o := ⟨some d, .call { callee := .value fo, args := args.toArray, argTypes := at_ }, ty, pos, af, some (j, want)⟩) rfl hj) i hi)
  unfold Gives
  rw [if_pos (by simp [Region.wanted, hy, hb]), hr]
  exact ⟨Ext.rfl' _, (hC w1 he).mono fun e w' ⟨h1, h2⟩ => ⟨v, h1, h2, rfl⟩⟩
end
end Go.G
