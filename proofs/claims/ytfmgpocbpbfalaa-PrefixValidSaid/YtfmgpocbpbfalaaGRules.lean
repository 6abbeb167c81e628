/-
  The rules: one for each kind of operation.
-/
import Derived.Test.YtfmgpocbpbfalaaGDraw
import Derived.Laws.StructEq
namespace Go.G
open Go Go.RowKit

section
variable {n : Nat} {P : Program} {ops : Array Oper} {Q : Exit → Act → World → Prop} {F : Frm} {w w0 : World} {r : List Oper} {Z : Frm → World → Prop}

/-- The operation yields v in this world, whatever the frame holds beyond F. -/
def Runs (P : Program) (w : World) (F : Frm) (op : Op) (ty : TypeId) (v : Value) : Prop :=
  ∀ (o : Oper) (ρ : Operand → Value), o.op = op → o.type = ty → (∀ x ∈ op.operands, ∀ u, ev F x = some u → ρ x = u) → (execOp ρ o).run P w = .ok (.value v) w

theorem FitsOn.ev {a : Act} {F : Frm} {w : World} {o : Oper} (h : FitsOn (o.looksAt ops) n a F w) {x : Operand} {v : Value} (hm : x ∈ o.op.operands) (hx : ev F x = some v) : a.eval x = v := by
  cases x with
  | tmp t =>
    simp only [G.ev] at hx
    cases hl : look t F with
    | none => simp [hl] at hx
    | some i =>
      cases i with
      | pred φ => simp [hl] at hx
      | val u =>
        simp [hl] at hx
        subst hx
        obtain ⟨u', h1, h2⟩ := h.get t (List.mem_append_left _ (List.mem_filterMap.2 ⟨.tmp t, by simpa using hm, rfl⟩)) _ hl
        simp only [Info.ok] at h2
        simp [Act.eval, h1, h2]
  | const v => simp [G.ev] at hx; simp [Act.eval, hx]
  | global g => simp [G.ev] at hx; simp [Act.eval, hx]
  | func f => simp [G.ev] at hx; simp [Act.eval, hx]

theorem WL.det {d : Nat} {op : Op} {ty : TypeId} {pos : String} {af : Array Edge} {v : Value} (hr : ∀ w1, Ext w w1 → Runs P w1 F op ty v) (hlt : Nat.blt d n = true)
    (h : WL n P ops Q r ((d, .val v) :: F) w) : WL n P ops Q (⟨some d, op, ty, pos, af, none⟩ :: r) F w := by
  intro a ha
  have e := hr w (Ext.rfl' w) ⟨some d, op, ty, pos, af, none⟩ a.eval rfl rfl (fun x _ u hx => ha.ev hx)
  refine wpList_plain rfl fun K hK => ?_
  unfold Oper.wp
  rw [e]
  exact hK _ _ (h _ (ha.put hlt rfl))

theorem WD.det {d : Nat} {op : Op} {ty : TypeId} {pos : String} {af : Array Edge} {v : Value} (hr : ∀ w1, Ext w0 w1 → Runs P w1 F op ty v) (hlt : Nat.blt d n = true)
    (h : WD n P ops w0 Z r ((d, .val v) :: F)) : WD n P ops w0 Z (⟨some d, op, ty, pos, af, none⟩ :: r) F := by
  refine ⟨hlt, .val v, fun a w1 he hf => ?_, h⟩
  have e := hr w1 he ⟨some d, op, ty, pos, af, none⟩ a.eval rfl rfl (fun x hm u hx => hf.ev hm hx)
  unfold Gives
  rw [if_pos (by simp [Region.wanted]), e]
  exact ⟨Ext.rfl' _, rfl⟩

theorem yields_of {a : Act} {F : Frm} {w : World} {g j : Nat} {b : Bool} (hj : (ops[j]?).bind (·.dst) = some g) (hg : look g F = some (.val (.bool b)))
    (hf : ∀ i, look g F = some i → ∃ u, a.tmps[g]? = some u ∧ i.ok u w) : yielded ops a.tmps j = some b := by
  obtain ⟨u, h1, h2⟩ := hf _ hg
  simp only [Info.ok] at h2
  subst h2
  simp [yielded, hj, h1]

/-- A guarded operation whose guard says yes. -/
theorem WL.detg {d : Nat} {op : Op} {ty : TypeId} {pos : String} {af : Array Edge} {v : Value} {g j : Nat} {b want : Bool} (hr : ∀ w1, Ext w w1 → Runs P w1 F op ty v) (hlt : Nat.blt d n = true)
    (hj : (ops[j]?).bind (·.dst) = some g) (hg : look g F = some (.val (.bool b))) (hb : b = want)
    (h : WL n P ops Q r ((d, .val v) :: F) w) : WL n P ops Q (⟨some d, op, ty, pos, af, some (j, want)⟩ :: r) F w := by
  intro a ha
  have e := hr w (Ext.rfl' w) ⟨some d, op, ty, pos, af, some (j, want)⟩ a.eval rfl rfl (fun x _ u hx => ha.ev hx)
  have hy := yields_of hj hg (fun i hi => ha.get g i hi)
  refine wpList_step fun K hK => ?_
  rw [if_pos (by simp [Region.wanted, hy, hb])]
  unfold Oper.wp
  rw [e]
  exact hK _ _ (h _ (ha.put hlt rfl))

theorem mem_looks {o : Oper} {j g : Nat} {want : Bool} (ho : o.guard = some (j, want)) (hj : (ops[j]?).bind (·.dst) = some g) : g ∈ o.looksAt ops := by
  refine List.mem_append_right _ ?_
  simp [ho, hj]

theorem WD.detg {d : Nat} {op : Op} {ty : TypeId} {pos : String} {af : Array Edge} {v : Value} {g j : Nat} {b want : Bool} (hr : ∀ w1, Ext w0 w1 → Runs P w1 F op ty v) (hlt : Nat.blt d n = true)
    (hj : (ops[j]?).bind (·.dst) = some g) (hg : look g F = some (.val (.bool b))) (hb : b = want)
    (h : WD n P ops w0 Z r ((d, .val v) :: F)) : WD n P ops w0 Z (⟨some d, op, ty, pos, af, some (j, want)⟩ :: r) F := by
  refine ⟨hlt, .val v, fun a w1 he hf => ?_, h⟩
  have e := hr w1 he ⟨some d, op, ty, pos, af, some (j, want)⟩ a.eval rfl rfl (fun x hm u hx => hf.ev hm hx)
  have hy := yields_of hj hg (fun i hi => hf.get g (mem_looks (o := ⟨some d, op, ty, pos, af, some (j, want)⟩) rfl hj) i hi)
  unfold Gives
  rw [if_pos (by simp [Region.wanted, hy, hb]), e]
  exact ⟨Ext.rfl' _, rfl⟩

/-- Slots that a list writes and the frame does not name. -/
def guardedBy (j : Nat) (want : Bool) : List Oper → Bool
  | [] => true
  | o :: r => (match o.guard with
    | some (k, x) => Nat.beq k j && (x == want)
    | none => false) && guardedBy j want r
def inF (t : Nat) : Frm → Bool
  | [] => false
  | (s, _) :: r => Nat.beq s t || inF t r
def freshB (n : Nat) : List Oper → Frm → Bool
  | [], _ => true
  | o :: r, F => (match o.dst with
    | some d => !(inF d F) && Nat.blt d n
    | none => true) && freshB n r F

theorem inF_look {t : Nat} : ∀ {F : Frm}, inF t F = false → look t F = none
  | [], _ => rfl
  | (s, i) :: r, h => by
    simp only [inF, Bool.or_eq_false_iff] at h
    have : s ≠ t := fun e => by subst e; simp at h
    rw [look_cons_ne this]
    exact inF_look h.2

theorem Fits.put_fresh {a : Act} (h : Fits n a F w) {d : Nat} (hd : inF d F = false) (v : Value) : Fits n (a.put (some d) v) F w := by
  refine ⟨by simp [Act.put, h.size], by simp [Act.put, h.defers], fun t j hl => ?_⟩
  have : d ≠ t := fun e => by subst e; rw [inF_look hd] at hl; cases hl
  obtain ⟨u, h1, h2⟩ := h.get t j hl
  exact ⟨u, by simp [Act.put, Array.getElem?_setIfInBounds_ne this, h1], h2⟩

theorem WL.skipAll {g j : Nat} {b want : Bool} (hj : (ops[j]?).bind (·.dst) = some g) (hg : look g F = some (.val (.bool b))) (hb : b ≠ want) (h : WL n P ops Q r F w) :
    ∀ l : List Oper, guardedBy j want l = true → freshB n l F = true → WL n P ops Q (l ++ r) F w
  | [], _, _ => h
  | o :: l, h1, h2 => by
    simp only [guardedBy, freshB, Bool.and_eq_true] at h1 h2
    have ih := WL.skipAll hj hg hb h l h1.2 h2.2
    intro a ha
    have hy := yields_of hj hg (fun i hi => ha.get g i hi)
    refine wpList_step fun K hK => ?_
    have hw : Region.wanted o (yielded ops a.tmps) = false := by
      have h3 := h1.1
      split at h3
      · rename_i k x heq
        simp only [Bool.and_eq_true, beq_iff_eq] at h3
        have hk : k = j := Nat.eq_of_beq_eq_true h3.1
        subst hk
        simp [Region.wanted, heq, hy, h3.2, hb]
      · cases h3
    rw [if_neg (by simp [hw])]
    refine hK _ _ (ih _ ?_)
    have h4 := h2.1
    cases hd : o.dst with
    | none => exact ha
    | some d =>
      simp only [hd, Bool.and_eq_true, Bool.not_eq_true'] at h4
      exact ha.put_fresh h4.1 _

/-- A group of guarded operations, the guard's answer open: two ways. -/
theorem WL.group {g j : Nat} {b want : Bool} (k : Nat) {l : List Oper} (hj : (ops[j]?).bind (·.dst) = some g) (hg : look g F = some (.val (.bool b)))
    (h1 : guardedBy j want (l.take k) = true) (h2 : freshB n (l.take k) F = true) (hy : b = want → WL n P ops Q l F w) (hn : b ≠ want → WL n P ops Q (l.drop k) F w) : WL n P ops Q l F w := by
  by_cases e : b = want
  · exact hy e
  · have := WL.skipAll hj hg e (hn e) (l.take k) h1 h2
    rwa [List.take_append_drop] at this

/-- F knows all that F' knows. -/
def Le (F F' : Frm) : Prop := ∀ t i, look t F' = some i → look t F = some i
theorem Le.push {F F' : Frm} (h : Le F F') (d : Option Nat) (i : Info) : Le (push d i F) (push d i F') := by
  cases d with
  | none => exact h
  | some d =>
    intro t j hl
    by_cases e : d = t
    · subst e; rw [G.push, look_cons_eq] at hl ⊢; exact hl
    · rw [G.push, look_cons_ne e] at hl ⊢; exact h t j hl
theorem Le.refl (F : Frm) : Le F F := fun _ _ h => h
theorem Le.fresh {F : Frm} {d : Nat} (hd : inF d F = false) (i : Info) : Le ((d, i) :: F) F := fun t j hl => by
  have : d ≠ t := fun e => by subst e; rw [inF_look hd] at hl; cases hl
  rw [look_cons_ne this]; exact hl

theorem WD.weak (hz : ∀ F1 F2 w, Le F1 F2 → Z F2 w → Z F1 w) : ∀ (l : List Oper) {F F' : Frm}, Le F F' → WD n P ops w0 Z l F' → WD n P ops w0 Z l F
  | [], _, _, hs, h => fun w he => hz _ _ w hs (h w he)
  | _ :: l, _, _, hs, ⟨hd, i, h1, h2⟩ => ⟨hd, i, fun a w he hf => h1 a w he ⟨hf.size, hf.defers, fun t ht j hl => hf.get t ht j (hs t j hl)⟩, WD.weak hz l (hs.push _ i) h2⟩

theorem WL.le {l : List Oper} {F F' : Frm} (hs : Le F F') (h : WL n P ops Q l F' w) : WL n P ops Q l F w := fun a ha => h a ⟨ha.size, ha.defers, fun t i hl => ha.get t i (hs t i hl)⟩

abbrev ZL (n : Nat) (P : Program) (ops : Array Oper) (Q : Exit → Act → World → Prop) (l : List Oper) : Frm → World → Prop := fun F' w' => WL n P ops Q l F' w'
theorem ZL.weak {l : List Oper} : ∀ F1 F2 w, Le F1 F2 → ZL n P ops Q l F2 w → ZL n P ops Q l F1 w := fun _ _ _ hs h => WL.le hs h

theorem WD.skipAll (hz : ∀ F1 F2 w, Le F1 F2 → Z F2 w → Z F1 w) {g j : Nat} {b want : Bool} (hj : (ops[j]?).bind (·.dst) = some g) (hg : look g F = some (.val (.bool b))) (hb : b ≠ want) (h : WD n P ops w0 Z r F) :
    ∀ l : List Oper, guardedBy j want l = true → freshB n l F = true → WD n P ops w0 Z (l ++ r) F
  | [], _, _ => h
  | o :: l, h1, h2 => by
    simp only [guardedBy, freshB, Bool.and_eq_true] at h1 h2
    have ih := WD.skipAll hz hj hg hb h l h1.2 h2.2
    have h3 := h1.1
    have h4 := h2.1
    split at h3
    case h_2 => cases h3
    rename_i k x heq
    simp only [Bool.and_eq_true, beq_iff_eq] at h3
    have hk : k = j := Nat.eq_of_beq_eq_true h3.1
    subst hk
    refine ⟨?_, .val undef, fun a w he hf => ?_, ?_⟩
    · unfold dstOk
      cases hd : o.dst with
      | none => rfl
      | some d => simp only [hd, Bool.and_eq_true] at h4; exact h4.2
    · have hy := yields_of hj hg (fun i hi => hf.get g (mem_looks heq hj) i hi)
      unfold Gives
      rw [if_neg (by simp [Region.wanted, heq, hy, h3.2, hb])]
      rfl
    · refine WD.weak hz (l ++ r) ?_ ih
      cases hd : o.dst with
      | none => exact Le.refl _
      | some d => simp only [hd, Bool.and_eq_true, Bool.not_eq_true'] at h4; exact Le.fresh h4.1 _

theorem WD.group (hz : ∀ F1 F2 w, Le F1 F2 → Z F2 w → Z F1 w) {g j : Nat} {b want : Bool} (k : Nat) {l : List Oper} (hj : (ops[j]?).bind (·.dst) = some g) (hg : look g F = some (.val (.bool b)))
    (h1 : guardedBy j want (l.take k) = true) (h2 : freshB n (l.take k) F = true) (hy : b = want → WD n P ops w0 Z l F) (hn : b ≠ want → WD n P ops w0 Z (l.drop k) F) : WD n P ops w0 Z l F := by
  by_cases e : b = want
  · exact hy e
  · have := WD.skipAll hz hj hg e (hn e) (l.take k) h1 h2
    rwa [List.take_append_drop] at this

/-! ### Values out of values -/
section
variable {ty : TypeId}
theorem Runs.mk {op : Op} {v : Value} (h : ∀ (o : Oper) (ρ : Operand → Value), o.op = op → o.type = ty → (∀ x ∈ op.operands, ∀ u, ev F x = some u → ρ x = u) → (execOp ρ o).run P w = .ok (.value v) w) : Runs P w F op ty v := h

theorem R.move {x : Operand} {v : Value} (hx : ev F x = some v) : Runs P w F (.move x) ty v := fun o ρ ho _ hρ => by
  simp only [execOp, ho, hρ x (by simp [Op.operands]) v hx]; rfl
theorem R.assign {x : Operand} {v : Value} (hx : ev F x = some v) : Runs P w F (.assign x) ty v := fun o ρ ho _ hρ => by
  simp only [execOp, ho, hρ x (by simp [Op.operands]) v hx]; rfl
theorem R.pick {c x y : Operand} {b : Bool} {u v : Value} (hc : ev F c = some (.bool b)) (hx : ev F x = some u) (hy : ev F y = some v) : Runs P w F (.pick c x y) ty (if b then u else v) := fun o ρ ho _ hρ => by
  simp only [execOp, ho, hρ c (by simp [Op.operands]) _ hc, hρ x (by simp [Op.operands]) _ hx, hρ y (by simp [Op.operands]) _ hy]; rfl
/-- '&&' behind a group whose guard said yes, and no. -/
theorem R.pick_t {c x y : Operand} {b : Bool} {u : Value} (hc : ev F c = some (.bool b)) (hb : b = true) (hx : ev F x = some u) : Runs P w F (.pick c x y) ty u := fun o ρ ho _ hρ => by
  subst hb
  simp only [execOp, ho, hρ c (by simp [Op.operands]) _ hc, hρ x (by simp [Op.operands]) _ hx]; rfl
theorem R.pick_f {c x y : Operand} {b : Bool} {u : Value} (hc : ev F c = some (.bool b)) (hb : b = false) (hy : ev F y = some u) : Runs P w F (.pick c x y) ty u := fun o ρ ho _ hρ => by
  subst hb
  simp only [execOp, ho, hρ c (by simp [Op.operands]) _ hc, hρ y (by simp [Op.operands]) _ hy]; rfl

theorem R.bin {op : BinOp} {tx t' : TypeId} {x y : Operand} {k k' : IntKind} {a b : Int} {v : Value} (hx : ev F x = some (.int k a)) (hy : ev F y = some (.int k' b))
    (h : (binOp op tx (.int k a) (.int k' b)).run P w = .ok v w) : Runs P w F (.binOp op tx x y t') ty v := fun o ρ ho _ hρ => by
  simp only [execOp, ho, hρ x (by simp [Op.operands]) _ hx, hρ y (by simp [Op.operands]) _ hy]
  have : (eqGuard op tx x y (.int k a) (.int k' b)).run P w = .ok () w := by
    unfold eqGuard; split <;> rfl
  simp [Sem.run_bind, this, h]

section
variable {tx t' : TypeId} {x y : Operand} {k : IntKind} {a b : Int}
theorem R.add (hx : ev F x = some (.int k a)) (hy : ev F y = some (.int k b)) : Runs P w F (.binOp .add tx x y t') ty (.int k (k.wrap (a + b))) := R.bin hx hy (by simp [binOp, Op.intArith])
theorem R.sub (hx : ev F x = some (.int k a)) (hy : ev F y = some (.int k b)) : Runs P w F (.binOp .sub tx x y t') ty (.int k (k.wrap (a - b))) := R.bin hx hy (by simp [binOp, Op.intArith])
theorem R.mul (hx : ev F x = some (.int k a)) (hy : ev F y = some (.int k b)) : Runs P w F (.binOp .mul tx x y t') ty (.int k (k.wrap (a * b))) := R.bin hx hy (by simp [binOp, Op.intArith])
theorem R.lss (hx : ev F x = some (.int k a)) (hy : ev F y = some (.int k b)) : Runs P w F (.binOp .lss tx x y t') ty (.bool (decide (a < b))) := R.bin hx hy (by simp [binOp, Op.intCmp])
theorem R.leq (hx : ev F x = some (.int k a)) (hy : ev F y = some (.int k b)) : Runs P w F (.binOp .leq tx x y t') ty (.bool (decide (a ≤ b))) := R.bin hx hy (by simp [binOp, Op.intCmp])
theorem R.gtr (hx : ev F x = some (.int k a)) (hy : ev F y = some (.int k b)) : Runs P w F (.binOp .gtr tx x y t') ty (.bool (decide (b < a))) := R.bin hx hy (by simp [binOp, Op.intCmp])
theorem R.geq (hx : ev F x = some (.int k a)) (hy : ev F y = some (.int k b)) : Runs P w F (.binOp .geq tx x y t') ty (.bool (decide (b ≤ a))) := R.bin hx hy (by simp [binOp, Op.intCmp])
theorem R.eql (hx : ev F x = some (.int k a)) (hy : ev F y = some (.int k b)) : Runs P w F (.binOp .eql tx x y t') ty (.bool (decide (a = b))) := R.bin hx hy (by simp [binOp, Op.intCmp, BEq.beq])
theorem R.neq (hx : ev F x = some (.int k a)) (hy : ev F y = some (.int k b)) : Runs P w F (.binOp .neq tx x y t') ty (.bool (decide (a ≠ b))) := R.bin hx hy (by simp [binOp, Op.intCmp, bne, BEq.beq])
theorem R.and (hx : ev F x = some (.int k a)) (hy : ev F y = some (.int k b)) : Runs P w F (.binOp .and tx x y t') ty (.int k (bits .and k a b)) := R.bin hx hy (by simp [binOp, intBits_and])
theorem R.or (hx : ev F x = some (.int k a)) (hy : ev F y = some (.int k b)) : Runs P w F (.binOp .or tx x y t') ty (.int k (bits .or k a b)) := R.bin hx hy (by simp [binOp, intBits_or])
theorem R.xor (hx : ev F x = some (.int k a)) (hy : ev F y = some (.int k b)) : Runs P w F (.binOp .xor tx x y t') ty (.int k (bits .xor k a b)) := R.bin hx hy (by simp [binOp, intBits_xor])
theorem R.quo (hx : ev F x = some (.int k a)) (hy : ev F y = some (.int k b)) (h0 : b ≠ 0) : Runs P w F (.binOp .quo tx x y t') ty (.int k (k.wrap (a.tdiv b))) := R.bin hx hy (by simp [binOp, Op.intDiv, h0])
theorem R.rem (hx : ev F x = some (.int k a)) (hy : ev F y = some (.int k b)) (h0 : b ≠ 0) : Runs P w F (.binOp .rem tx x y t') ty (.int k (a.tmod b)) := R.bin hx hy (by simp [binOp, Op.intDiv, h0])
theorem R.shl {k' : IntKind} (hx : ev F x = some (.int k a)) (hy : ev F y = some (.int k' b)) (h0 : 0 ≤ b) : Runs P w F (.binOp .shl tx x y t') ty (.int k (k.wrap (a * 2 ^ min b.toNat k.bits))) :=
  R.bin hx hy (by simp only [binOp]; rw [shift_shl_any k k' a b h0]; rfl)
theorem R.shr {k' : IntKind} (hx : ev F x = some (.int k a)) (hy : ev F y = some (.int k' b)) (h0 : 0 ≤ b) : Runs P w F (.binOp .shr tx x y t') ty (.int k (a / 2 ^ min b.toNat k.bits)) :=
  R.bin hx hy (by simp only [binOp]; rw [shift_shr_any k k' a b h0]; rfl)
end

theorem R.un {op : UnOp} {tx : TypeId} {x : Operand} {u v : Value} (hx : ev F x = some u) (h : (Op.unary op u).run P w = .ok v w) : Runs P w F (.unOp op tx x) ty v := fun o ρ ho _ hρ => by
  simp only [execOp, ho, hρ x (by simp [Op.operands]) _ hx]
  simp [h]
theorem R.not {tx : TypeId} {x : Operand} {b : Bool} (hx : ev F x = some (.bool b)) : Runs P w F (.unOp .not tx x) ty (.bool (!b)) := R.un hx (by simp [Op.unary])
theorem R.neg {tx : TypeId} {x : Operand} {k : IntKind} {a : Int} (hx : ev F x = some (.int k a)) : Runs P w F (.unOp .neg tx x) ty (.int k (k.wrap (0 - a))) := R.un hx (by simp [Op.unary, Op.intArith])
theorem R.com {tx : TypeId} {x : Operand} {k : IntKind} {a : Int} (hx : ev F x = some (.int k a)) : Runs P w F (.unOp .xor tx x) ty (.int k (bits .xor k (if k.signed then -1 else k.max) a)) :=
  R.un hx (by simp only [Op.unary]; rw [intBits_xor]; rfl)

/-- A number turned into another kind. -/
theorem R.conv {s d : TypeId} {x : Operand} {k k' : IntKind} {a : Int} {ds : TypeDesc} (hx : ev F x = some (.int k a)) (hs : P.underlying s = some ds) (hd : P.underlying d = some (.int k')) :
    Runs P w F (.convert s d x) ty (.int k' (k'.wrap a)) := fun o ρ ho _ hρ => by
  simp only [execOp, ho, hρ x (by simp [Op.operands]) _ hx]
  simp [Sem.run_bind, convert, run_underlying hs, run_underlying hd, Conv.intToInt]
/-- The number is of the kind already. -/
theorem R.conv_in {s d : TypeId} {x : Operand} {k k' : IntKind} {a : Int} {ds : TypeDesc} (hx : ev F x = some (.int k a)) (hs : P.underlying s = some ds) (hd : P.underlying d = some (.int k')) (h : k'.wrap a = a) :
    Runs P w F (.convert s d x) ty (.int k' a) := by have := R.conv (w := w) (ty := ty) hx hs hd; rwa [h] at this
theorem R.conv_str {s d : TypeId} {x : Operand} {b : ByteArray} {ds : TypeDesc} (hx : ev F x = some (.string b)) (hs : P.underlying s = some ds) (hd : P.underlying d = some .string) :
    Runs P w F (.convert s d x) ty (.string b) := fun o ρ ho _ hρ => by
  simp only [execOp, ho, hρ x (by simp [Op.operands]) _ hx]
  simp [Sem.run_bind, convert, run_underlying hs, run_underlying hd]

theorem R.extract {x : Operand} {vs : Array Value} {i : Nat} {v : Value} (hx : ev F x = some (.tuple vs)) (hi : vs[i]? = some v) : Runs P w F (.extract x i) ty v := fun o ρ ho _ hρ => by
  simp only [execOp, ho, hρ x (by simp [Op.operands]) _ hx]
  simp [Instr.extract, hi]
theorem R.makeFunc0 {fn : Fn} : Runs P w F (.makeFunc fn #[] #[]) ty (.func fn #[] #[]) := fun o ρ ho _ hρ => by
  simp [execOp, ho, Instr.makeFunc]
theorem R.nilCheck {x : Operand} {a : Addr} (hx : ev F x = some (.pointer (some a))) : Runs P w F (.nilCheck x) ty (.pointer (some a)) := fun o ρ ho _ hρ => by
  simp only [execOp, ho, hρ x (by simp [Op.operands]) _ hx]; rfl

/-! Strings -/
theorem beq_dec (a b : List UInt8) : (a == b) = decide (a = b) := by rw [Bool.eq_iff_iff]; simp
theorem R.str {op : BinOp} {tx t' : TypeId} {x y : Operand} {a b : ByteArray} {v : Value} (hx : ev F x = some (.string a)) (hy : ev F y = some (.string b))
    (h : (binOp op tx (.string a) (.string b)).run P w = .ok v w) : Runs P w F (.binOp op tx x y t') ty v := fun o ρ ho _ hρ => by
  simp only [execOp, ho, hρ x (by simp [Op.operands]) _ hx, hρ y (by simp [Op.operands]) _ hy]
  have : (eqGuard op tx x y (.string a) (.string b)).run P w = .ok () w := by
    unfold eqGuard; split <;> rfl
  simp [Sem.run_bind, this, h]
theorem R.streq {tx t' : TypeId} {x y : Operand} {a b : ByteArray} (hx : ev F x = some (.string a)) (hy : ev F y = some (.string b)) : Runs P w F (.binOp .eql tx x y t') ty (.bool (decide (a.toList = b.toList))) :=
  R.str hx hy (by rw [← beq_dec]; simp [binOp, Op.stringOp])
theorem R.strne {tx t' : TypeId} {x y : Operand} {a b : ByteArray} (hx : ev F x = some (.string a)) (hy : ev F y = some (.string b)) : Runs P w F (.binOp .neq tx x y t') ty (.bool (!decide (a.toList = b.toList))) :=
  R.str hx hy (by rw [← beq_dec]; simp [binOp, Op.stringOp])
theorem R.strlt {tx t' : TypeId} {x y : Operand} {a b : ByteArray} (hx : ev F x = some (.string a)) (hy : ev F y = some (.string b)) : Runs P w F (.binOp .lss tx x y t') ty (.bool (Op.bytesLess a.toList b.toList)) :=
  R.str hx hy (by simp [binOp, Op.stringOp])
theorem R.strcat {tx t' : TypeId} {x y : Operand} {a b : ByteArray} (hx : ev F x = some (.string a)) (hy : ev F y = some (.string b)) (h : a.size + b.size ≤ 9223372036854775807) : Runs P w F (.binOp .add tx x y t') ty (.string (a ++ b)) :=
  R.str hx hy (by
    have : ¬ ((a.size + b.size : Nat) : Int) > IntKind.i64.max := by simp [IntKind.max, IntKind.signed, IntKind.bits]; omega
    simp only [binOp, Op.stringOp, if_neg this]; rfl)
end

end
end Go.G
