/-
  What the proof rests on: part 2 of 14.
-/
import Derived.Test.YtmekkjehkcjpdaaGreatCirculateRunP1
import Derived.Laws.StructEq
section
namespace Go.G
open Go Go.RowKit

section
variable {n : Nat} {P : Program} {ops : Array Oper} {Q : Exit → Act → World → Prop} {F : Frm} {w w0 : World} {r : List Oper} {Z : Frm → World → Prop}

def Runs (P : Program) (w : World) (F : Frm) (op : Go.Op) (ty : TypeId) (v : Value) : Prop :=
  ∀ (o : Oper) (ρ : Operand → Value), o.op = op → o.type = ty → (∀ x ∈ op.operands, ∀ u, ev F x = some u → ρ x = u) → (execOp ρ o).run P w = .ok (.value v) w




theorem yields_of {a : Act} {F : Frm} {w : World} {g j : Nat} {b : Bool} (hj : (ops[j]?).bind (·.dst) = some g) (hg : look g F = some (.val (.bool b)))
    (hf : ∀ i, look g F = some i → ∃ u, a.tmps[g]? = some u ∧ i.ok u w) : yielded ops a.tmps j = some b := by
  obtain ⟨u, h1, h2⟩ := hf _ hg
  simp only [Info.ok] at h2
  subst h2
  simp [yielded, hj, h1]


theorem mem_looks {o : Oper} {j g : Nat} {want : Bool} (ho : o.guard = some (j, want)) (hj : (ops[j]?).bind (·.dst) = some g) : g ∈ o.looksAt ops := by
  refine List.mem_append_right _ ?_
  simp [ho, hj]


def guardedBy (j : Nat) (want : Bool) : List Oper → Bool
  | [] => true
  | o :: r => (match o.guard with
    | some (k, x) => Nat.beq k j && (x == want)
    | none => false) && guardedBy j want r
def inF (t : Nat) : Frm → Bool
  | [] => false
  | (s, _) :: r => Nat.beq s t || inF t r
def freshB (n : Nat) : List Oper → Frm → Bool
  | [], _ => true
  | o :: r, F => (match o.dst with
    | some d => !(inF d F) && Nat.blt d n
    | none => true) && freshB n r F

theorem inF_look {t : Nat} : ∀ {F : Frm}, inF t F = false → look t F = none
  | [], _ => rfl
  | (s, i) :: r, h => by
    simp only [inF, Bool.or_eq_false_iff] at h
    have : s ≠ t := fun e => by subst e; simp at h
    rw [look_cons_ne this]
    exact inF_look h.2

theorem Fits.put_fresh {a : Act} (h : Fits n a F w) {d : Nat} (hd : inF d F = false) (v : Value) : Fits n (a.put (some d) v) F w := by
  refine ⟨by simp [Act.put, h.size], by simp [Act.put, h.defers], fun t j hl => ?_⟩
  have : d ≠ t := fun e => by subst e; rw [inF_look hd] at hl; cases hl
  obtain ⟨u, h1, h2⟩ := h.get t j hl
  exact ⟨u, by simp [Act.put, Array.getElem?_setIfInBounds_ne this, h1], h2⟩



def Le (F F' : Frm) : Prop := ∀ t i, look t F' = some i → look t F = some i
theorem Le.push {F F' : Frm} (h : Le F F') (d : Option Nat) (i : Info) : Le (push d i F) (push d i F') := by
  cases d with
  | none => exact h
  | some d =>
    intro t j hl
    by_cases e : d = t
    · subst e; rw [G.push, look_cons_eq] at hl ⊢; exact hl
    · rw [G.push, look_cons_ne e] at hl ⊢; exact h t j hl
theorem Le.refl (F : Frm) : Le F F := fun _ _ h => h
theorem Le.fresh {F : Frm} {d : Nat} (hd : inF d F = false) (i : Info) : Le ((d, i) :: F) F := fun t j hl => by
  have : d ≠ t := fun e => by subst e; rw [inF_look hd] at hl; cases hl
  rw [look_cons_ne this]; exact hl

theorem WD.weak (hz : ∀ F1 F2 w, Le F1 F2 → Z F2 w → Z F1 w) : ∀ (l : List Oper) {F F' : Frm}, Le F F' → WD n P ops w0 Z l F' → WD n P ops w0 Z l F
  | [], _, _, hs, h => fun w he => hz _ _ w hs (h w he)
  | _ :: l, _, _, hs, ⟨hd, i, h1, h2⟩ => ⟨hd, i, fun a w he hf => h1 a w he ⟨hf.size, hf.defers, fun t ht j hl => hf.get t ht j (hs t j hl)⟩, WD.weak hz l (hs.push _ i) h2⟩


abbrev ZL (n : Nat) (P : Program) (ops : Array Oper) (Q : Exit → Act → World → Prop) (l : List Oper) : Frm → World → Prop := fun F' w' => WL n P ops Q l F' w'



section
variable {ty : TypeId}

theorem R.move {x : Operand} {v : Value} (hx : ev F x = some v) : Runs P w F (.move x) ty v := fun o ρ ho _ hρ => by
  simp only [execOp, ho, hρ x xH v hx]; rfl
theorem R.assign {x : Operand} {v : Value} (hx : ev F x = some v) : Runs P w F (.assign x) ty v := fun o ρ ho _ hρ => by
  simp only [execOp, ho, hρ x xH v hx]; rfl
theorem R.pick_t {c x y : Operand} {b : Bool} {u : Value} (hc : ev F c = some (.bool b)) (hb : b = true) (hx : ev F x = some u) : Runs P w F (.pick c x y) ty u := fun o ρ ho _ hρ => by
  subst hb
  simp only [execOp, ho, hρ c xH _ hc, hρ x xH _ hx]; rfl
theorem R.pick_f {c x y : Operand} {b : Bool} {u : Value} (hc : ev F c = some (.bool b)) (hb : b = false) (hy : ev F y = some u) : Runs P w F (.pick c x y) ty u := fun o ρ ho _ hρ => by
  subst hb
  simp only [execOp, ho, hρ c xH _ hc, hρ y xH _ hy]; rfl

theorem R.bin {op : BinOp} {tx t' : TypeId} {x y : Operand} {k k' : IntKind} {a b : Int} {v : Value} (hx : ev F x = some (.int k a)) (hy : ev F y = some (.int k' b))
    (h : (binOp op tx (.int k a) (.int k' b)).run P w = .ok v w) : Runs P w F (.binOp op tx x y t') ty v := fun o ρ ho _ hρ => by
  simp only [execOp, ho, hρ x xH _ hx, hρ y xH _ hy]
  have : (eqGuard op tx x y (.int k a) (.int k' b)).run P w = .ok () w := by
    unfold eqGuard; split <;> rfl
  simp [Sem.run_bind, this, h]

section
variable {tx t' : TypeId} {x y : Operand} {k : IntKind} {a b : Int}
theorem R.add (hx : ev F x = some (.int k a)) (hy : ev F y = some (.int k b)) : Runs P w F (.binOp .add tx x y t') ty (.int k (k.wrap (a + b))) := R.bin hx hy (by simp [binOp, Op.intArith])
theorem R.sub (hx : ev F x = some (.int k a)) (hy : ev F y = some (.int k b)) : Runs P w F (.binOp .sub tx x y t') ty (.int k (k.wrap (a - b))) := R.bin hx hy (by simp [binOp, Op.intArith])
theorem R.lss (hx : ev F x = some (.int k a)) (hy : ev F y = some (.int k b)) : Runs P w F (.binOp .lss tx x y t') ty (.bool (decide (a < b))) := R.bin hx hy (by simp [binOp, Op.intCmp])
theorem R.leq (hx : ev F x = some (.int k a)) (hy : ev F y = some (.int k b)) : Runs P w F (.binOp .leq tx x y t') ty (.bool (decide (a ≤ b))) := R.bin hx hy (by simp [binOp, Op.intCmp])
theorem R.gtr (hx : ev F x = some (.int k a)) (hy : ev F y = some (.int k b)) : Runs P w F (.binOp .gtr tx x y t') ty (.bool (decide (b < a))) := R.bin hx hy (by simp [binOp, Op.intCmp])
theorem R.geq (hx : ev F x = some (.int k a)) (hy : ev F y = some (.int k b)) : Runs P w F (.binOp .geq tx x y t') ty (.bool (decide (b ≤ a))) := R.bin hx hy (by simp [binOp, Op.intCmp])
theorem R.eql (hx : ev F x = some (.int k a)) (hy : ev F y = some (.int k b)) : Runs P w F (.binOp .eql tx x y t') ty (.bool (decide (a = b))) := R.bin hx hy (by simp [binOp, Op.intCmp, BEq.beq])
theorem R.neq (hx : ev F x = some (.int k a)) (hy : ev F y = some (.int k b)) : Runs P w F (.binOp .neq tx x y t') ty (.bool (decide (a ≠ b))) := R.bin hx hy (by simp [binOp, Op.intCmp, bne, BEq.beq])
theorem R.shr {k' : IntKind} (hx : ev F x = some (.int k a)) (hy : ev F y = some (.int k' b)) (h0 : 0 ≤ b) : Runs P w F (.binOp .shr tx x y t') ty (.int k (a / 2 ^ min b.toNat k.bits)) :=
  R.bin hx hy (by simp only [binOp]; rw [shift_shr_any k k' a b h0]; rfl)
end

theorem R.un {op : UnOp} {tx : TypeId} {x : Operand} {u v : Value} (hx : ev F x = some u) (h : (Op.unary op u).run P w = .ok v w) : Runs P w F (.unOp op tx x) ty v := fun o ρ ho _ hρ => by
  simp only [execOp, ho, hρ x xH _ hx]
  simp [h]
theorem R.not {tx : TypeId} {x : Operand} {b : Bool} (hx : ev F x = some (.bool b)) : Runs P w F (.unOp .not tx x) ty (.bool (!b)) := R.un hx (by simp [Op.unary])

theorem R.conv {s d : TypeId} {x : Operand} {k k' : IntKind} {a : Int} {ds : TypeDesc} (hx : ev F x = some (.int k a)) (hs : P.underlying s = some ds) (hd : P.underlying d = some (.int k')) :
    Runs P w F (.convert s d x) ty (.int k' (k'.wrap a)) := fun o ρ ho _ hρ => by
  simp only [execOp, ho, hρ x xH _ hx]
  simp [Sem.run_bind, convert, run_underlying hs, run_underlying hd, Conv.intToInt]
theorem R.conv_in {s d : TypeId} {x : Operand} {k k' : IntKind} {a : Int} {ds : TypeDesc} (hx : ev F x = some (.int k a)) (hs : P.underlying s = some ds) (hd : P.underlying d = some (.int k')) (h : k'.wrap a = a) :
    Runs P w F (.convert s d x) ty (.int k' a) := by have := R.conv (w := w) (ty := ty) hx hs hd; rwa [h] at this

theorem R.extract {x : Operand} {vs : Array Value} {i : Nat} {v : Value} (hx : ev F x = some (.tuple vs)) (hi : vs[i]? = some v) : Runs P w F (.extract x i) ty v := fun o ρ ho _ hρ => by
  simp only [execOp, ho, hρ x xH _ hx]
  simp [Instr.extract, hi]
theorem R.nilCheck {x : Operand} {a : Addr} (hx : ev F x = some (.pointer (some a))) : Runs P w F (.nilCheck x) ty (.pointer (some a)) := fun o ρ ho _ hρ => by
  simp only [execOp, ho, hρ x xH _ hx]; rfl

theorem beq_dec (a b : List UInt8) : (a == b) = decide (a = b) := by rw [Bool.eq_iff_iff]; simp
theorem R.str {op : BinOp} {tx t' : TypeId} {x y : Operand} {a b : ByteArray} {v : Value} (hx : ev F x = some (.string a)) (hy : ev F y = some (.string b))
    (h : (binOp op tx (.string a) (.string b)).run P w = .ok v w) : Runs P w F (.binOp op tx x y t') ty v := fun o ρ ho _ hρ => by
  simp only [execOp, ho, hρ x xH _ hx, hρ y xH _ hy]
  have : (eqGuard op tx x y (.string a) (.string b)).run P w = .ok () w := by
    unfold eqGuard; split <;> rfl
  simp [Sem.run_bind, this, h]
theorem R.strne {tx t' : TypeId} {x y : Operand} {a b : ByteArray} (hx : ev F x = some (.string a)) (hy : ev F y = some (.string b)) : Runs P w F (.binOp .neq tx x y t') ty (.bool (!decide (a.toList = b.toList))) :=
  R.str hx hy (by rw [← beq_dec]; simp [binOp, Op.stringOp])
end

end
end Go.G
end
section
namespace Go.G
open Go Go.RowKit

theorem block_add (a : Addr) (n : Nat) : (a.add n).block = a.block := by unfold Addr.add; split <;> rfl
theorem add_add (a : Addr) (i j : Nat) : (a.add i).add j = a.add (i + j) := by
  unfold Addr.add
  by_cases hi : i = 0 <;> by_cases hj : j = 0 <;> simp [hi, hj, Nat.add_assoc]

structure Enc (α : Type) where
  sz : Nat
  cells : α → List Value
  len : ∀ x, (cells x).length = sz
  pos : 0 < sz

def encU8 : Enc UInt8 := ⟨1, fun b => [.int .u8 b.toNat], fun _ => rfl, by decide⟩
def encInt : Enc Int := ⟨1, fun n => [.int .i64 n], fun _ => rfl, by decide⟩
def encStr : Enc ByteArray := ⟨1, fun s => [.string s], fun _ => rfl, by decide⟩

def Enc.all {α : Type} (E : Enc α) (xs : List α) : List Value := xs.flatMap E.cells
section
variable {α : Type} (E : Enc α)
theorem Enc.all_length : ∀ xs : List α, (E.all xs).length = xs.length * E.sz
  | [] => by simp [Enc.all]
  | x :: xs => by
    have := Enc.all_length xs
    simp only [Enc.all, List.flatMap_cons, List.length_append, List.length_cons] at *
    rw [this, E.len, Nat.add_mul]; omega
theorem Enc.all_drop : ∀ (xs : List α) (k : Nat), (E.all xs).drop (k * E.sz) = E.all (xs.drop k)
  | xs, 0 => by simp
  | [], k + 1 => by simp [Enc.all]
  | x :: xs, k + 1 => by
    have := Enc.all_drop xs k
    simp only [Enc.all, List.flatMap_cons, List.drop_succ_cons] at *
    rw [← this, List.drop_append, E.len, Nat.add_mul, Nat.one_mul]
    rw [List.drop_eq_nil_of_le (by rw [E.len]; omega), List.nil_append]
    congr 1; omega
theorem Enc.all_take : ∀ (xs : List α) (k : Nat), (E.all xs).take (k * E.sz) = E.all (xs.take k)
  | xs, 0 => by simp [Enc.all]
  | [], k + 1 => by simp [Enc.all]
  | x :: xs, k + 1 => by
    have := Enc.all_take xs k
    simp only [Enc.all, List.flatMap_cons, List.take_succ_cons] at *
    rw [← this, List.take_append, E.len, Nat.add_mul, Nat.one_mul]
    rw [List.take_of_length_le (by rw [E.len]; omega)]
    congr 2; omega
theorem Enc.all_append (xs ys : List α) : E.all (xs ++ ys) = E.all xs ++ E.all ys := by simp [Enc.all]
theorem Enc.all_at [Inhabited α] (xs : List α) (k : Nat) (h : k < xs.length) : ((E.all xs).drop (k * E.sz)).take E.sz = E.cells xs[k]! := by
  rw [Enc.all_drop, List.drop_eq_getElem_cons h]
  have e : xs[k]! = xs[k] := by simp [h]
  rw [e]
  simp only [Enc.all, List.flatMap_cons]
  rw [List.take_append_of_le_length (by rw [E.len]; exact Nat.le_refl _), List.take_of_length_le (by rw [E.len]; exact Nat.le_refl _)]
end

def At (w : World) (a : Addr) (cs : List Value) : Prop := ∀ j u, cs[j]? = some u → w.cell? (a.add j) = some u

theorem At.drop {w : World} {a : Addr} {cs : List Value} (h : At w a cs) (k : Nat) : At w (a.add k) (cs.drop k) := fun j u hu => by
  rw [add_add]; exact h _ u (by rw [← hu, List.getElem?_drop])
theorem At.take {w : World} {a : Addr} {cs : List Value} (h : At w a cs) (k : Nat) : At w a (cs.take k) := fun j u hu => by
  refine h j u ?_
  rw [List.getElem?_take] at hu
  split at hu
  · exact hu
  · cases hu

def Pt (w : World) (lo hi : Nat) (p : Value) (cs : List Value) : Prop := ∃ a, p = .pointer (some a) ∧ lo ≤ a.block ∧ a.block < hi ∧ At w a cs

structure Sl {α : Type} (E : Enc α) (w : World) (lo hi : Nat) (v : Value) (xs : List α) : Prop where
  mk' ::
  out : ∃ A c, v = .slice A xs.length c ∧ xs.length ≤ c ∧ c ≤ maxLen ∧ (xs ≠ [] → ∃ a, A = some a ∧ lo ≤ a.block ∧ a.block < hi ∧ At w a (E.all xs))

section
variable {α : Type} {E : Enc α} {w w' : World} {lo hi : Nat} {v : Value} {xs : List α}
theorem Sl.lt_size {a : Addr} (hne : xs ≠ []) (h : At w a (E.all xs)) : a.block < w.heap.size := by
  have hl : 0 < (E.all xs).length := by
    rw [E.all_length]
    exact Nat.mul_pos (List.length_pos_iff.2 hne) E.pos
  have := World.block_lt_of_cell? w _ (h 0 _ (List.getElem?_eq_getElem hl))
  rwa [block_add] at this
theorem Sl.nil (E : Enc α) (w : World) (lo hi : Nat) : Sl E w lo hi (.slice none 0 0) [] := ⟨none, 0, rfl, Nat.le_refl _, by simp [maxLen], fun h => absurd rfl h⟩

def elemPtr (v : Value) (sz i : Nat) : Value := match v with
  | .slice (some a) _ _ => .pointer (some (a.add (i * sz)))
  | _ => undef
theorem Sl.elem [Inhabited α] (h : Sl E w lo hi v xs) {i : Nat} (hi' : i < xs.length) : Pt w lo hi (elemPtr v E.sz i) (E.cells xs[i]!) := by
  obtain ⟨A, c, rfl, h2, h3, h4⟩ := h.out
  obtain ⟨a, rfl, q2, q3, q4⟩ := h4 (fun e => by rw [e] at hi'; simp at hi')
  refine ⟨_, rfl, by rw [block_add]; exact q2, by rw [block_add]; exact q3, ?_⟩
  rw [← E.all_at xs i hi']
  exact (q4.drop _).take _

def subSl (v : Value) (sz l h : Nat) : Value := match v with
  | .slice a _ c => .slice (if c = l then a else a.map (·.add (l * sz))) (h - l) (c - l)
  | _ => undef
theorem Sl.sub (h : Sl E w lo hi v xs) {i j : Nat} (h1 : i ≤ j) (h2 : j ≤ xs.length) : Sl E w lo hi (subSl v E.sz i j) ((xs.take j).drop i) := by
  obtain ⟨A, c, rfl, q2, q3, q4⟩ := h.out
  have hl : ((xs.take j).drop i).length = j - i := by simp; omega
  refine ⟨(if c = i then A else A.map (·.add (i * E.sz))), c - i, by simp [subSl, hl], xA, by simp only [maxLen] at *; omega, fun hne => ?_⟩
  have hij : i < j := by
    rcases Nat.lt_or_ge i j with h | h
    · exact h
    · exact absurd (List.eq_nil_of_length_eq_zero (by rw [hl]; omega)) hne
  obtain ⟨a, rfl, r2, r3, r4⟩ := q4 (fun e => by rw [e] at h2; simp at h2; omega)
  refine ⟨a.add (i * E.sz), by rw [if_neg xA]; rfl, by rw [block_add]; exact r2, by rw [block_add]; exact r3, ?_⟩
  rw [← E.all_drop, ← E.all_take]
  have := (r4.take (j * E.sz)).drop (i * E.sz)
  exact this
end

section
variable {n : Nat} {P : Program} {F : Frm} {w : World} {ty : TypeId} {α : Type} {E : Enc α} {lo hi : Nat} {v : Value} {xs : List α}

theorem R.call1 {b : Builtin} {x : Operand} {t : TypeId} {u r : Value} (hx : ev F x = some u) (hb : ∀ c, (builtin b #[t] ty c #[u]).run P w = .ok (.value r) w) :
    Runs P w F (.call { callee := .builtin b, args := #[x], argTypes := #[t] }) ty r := fun o ρ ho hty hρ => by
  have hm : x ∈ (Op.call { callee := .builtin b, args := #[x], argTypes := #[t] }).operands := by simp [Op.operands, Call.operands]
  subst hty
  simp only [execOp, ho, resolve, Sem.run_bind, Sem.run_pure, Result.andThen_ok, invoke, List.map_toArray, List.map_cons, List.map_nil, hρ x hm _ hx]
  exact hb _

theorem R.len_sl {x : Operand} {t e : TypeId} (hx : ev F x = some v) (h : Sl E w lo hi v xs) (ht : P.underlying t = some (.slice e)) :
    Runs P w F (.call { callee := .builtin .len, args := #[x], argTypes := #[t] }) ty (.int .i64 xs.length) := by
  obtain ⟨A, c, rfl, _⟩ := h.out
  exact R.call1 hx (fun cc => by simp [builtin, Builtin.len_, run_underlying ht, goInt])
theorem R.len_str {x : Operand} {t : TypeId} {s : ByteArray} (hx : ev F x = some (.string s)) (ht : P.underlying t = some .string) :
    Runs P w F (.call { callee := .builtin .len, args := #[x], argTypes := #[t] }) ty (.int .i64 s.size) :=
  R.call1 hx (fun cc => by simp [builtin, Builtin.len_, run_underlying ht, goInt])

theorem R.idx {x y : Operand} {t e : TypeId} {k : IntKind} {i : Nat} {inf : TypeInfo} (hx : ev F x = some v) (hy : ev F y = some (.int k (i : Int))) (h : Sl E w lo hi v xs) (hi' : i < xs.length)
    (ht : P.underlying t = some (.slice e)) (he : P.info? e = some inf) (hs : inf.size = E.sz) : Runs P w F (.indexAddr t x y) ty (elemPtr v E.sz i) := fun o ρ ho _ hρ => by
  obtain ⟨A, c, rfl, _, _, h4⟩ := h.out
  obtain ⟨a, rfl, _⟩ := h4 (fun e => by rw [e] at hi'; simp at hi')
  simp only [execOp, ho, hρ x xH _ hx, hρ y xH _ hy]
  have hlt : (i : Int) < (xs.length : Int) := by omega
  simp [Instr.indexAt, asIntOf, run_underlying ht, sizeOf, typeInfo, he, hs, hi', elemPtr]

theorem R.fld {x : Operand} {s : TypeId} {k : Nat} {fs : Array Field} {f : Field} {a : Addr} {m : Nat} (hx : ev F x = some (.pointer (some a))) (ht : P.underlying s = some (.struct fs)) (hf : fs[k]? = some f)
    (hm : (P.info? f.type).map (·.size) = some (m + 1)) : Runs P w F (.fieldAddr s x k) ty (.pointer (some (a.add f.offset))) := fun o ρ ho _ hρ => by
  obtain ⟨i, hi, hs⟩ := Option.map_eq_some_iff.1 hm
  simp only [execOp, ho, hρ x xH _ hx]
  simp [Instr.fieldAt, Instr.sureAddr, fieldPlace, run_underlying ht, hf, sizeOf, typeInfo, hi, hs]

def aggD : TypeDesc → Bool
  | .struct _ | .array _ _ => true
  | _ => false
theorem run_isAgg' {t : TypeId} {d : TypeDesc} (ht : P.underlying t = some d) : (isAgg t).run P w = .ok (aggD d) w := by
  simp only [isAgg, Sem.run_bind, run_underlying ht, Result.andThen_ok]
  cases d <;> rfl

theorem R.ld1 {x : Operand} {t : TypeId} {d : TypeDesc} {p u : Value} {cs : List Value} (hx : ev F x = some p) (h : Pt w lo hi p (u :: cs)) (ht : P.underlying t = some d) (hd : aggD d = false) :
    Runs P w F (.load t x) ty u := fun o ρ ho _ hρ => by
  obtain ⟨a, rfl, _, _, hat⟩ := h
  have hc := hat 0 u rfl
  have e0 : a.add 0 = a := by simp [Addr.add]
  rw [e0] at hc
  simp only [execOp, ho, hρ x xH _ hx]
  simp [Instr.loadAt, Instr.sureAddr, loadVar, run_isAgg' ht, hd, hc]
theorem R.ldN {x : Operand} {t : TypeId} {d : TypeDesc} {p : Value} {cs : List Value} (hx : ev F x = some p) (h : Pt w lo hi p cs) (ht : P.underlying t = some d) (hd : aggD d = true) {m : Nat} (hs : (P.info? t).map (·.size) = some m) (hm : cs.length = m) :
    Runs P w F (.load t x) ty (.agg cs.toArray) := fun o ρ ho _ hρ => by
  obtain ⟨a, rfl, _, _, hat⟩ := h
  subst hm
  obtain ⟨i, hi, hs⟩ := Option.map_eq_some_iff.1 hs
  simp only [execOp, ho, hρ x xH _ hx]
  have := run_loadCells_list (P := P) (w := w) a cs hat
  simp [Instr.loadAt, Instr.sureAddr, loadVar, run_isAgg' ht, hd, sizeOf, typeInfo, hi, hs, this]

end

def Blk (w : World) (g : Nat) (t : TypeId) (cs : List Value) : Prop := w.heap[g]? = some (.cells cs.toArray t (0, 0))
section
variable {w w' : World} {g : Nat} {t : TypeId} {cs : List Value}
theorem Blk.lt (h : Blk w g t cs) : g < w.heap.size := by
  rcases Nat.lt_or_ge g w.heap.size with hlt | hge
  · exact hlt
  · unfold Blk at h; rw [Array.getElem?_eq_none hge] at h; cases h
theorem Blk.at (h : Blk w g t cs) : At w ⟨g, 0, none⟩ cs := fun j u hu => by
  rw [Addr.add_lit, Nat.zero_add, cell_of_row w g j cs.toArray t (0, 0) h]
  simpa using hu
end
end Go.G
end
