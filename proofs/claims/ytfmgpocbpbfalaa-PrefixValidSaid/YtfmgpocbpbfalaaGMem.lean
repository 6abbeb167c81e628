/-
  Slices and pointers that read as data.
-/
import Derived.Test.YtfmgpocbpbfalaaGRules
namespace Go.G
open Go Go.RowKit

theorem block_add (a : Addr) (n : Nat) : (a.add n).block = a.block := by unfold Addr.add; split <;> rfl
theorem add_add (a : Addr) (i j : Nat) : (a.add i).add j = a.add (i + j) := by
  unfold Addr.add
  by_cases hi : i = 0 <;> by_cases hj : j = 0 <;> simp [hi, hj, Nat.add_assoc]

/-- How one element lies in cells. -/
structure Enc (α : Type) where
  sz : Nat
  cells : α → List Value
  len : ∀ x, (cells x).length = sz
  pos : 0 < sz

def encU8 : Enc UInt8 := ⟨1, fun b => [.int .u8 b.toNat], fun _ => rfl, by decide⟩
def encInt : Enc Int := ⟨1, fun n => [.int .i64 n], fun _ => rfl, by decide⟩
def encStr : Enc ByteArray := ⟨1, fun s => [.string s], fun _ => rfl, by decide⟩

def Enc.all {α : Type} (E : Enc α) (xs : List α) : List Value := xs.flatMap E.cells
section
variable {α : Type} (E : Enc α)
theorem Enc.all_length : ∀ xs : List α, (E.all xs).length = xs.length * E.sz
  | [] => by simp [Enc.all]
  | x :: xs => by
    have := Enc.all_length xs
    simp only [Enc.all, List.flatMap_cons, List.length_append, List.length_cons] at *
    rw [this, E.len, Nat.add_mul]; omega
theorem Enc.all_drop : ∀ (xs : List α) (k : Nat), (E.all xs).drop (k * E.sz) = E.all (xs.drop k)
  | xs, 0 => by simp
  | [], k + 1 => by simp [Enc.all]
  | x :: xs, k + 1 => by
    have := Enc.all_drop xs k
    simp only [Enc.all, List.flatMap_cons, List.drop_succ_cons] at *
    rw [← this, List.drop_append, E.len, Nat.add_mul, Nat.one_mul]
    rw [List.drop_eq_nil_of_le (by rw [E.len]; omega), List.nil_append]
    congr 1; omega
theorem Enc.all_take : ∀ (xs : List α) (k : Nat), (E.all xs).take (k * E.sz) = E.all (xs.take k)
  | xs, 0 => by simp [Enc.all]
  | [], k + 1 => by simp [Enc.all]
  | x :: xs, k + 1 => by
    have := Enc.all_take xs k
    simp only [Enc.all, List.flatMap_cons, List.take_succ_cons] at *
    rw [← this, List.take_append, E.len, Nat.add_mul, Nat.one_mul]
    rw [List.take_of_length_le (by rw [E.len]; omega)]
    congr 2; omega
theorem Enc.all_append (xs ys : List α) : E.all (xs ++ ys) = E.all xs ++ E.all ys := by simp [Enc.all]
theorem Enc.all_at [Inhabited α] (xs : List α) (k : Nat) (h : k < xs.length) : ((E.all xs).drop (k * E.sz)).take E.sz = E.cells xs[k]! := by
  rw [Enc.all_drop, List.drop_eq_getElem_cons h]
  have e : xs[k]! = xs[k] := by simp [h]
  rw [e]
  simp only [Enc.all, List.flatMap_cons]
  rw [List.take_append_of_le_length (by rw [E.len]; exact Nat.le_refl _), List.take_of_length_le (by rw [E.len]; exact Nat.le_refl _)]
end

/-- From this address on lie these cells. -/
def At (w : World) (a : Addr) (cs : List Value) : Prop := ∀ j u, cs[j]? = some u → w.cell? (a.add j) = some u

theorem At.ext {w w' : World} {a : Addr} {cs : List Value} (h : At w a cs) (e : Ext w w') : At w' a cs := fun j u hu => by
  have h1 := h j u hu
  have hb := World.block_lt_of_cell? w _ h1
  rw [e.cell hb]; exact h1
theorem At.same {w w' : World} {a : Addr} {cs : List Value} (h : At w a cs) (e : w'.heap[a.block]? = w.heap[a.block]?) : At w' a cs := fun j u hu => by
  rw [World.cell?_of_block (w := w) (by rw [block_add]; exact e)]; exact h j u hu
theorem At.drop {w : World} {a : Addr} {cs : List Value} (h : At w a cs) (k : Nat) : At w (a.add k) (cs.drop k) := fun j u hu => by
  rw [add_add]; exact h _ u (by rw [← hu, List.getElem?_drop])
theorem At.take {w : World} {a : Addr} {cs : List Value} (h : At w a cs) (k : Nat) : At w a (cs.take k) := fun j u hu => by
  refine h j u ?_
  rw [List.getElem?_take] at hu
  split at hu
  · exact hu
  · cases hu

/-- A pointer to cells, in blocks from lo to hi. -/
def Pt (w : World) (lo hi : Nat) (p : Value) (cs : List Value) : Prop := ∃ a, p = .pointer (some a) ∧ lo ≤ a.block ∧ a.block < hi ∧ At w a cs
theorem Pt.ext {w w' : World} {lo hi : Nat} {p : Value} {cs : List Value} (h : Pt w lo hi p cs) (e : Ext w w') : Pt w' lo hi p cs :=
  let ⟨a, h1, h2, h3, h4⟩ := h; ⟨a, h1, h2, h3, h4.ext e⟩

/-- A slice that reads as a list. -/
structure Sl {α : Type} (E : Enc α) (w : World) (lo hi : Nat) (v : Value) (xs : List α) : Prop where
  mk' ::
  out : ∃ A c, v = .slice A xs.length c ∧ xs.length ≤ c ∧ c ≤ maxLen ∧ (xs ≠ [] → ∃ a, A = some a ∧ lo ≤ a.block ∧ a.block < hi ∧ At w a (E.all xs))

section
variable {α : Type} {E : Enc α} {w w' : World} {lo hi : Nat} {v : Value} {xs : List α}
theorem Sl.ext (h : Sl E w lo hi v xs) (e : Ext w w') : Sl E w' lo hi v xs := by
  obtain ⟨A, c, h1, h2, h3, h4⟩ := h.out
  exact ⟨A, c, h1, h2, h3, fun hne => let ⟨a, q1, q2, q3, q4⟩ := h4 hne; ⟨a, q1, q2, q3, q4.ext e⟩⟩
/-- Its blocks have not turned. -/
theorem Sl.lt_size {a : Addr} (hne : xs ≠ []) (h : At w a (E.all xs)) : a.block < w.heap.size := by
  have hl : 0 < (E.all xs).length := by
    rw [E.all_length]
    exact Nat.mul_pos (List.length_pos_iff.2 hne) E.pos
  have := World.block_lt_of_cell? w _ (h 0 _ (List.getElem?_eq_getElem hl))
  rwa [block_add] at this
theorem Sl.same (h : Sl E w lo hi v xs) (e : ∀ b, lo ≤ b → b < hi → b < w.heap.size → w'.heap[b]? = w.heap[b]?) : Sl E w' lo hi v xs := by
  obtain ⟨A, c, h1, h2, h3, h4⟩ := h.out
  exact ⟨A, c, h1, h2, h3, fun hne => let ⟨a, q1, q2, q3, q4⟩ := h4 hne; ⟨a, q1, q2, q3, q4.same (e _ q2 q3 (Sl.lt_size hne q4))⟩⟩
/-- Another row has turned. -/
theorem Sl.far (h : Sl E w lo hi v xs) {row : Option Nat} (hg : w.grownBy w' row) (hne : ∀ k, row = some k → k < lo ∨ hi ≤ k) : Sl E w' lo hi v xs :=
  h.same fun b h1 h2 h3 => hg.block b h3 fun e => by have := hne b e.symm; omega
theorem Sl.mono (h : Sl E w lo hi v xs) {lo' hi' : Nat} (h1 : lo' ≤ lo) (h2 : hi ≤ hi') : Sl E w lo' hi' v xs := by
  obtain ⟨A, c, q1, q2, q3, q4⟩ := h.out
  exact ⟨A, c, q1, q2, q3, fun hne => let ⟨a, r1, r2, r3, r4⟩ := q4 hne; ⟨a, r1, by omega, by omega, r4⟩⟩
theorem Sl.clip (h : Sl E w lo hi v xs) : Sl E w lo w.heap.size v xs := by
  obtain ⟨A, c, q1, q2, q3, q4⟩ := h.out
  exact ⟨A, c, q1, q2, q3, fun hne => let ⟨a, r1, r2, _, r4⟩ := q4 hne; ⟨a, r1, r2, Sl.lt_size hne r4, r4⟩⟩
theorem Sl.clip0 (h : Sl E w lo hi v xs) : Sl E w 0 w.heap.size v xs := h.clip.mono (Nat.zero_le _) (Nat.le_refl _)
theorem Sl.nil (E : Enc α) (w : World) (lo hi : Nat) : Sl E w lo hi (.slice none 0 0) [] := ⟨none, 0, rfl, Nat.le_refl _, by simp [maxLen], fun h => absurd rfl h⟩
theorem Sl.len_le (h : Sl E w lo hi v xs) : xs.length ≤ 9223372036854775807 := by
  obtain ⟨A, c, _, h2, h3, _⟩ := h.out; simp only [maxLen] at h3; omega

def elemPtr (v : Value) (sz i : Nat) : Value := match v with
  | .slice (some a) _ _ => .pointer (some (a.add (i * sz)))
  | _ => undef
theorem Sl.elem [Inhabited α] (h : Sl E w lo hi v xs) {i : Nat} (hi' : i < xs.length) : Pt w lo hi (elemPtr v E.sz i) (E.cells xs[i]!) := by
  obtain ⟨A, c, rfl, h2, h3, h4⟩ := h.out
  obtain ⟨a, rfl, q2, q3, q4⟩ := h4 (fun e => by rw [e] at hi'; simp at hi')
  refine ⟨_, rfl, by rw [block_add]; exact q2, by rw [block_add]; exact q3, ?_⟩
  rw [← E.all_at xs i hi']
  exact (q4.drop _).take _

def subSl (v : Value) (sz l h : Nat) : Value := match v with
  | .slice a _ c => .slice (if c = l then a else a.map (·.add (l * sz))) (h - l) (c - l)
  | _ => undef
theorem Sl.sub (h : Sl E w lo hi v xs) {i j : Nat} (h1 : i ≤ j) (h2 : j ≤ xs.length) : Sl E w lo hi (subSl v E.sz i j) ((xs.take j).drop i) := by
  obtain ⟨A, c, rfl, q2, q3, q4⟩ := h.out
  have hl : ((xs.take j).drop i).length = j - i := by simp; omega
  refine ⟨(if c = i then A else A.map (·.add (i * E.sz))), c - i, by simp [subSl, hl], by omega, by simp only [maxLen] at *; omega, fun hne => ?_⟩
  have hij : i < j := by
    rcases Nat.lt_or_ge i j with h | h
    · exact h
    · exact absurd (List.eq_nil_of_length_eq_zero (by rw [hl]; omega)) hne
  obtain ⟨a, rfl, r2, r3, r4⟩ := q4 (fun e => by rw [e] at h2; simp at h2; omega)
  refine ⟨a.add (i * E.sz), by rw [if_neg (by omega)]; rfl, by rw [block_add]; exact r2, by rw [block_add]; exact r3, ?_⟩
  rw [← E.all_drop, ← E.all_take]
  have := (r4.take (j * E.sz)).drop (i * E.sz)
  exact this
end

/-! ### Rules -/
section
variable {n : Nat} {P : Program} {F : Frm} {w : World} {ty : TypeId} {α : Type} {E : Enc α} {lo hi : Nat} {v : Value} {xs : List α}

theorem R.call1 {b : Builtin} {x : Operand} {t : TypeId} {u r : Value} (hx : ev F x = some u) (hb : ∀ c, (builtin b #[t] ty c #[u]).run P w = .ok (.value r) w) :
    Runs P w F (.call { callee := .builtin b, args := #[x], argTypes := #[t] }) ty r := fun o ρ ho hty hρ => by
  have hm : x ∈ (Op.call { callee := .builtin b, args := #[x], argTypes := #[t] }).operands := by simp [Op.operands, Call.operands]
  subst hty
  simp only [execOp, ho, resolve, Sem.run_bind, Sem.run_pure, Result.andThen_ok, invoke, List.map_toArray, List.map_cons, List.map_nil, hρ x hm _ hx]
  exact hb _

theorem R.len_sl {x : Operand} {t e : TypeId} (hx : ev F x = some v) (h : Sl E w lo hi v xs) (ht : P.underlying t = some (.slice e)) :
    Runs P w F (.call { callee := .builtin .len, args := #[x], argTypes := #[t] }) ty (.int .i64 xs.length) := by
  obtain ⟨A, c, rfl, _⟩ := h.out
  exact R.call1 hx (fun cc => by simp [builtin, Builtin.len_, run_underlying ht, goInt])
theorem R.len_str {x : Operand} {t : TypeId} {s : ByteArray} (hx : ev F x = some (.string s)) (ht : P.underlying t = some .string) :
    Runs P w F (.call { callee := .builtin .len, args := #[x], argTypes := #[t] }) ty (.int .i64 s.size) :=
  R.call1 hx (fun cc => by simp [builtin, Builtin.len_, run_underlying ht, goInt])

theorem R.idx {x y : Operand} {t e : TypeId} {k : IntKind} {i : Nat} {inf : TypeInfo} (hx : ev F x = some v) (hy : ev F y = some (.int k (i : Int))) (h : Sl E w lo hi v xs) (hi' : i < xs.length)
    (ht : P.underlying t = some (.slice e)) (he : P.info? e = some inf) (hs : inf.size = E.sz) : Runs P w F (.indexAddr t x y) ty (elemPtr v E.sz i) := fun o ρ ho _ hρ => by
  obtain ⟨A, c, rfl, _, _, h4⟩ := h.out
  obtain ⟨a, rfl, _⟩ := h4 (fun e => by rw [e] at hi'; simp at hi')
  simp only [execOp, ho, hρ x (by simp [Op.operands]) _ hx, hρ y (by simp [Op.operands]) _ hy]
  have hlt : (i : Int) < (xs.length : Int) := by omega
  simp [Instr.indexAt, asIntOf, run_underlying ht, sizeOf, typeInfo, he, hs, hi', elemPtr]

theorem R.fld {x : Operand} {s : TypeId} {k : Nat} {fs : Array Field} {f : Field} {a : Addr} {m : Nat} (hx : ev F x = some (.pointer (some a))) (ht : P.underlying s = some (.struct fs)) (hf : fs[k]? = some f)
    (hm : (P.info? f.type).map (·.size) = some (m + 1)) : Runs P w F (.fieldAddr s x k) ty (.pointer (some (a.add f.offset))) := fun o ρ ho _ hρ => by
  obtain ⟨i, hi, hs⟩ := Option.map_eq_some_iff.1 hm
  simp only [execOp, ho, hρ x (by simp [Op.operands]) _ hx]
  simp [Instr.fieldAt, Instr.sureAddr, fieldPlace, run_underlying ht, hf, sizeOf, typeInfo, hi, hs]

def aggD : TypeDesc → Bool
  | .struct _ | .array _ _ => true
  | _ => false
theorem run_isAgg' {t : TypeId} {d : TypeDesc} (ht : P.underlying t = some d) : (isAgg t).run P w = .ok (aggD d) w := by
  simp only [isAgg, Sem.run_bind, run_underlying ht, Result.andThen_ok]
  cases d <;> rfl

theorem R.ld1 {x : Operand} {t : TypeId} {d : TypeDesc} {p u : Value} {cs : List Value} (hx : ev F x = some p) (h : Pt w lo hi p (u :: cs)) (ht : P.underlying t = some d) (hd : aggD d = false) :
    Runs P w F (.load t x) ty u := fun o ρ ho _ hρ => by
  obtain ⟨a, rfl, _, _, hat⟩ := h
  have hc := hat 0 u rfl
  have e0 : a.add 0 = a := by simp [Addr.add]
  rw [e0] at hc
  simp only [execOp, ho, hρ x (by simp [Op.operands]) _ hx]
  simp [Instr.loadAt, Instr.sureAddr, loadVar, run_isAgg' ht, hd, hc]
theorem R.ldN {x : Operand} {t : TypeId} {d : TypeDesc} {p : Value} {cs : List Value} (hx : ev F x = some p) (h : Pt w lo hi p cs) (ht : P.underlying t = some d) (hd : aggD d = true) {m : Nat} (hs : (P.info? t).map (·.size) = some m) (hm : cs.length = m) :
    Runs P w F (.load t x) ty (.agg cs.toArray) := fun o ρ ho _ hρ => by
  obtain ⟨a, rfl, _, _, hat⟩ := h
  subst hm
  obtain ⟨i, hi, hs⟩ := Option.map_eq_some_iff.1 hs
  simp only [execOp, ho, hρ x (by simp [Op.operands]) _ hx]
  have := run_loadCells_list (P := P) (w := w) a cs hat
  simp [Instr.loadAt, Instr.sureAddr, loadVar, run_isAgg' ht, hd, sizeOf, typeInfo, hi, hs, this]

/-- A slice of a slice. -/
theorem R.sub_sl {x l h : Operand} {t e : TypeId} {inf : TypeInfo} {k k' : IntKind} {i j : Nat} (hx : ev F x = some v) (hs : Sl E w lo hi v xs) (hl : ev F l = some (.int k (i : Int))) (hh : ev F h = some (.int k' (j : Int))) (h1 : i ≤ j) (h2 : j ≤ xs.length)
    (ht : P.underlying t = some (.slice e)) (he : P.info? e = some inf) (hsz : inf.size = E.sz) : Runs P w F (.slice t x (some l) (some h) none) ty (subSl v E.sz i j) := fun o ρ ho _ hρ => by
  obtain ⟨A, c, rfl, q2, q3, _⟩ := hs.out
  simp only [execOp, ho, hρ x (by simp [Op.operands]) _ hx, hρ l (by simp [Op.operands]) _ hl, hρ h (by simp [Op.operands]) _ hh, Option.map_some, Option.map_none]
  have e1 : j ≤ c := by omega
  simp [Instr.sliceAt, Instr.slice, Instr.sliceBounds, Instr.sliceBound, asIntOf, run_underlying ht, sizeOf, typeInfo, he, hsz, subSl, e1, h1]
theorem R.sub_lo {x l : Operand} {t e : TypeId} {inf : TypeInfo} {k : IntKind} {i : Nat} (hx : ev F x = some v) (hs : Sl E w lo hi v xs) (hl : ev F l = some (.int k (i : Int))) (h1 : i ≤ xs.length)
    (ht : P.underlying t = some (.slice e)) (he : P.info? e = some inf) (hsz : inf.size = E.sz) : Runs P w F (.slice t x (some l) none none) ty (subSl v E.sz i xs.length) := fun o ρ ho _ hρ => by
  obtain ⟨A, c, rfl, q2, q3, _⟩ := hs.out
  simp only [execOp, ho, hρ x (by simp [Op.operands]) _ hx, hρ l (by simp [Op.operands]) _ hl, Option.map_some, Option.map_none]
  simp [Instr.sliceAt, Instr.slice, Instr.sliceBounds, Instr.sliceBound, asIntOf, run_underlying ht, sizeOf, typeInfo, he, hsz, subSl, h1]
theorem R.sub_hi {x h : Operand} {t e : TypeId} {inf : TypeInfo} {k' : IntKind} {j : Nat} (hx : ev F x = some v) (hs : Sl E w lo hi v xs) (hh : ev F h = some (.int k' (j : Int))) (h2 : j ≤ xs.length)
    (ht : P.underlying t = some (.slice e)) (he : P.info? e = some inf) (_ : inf.size = E.sz) : Runs P w F (.slice t x none (some h) none) ty (subSl v E.sz 0 j) := fun o ρ ho _ hρ => by
  obtain ⟨A, c, rfl, q2, q3, _⟩ := hs.out
  simp only [execOp, ho, hρ x (by simp [Op.operands]) _ hx, hρ h (by simp [Op.operands]) _ hh, Option.map_some, Option.map_none]
  have e1 : j ≤ c := by omega
  simp [Instr.sliceAt, Instr.slice, Instr.sliceBounds, Instr.sliceBound, asIntOf, run_underlying ht, sizeOf, typeInfo, he, subSl, e1]
end

/-! ### Memory of the call's own -/
/-- A block that is known whole. -/
def Blk (w : World) (g : Nat) (t : TypeId) (cs : List Value) : Prop := w.heap[g]? = some (.cells cs.toArray t (0, 0))
section
variable {w w' : World} {g : Nat} {t : TypeId} {cs : List Value}
theorem Blk.lt (h : Blk w g t cs) : g < w.heap.size := by
  rcases Nat.lt_or_ge g w.heap.size with hlt | hge
  · exact hlt
  · unfold Blk at h; rw [Array.getElem?_eq_none hge] at h; cases h
theorem Blk.ext (h : Blk w g t cs) (e : Ext w w') : Blk w' g t cs := (e.block g h.lt).trans h
theorem Blk.far (h : Blk w g t cs) {row : Option Nat} (hg : w.grownBy w' row) (hne : row ≠ some g) : Blk w' g t cs := (hg.block g h.lt (Ne.symm hne)).trans h
theorem Blk.at (h : Blk w g t cs) : At w ⟨g, 0, none⟩ cs := fun j u hu => by
  rw [Addr.add_lit, Nat.zero_add, cell_of_row w g j cs.toArray t (0, 0) h]
  simpa using hu
theorem Blk.pt (h : Blk w g t cs) : Pt w g (g + 1) (.pointer (some ⟨g, 0, none⟩)) cs := ⟨_, rfl, Nat.le_refl _, Nat.lt_succ_self _, h.at⟩
theorem Blk.pt_at (h : Blk w g t cs) (i : Nat) : Pt w g (g + 1) (.pointer (some ⟨g, i, none⟩)) (cs.drop i) := ⟨_, rfl, Nat.le_refl _, Nat.lt_succ_self _, by
  have := h.at.drop i; rwa [Addr.add_lit, Nat.zero_add] at this⟩
theorem grownBy_of_ext (e : Ext w w') (row : Option Nat) : w.grownBy w' row := ⟨e.os, e.tape, e.output, e.size, fun k hk _ => e.block k hk⟩
end
end Go.G
