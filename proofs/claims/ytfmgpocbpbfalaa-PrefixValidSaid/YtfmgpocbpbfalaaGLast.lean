/-
  Small rules and lemmas for the printed walks.
-/
import Derived.Test.YtfmgpocbpbfalaaGMore
namespace Go.G
open Go Go.RowKit

theorem info_of {P : Program} {t : TypeId} {z : Value} {s b : Nat} (h : (P.info? t).map (fun i => (i.zero, i.size, i.bytes)) = some (some z, s, b)) : ∃ i, P.info? t = some i ∧ i.zero = some z ∧ i.size = s ∧ i.bytes = b := by
  obtain ⟨i, hi, h⟩ := Option.map_eq_some_iff.1 h
  simp only [Prod.mk.injEq] at h
  exact ⟨i, hi, h⟩
theorem evi {F : Frm} {x : Operand} {k : IntKind} {a : Int} {j : Nat} (h : ev F x = some (.int k a)) (e : a = (j : Int)) : ev F x = some (.int k (j : Int)) := by rw [h, e]
theorem gd_of {b want : Bool} (h : b = want) : b = want := h
theorem gA1 {p : Prop} [Decidable p] (h : decide p = true) : p := of_decide_eq_true h
theorem gA2 {p : Prop} [Decidable p] (h : (!decide p) = true) : ¬ p := by simpa using h
theorem gA3 {p : Prop} [Decidable p] (h : decide p = false) : ¬ p := of_decide_eq_false h
theorem gA4 {p : Prop} [Decidable p] (h : (!decide p) = false) : p := by simpa using h
theorem gA5 {p : Prop} [Decidable p] (h : decide p ≠ true) : ¬ p := by simpa using h
theorem gA6 {p : Prop} [Decidable p] (h : (!decide p) ≠ true) : p := by simpa using h
theorem gA7 {p : Prop} [Decidable p] (h : decide p ≠ false) : p := by simpa using h
theorem gA8 {p : Prop} [Decidable p] (h : (!decide p) ≠ false) : ¬ p := by simpa using h
theorem ne_t {b : Bool} (h : b ≠ true) : b = false := by cases b <;> simp_all
theorem ne_f {b : Bool} (h : b ≠ false) : b = true := by cases b <;> simp_all
theorem wrap_in {k : IntKind} {a : Int} (h1 : k.min ≤ a) (h2 : a ≤ k.max) : k.wrap a = a := by
  cases k <;> simp only [IntKind.min, IntKind.max, IntKind.signed, IntKind.bits] at h1 h2 <;> simp at h1 h2
  · exact IntWalk.i8_in _ ⟨h1, by omega⟩
  · exact IntWalk.i16_in _ ⟨h1, by omega⟩
  · exact IntWalk.i32_in _ ⟨h1, by omega⟩
  · exact IntWalk.i64_in _ ⟨h1, by omega⟩
  · exact IntWalk.u8_in _ ⟨h1, by omega⟩
  · exact IntWalk.u16_in _ ⟨h1, by omega⟩
  · exact IntWalk.u32_in _ ⟨h1, by omega⟩
  · exact IntWalk.u64_in _ ⟨h1, by omega⟩

section
variable {n : Nat} {P : Program} {F : Frm} {w : World} {ty : TypeId}
theorem R.conv64 {s d : TypeId} {x : Operand} {k : IntKind} {a : Int} {ds : TypeDesc} (hx : ev F x = some (.int k a)) (hs : P.underlying s = some ds) (hd : P.underlying d = some (.int .i64)) (h : -9223372036854775808 ≤ a ∧ a ≤ 9223372036854775807) :
    Runs P w F (.convert s d x) ty (.int .i64 a) := R.conv_in hx hs hd (IntWalk.i64_in _ h)
theorem R.conv32 {s d : TypeId} {x : Operand} {k : IntKind} {a : Int} {ds : TypeDesc} (hx : ev F x = some (.int k a)) (hs : P.underlying s = some ds) (hd : P.underlying d = some (.int .u32)) (h : 0 ≤ a ∧ a ≤ 4294967295) :
    Runs P w F (.convert s d x) ty (.int .u32 a) := R.conv_in hx hs hd (IntWalk.u32_in _ h)
theorem R.conv8 {s d : TypeId} {x : Operand} {k : IntKind} {a : Int} {ds : TypeDesc} (hx : ev F x = some (.int k a)) (hs : P.underlying s = some ds) (hd : P.underlying d = some (.int .u8)) (h : 0 ≤ a ∧ a ≤ 255) :
    Runs P w F (.convert s d x) ty (.int .u8 a) := R.conv_in hx hs hd (IntWalk.u8_in _ h)

theorem R.shr_c {tx t' : TypeId} {x y : Operand} {k k' : IntKind} {a b q : Int} (hx : ev F x = some (.int k a)) (hy : ev F y = some (.int k' b)) (h0 : 0 ≤ b) (hq : 2 ^ min b.toNat k.bits = q) : Runs P w F (.binOp .shr tx x y t') ty (.int k (a / q)) := by
  subst hq; exact R.shr hx hy h0
theorem R.shl_c {tx t' : TypeId} {x y : Operand} {k k' : IntKind} {a b q : Int} (hx : ev F x = some (.int k a)) (hy : ev F y = some (.int k' b)) (h0 : 0 ≤ b) (hq : 2 ^ min b.toNat k.bits = q) : Runs P w F (.binOp .shl tx x y t') ty (.int k (k.wrap (a * q))) := by
  subst hq; exact R.shl hx hy h0
theorem R.quo32 {tx t' : TypeId} {x y : Operand} {a b : Int} (hx : ev F x = some (.int .u32 a)) (hy : ev F y = some (.int .u32 b)) (h : 0 ≤ a ∧ a ≤ 4294967295 ∧ 1 ≤ b) : Runs P w F (.binOp .quo tx x y t') ty (.int .u32 (a / b)) := by
  have := R.quo (P := P) (w := w) (ty := ty) (tx := tx) (t' := t') hx hy (by omega); rwa [IntWalk.u32_quo _ _ h] at this

theorem R.com32 {tx : TypeId} {x : Operand} {a : Int} (hx : ev F x = some (.int .u32 a)) : Runs P w F (.unOp .xor tx x) ty (.int .u32 (bits .xor .u32 4294967295 a)) := R.com hx

/-- '==' of bools. -/
theorem R.booleql {tx t' : TypeId} {x y : Operand} {a b : Bool} (hx : ev F x = some (.bool a)) (hy : ev F y = some (.bool b)) (ht : P.underlying tx = some .bool) : Runs P w F (.binOp .eql tx x y t') ty (.bool (a == b)) := fun o ρ ho _ hρ => by
  simp only [execOp, ho, hρ x (by simp [Op.operands]) _ hx, hρ y (by simp [Op.operands]) _ hy]
  have h1 : (eqGuard .eql tx x y (.bool a) (.bool b)).run P w = .ok () w := by unfold eqGuard; rfl
  have h3 : ∀ d : Nat, (Op.equalIn (d + 1) tx (.bool a) (.bool b)).run P w = .ok (a == b) w := fun d => by simp [Op.equalIn, run_underlying ht]
  have h2 : (Op.equal tx (.bool a) (.bool b)).run P w = .ok (a == b) w := h3 9999
  simp [Sem.run_bind, h1, binOp, h2]
theorem R.boolneq {tx t' : TypeId} {x y : Operand} {a b : Bool} (hx : ev F x = some (.bool a)) (hy : ev F y = some (.bool b)) (ht : P.underlying tx = some .bool) : Runs P w F (.binOp .neq tx x y t') ty (.bool (!(a == b))) := fun o ρ ho _ hρ => by
  simp only [execOp, ho, hρ x (by simp [Op.operands]) _ hx, hρ y (by simp [Op.operands]) _ hy]
  have h1 : (eqGuard .neq tx x y (.bool a) (.bool b)).run P w = .ok () w := by unfold eqGuard; rfl
  have h3 : ∀ d : Nat, (Op.equalIn (d + 1) tx (.bool a) (.bool b)).run P w = .ok (a == b) w := fun d => by simp [Op.equalIn, run_underlying ht]
  have h2 : (Op.equal tx (.bool a) (.bool b)).run P w = .ok (a == b) w := h3 9999
  simp [Sem.run_bind, h1, binOp, h2]

theorem nil_of {α : Type} {E : Enc α} {lo hi : Nat} {w : World} {v : Value} {xs : List α} (h : (match v with | .slice none _ _ => true | _ => false) = true) (hs : Sl E w lo hi v xs) : xs = [] := by
  obtain ⟨A, c, rfl, _, _, q4⟩ := hs.out
  rcases A with _ | a
  · by_cases h : xs = []
    · exact h
    · obtain ⟨a, h2, _⟩ := q4 h; cases h2
  · cases h
/-- s == nil. -/
def nilB (v : Value) : Bool := match v with | .slice none _ _ => true | _ => false
theorem R.isnil {α : Type} {E : Enc α} {lo hi : Nat} {tx t' e : TypeId} {x : Operand} {v : Value} {xs : List α} (hx : ev F x = some v) (h : Sl E w lo hi v xs) (ht : P.underlying tx = some (.slice e)) :
    Runs P w F (.binOp .eql tx x (.const (.slice none 0 0)) t') ty (.bool (nilB v)) := fun o ρ ho _ hρ => by
  obtain ⟨A, c, rfl, _⟩ := h.out
  have hy : ρ (.const (.slice none 0 0)) = .slice none 0 0 := hρ _ (by simp [Op.operands]) _ rfl
  simp only [execOp, ho, hρ x (by simp [Op.operands]) _ hx, hy]
  have h1 : (eqGuard .eql tx x (.const (.slice none 0 0)) (.slice A xs.length c) (.slice none 0 0)).run P w = .ok () w := by unfold eqGuard; rfl
  have h3 : ∀ d : Nat, (Op.equalIn (d + 1) tx (.slice A xs.length c) (.slice none 0 0)).run P w = .ok (nilB (.slice A xs.length c)) w := fun d => by
    cases A <;> simp [Op.equalIn, run_underlying ht, nilB]
  have h2 : (Op.equal tx (.slice A xs.length c) (.slice none 0 0)).run P w = .ok (nilB (.slice A xs.length c)) w := h3 9999
  simp [Sem.run_bind, h1, binOp, h2]

theorem R.min2 {x y : Operand} {t t2 : TypeId} {k : IntKind} {a b : Int} (hx : ev F x = some (.int k a)) (hy : ev F y = some (.int k b)) :
    Runs P w F (.call { callee := .builtin .min, args := #[x, y], argTypes := #[t, t2] }) ty (.int k (if b < a then b else a)) := fun o ρ ho hty hρ => by
  have hmx : x ∈ (Op.call { callee := .builtin .min, args := #[x, y], argTypes := #[t, t2] }).operands := by simp [Op.operands, Call.operands]
  have hmy : y ∈ (Op.call { callee := .builtin .min, args := #[x, y], argTypes := #[t, t2] }).operands := by simp [Op.operands, Call.operands]
  simp only [execOp, ho, resolve, Sem.run_bind, Sem.run_pure, Result.andThen_ok, invoke, List.map_toArray, List.map_cons, List.map_nil, hρ x hmx _ hx, hρ y hmy _ hy]
  simp [builtin, Builtin.min_, Builtin.min2]
theorem R.min4 {x y z u : Operand} {ts : Array TypeId} {k : IntKind} {a b c d : Int} (hx : ev F x = some (.int k a)) (hy : ev F y = some (.int k b)) (hz : ev F z = some (.int k c)) (hu : ev F u = some (.int k d)) :
    Runs P w F (.call { callee := .builtin .min, args := #[x, y, z, u], argTypes := ts }) ty (.int k (min (min (min a b) c) d)) := fun o ρ ho hty hρ => by
  have hm : ∀ q, q = x ∨ q = y ∨ q = z ∨ q = u → q ∈ (Op.call { callee := .builtin .min, args := #[x, y, z, u], argTypes := ts }).operands := by intro q hq; simp [Op.operands, Call.operands]; exact hq
  simp only [execOp, ho, resolve, Sem.run_bind, Sem.run_pure, Result.andThen_ok, invoke, List.map_toArray, List.map_cons, List.map_nil, hρ x (hm x (by simp)) _ hx, hρ y (hm y (by simp)) _ hy, hρ z (hm z (by simp)) _ hz, hρ u (hm u (by simp)) _ hu]
  have e1 : ∀ p q : Int, (if q < p then q else p) = min p q := fun p q => by rw [Int.min_def]; split <;> split <;> omega
  simp [builtin, Builtin.min_, Builtin.min2, e1]

/-- A field of one cell. -/
theorem R.field {x : Operand} {s : TypeId} {k : Nat} {fs : Array Field} {f : Field} {cs : List Value} {u : Value} {d : TypeDesc} (hx : ev F x = some (.agg cs.toArray)) (ht : P.underlying s = some (.struct fs)) (hf : fs[k]? = some f) (ho : cs[f.offset]? = some u)
    (hd : P.underlying f.type = some d) (ha : aggD d = false) : Runs P w F (.field s x k) ty u := fun o ρ ho' _ hρ => by
  simp only [execOp, ho', hρ x (by simp [Op.operands]) _ hx]
  simp [Instr.field, run_underlying ht, hf, asAgg, part, run_isAgg' hd, ha, ho]

/-- All of an array that lies in a block, as a slice. -/
theorem R.sub_arr {x : Operand} {t e : TypeId} {len g o : Nat} (hx : ev F x = some (.pointer (some ⟨g, o, none⟩))) (ht : P.underlying t = some (.array len e)) (he : (P.info? e).isSome = true) :
    Runs P w F (.slice t x none none none) ty (.slice (some ⟨g, o, none⟩) len len) := fun op ρ ho _ hρ => by
  obtain ⟨i, hi⟩ := Option.isSome_iff_exists.1 he
  simp only [execOp, ho, hρ x (by simp [Op.operands]) _ hx, Option.map_none]
  by_cases h0 : len = 0
  · simp [Instr.sliceAt, run_underlying ht, Instr.sureAddr, Instr.sliceBounds, sizeOf, typeInfo, hi, h0]
  · simp [Instr.sliceAt, run_underlying ht, Instr.sureAddr, Instr.sliceBounds, sizeOf, typeInfo, hi, Addr.add]
end

section
variable {w : World} {g t i m : Nat} {cs : List Value}
theorem Blk.pt_el (h : Blk w g t cs) : Pt w g (g + 1) (.pointer (some ⟨g, 0 + i * m, none⟩)) (cs.drop (0 + i * m)) := h.pt_at _
theorem Blk.pt_1 (h : Blk w g t cs) (hi : i < cs.length) : Pt w g (g + 1) (.pointer (some ⟨g, 0 + i * 1, none⟩)) (cs[i] :: cs.drop (i + 1)) := by
  have := h.pt_at i
  rw [List.drop_eq_getElem_cons hi] at this
  simpa using this
theorem Blk.sl_arr {α : Type} {E : Enc α} {xs : List α} (h : Blk w g t (E.all xs)) (hl : xs.length ≤ maxLen) : Sl E w g (g + 1) (.slice (some ⟨g, 0, none⟩) xs.length xs.length) xs :=
  ⟨_, _, rfl, Nat.le_refl _, hl, fun _ => ⟨_, rfl, Nat.le_refl _, Nat.lt_succ_self _, h.at⟩⟩
end

section
variable {α : Type} {E : Enc α} {w : World} {lo hi : Nat} {v : Value} {xs : List α}
theorem Sl.sub_lo (h : Sl E w lo hi v xs) {i : Nat} (h1 : i ≤ xs.length) : Sl E w lo hi (subSl v E.sz i xs.length) (xs.drop i) := by
  have := Sl.sub h h1 (Nat.le_refl _)
  rwa [List.take_length] at this
end

section
variable {α : Type} {E : Enc α} {n : Nat} {P : Program} {F : Frm} {w : World} {ty : TypeId}
theorem D.store_own' {t tb : TypeId} {x y : Operand} {g c base i nn : Nat} {u : Value} {xs : List α} {e : α} (hx : ev F x = some (.pointer (some ⟨g, i * E.sz, none⟩))) (hy : ev F y = some u) (hu : u.cells = (E.cells e).toArray) (hs : (P.info? t).map (·.size) = some E.sz)
    (hb : Own E w base tb (.slice (some ⟨g, 0, none⟩) nn c) xs) (hn : nn = xs.length) (hi : i < xs.length) (h1 : cells1 (E.cells e) = true) :
    Does P w F (.store t x y) ty (fun w' => Own E w' base tb (.slice (some ⟨g, 0, none⟩) nn c) (xs.set i e) ∧ w.grownBy w' (some g) ∧ w'.heap.size = w.heap.size) := by
  subst hn
  exact D.store_own hx hy hu hs hb hi h1
theorem R.idx_own' {x y : Operand} {t e tb : TypeId} {k : IntKind} {g c base i nn : Nat} {inf : TypeInfo} {xs : List α} (hx : ev F x = some (.slice (some ⟨g, 0, none⟩) nn c)) (hy : ev F y = some (.int k (i : Int)))
    (ho : Own E w base tb (.slice (some ⟨g, 0, none⟩) nn c) xs) (hn : nn = xs.length) (hi' : i < xs.length)
    (ht : P.underlying t = some (.slice e)) (he : P.info? e = some inf) (hs : inf.size = E.sz) : Runs P w F (.indexAddr t x y) ty (.pointer (some ⟨g, i * E.sz, none⟩)) := by
  subst hn
  exact R.idx_own hx hy ho hi' ht he hs
theorem Own.elem' [Inhabited α] {g c base t i nn : Nat} {xs : List α} (h : Own E w base t (.slice (some ⟨g, 0, none⟩) nn c) xs) (hi : i < xs.length) : Pt w g (g + 1) (.pointer (some ⟨g, i * E.sz, none⟩)) (E.cells xs[i]!) := by
  have h1 := h.slb.elem hi
  have e : elemPtr (.slice (some ⟨g, 0, none⟩) nn c) E.sz i = .pointer (some ⟨g, i * E.sz, none⟩) := by simp [elemPtr, Addr.add_lit]
  rw [e] at h1
  exact h1
theorem Own.form {v : Value} {xs : List α} {base t : Nat} (h : Own E w base t v xs) (h0 : xs ≠ []) : ∃ g c, v = .slice (some ⟨g, 0, none⟩) xs.length c ∧ base ≤ g ∧ g < w.heap.size := by
  have hl := h.lt
  rcases h.2 with ⟨_, h2⟩ | ⟨g, cap, cur, r1, r2, r3⟩
  · exact absurd (List.eq_nil_of_length_eq_zero h2) h0
  · have hx := hl g (by rw [r1]; simp [Value.ownBlock])
    exact ⟨g, _, r1, hx.1, hx.2⟩
end

section
variable {P : Program} {F : Frm} {w : World} {ty : TypeId}
theorem R.fldB {x : Operand} {s : TypeId} {k : Nat} {fs : Array Field} {f : Field} {g o q m : Nat} (hx : ev F x = some (.pointer (some ⟨g, o, none⟩))) (ht : P.underlying s = some (.struct fs)) (hf : fs[k]? = some f)
    (hm : (P.info? f.type).map (·.size) = some (m + 1)) (hq : o + f.offset = q) : Runs P w F (.fieldAddr s x k) ty (.pointer (some ⟨g, q, none⟩)) := by
  subst hq
  have := R.fld (P := P) (w := w) (ty := ty) hx ht hf hm
  rwa [Addr.add_lit] at this
end

/-- A slice of slices: what its values read as. -/
def encVal : Enc Value := ⟨1, fun v => [v], fun _ => rfl, by decide⟩
structure SlL {α : Type} (E : Enc α) (w : World) (lo hi : Nat) (vs : List Value) (xs : List (List α)) : Prop where
  len : vs.length = xs.length
  get : ∀ {i : Nat}, i < xs.length → Sl E w lo hi vs[i]! xs[i]!
section
variable {α : Type} {E : Enc α} {w w' : World} {lo hi : Nat} {vs : List Value} {xs : List (List α)}
theorem SlL.ext (h : SlL E w lo hi vs xs) (e : Ext w w') : SlL E w' lo hi vs xs := ⟨h.len, fun hi' => (h.get hi').ext e⟩
theorem SlL.far (h : SlL E w lo hi vs xs) {row : Option Nat} (hg : w.grownBy w' row) (hne : ∀ k, row = some k → k < lo ∨ hi ≤ k) : SlL E w' lo hi vs xs := ⟨h.len, fun hi' => (h.get hi').far hg hne⟩
theorem SlL.clip0 (h : SlL E w lo hi vs xs) : SlL E w 0 w.heap.size vs xs := ⟨h.len, fun hi' => (h.get hi').clip0⟩
theorem SlL.len_le (h : SlL E w lo hi vs xs) : vs.length = xs.length := h.len
end

section
variable {n : Nat} {P : Program} {F : Frm} {w : World}
/-- Two results: a variable of several cells, and a slot. -/
theorem E.finct {fn : Func} {R : Ending → World → Prop} {t u : Nat} {x : Value} {tt : TypeId} {d : TypeDesc} {g : Nat} {tb : TypeId} {cs : List Value} {e : Exit} (he : e = .ret ∨ e = .normal) (hr : fn.results = #[.cell t tt, .tmp u]) (hv : ev F (.tmp t) = some (.pointer (some ⟨g, 0, none⟩)))
    (hx : ev F (.tmp u) = some x) (hb : Blk w g tb cs) (ht : P.underlying tt = some d) (hd : aggD d = true) {m : Nat} (hs : (P.info? tt).map (·.size) = some m) (hm : cs.length = m) (h : R (.returned (.tuple #[.agg cs.toArray, x])) w) : E n (bodyPost P fn R) e F w := fun a ha => by
  have h1 : (results fn a.tmps).run P w = .ok (.tuple #[.agg cs.toArray, x]) w := by
    have e1 := ha.ev hv
    have e2 := ha.ev hx
    simp only [Act.eval, Array.getD_eq_getD_getElem?] at e1 e2
    subst hm
    obtain ⟨i, hi, hs⟩ := Option.map_eq_some_iff.1 hs
    have hl := run_loadCells_list (P := P) (w := w) ⟨g, 0, none⟩ cs hb.at
    simp only [results, hr]
    simp [e1, e2, asAddr, loadVar, run_isAgg' ht, hd, sizeOf, typeInfo, hi, hs, hl]
  rcases he with rfl | rfl <;> exact ⟨ha.defers, _, h1, h⟩
end

/-! ### Operations of a drawn region, on slots whose value is not named -/
section
variable {n : Nat} {P : Program} {ops : Array Oper} {F : Frm} {w0 w1 : World} {r : List Oper} {Z : Frm → World → Prop} {ty : TypeId}
def GivesAll (n : Nat) (P : Program) (ops : Array Oper) (o : Oper) (F : Frm) (w1 : World) (i : Info) : Prop := ∀ a, FitsOn (o.looksAt ops) n a F w1 → Gives P ops o a w1 i
theorem WD.go1 {o : Oper} {i : Info} (hd : dstOk n o = true) (hg : ∀ w1, Ext w0 w1 → GivesAll n P ops o F w1 i) (h : WD n P ops w0 Z r (push o.dst i F)) : WD n P ops w0 Z (o :: r) F :=
  ⟨hd, i, fun a w1 he hf => hg w1 he a hf, h⟩
theorem GivesAll.open {o : Oper} {i : Info} {t : Nat} {φ : Value → World → Prop} (ht : look t F = some (.pred φ)) (hm : (o.looksAt ops).contains t = true) (h : ∀ u wq, Ext wq w1 → φ u wq → GivesAll n P ops o ((t, .val u) :: remove t F) w1 i) : GivesAll n P ops o F w1 i := by
  intro a ha
  obtain ⟨u, h1, wq, h2, h3⟩ := ha.get t (by simpa using hm) _ ht
  refine h u wq h2 h3 a ⟨ha.size, ha.defers, fun s hs i hl => ?_⟩
  by_cases e : t = s
  · subst e; rw [look_cons_eq] at hl; cases hl; exact ⟨u, h1, rfl⟩
  · rw [look_cons_ne e, look_remove (Ne.symm e)] at hl; exact ha.get s hs i hl
theorem GivesAll.det {d : Nat} {op : Op} {pos : String} {af : Array Edge} {v : Value} (hr : Runs P w1 F op ty v) : GivesAll n P ops ⟨some d, op, ty, pos, af, none⟩ F w1 (.val v) := by
  intro a hf
  have e := hr ⟨some d, op, ty, pos, af, none⟩ a.eval rfl rfl (fun x hm u hx => hf.ev hm hx)
  unfold Gives
  rw [if_pos (by simp [Region.wanted]), e]
  exact ⟨Ext.rfl' _, rfl⟩
theorem GivesAll.call {d : Nat} {fo : Operand} {args : List Operand} {at_ : Array TypeId} {pos : String} {af : Array Edge} {fv : Value} {f : FuncId} {vs all : List Value} {φ : Value → World → Prop}
    (hf : ev F fo = some fv) (ha : evs F args = some vs) (hc : calls fv f vs all) (hok : callOk P f = true)
    (hC : CallsTo P f all w1 (fun v w' => φ v w' ∧ Ext w1 w')) :
    GivesAll n P ops ⟨some d, .call { callee := .value fo, args := args.toArray, argTypes := at_ }, ty, pos, af, none⟩ F w1 (.pred φ) := by
  intro a hfit
  have hr := run_call (P := P) (w := w1) (o := ⟨some d, .call { callee := .value fo, args := args.toArray, argTypes := at_ }, ty, pos, af, none⟩) (ρ := a.eval) rfl (fun x hm u hx => hfit.ev hm hx) hf ha hc hok
  unfold Gives
  rw [if_pos (by simp [Region.wanted]), hr]
  exact ⟨Ext.rfl' _, Calls.mono hC fun e w' ⟨v, h1, h2, h3⟩ => ⟨v, h1, h3, w', Ext.rfl' _, h2⟩⟩
theorem GivesAll.callv {d : Nat} {fo : Operand} {args : List Operand} {at_ : Array TypeId} {pos : String} {af : Array Edge} {fv : Value} {f : FuncId} {vs all : List Value} {v : Value}
    (hf : ev F fo = some fv) (ha : evs F args = some vs) (hc : calls fv f vs all) (hok : callOk P f = true)
    (hC : CallsTo P f all w1 (fun v' w' => v' = v ∧ Ext w1 w')) :
    GivesAll n P ops ⟨some d, .call { callee := .value fo, args := args.toArray, argTypes := at_ }, ty, pos, af, none⟩ F w1 (.val v) := by
  intro a hfit
  have hr := run_call (P := P) (w := w1) (o := ⟨some d, .call { callee := .value fo, args := args.toArray, argTypes := at_ }, ty, pos, af, none⟩) (ρ := a.eval) rfl (fun x hm u hx => hfit.ev hm hx) hf ha hc hok
  unfold Gives
  rw [if_pos (by simp [Region.wanted]), hr]
  exact ⟨Ext.rfl' _, Calls.mono hC fun e w' ⟨v', h1, h2, h3⟩ => ⟨v', h1, h3, h2⟩⟩
end

section
variable {n : Nat} {P : Program} {F : Frm} {w : World} {ty : TypeId}
/-- []byte of a constant: the bytes that were just laid. -/
theorem M.b2b {x : Operand} {s e : TypeId} {g base c t : Nat} {xs : List UInt8} (hx : ev F x = some (.slice (some ⟨g, 0, none⟩) xs.length c)) (ho : Own encU8 w base t (.slice (some ⟨g, 0, none⟩) xs.length c) xs) (hs : P.underlying s = some (.slice e)) (he : P.underlying e = some (.int .u8)) :
    Makes P w F (.convert s s x) ty (fun v w' => v = .slice (some ⟨g, 0, none⟩) xs.length c ∧ w.grownBy w' (some g) ∧ w'.heap.size = w.heap.size ∧ Sl encU8 w' g (g + 1) v xs) := fun o ρ ho' _ hρ => by
  have h0 := ho
  rcases ho.2 with ⟨h', _⟩ | ⟨g', cap, cur, h', r2, r3, r4, r5, r6, r7⟩
  · simp at h'
  simp only [Value.slice.injEq, Option.some.injEq, Addr.mk.injEq, and_true, true_and] at h'
  obtain ⟨rfl, rfl⟩ := h'
  have hsh : w.shape? g = some (t, cur.size) := by simp [World.shape?, r3]
  have hfz : ∀ (off k b : Nat), (w.freeze ⟨g, off, none⟩ k).heap[b]? = if k ≠ 0 ∧ b = g then some (.cells cur t (if (0 : Nat) == 0 then (off, off + k) else (min 0 off, max 0 (off + k)))) else w.heap[b]? := by
    intro off k b
    by_cases hk : k = 0
    · simp [World.freeze, hk]
    · by_cases hb : b = g
      · subst hb
        have hlt := (Array.getElem?_eq_some_iff.1 r3).1
        have hge := (Array.getElem?_eq_some_iff.1 r3).2
        simp [World.freeze, hk, Array.getElem?_modify, r3]
      · simp [World.freeze, hk, Array.getElem?_modify, hb, Ne.symm hb]
  refine ⟨_, w.freeze ⟨g, cur.size, none⟩ 1, ?_, rfl, ⟨?_, ?_, ?_, ?_, ?_⟩, ?_, ?_⟩
  · simp only [execOp, ho', hρ x (by simp [Op.operands]) _ hx]
    simp [convert, run_underlying hs, run_underlying he, markStringish, hsh]
  · simp [World.freeze]
  · simp [World.freeze]
  · simp [World.freeze]
  · simp [World.freeze]
  · intro k hk hne
    rw [hfz, if_neg (by rintro ⟨_, rfl⟩; exact hne rfl)]
  · simp [World.freeze]
  · refine ⟨_, c, rfl, r4, r5, fun _ => ⟨_, rfl, Nat.le_refl _, Nat.lt_succ_self _, fun j u hu => ?_⟩⟩
    have h1 := World.ownsRow.cells h0 (g := g) rfl j u hu
    rw [Addr.add_lit, Nat.zero_add] at h1 ⊢
    have h2 := hfz cur.size 1 g
    simp only [ne_eq, Nat.one_ne_zero, not_false_eq_true, and_self, if_true] at h2
    unfold World.cell? at h1 ⊢
    rw [r3] at h1
    rw [h2]
    exact h1

/-- A library function that the model answers by itself. -/
theorem R.extern {args : List Operand} {at_ : Array TypeId} {f : FuncId} {vs : List Value} {v : Value} (ha : evs F args = some vs) (hC : (callFunc f vs.toArray).run P w = .ok (.value v) w) :
    Runs P w F (.call { callee := .value (.func f), args := args.toArray, argTypes := at_ }) ty v := fun o ρ ho _ hρ => by
  have h1 : ρ (.func f) = .func (.func f) #[] #[] := hρ (.func f) (by simp [Op.operands, Call.operands]) _ rfl
  have h2 : args.map ρ = vs := evs_map args vs (fun x hx => hρ x (by simp [Op.operands, Call.operands, hx])) ha
  simp only [execOp, ho, resolve, h1, List.map_toArray, h2, Deferred.ofValue, Sem.run_bind, Sem.run_pure, Result.andThen_ok, invoke]
  have e : (#[] ++ vs.toArray ++ #[] : Array Value) = vs.toArray := by simp
  rw [e, hC]
end
end Go.G
