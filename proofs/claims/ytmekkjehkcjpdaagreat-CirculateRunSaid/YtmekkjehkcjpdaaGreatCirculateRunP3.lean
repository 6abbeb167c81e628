/-
  What the proof rests on: part 3 of 14.
-/
import Derived.Test.YtmekkjehkcjpdaaGreatCirculateRunP2
import Derived.Maps.AppendAt
import Derived.Laws.OwnMore
import Derived.Laws.MakeOwn
section
namespace Go.G
open Go Go.RowKit

section
variable {n : Nat} {P : Program} {ops : Array Oper} {Q : Exit → Act → World → Prop} {F : Frm} {w w' w0 : World} {r : List Oper} {Z : Frm → World → Prop} {ty : TypeId}

def vals : Frm → Bool
  | [] => true
  | (_, .val _) :: r => vals r
  | _ :: _ => false

def remove (t : Nat) : Frm → Frm
  | [] => []
  | (s, i) :: r => match Nat.beq s t with
    | true => remove t r
    | false => (s, i) :: remove t r
theorem look_remove {t s : Nat} (h : s ≠ t) : ∀ F : Frm, look s (remove t F) = look s F
  | [] => rfl
  | (u, i) :: r => by
    by_cases e : u = t
    · subst e
      simp only [remove, Nat.beq_refl]
      rw [look_cons_ne (Ne.symm h)]; exact look_remove h r
    · simp only [remove, beq_ne e]
      by_cases e2 : u = s
      · subst e2; rw [look_cons_eq, look_cons_eq]
      · rw [look_cons_ne e2, look_cons_ne e2]; exact look_remove h r

def Makes (P : Program) (w : World) (F : Frm) (op : Go.Op) (ty : TypeId) (R : Value → World → Prop) : Prop :=
  ∀ (o : Oper) (ρ : Operand → Value), o.op = op → o.type = ty → (∀ x ∈ op.operands, ∀ u, ev F x = some u → ρ x = u) → ∃ v w', (execOp ρ o).run P w = .ok (.value v) w' ∧ R v w'
def Does (P : Program) (w : World) (F : Frm) (op : Go.Op) (ty : TypeId) (R : World → Prop) : Prop :=
  ∀ (o : Oper) (ρ : Operand → Value), o.op = op → o.type = ty → (∀ x ∈ op.operands, ∀ u, ev F x = some u → ρ x = u) → ∃ w', (execOp ρ o).run P w = .ok .skip w' ∧ R w'


def callOk (P : Program) (f : FuncId) : Bool := match P.funcs[f]? with
  | some fn => fn.body.isSome && !(fn.name == "runtime.NumGoroutine")
  | none => false
theorem run_callFunc {f : FuncId} (h : callOk P f = true) (args : Array Value) : (callFunc f args).run P w = .ok (.enter f args) w := by
  unfold callOk at h
  split at h
  · rename_i fn hf
    simp only [Bool.and_eq_true, Bool.not_eq_true', beq_eq_false_iff_ne, ne_eq] at h
    have hb : fn.body.isNone = false := by cases hh : fn.body <;> simp_all
    have hn : (fn.name == "runtime.NumGoroutine") = false := by simpa using h.2
    have hp : (program : Sem Program).run P w = .ok P w := rfl
    rw [callFunc, Sem.run_bind, hp]
    simp only [Result.andThen_ok, hf, hn, hb]
    rfl
  · cases h

def evs (F : Frm) : List Operand → Option (List Value)
  | [] => some []
  | x :: r => match ev F x, evs F r with
    | some v, some vs => some (v :: vs)
    | _, _ => none
theorem evs_map {ρ : Operand → Value} : ∀ (l : List Operand) (vs : List Value), (∀ x ∈ l, ∀ u, ev F x = some u → ρ x = u) → evs F l = some vs → l.map ρ = vs
  | [], vs, _, h => by simp [evs] at h; simp [h]
  | x :: r, vs, hρ, h => by
    simp only [evs] at h
    split at h
    · rename_i v vs' h1 h2
      simp only [Option.some.injEq] at h
      subst h
      rw [List.map_cons, hρ x yE v h1, evs_map r vs' (fun y hy => hρ y (by simp [hy])) h2]
    · cases h

def calls (f : Value) (f' : FuncId) (vs : List Value) (all : List Value) : Prop := match f with
  | .func (.func g) first captured => g = f' ∧ all = first.toList ++ vs ++ captured.toList
  | _ => False

theorem run_call {o : Oper} {ρ : Operand → Value} {fo : Operand} {args : List Operand} {at_ : Array TypeId} {fv : Value} {f : FuncId} {vs all : List Value} (ho : o.op = .call { callee := .value fo, args := args.toArray, argTypes := at_ })
    (hρ : ∀ x ∈ (Op.call { callee := .value fo, args := args.toArray, argTypes := at_ }).operands, ∀ u, ev F x = some u → ρ x = u)
    (hf : ev F fo = some fv) (ha : evs F args = some vs) (hc : calls fv f vs all) (hok : callOk P f = true) : (execOp ρ o).run P w = .ok (.enter f all.toArray) w := by
  have h1 : ρ fo = fv := hρ fo yY fv hf
  have h2 : args.map ρ = vs := evs_map args vs (fun x hx => hρ x (by simp [Op.operands, Call.operands, hx])) ha
  unfold calls at hc
  split at hc
  · rename_i g first captured
    obtain ⟨rfl, rfl⟩ := hc
    simp only [execOp, ho, resolve, h1, List.map_toArray, h2, Deferred.ofValue, Sem.run_bind, Sem.run_pure, Result.andThen_ok, invoke]
    rw [run_callFunc hok]
    congr 2
    apply Array.ext'
    simp
  · exact hc.elim

end
end Go.G
end
section
namespace Go.G
open Go Go.RowKit

def Own {α : Type} (E : Enc α) (w : World) (base : Nat) (t : TypeId) (v : Value) (xs : List α) : Prop := w.ownsRow base t E.sz v xs.length (E.all xs)


section
variable {α : Type} {E : Enc α} {w w' : World} {base : Nat} {t : TypeId} {v : Value} {xs : List α}
theorem Own.nil (E : Enc α) (w : World) (base : Nat) (t : TypeId) : Own E w base t (.slice none 0 0) [] := World.ownsRow_nil w base t E.sz
theorem Own.lt (h : Own E w base t v xs) : ∀ k, v.ownBlock = some k → base ≤ k ∧ k < w.heap.size := World.ownsRow.lt h
theorem Own.mono (h : Own E w base t v xs) {b : Nat} (hb : b ≤ base) : Own E w b t v xs := by
  refine ⟨h.1, ?_⟩
  rcases h.2 with h2 | ⟨g, cap, cur, r1, r2, r3⟩
  · exact .inl h2
  · exact .inr ⟨g, cap, cur, r1, xA, r3⟩
theorem Own.sl_at (h : Own E w base t v xs) {lo hi : Nat} (hb : ∀ g, v.ownBlock = some g → lo ≤ g ∧ g < hi) : Sl E w lo hi v xs := by
  rcases h.2 with ⟨rfl, h0⟩ | ⟨g, cap, cur, rfl, r2, r3, r4, r5, r6⟩
  · have : xs = [] := List.eq_nil_of_length_eq_zero h0
    subst this
    exact Sl.nil E w lo hi
  · have hg := hb g rfl
    exact ⟨_, cap, rfl, r4, r5, fun _ => ⟨_, rfl, hg.1, hg.2, World.ownsRow.cells h (g := g) rfl⟩⟩
theorem Own.sl (h : Own E w base t v xs) : Sl E w base w.heap.size v xs := h.sl_at h.lt
end

section
variable {n : Nat} {P : Program} {F : Frm} {w w' : World} {ty : TypeId} {α : Type} {E : Enc α}

theorem M.alloc {t : TypeId} {z : Value} (hz : (P.info? t).bind (·.zero) = some z) :
    Makes P w F (.alloc t) ty (fun v w' => ∃ g, v = .pointer (some ⟨g, 0, none⟩) ∧ g = w.heap.size ∧ w'.heap.size = g + 1 ∧ Ext w w' ∧ Blk w' g t z.cells.toList) := fun o ρ ho _ _ => by
  obtain ⟨i, hi, hz⟩ := Option.bind_eq_some_iff.1 hz
  refine ⟨_, w.alloc (.cells z.cells t), ?_, w.heap.size, rfl, rfl, by simp, (Below.refl _ _).alloc (Nat.le_refl _) _, ?_⟩
  · simp only [execOp, ho]
    simp [Instr.alloc, zeroValue, typeInfo, hi, hz, newVar, newRow]
  · unfold Blk
    simp only [Array.toArray_toList]
    exact heap_alloc_new w _
theorem M.box {t : TypeId} {x : Operand} {u : Value} {cs : List Value} (hx : ev F x = some u) (hc : u.cells = cs.toArray) :
    Makes P w F (.box t x) ty (fun v w' => ∃ g, v = .pointer (some ⟨g, 0, none⟩) ∧ g = w.heap.size ∧ w'.heap.size = g + 1 ∧ Ext w w' ∧ Blk w' g t cs) := fun o ρ ho _ hρ => by
  refine ⟨_, w.alloc (.cells cs.toArray t), ?_, w.heap.size, rfl, rfl, by simp, (Below.refl _ _).alloc (Nat.le_refl _) _, heap_alloc_new w _⟩
  simp only [execOp, ho, hρ x xH _ hx]
  simp [Instr.box, newVar, newRow, hc]

def cells1 (vs : List Value) : Bool := vs.all (·.oneCell')
theorem D.store {t tb : TypeId} {x y : Operand} {g o : Nat} {u : Value} {vs cs : List Value} (hx : ev F x = some (.pointer (some ⟨g, o, none⟩))) (hy : ev F y = some u) (hu : u.cells = vs.toArray) {m : Nat} (hs : (P.info? t).map (·.size) = some m) (hm : vs.length = m)
    (hb : Blk w g tb cs) (hfit : o + vs.length ≤ cs.length) (h1 : cells1 vs = true) :
    Does P w F (.store t x y) ty (fun w' => Blk w' g tb (cs.take o ++ vs ++ cs.drop (o + vs.length)) ∧ w.grownBy w' (some g) ∧ w'.heap.size = w.heap.size) := fun op ρ ho _ hρ => by
  subst hm
  obtain ⟨i, hi, hs⟩ := Option.map_eq_some_iff.1 hs
  have hst := run_storeCells_at P g o tb vs 0 cs.toArray w hb (by simpa using hfit) (fun v hv => List.all_eq_true.1 h1 v hv)
  simp only [Nat.add_zero] at hst
  refine ⟨w.setRow g (cs.take o ++ vs ++ cs.drop (o + vs.length)).toArray, ?_, setRow_heap w g cs.toArray _ tb _ hb, ⟨rfl, rfl, rfl, by simp, fun k _ hk => setRow_other w g k _ (fun e => hk (by simp [e]))⟩, by simp⟩
  simp only [execOp, ho, hρ x xH _ hx, hρ y xH _ hy]
  have hsv : (storeVar t ⟨g, o, none⟩ u).run P w = .ok () (w.setRow g (cs.take o ++ vs ++ cs.drop (o + vs.length)).toArray) := by
    unfold storeVar
    simp only [Sem.run_bind, sizeOf, typeInfo]
    rw [show (program : Sem Program).run P w = .ok P w from rfl]
    simp only [Result.andThen_ok, hi, hu, Sem.run_pure, hs, List.size_toArray, ne_eq, not_true_eq_false, if_false]
    exact hst
  simp only [Sem.run_bind, Instr.storeAt, Instr.sureAddr, Sem.run_pure, Result.andThen_ok, hsv]





theorem M.make {t e : TypeId} {x y : Operand} {k k' : IntKind} {m : Nat} {z : Value} {zx : α} {inf : TypeInfo} (hx : ev F x = some (.int k (m : Int))) (hy : ev F y = some (.int k' (m : Int))) (ht : P.underlying t = some (.slice e)) (hi : P.info? e = some inf) (hz : inf.zero = some z) (hs : inf.size = E.sz)
    (hzx : z.cells = (E.cells zx).toArray) (hbytes : inf.bytes * m ≤ 281474976710656) (hm : m ≤ 9223372036854775807) :
    Makes P w F (.makeSlice t x y) ty (fun v w' => ∃ g, v = .slice (some ⟨g, 0, none⟩) m m ∧ g = w.heap.size ∧ w'.heap.size = g + 1 ∧ Ext w w' ∧ Own E w' g e v (List.replicate m zx)) := fun o ρ ho _ hρ => by
  have hb' : (inf.bytes : Int) * (m : Int) ≤ 281474976710656 := by
    have h : ((inf.bytes * m : Nat) : Int) ≤ 281474976710656 := by omega
    rwa [Int.natCast_mul] at h
  have hr := run_make (P := P) w t e inf z ht hi hz k k' m m xA (Int.le_refl _) hb' xA
  simp only [Int.toNat_natCast] at hr
  have hcells : (madeCells z.cells (m * inf.size)).toList = E.all (List.replicate m zx) := by
    rw [hs, hzx]
    apply List.ext_getElem?
    intro j
    by_cases hj : j < m * E.sz
    · have hj2 : j < (E.all (List.replicate m zx)).length := by rw [E.all_length]; simpa using hj
      have hp := E.pos
      have hq : j / E.sz < m := Nat.div_lt_of_lt_mul (by rw [Nat.mul_comm]; exact hj)
      have h1 : (madeCells (E.cells zx).toArray (m * E.sz)).toList[j]? = (E.cells zx)[j % E.sz]? := by
        have hmod : j % E.sz < E.sz := Nat.mod_lt _ hp
        simp [madeCells, hj, E.len, hmod]
      have h2 : (E.all (List.replicate m zx))[j]? = (E.cells zx)[j % E.sz]? := by
        have ha := E.all_drop (List.replicate m zx) (j / E.sz)
        have hd : j = j / E.sz * E.sz + j % E.sz := by rw [Nat.mul_comm]; exact (Nat.div_add_mod j E.sz).symm
        have : (E.all (List.replicate m zx))[j]? = ((E.all (List.replicate m zx)).drop (j / E.sz * E.sz))[j % E.sz]? := by
          rw [List.getElem?_drop, ← hd]
        rw [this, ha, List.drop_replicate]
        obtain ⟨q, hq2⟩ : ∃ q, m - j / E.sz = q + 1 := ⟨m - j / E.sz - 1, xA⟩
        rw [hq2, List.replicate_succ]
        simp only [Enc.all, List.flatMap_cons]
        rw [List.getElem?_append_left (by rw [E.len]; exact Nat.mod_lt _ hp)]
      rw [h1, h2]
    · rw [List.getElem?_eq_none (by simp [madeCells]; omega), List.getElem?_eq_none (by rw [E.all_length]; simp; omega)]
  refine ⟨_, w.alloc (.cells (madeCells z.cells (m * inf.size)) e), ?_, w.heap.size, rfl, rfl, by simp, (Below.refl _ _).alloc (Nat.le_refl _) _, ?_⟩
  · simp only [execOp, ho, hρ x xH _ hx, hρ y xH _ hy]
    simp only [Sem.run_bind, hr, Result.andThen_ok]; rfl
  · have h1 := World.ownsRow_lit (base := w.heap.size) (e := e) (size := E.sz) w (madeCells z.cells (m * inf.size)) m (Nat.le_refl _) (by simp only [maxLen]; omega) (by rw [hs]; exact size_madeCells _ _)
    rw [hcells] at h1
    unfold Own
    simpa using h1

theorem run_append_of_nil' (w : World) (base : Nat) (t ty e : TypeId) (i : TypeInfo) (size : Nat) (ht : P.underlying t = some (.slice e)) (hi : P.info? e = some i)
    (v : Value) (n : Nat) (xs : List Value) (hown : w.ownsRow base e size v n xs) (c : Nat) : (Builtin.append_ #[t, t] ty #[v, .slice none 0 c]).run P w = .ok v w := by
  rcases hown.2 with ⟨rfl, rfl⟩ | ⟨g, cap, cur, rfl, _, _, hnc, _⟩
  · simp [Builtin.append_, run_underlying ht, sizeOf, typeInfo, hi, Builtin.lenOf, Builtin.firstCells]
  · simp [Builtin.append_, run_underlying ht, sizeOf, typeInfo, hi, Builtin.lenOf, Builtin.firstCells, hnc, storeCells]

theorem M.append {t e : TypeId} {x y : Operand} {v u : Value} {base lo hi : Nat} {xs ys : List α} {inf : TypeInfo} {z : Value} (hx : ev F x = some v) (hy : ev F y = some u) (ho : Own E w base e v xs) (hs : Sl E w lo hi u ys)
    (ht : P.underlying t = some (.slice e)) (hi' : P.info? e = some inf) (hz : inf.zero = some z) (hsz : inf.size = E.sz) (hzs : z.cells.size = E.sz) (h1 : ∀ y ∈ ys, cells1 (E.cells y) = true)
    (hbytes : (xs.length + ys.length) * inf.bytes ≤ 140737488355328) (hlen : xs.length + ys.length ≤ 9223372036854775807) (hbase : base ≤ w.heap.size) :
    Makes P w F (.call { callee := .builtin .append, args := #[x, y], argTypes := #[t, t] }) ty
      (fun v' w' => Own E w' base e v' (xs ++ ys) ∧ w.grownBy w' v.ownBlock ∧ (v'.ownBlock = v.ownBlock ∨ v'.ownBlock = some w.heap.size)) := fun o ρ ho' hty hρ => by
  have hmx : x ∈ (Op.call { callee := .builtin .append, args := #[x, y], argTypes := #[t, t] }).operands := by simp [Op.operands, Call.operands]
  have hmy : y ∈ (Op.call { callee := .builtin .append, args := #[x, y], argTypes := #[t, t] }).operands := by simp [Op.operands, Call.operands]
  have hcl : ∀ u ∈ E.all ys, u.oneCell' = true := by
    intro q hq
    simp only [Enc.all, List.mem_flatMap] at hq
    obtain ⟨y, hy1, hy2⟩ := hq
    exact List.all_eq_true.1 (h1 y hy1) q hy2
  have key : ∃ v' w', (Builtin.append_ #[t, t] o.type #[v, u]).run P w = .ok v' w' ∧ Own E w' base e v' (xs ++ ys) ∧ w.grownBy w' v.ownBlock ∧ (v'.ownBlock = v.ownBlock ∨ v'.ownBlock = some w.heap.size) := by
    obtain ⟨A, c, rfl, q2, q3, q4⟩ := hs.out
    rcases A with _ | a
    · have hne : ys = [] := by
        by_cases h : ys = []
        · exact h
        · obtain ⟨a, h2, _⟩ := q4 h
          cases h2
      subst hne
      exact ⟨v, w, run_append_of_nil' w base t o.type e inf E.sz ht hi' v xs.length (E.all xs) ho c, by simpa using ho, World.grownBy.refl w _, .inl rfl⟩
    · have hat : At w a (E.all ys) := by
        by_cases h : ys = []
        · subst h; intro j u hu; simp [Enc.all] at hu
        · obtain ⟨a', h2, _, _, h3⟩ := q4 h
          cases h2
          exact h3
      obtain ⟨v', w', r1, r2, r3, _, r5⟩ := run_append_own_at (P := P) w base t o.type e inf z E.sz inf.bytes ht hi' hz hsz rfl hzs E.pos v xs.length (E.all xs) ho a ys.length c (E.all ys) (E.all_length ys) hat hcl (by simp only [maxLen]; omega) hbytes hbase
      refine ⟨v', w', r1, ?_, r3, r5⟩
      unfold Own
      rw [E.all_append, List.length_append]
      exact r2
  obtain ⟨v', w', k1, k2⟩ := key
  refine ⟨v', w', ?_, k2⟩
  simp only [execOp, ho', resolve, invoke, builtin, Sem.run_bind, Sem.run_pure, Result.andThen_ok, List.map_toArray, List.map_cons, List.map_nil, hρ x hmx _ hx, hρ y hmy _ hy, k1]
end
end Go.G
end
