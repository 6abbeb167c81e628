/-
  What the proof rests on: part 9 of 14.
-/
import Derived.Test.YtmekkjehkcjpdaaGreatCirculateRunP8
import Derived.MapKept
section
namespace Go.H
open Go Go.RowKit
open Go.G (Ext Gr Blk)
open Go.MapKept (run_findKey run_checkKey heap_set heap_alloc IsKey)

section
variable {α β : Type} [DecidableEq α]
def mfind (a : α) : List (α × β) → Nat → Option (Nat × β)
  | [], _ => none
  | p :: r, i => if a = p.1 then some (i, p.2) else mfind a r (i + 1)
def mget (l : List (α × β)) (a : α) (d : β) : β := ((mfind a l 0).map (·.2)).getD d
def mhas (l : List (α × β)) (a : α) : Bool := (mfind a l 0).isSome
def mset (l : List (α × β)) (a : α) (v : β) : List (α × β) := match mfind a l 0 with
  | some (i, _) => l.set i (a, v)
  | none => l ++ [(a, v)]
theorem mfind_at {a : α} : ∀ {l : List (α × β)} {i j : Nat} {v : β}, mfind a l i = some (j, v) → i ≤ j ∧ l[j - i]? = some (a, v)
  | [], i, j, v, h => by simp [mfind] at h
  | p :: r, i, j, v, h => by
    rw [mfind] at h
    split at h
    · rename_i e
      simp only [Option.some.injEq, Prod.mk.injEq] at h
      obtain ⟨rfl, rfl⟩ := h
      exact ⟨Nat.le_refl _, by rw [Nat.sub_self, e]; rfl⟩
    · obtain ⟨h1, h2⟩ := mfind_at h
      exact ⟨xA, by rw [show j - i = (j - (i + 1)) + 1 by omega, List.getElem?_cons_succ]; exact h2⟩
theorem mfind_set {a b : α} {v : β} : ∀ {l : List (α × β)} {i j : Nat} {u : β}, mfind a l i = some (j, u) → mfind b (l.set (j - i) (a, v)) i = if b = a then some (j, v) else mfind b l i
  | [], i, j, u, h => by simp [mfind] at h
  | p :: r, i, j, u, h => by
    rw [mfind] at h
    split at h
    · rename_i e
      simp only [Option.some.injEq, Prod.mk.injEq] at h
      obtain ⟨rfl, rfl⟩ := h
      rw [Nat.sub_self, List.set_cons_zero, mfind]
      by_cases hb : b = a
      · rw [if_pos hb, if_pos hb]
      · rw [if_neg hb, if_neg hb, mfind, if_neg (fun e' => hb (e'.trans e.symm))]
    · rename_i hne
      obtain ⟨h1, _⟩ := mfind_at h
      rw [show j - i = (j - (i + 1)) + 1 by omega, List.set_cons_succ, mfind, mfind, mfind_set h]
      by_cases hp : b = p.1
      · rw [if_pos hp, if_pos hp, if_neg (fun e => hne (e.symm.trans hp))]
      · rw [if_neg hp, if_neg hp]
theorem mfind_app {a b : α} {v : β} : ∀ {l : List (α × β)} {i : Nat}, mfind a l i = none → mfind b (l ++ [(a, v)]) i = if b = a then some (i + l.length, v) else mfind b l i
  | [], i, _ => by simp [mfind]
  | p :: r, i, h => by
    rw [mfind] at h
    split at h
    · cases h
    · rename_i hne
      rw [List.cons_append, mfind, mfind, mfind_app h]
      by_cases hp : b = p.1
      · rw [if_pos hp, if_pos hp, if_neg (fun e => hne (e.symm.trans hp))]
      · rw [if_neg hp, if_neg hp, List.length_cons, show i + 1 + r.length = i + (r.length + 1) by omega]
theorem mfind_mset (l : List (α × β)) (a b : α) (v : β) : (mfind b (mset l a v) 0).map (·.2) = if b = a then some v else (mfind b l 0).map (·.2) := by
  unfold mset
  split
  · rename_i i u h
    rw [show l.set i (a, v) = l.set (i - 0) (a, v) from rfl, mfind_set h]
    split <;> rfl
  · rename_i h
    rw [mfind_app h]
    split <;> rfl
theorem mget_mset (l : List (α × β)) (a b : α) (v d : β) : mget (mset l a v) b d = if b = a then v else mget l b d := by
  unfold mget
  rw [mfind_mset]
  split <;> rfl
@[simp] theorem mget_nil (a : α) (d : β) : mget ([] : List (α × β)) a d = d := rfl
@[simp] theorem mhas_nil (a : α) : mhas ([] : List (α × β)) a = false := rfl
def mins (l : List (α × β)) (a : α) (d : β) : List (α × β) := match mfind a l 0 with
  | some _ => l
  | none => l ++ [(a, d)]
def midx (l : List (α × β)) (a : α) : Nat := match mfind a l 0 with
  | some (i, _) => i
  | none => l.length
def mdel (l : List (α × β)) (a : α) : List (α × β) := match mfind a l 0 with
  | some (i, _) => l.eraseIdx i
  | none => l
def mpE (kf : α → Value) (vf : β → Value) (l : List (α × β)) : List (Value × Value) := l.map fun p => (kf p.1, vf p.2)
end

def efind {α : Type} [DecidableEq α] (a : α) : List α → List MapEntry → Nat → Option (Nat × Value)
  | k :: ks, e :: es, i => if a = k then some (i, e.val) else efind a ks es (i + 1)
  | _, _, _ => none
structure KeyOk {α : Type} [DecidableEq α] (P : Program) (kt : TypeId) (kf : α → Value) : Prop where
  find : ∀ (w : World) (es : List MapEntry) (ks : List α) (a : α), es.map (·.key) = ks.map kf → (Instr.findKey kt (kf a) es).run P w = .ok (efind a ks es 0) w
  check : ∀ (w : World) (b : Bool) (a : α), (Instr.checkKey b 10000 kt (kf a)).run P w = .ok () w
  bits : ∀ a : α, Instr.sameBits 10000 (kf a) (kf a) = true
theorem findNow_int {k : IntKind} {a : Int} : ∀ (es : List MapEntry) (ks : List Int) (i : Nat), es.map (·.key) = ks.map (fun x => Value.int k x) → Instr.findNow (.int k) (.int k a) es i = some (efind a ks es i)
  | [], [], i, _ => rfl
  | [], _ :: _, i, h => by simp at h
  | _ :: _, [], i, h => by simp at h
  | e :: es, x :: ks, i, h => by
    simp only [List.map_cons, List.cons.injEq] at h
    rw [Instr.findNow, h.1, efind]
    by_cases c : a = x
    · simp [Instr.sameNow, c]
    · have c' : (a == x) = false := by simpa using c
      simp [Instr.sameNow, c, c', findNow_int es ks (i + 1) h.2]
theorem KeyOk.int {P : Program} {kt : TypeId} {k : IntKind} (h : P.underlying kt = some (.int k)) : KeyOk P kt (fun a : Int => Value.int k a) where
  find w es ks a he := run_findKey h (findNow_int es ks 0 he)
  check w b a := run_checkKey h (by simp [IsKey]) b 9999
  bits a := by simp [Instr.sameBits]
theorem efind_mfind {α β : Type} [DecidableEq α] {kf : α → Value} {vf : β → Value} {a : α} : ∀ {l : List (α × β)} {es : List MapEntry} {i : Nat}, es.map (fun e => (e.key, e.val)) = mpE kf vf l → efind a (l.map (·.1)) es i = (mfind a l i).map fun p => (p.1, vf p.2)
  | [], [], i, _ => rfl
  | [], _ :: _, i, h => by simp [mpE] at h
  | _ :: _, [], i, h => by simp [mpE] at h
  | p :: l, e :: es, i, h => by
    simp only [mpE, List.map_cons, List.cons.injEq, Prod.mk.injEq] at h
    rw [List.map_cons, efind, mfind, h.1.2]
    by_cases c : a = p.1
    · rw [if_pos c, if_pos c]; rfl
    · rw [if_neg c, if_neg c, efind_mfind h.2]
theorem mp_find {α β : Type} [DecidableEq α] {P : Program} {kt : TypeId} {kf : α → Value} {vf : β → Value} (hk : KeyOk P kt kf) {w : World} {l : List (α × β)} {es : List MapEntry} (h : es.map (fun e => (e.key, e.val)) = mpE kf vf l) (a : α) :
    (Instr.findKey kt (kf a) es).run P w = .ok ((mfind a l 0).map fun p => (p.1, vf p.2)) w := by
  rw [hk.find w es (l.map (·.1)) a, efind_mfind h]
  have := congrArg (List.map Prod.fst) h
  simpa [mpE, Function.comp_def] using this
theorem mp_key {α β : Type} {kf : α → Value} {vf : β → Value} {l : List (α × β)} {es : Array MapEntry} (h : es.toList.map (fun e => (e.key, e.val)) = mpE kf vf l) {i : Nat} {a : α} {v : β} (hi : l[i]? = some (a, v)) : ∃ e, es[i]? = some e ∧ e.key = kf a ∧ e.val = vf v := by
  have h1 : (es.toList.map (fun e => (e.key, e.val)))[i]? = some (kf a, vf v) := by rw [h, mpE, List.getElem?_map, hi]; rfl
  rw [List.getElem?_map, Option.map_eq_some_iff] at h1
  obtain ⟨e, h1, h2⟩ := h1
  simp only [Prod.mk.injEq] at h2
  exact ⟨e, by simpa using h1, h2.1, h2.2⟩
theorem run_stays {P : Program} {w : World} {k : Value} (h : Instr.sameBits 10000 k k = true) : (Instr.keyThatStays k k).run P w = .ok k w := by
  unfold Instr.keyThatStays
  rw [if_pos h]; rfl
theorem set_pairs {es : Array MapEntry} {i : Nat} {e e' : MapEntry} (h : es[i]? = some e) : (es.modify i fun _ => e').toList.map (fun e => (e.key, e.val)) = (es.toList.map (fun e => (e.key, e.val))).set i (e'.key, e'.val) := by
  rw [← List.map_set]
  congr 1
  apply List.ext_getElem?
  intro j
  rw [Array.getElem?_toList, Array.getElem?_modify, List.getElem?_set, Array.getElem?_toList]
  have hi := (Array.getElem?_eq_some_iff.1 h).1
  by_cases c : i = j
  · subst c; rw [if_pos rfl, if_pos rfl, h]; simp [hi]
  · rw [if_neg c, if_neg c]

section
variable {c : Ctx} {P : Program} {F : Frm} {S : Sto} {ops : Array Oper} {d : Nat} {ty : TypeId} {pos : String} {af : Array Edge} {gd : Option (Nat × Bool)} {α β : Type} [DecidableEq α] {kf : α → Value} {vf : β → Value}
theorem O.makeMap {t : TypeId} (k : Nat) (hd : Nat.blt d c.n = true) (hg : Taken ops F gd) : OpOk c P ops ⟨some d, .makeMap t none, ty, pos, af, gd⟩ F S [k] [k] (some (.own k)) [(k, some (.mp []))] := by
  refine OpOk.mem hd hg fun σ τ a w hA _ hN h => ?_
  have hx := (Ext.rfl' w).alloc (Nat.le_refl _) (.map #[] 0)
  have := h.new (k := k) (sb := .mp []) (v := .map (some w.heap.size)) hN hx (fun b hb => by cases hb; exact Nat.le_refl _)
    (fun _ => ⟨w.heap.size, #[], 0, upτ_eq, (heap_alloc w _).1, rfl⟩)
  refine ⟨.map (some w.heap.size), _, _, ?_, this.1, ?_⟩
  · simp [execOp, Instr.makeMap, newObj, Sem.run]
  · have hr := RepI.own (τ := upτ τ k (.map (some w.heap.size))) (w := w.alloc (.map #[] 0)) (ok := okOf c (upτ τ k (.map (some w.heap.size))) (σ.upd none none [(k, some (.mp []))]).sto) k (by rw [upτ_eq]; rfl)
    rwa [upτ_eq] at hr
theorem mp_at {σ : Sig} {τ : Nat → Value} {a : Act} {w : World} {k : Nat} {ps : List (Value × Value)} (h : SatT c σ τ a w) (hk : σ.sto k = some (.mp ps)) {u : Value} (hu : RepI τ w (okOf c τ σ.sto) (.own k) u) :
    ∃ g es clk, u = .map (some g) ∧ τ k = .map (some g) ∧ w.heap[g]? = some (.map es clk) ∧ es.toList.map (fun e => (e.key, e.val)) = ps := by
  obtain ⟨g, es, clk, h1, h2, h3⟩ := h.sto k _ hk
  generalize e : IV.own k = j at hu
  cases hu with
  | own k' _ => cases e; exact ⟨g, es, clk, h1, h1, h2, h3⟩
  | _ => cases e
theorem O.lookup {x y : Operand} {t kt et : TypeId} {k : Nat} {l : List (α × β)} {b : α} {z : β} (hx : ev F x = some (.own k)) (hS : lookS k S = some (.mp (mpE kf vf l))) (hy : ev F y = some (.u (.sc (kf b)))) (ht : P.underlying t = some (.map kt et)) (hk : KeyOk P kt kf)
    (hz : (P.info? et).bind (·.zero) = some (vf z)) (hd : Nat.blt d c.n = true) (hg : Taken ops F gd) : OpOk c P ops ⟨some d, .lookup t x y false, ty, pos, af, gd⟩ F S [k] [] (some (.u (.sc (vf (mget l b z))))) [] :=
  OpOk.val hd hg fun σ τ a w hA hB h => by
    obtain ⟨p1, p2⟩ := h.opd hA xH hx
    obtain ⟨q1, _⟩ := h.sc hA xH hy
    obtain ⟨g, es, clk, e1, _, e2, e3⟩ := mp_at h ((hB k yE).trans hS) p1
    obtain ⟨i, hi, hz⟩ := Option.bind_eq_some_iff.1 hz
    refine ⟨vf (mget l b z), ?_, .u (.sc _)⟩
    have hf := mp_find (P := P) (w := w) hk e3 b
    have hgo := Go.MapKept.run_getObj_map (P := P) e2
    have hck := hk.check w es.isEmpty b
    simp only [execOp, e1, q1]
    unfold mget
    cases hm : mfind b l 0 with
    | none => rw [hm] at hf; simp [Instr.lookup, run_underlying ht, hgo, hck, hf, zeroValue, typeInfo, hi, hz]
    | some p => rw [hm] at hf; simp [Instr.lookup, run_underlying ht, hgo, hck, hf]
theorem mp_turn {σ : Sig} {τ : Nat → Value} {a : Act} {w : World} {k g : Nat} {ps : List (Value × Value)} {o : Obj} (h : SatT c σ τ a w) (hk : σ.sto k = some (.mp ps)) (hg : τ k = .map (some g)) (ho : w.heap[g]? = some o) {es' : Array MapEntry} {clk : Nat} {ps' : List (Value × Value)}
    (h1 : es'.toList.map (fun e => (e.key, e.val)) = ps') :
    SatT c (σ.upd none none [(k, some (.mp ps'))]) τ a { w with heap := w.heap.setIfInBounds g (.map es' clk) } :=
  h.turn hk ⟨rfl, rfl, rfl, by simp, fun j hj hn => (heap_set ho).2 j (fun e => hn (by rw [hg, e]; rfl))⟩ fun _ => ⟨g, es', clk, hg, (heap_set ho).1, h1⟩
theorem O.mapUpdate {x y v : Operand} {t kt et : TypeId} {k : Nat} {l : List (α × β)} {b : α} {u : β} (hx : ev F x = some (.own k)) (hS : lookS k S = some (.mp (mpE kf vf l))) (hy : ev F y = some (.u (.sc (kf b)))) (hv : ev F v = some (.u (.sc (vf u))))
    (ht : P.underlying t = some (.map kt et)) (hk : KeyOk P kt kf) (hg : Taken ops F gd) : OpOk c P ops ⟨none, .mapUpdate t x y v, ty, pos, af, gd⟩ F S [k] [] none [(k, some (.mp (mpE kf vf (mset l b u))))] := by
  refine OpOk.does hg fun σ τ a w hA hB h => ?_
  obtain ⟨p1, p2⟩ := h.opd hA xH hx
  obtain ⟨q1, _⟩ := h.sc hA xH hy
  obtain ⟨q2, _⟩ := h.sc hA xH hv
  have h0 := (hB k yE).trans hS
  obtain ⟨g, es, clk, e1, e0, e2, e3⟩ := mp_at h h0 p1
  have hf := mp_find (P := P) (w := w) hk e3 b
  have hgo := Go.MapKept.run_getObj_map (P := P) e2
  have hck := hk.check w false b
  have hso := fun o => Go.MapKept.run_setObj_map (P := P) o e2
  unfold mset
  cases hm : mfind b l 0 with
  | none =>
    rw [hm] at hf
    refine ⟨_, τ, ?_, mp_turn h h0 e0 e2 (es' := es.push { key := kf b, val := vf u, born := clk }) (clk := clk + 1) (by simp [e3, mpE])⟩
    simp only [execOp, e1, q1, q2]
    simp [Instr.mapUpdate, run_underlying ht, hgo, hck, hf, hso]
  | some p =>
    obtain ⟨i, v0⟩ := p
    rw [hm] at hf
    obtain ⟨e, r1, r2, r3⟩ := mp_key e3 (mfind_at hm).2
    rw [Nat.sub_zero] at r1
    have hst : (Instr.keyThatStays (((es[i]?).map (·.key)).getD (kf b)) (kf b)).run P w = .ok (kf b) w := by rw [r1]; simp only [Option.map_some, Option.getD_some, r2]; exact run_stays (hk.bits b)
    refine ⟨_, τ, ?_, mp_turn h h0 e0 e2 (es' := es.modify i fun e => { e with key := kf b, val := vf u }) (clk := clk) ?_⟩
    · simp only [execOp, e1, q1, q2]
      simp [Instr.mapUpdate, run_underlying ht, hgo, hck, hf, hso, hst]
    · have hmod : (es.modify i fun e => { e with key := kf b, val := vf u }) = es.modify i fun _ => { e with key := kf b, val := vf u } := by
        apply Array.ext_getElem?
        intro j
        rw [Array.getElem?_modify, Array.getElem?_modify]
        split
        · rename_i c; subst c; rw [r1]; rfl
        · rfl
      rw [hmod, set_pairs r1, e3]
      simp [mpE, List.map_set]
end
end Go.H
end
section
namespace Go.H
open Go Go.RowKit
open Go.G (Ext Gr Blk)
mutual
def IV.fp (k : Nat) (us : List UV) : IV → IV
  | .u y => .u y
  | .own j => .own j
  | .ref j o => match Nat.beq j k with | true => .u (.ptr (us.drop o)) | false => .ref j o
  | .el j s i o => .el j s i o
  | .osl j s i o => .osl j s i o
  | .row j i m => .row j i m
  | .rel j i m => .rel j i m
  | .agg l => .agg (IV.fpL k us l)
  | .tup l => .tup (IV.fpL k us l)
  | .clo fn f c => .clo fn (IV.fpL k us f) (IV.fpL k us c)
  | .junk => .junk
termination_by structural i => i
def IV.fpL (k : Nat) (us : List UV) : List IV → List IV
  | [] => []
  | i :: r => i.fp k us :: IV.fpL k us r
termination_by structural l => l
end
section
variable {c : Ctx} {P : Program} {Q : Exit → Act → World → Prop} {F : Frm} {S : Sto} {ops : Array Oper} {l : List Oper} {τ : Nat → Value} {a : Act} {w : World}
def FpF (k : Nat) (x : List UV) (F : Frm) : Frm → Prop
  | [] => True
  | (t, j) :: r => (∃ i, look t F = some i ∧ i.fp k x = j) ∧ FpF k x F r
end
end Go.H
end
section
namespace Go.G
open Go Go.RowKit
@[reducible] def bs (l : List UInt8) : ByteArray := ⟨⟨l⟩⟩
theorem bs_toList (l : List UInt8) : (bs l).toList = l := by
  rw [Go.ByteArray.toList_eq]
section
variable {P : Program} {F : Frm} {w : World} {ty : TypeId}
theorem R.strneL {tx t' : TypeId} {x y : Operand} {a b : List UInt8} (hx : ev F x = some (.string (bs a))) (hy : ev F y = some (.string (bs b))) : Runs P w F (.binOp .neq tx x y t') ty (.bool (decide (a ≠ b))) := by
  have := R.strne (P := P) (w := w) (ty := ty) (tx := tx) (t' := t') hx hy
  rw [bs_toList, bs_toList] at this
  rwa [show decide (a ≠ b) = !decide (a = b) by simp]
theorem R.lenL {x : Operand} {t : TypeId} {a : List UInt8} (hx : ev F x = some (.string (bs a))) (ht : P.underlying t = some .string) : Runs P w F (.call { callee := .builtin .len, args := #[x], argTypes := #[t] }) ty (.int .i64 (a.length : Int)) := R.len_str hx ht
theorem R.stridxL {x y : Operand} {t : TypeId} {a : List UInt8} {k : IntKind} {i : Nat} (hx : ev F x = some (.string (bs a))) (hy : ev F y = some (.int k (i : Int))) (ht : P.underlying t = some .string) (hi : i < a.length) : Runs P w F (.index t x y) ty (.int .u8 (a[i]!).toNat) := R.stridx hx hy ht hi
end
end Go.G
namespace Go.H
open Go Go.RowKit
open Go.G (bs)
abbrev uT (s : List UInt8) : UV := .sc (.string (bs s))
abbrev vT (s : List UInt8) : IV := .u (uT s)
abbrev eStr (s : List UInt8) : List UV := [uT s]
section
variable {c : Ctx} {P : Program} {F : Frm} {S : Sto} {ops : Array Oper} {T N : List Nat}
end
end Go.H
end
