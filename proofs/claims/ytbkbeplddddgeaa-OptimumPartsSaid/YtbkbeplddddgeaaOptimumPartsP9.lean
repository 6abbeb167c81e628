/-
  What the proof rests on: part 9 of 12.
-/
import Derived.Test.YtbkbeplddddgeaaOptimumPartsP8
import Derived.MapKept
import Derived.OpenShut
import Derived.Test.YtbkbeplddddgeaaRows
section
namespace Go.H
open Go Go.RowKit
open Go.G (Ext Gr Blk)
open Go.MapKept (run_findKey run_checkKey heap_set heap_alloc IsKey)

section
variable {α β : Type} [DecidableEq α]
def mfind (a : α) : List (α × β) → Nat → Option (Nat × β)
  | [], _ => none
  | p :: r, i => if a = p.1 then some (i, p.2) else mfind a r (i + 1)
def mget (l : List (α × β)) (a : α) (d : β) : β := ((mfind a l 0).map (·.2)).getD d
def mhas (l : List (α × β)) (a : α) : Bool := (mfind a l 0).isSome
def mset (l : List (α × β)) (a : α) (v : β) : List (α × β) := match mfind a l 0 with
  | some (i, _) => l.set i (a, v)
  | none => l ++ [(a, v)]
theorem mfind_at {a : α} : ∀ {l : List (α × β)} {i j : Nat} {v : β}, mfind a l i = some (j, v) → i ≤ j ∧ l[j - i]? = some (a, v)
  | [], i, j, v, h => by simp [mfind] at h
  | p :: r, i, j, v, h => by
    rw [mfind] at h
    split at h
    · rename_i e
      simp only [Option.some.injEq, Prod.mk.injEq] at h
      obtain ⟨rfl, rfl⟩ := h
      exact ⟨Nat.le_refl _, by rw [Nat.sub_self, e]; rfl⟩
    · obtain ⟨h1, h2⟩ := mfind_at h
      exact ⟨by omega, by rw [show j - i = (j - (i + 1)) + 1 by omega, List.getElem?_cons_succ]; exact h2⟩
theorem mfind_set {a b : α} {v : β} : ∀ {l : List (α × β)} {i j : Nat} {u : β}, mfind a l i = some (j, u) → mfind b (l.set (j - i) (a, v)) i = if b = a then some (j, v) else mfind b l i
  | [], i, j, u, h => by simp [mfind] at h
  | p :: r, i, j, u, h => by
    rw [mfind] at h
    split at h
    · rename_i e
      simp only [Option.some.injEq, Prod.mk.injEq] at h
      obtain ⟨rfl, rfl⟩ := h
      rw [Nat.sub_self, List.set_cons_zero, mfind]
      by_cases hb : b = a
      · rw [if_pos hb, if_pos hb]
      · rw [if_neg hb, if_neg hb, mfind, if_neg (fun e' => hb (e'.trans e.symm))]
    · rename_i hne
      obtain ⟨h1, _⟩ := mfind_at h
      rw [show j - i = (j - (i + 1)) + 1 by omega, List.set_cons_succ, mfind, mfind, mfind_set h]
      by_cases hp : b = p.1
      · rw [if_pos hp, if_pos hp, if_neg (fun e => hne (e.symm.trans hp))]
      · rw [if_neg hp, if_neg hp]
theorem mfind_app {a b : α} {v : β} : ∀ {l : List (α × β)} {i : Nat}, mfind a l i = none → mfind b (l ++ [(a, v)]) i = if b = a then some (i + l.length, v) else mfind b l i
  | [], i, _ => by simp [mfind]
  | p :: r, i, h => by
    rw [mfind] at h
    split at h
    · cases h
    · rename_i hne
      rw [List.cons_append, mfind, mfind, mfind_app h]
      by_cases hp : b = p.1
      · rw [if_pos hp, if_pos hp, if_neg (fun e => hne (e.symm.trans hp))]
      · rw [if_neg hp, if_neg hp, List.length_cons, show i + 1 + r.length = i + (r.length + 1) by omega]
theorem mfind_mset (l : List (α × β)) (a b : α) (v : β) : (mfind b (mset l a v) 0).map (·.2) = if b = a then some v else (mfind b l 0).map (·.2) := by
  unfold mset
  split
  · rename_i i u h
    rw [show l.set i (a, v) = l.set (i - 0) (a, v) from rfl, mfind_set h]
    split <;> rfl
  · rename_i h
    rw [mfind_app h]
    split <;> rfl
theorem mget_mset (l : List (α × β)) (a b : α) (v d : β) : mget (mset l a v) b d = if b = a then v else mget l b d := by
  unfold mget
  rw [mfind_mset]
  split <;> rfl
theorem mhas_mset (l : List (α × β)) (a b : α) (v : β) : mhas (mset l a v) b = (decide (b = a) || mhas l b) := by
  have h : ∀ x : Option (Nat × β), x.isSome = (x.map (·.2)).isSome := fun x => by cases x <;> rfl
  unfold mhas
  rw [h, mfind_mset, h]
  by_cases e : b = a
  · rw [if_pos e]; simp [e]
  · rw [if_neg e]; simp [e]
@[simp] theorem mget_nil (a : α) (d : β) : mget ([] : List (α × β)) a d = d := rfl
@[simp] theorem mhas_nil (a : α) : mhas ([] : List (α × β)) a = false := rfl
def mins (l : List (α × β)) (a : α) (d : β) : List (α × β) := match mfind a l 0 with
  | some _ => l
  | none => l ++ [(a, d)]
def midx (l : List (α × β)) (a : α) : Nat := match mfind a l 0 with
  | some (i, _) => i
  | none => l.length
def mdel (l : List (α × β)) (a : α) : List (α × β) := match mfind a l 0 with
  | some (i, _) => l.eraseIdx i
  | none => l
theorem mfind_none {l : List (α × β)} {a : α} (h : mhas l a = false) : mfind a l 0 = none := by
  unfold mhas at h
  cases e : mfind a l 0 with
  | none => rfl
  | some p => rw [e] at h; cases h
theorem mdel_app {l : List (α × β)} {a : α} {v : β} (h : mhas l a = false) : mdel (l ++ [(a, v)]) a = l := by
  have := mfind_app (b := a) (v := v) (mfind_none h)
  rw [if_pos rfl, Nat.zero_add] at this
  unfold mdel
  rw [this]
  show (l ++ [(a, v)]).eraseIdx l.length = l
  rw [List.eraseIdx_append_of_length_le (Nat.le_refl _), Nat.sub_self]; simp
theorem mdel_no {l : List (α × β)} {a : α} (h : mhas l a = false) : mdel l a = l := by
  unfold mdel
  rw [mfind_none h]
theorem mset_app {l : List (α × β)} {a : α} {v : β} (h : mhas l a = false) : mset l a v = l ++ [(a, v)] := by
  unfold mset
  rw [mfind_none h]
theorem mset_last {l : List (α × β)} {a : α} {u v : β} (h : mhas l a = false) : mset (l ++ [(a, u)]) a v = l ++ [(a, v)] := by
  have := mfind_app (b := a) (v := u) (mfind_none h)
  rw [if_pos rfl, Nat.zero_add] at this
  unfold mset
  rw [this]
  show (l ++ [(a, u)]).set l.length (a, v) = _
  rw [List.set_append_right _ _ (Nat.le_refl _), Nat.sub_self]; rfl
def mpE (kf : α → Value) (vf : β → Value) (l : List (α × β)) : List (Value × Value) := l.map fun p => (kf p.1, vf p.2)
end

def efind {α : Type} [DecidableEq α] (a : α) : List α → List MapEntry → Nat → Option (Nat × Value)
  | k :: ks, e :: es, i => if a = k then some (i, e.val) else efind a ks es (i + 1)
  | _, _, _ => none
structure KeyOk {α : Type} [DecidableEq α] (P : Program) (kt : TypeId) (kf : α → Value) : Prop where
  find : ∀ (w : World) (es : List MapEntry) (ks : List α) (a : α), es.map (·.key) = ks.map kf → (Instr.findKey kt (kf a) es).run P w = .ok (efind a ks es 0) w
  check : ∀ (w : World) (b : Bool) (a : α), (Instr.checkKey b 10000 kt (kf a)).run P w = .ok () w
  bits : ∀ a : α, Instr.sameBits 10000 (kf a) (kf a) = true
theorem findNow_int {k : IntKind} {a : Int} : ∀ (es : List MapEntry) (ks : List Int) (i : Nat), es.map (·.key) = ks.map (fun x => Value.int k x) → Instr.findNow (.int k) (.int k a) es i = some (efind a ks es i)
  | [], [], i, _ => rfl
  | [], _ :: _, i, h => by simp at h
  | _ :: _, [], i, h => by simp at h
  | e :: es, x :: ks, i, h => by
    simp only [List.map_cons, List.cons.injEq] at h
    rw [Instr.findNow, h.1, efind]
    by_cases c : a = x
    · simp [Instr.sameNow, c]
    · have c' : (a == x) = false := by simpa using c
      simp [Instr.sameNow, c, c', findNow_int es ks (i + 1) h.2]
theorem KeyOk.int {P : Program} {kt : TypeId} {k : IntKind} (h : P.underlying kt = some (.int k)) : KeyOk P kt (fun a : Int => Value.int k a) where
  find w es ks a he := run_findKey h (findNow_int es ks 0 he)
  check w b a := run_checkKey h (by simp [IsKey]) b 9999
  bits a := by simp [Instr.sameBits]
theorem efind_mfind {α β : Type} [DecidableEq α] {kf : α → Value} {vf : β → Value} {a : α} : ∀ {l : List (α × β)} {es : List MapEntry} {i : Nat}, es.map (fun e => (e.key, e.val)) = mpE kf vf l → efind a (l.map (·.1)) es i = (mfind a l i).map fun p => (p.1, vf p.2)
  | [], [], i, _ => rfl
  | [], _ :: _, i, h => by simp [mpE] at h
  | _ :: _, [], i, h => by simp [mpE] at h
  | p :: l, e :: es, i, h => by
    simp only [mpE, List.map_cons, List.cons.injEq, Prod.mk.injEq] at h
    rw [List.map_cons, efind, mfind, h.1.2]
    by_cases c : a = p.1
    · rw [if_pos c, if_pos c]; rfl
    · rw [if_neg c, if_neg c, efind_mfind h.2]
theorem mp_find {α β : Type} [DecidableEq α] {P : Program} {kt : TypeId} {kf : α → Value} {vf : β → Value} (hk : KeyOk P kt kf) {w : World} {l : List (α × β)} {es : List MapEntry} (h : es.map (fun e => (e.key, e.val)) = mpE kf vf l) (a : α) :
    (Instr.findKey kt (kf a) es).run P w = .ok ((mfind a l 0).map fun p => (p.1, vf p.2)) w := by
  rw [hk.find w es (l.map (·.1)) a, efind_mfind h]
  have := congrArg (List.map Prod.fst) h
  simpa [mpE, Function.comp_def] using this
theorem mp_key {α β : Type} {kf : α → Value} {vf : β → Value} {l : List (α × β)} {es : Array MapEntry} (h : es.toList.map (fun e => (e.key, e.val)) = mpE kf vf l) {i : Nat} {a : α} {v : β} (hi : l[i]? = some (a, v)) : ∃ e, es[i]? = some e ∧ e.key = kf a ∧ e.val = vf v := by
  have h1 : (es.toList.map (fun e => (e.key, e.val)))[i]? = some (kf a, vf v) := by rw [h, mpE, List.getElem?_map, hi]; rfl
  rw [List.getElem?_map, Option.map_eq_some_iff] at h1
  obtain ⟨e, h1, h2⟩ := h1
  simp only [Prod.mk.injEq] at h2
  exact ⟨e, by simpa using h1, h2.1, h2.2⟩
theorem run_stays {P : Program} {w : World} {k : Value} (h : Instr.sameBits 10000 k k = true) : (Instr.keyThatStays k k).run P w = .ok k w := by
  unfold Instr.keyThatStays
  rw [if_pos h]; rfl
theorem set_pairs {es : Array MapEntry} {i : Nat} {e e' : MapEntry} (h : es[i]? = some e) : (es.modify i fun _ => e').toList.map (fun e => (e.key, e.val)) = (es.toList.map (fun e => (e.key, e.val))).set i (e'.key, e'.val) := by
  rw [← List.map_set]
  congr 1
  apply List.ext_getElem?
  intro j
  rw [Array.getElem?_toList, Array.getElem?_modify, List.getElem?_set, Array.getElem?_toList]
  have hi := (Array.getElem?_eq_some_iff.1 h).1
  by_cases c : i = j
  · subst c; rw [if_pos rfl, if_pos rfl, h]; simp [hi]
  · rw [if_neg c, if_neg c]

section
variable {c : Ctx} {P : Program} {F : Frm} {S : Sto} {ops : Array Oper} {d : Nat} {ty : TypeId} {pos : String} {af : Array Edge} {gd : Option (Nat × Bool)} {α β : Type} [DecidableEq α] {kf : α → Value} {vf : β → Value}
theorem O.makeMap {t : TypeId} (k : Nat) (hd : Nat.blt d c.n = true) (hg : Taken ops F gd) : OpOk c P ops ⟨some d, .makeMap t none, ty, pos, af, gd⟩ F S [k] [k] (some (.own k)) [(k, some (.mp []))] := by
  refine OpOk.mem hd hg fun σ τ a w hA _ hN h => ?_
  have hx := (Ext.rfl' w).alloc (Nat.le_refl _) (.map #[] 0)
  have := h.new (k := k) (sb := .mp []) (v := .map (some w.heap.size)) hN hx (fun b hb => by cases hb; exact Nat.le_refl _)
    (fun _ => ⟨w.heap.size, #[], 0, upτ_eq, (heap_alloc w _).1, rfl⟩)
  refine ⟨.map (some w.heap.size), _, _, ?_, this.1, ?_⟩
  · simp [execOp, Instr.makeMap, newObj, Sem.run]
  · have hr := RepI.own (τ := upτ τ k (.map (some w.heap.size))) (w := w.alloc (.map #[] 0)) (ok := okOf c (upτ τ k (.map (some w.heap.size))) (σ.upd none none [(k, some (.mp []))]).sto) k (by rw [upτ_eq]; rfl)
    rwa [upτ_eq] at hr
theorem mp_at {σ : Sig} {τ : Nat → Value} {a : Act} {w : World} {k : Nat} {ps : List (Value × Value)} (h : SatT c σ τ a w) (hk : σ.sto k = some (.mp ps)) {u : Value} (hu : RepI τ w (okOf c τ σ.sto) (.own k) u) :
    ∃ g es clk, u = .map (some g) ∧ τ k = .map (some g) ∧ w.heap[g]? = some (.map es clk) ∧ es.toList.map (fun e => (e.key, e.val)) = ps := by
  obtain ⟨g, es, clk, h1, h2, h3⟩ := h.sto k _ hk
  generalize e : IV.own k = j at hu
  cases hu with
  | own k' _ => cases e; exact ⟨g, es, clk, h1, h1, h2, h3⟩
  | _ => cases e
theorem O.lookup {x y : Operand} {t kt et : TypeId} {k : Nat} {l : List (α × β)} {b : α} {z : β} (hx : ev F x = some (.own k)) (hS : lookS k S = some (.mp (mpE kf vf l))) (hy : ev F y = some (.u (.sc (kf b)))) (ht : P.underlying t = some (.map kt et)) (hk : KeyOk P kt kf)
    (hz : (P.info? et).bind (·.zero) = some (vf z)) (hd : Nat.blt d c.n = true) (hg : Taken ops F gd) : OpOk c P ops ⟨some d, .lookup t x y false, ty, pos, af, gd⟩ F S [k] [] (some (.u (.sc (vf (mget l b z))))) [] :=
  OpOk.val hd hg fun σ τ a w hA hB h => by
    obtain ⟨p1, p2⟩ := h.opd hA (by simp [Op.operands]) hx
    obtain ⟨q1, _⟩ := h.sc hA (by simp [Op.operands]) hy
    obtain ⟨g, es, clk, e1, _, e2, e3⟩ := mp_at h ((hB k (by simp)).trans hS) p1
    obtain ⟨i, hi, hz⟩ := Option.bind_eq_some_iff.1 hz
    refine ⟨vf (mget l b z), ?_, .u (.sc _)⟩
    have hf := mp_find (P := P) (w := w) hk e3 b
    have hgo := Go.MapKept.run_getObj_map (P := P) e2
    have hck := hk.check w es.isEmpty b
    simp only [execOp, e1, q1]
    unfold mget
    cases hm : mfind b l 0 with
    | none => rw [hm] at hf; simp [Instr.lookup, run_underlying ht, hgo, hck, hf, zeroValue, typeInfo, hi, hz]
    | some p => rw [hm] at hf; simp [Instr.lookup, run_underlying ht, hgo, hck, hf]
theorem O.lookup2 {x y : Operand} {t kt et : TypeId} {k : Nat} {l : List (α × β)} {b : α} {z : β} (hx : ev F x = some (.own k)) (hS : lookS k S = some (.mp (mpE kf vf l))) (hy : ev F y = some (.u (.sc (kf b)))) (ht : P.underlying t = some (.map kt et)) (hk : KeyOk P kt kf)
    (hz : (P.info? et).bind (·.zero) = some (vf z)) (hd : Nat.blt d c.n = true) (hg : Taken ops F gd) : OpOk c P ops ⟨some d, .lookup t x y true, ty, pos, af, gd⟩ F S [k] [] (some (.tup [.u (.sc (vf (mget l b z))), .u (.sc (.bool (mhas l b)))])) [] :=
  OpOk.val hd hg fun σ τ a w hA hB h => by
    obtain ⟨p1, p2⟩ := h.opd hA (by simp [Op.operands]) hx
    obtain ⟨q1, _⟩ := h.sc hA (by simp [Op.operands]) hy
    obtain ⟨g, es, clk, e1, _, e2, e3⟩ := mp_at h ((hB k (by simp)).trans hS) p1
    obtain ⟨i, hi, hz⟩ := Option.bind_eq_some_iff.1 hz
    refine ⟨.tuple #[vf (mget l b z), .bool (mhas l b)], ?_, .tup (us := [_, _]) (vs := [_, _]) rfl fun i u v h1 h2 => ?_⟩
    · have hf := mp_find (P := P) (w := w) hk e3 b
      have hgo := Go.MapKept.run_getObj_map (P := P) e2
      have hck := hk.check w es.isEmpty b
      simp only [execOp, e1, q1]
      unfold mget mhas
      cases hm : mfind b l 0 with
      | none => rw [hm] at hf; simp [Instr.lookup, run_underlying ht, hgo, hck, hf, zeroValue, typeInfo, hi, hz]
      | some p => rw [hm] at hf; simp [Instr.lookup, run_underlying ht, hgo, hck, hf]
    · match i with
      | 0 => simp at h1 h2; subst h1; subst h2; exact .u (.sc _)
      | 1 => simp at h1 h2; subst h1; subst h2; exact .u (.sc _)
      | i + 2 => simp at h1
theorem mp_turn {σ : Sig} {τ : Nat → Value} {a : Act} {w : World} {k g : Nat} {ps : List (Value × Value)} {o : Obj} (h : SatT c σ τ a w) (hk : σ.sto k = some (.mp ps)) (hg : τ k = .map (some g)) (ho : w.heap[g]? = some o) {es' : Array MapEntry} {clk : Nat} {ps' : List (Value × Value)}
    (h1 : es'.toList.map (fun e => (e.key, e.val)) = ps') :
    SatT c (σ.upd none none [(k, some (.mp ps'))]) τ a { w with heap := w.heap.setIfInBounds g (.map es' clk) } :=
  h.turn hk ⟨rfl, rfl, rfl, by simp, fun j hj hn => (heap_set ho).2 j (fun e => hn (by rw [hg, e]; rfl))⟩ fun _ => ⟨g, es', clk, hg, (heap_set ho).1, h1⟩
theorem O.mapUpdate {x y v : Operand} {t kt et : TypeId} {k : Nat} {l : List (α × β)} {b : α} {u : β} (hx : ev F x = some (.own k)) (hS : lookS k S = some (.mp (mpE kf vf l))) (hy : ev F y = some (.u (.sc (kf b)))) (hv : ev F v = some (.u (.sc (vf u))))
    (ht : P.underlying t = some (.map kt et)) (hk : KeyOk P kt kf) (hg : Taken ops F gd) : OpOk c P ops ⟨none, .mapUpdate t x y v, ty, pos, af, gd⟩ F S [k] [] none [(k, some (.mp (mpE kf vf (mset l b u))))] := by
  refine OpOk.does hg fun σ τ a w hA hB h => ?_
  obtain ⟨p1, p2⟩ := h.opd hA (by simp [Op.operands]) hx
  obtain ⟨q1, _⟩ := h.sc hA (by simp [Op.operands]) hy
  obtain ⟨q2, _⟩ := h.sc hA (by simp [Op.operands]) hv
  have h0 := (hB k (by simp)).trans hS
  obtain ⟨g, es, clk, e1, e0, e2, e3⟩ := mp_at h h0 p1
  have hf := mp_find (P := P) (w := w) hk e3 b
  have hgo := Go.MapKept.run_getObj_map (P := P) e2
  have hck := hk.check w false b
  have hso := fun o => Go.MapKept.run_setObj_map (P := P) o e2
  unfold mset
  cases hm : mfind b l 0 with
  | none =>
    rw [hm] at hf
    refine ⟨_, τ, ?_, mp_turn h h0 e0 e2 (es' := es.push { key := kf b, val := vf u, born := clk }) (clk := clk + 1) (by simp [e3, mpE])⟩
    simp only [execOp, e1, q1, q2]
    simp [Instr.mapUpdate, run_underlying ht, hgo, hck, hf, hso]
  | some p =>
    obtain ⟨i, v0⟩ := p
    rw [hm] at hf
    obtain ⟨e, r1, r2, r3⟩ := mp_key e3 (mfind_at hm).2
    rw [Nat.sub_zero] at r1
    have hst : (Instr.keyThatStays (((es[i]?).map (·.key)).getD (kf b)) (kf b)).run P w = .ok (kf b) w := by rw [r1]; simp only [Option.map_some, Option.getD_some, r2]; exact run_stays (hk.bits b)
    refine ⟨_, τ, ?_, mp_turn h h0 e0 e2 (es' := es.modify i fun e => { e with key := kf b, val := vf u }) (clk := clk) ?_⟩
    · simp only [execOp, e1, q1, q2]
      simp [Instr.mapUpdate, run_underlying ht, hgo, hck, hf, hso, hst]
    · have hmod : (es.modify i fun e => { e with key := kf b, val := vf u }) = es.modify i fun _ => { e with key := kf b, val := vf u } := by
        apply Array.ext_getElem?
        intro j
        rw [Array.getElem?_modify, Array.getElem?_modify]
        split
        · rename_i c; subst c; rw [r1]; rfl
        · rfl
      rw [hmod, set_pairs r1, e3]
      simp [mpE, List.map_set]
theorem map_erase {γ δ : Type} (f : γ → δ) : ∀ (l : List γ) (i : Nat), (l.eraseIdx i).map f = (l.map f).eraseIdx i
  | [], _ => rfl
  | _ :: _, 0 => rfl
  | a :: l, i + 1 => by rw [List.eraseIdx_cons_succ, List.map_cons, List.map_cons, List.eraseIdx_cons_succ, map_erase f l i]
theorem O.mapDelete {x y : Operand} {t t2 kt et : TypeId} {k : Nat} {l : List (α × β)} {b : α} (hx : ev F x = some (.own k)) (hS : lookS k S = some (.mp (mpE kf vf l))) (hy : ev F y = some (.u (.sc (kf b)))) (ht : P.underlying t = some (.map kt et)) (hk : KeyOk P kt kf) (hg : Taken ops F gd) :
    OpOk c P ops ⟨none, .call { callee := .builtin .delete, args := #[x, y], argTypes := #[t, t2] }, ty, pos, af, gd⟩ F S [k] [] none [(k, some (.mp (mpE kf vf (mdel l b))))] := by
  refine OpOk.doesV hg fun σ τ a w hA hB h => ?_
  obtain ⟨p1, p2⟩ := h.opd hA (by simp [Op.operands, Call.operands]) hx
  obtain ⟨q1, _⟩ := h.sc hA (by simp [Op.operands, Call.operands]) hy
  have h0 := (hB k (by simp)).trans hS
  obtain ⟨g, es, clk, e1, e0, e2, e3⟩ := mp_at h h0 p1
  have hf := mp_find (P := P) (w := w) hk e3 b
  have hgo := Go.MapKept.run_getObj_map (P := P) e2
  have hck := hk.check w es.isEmpty b
  have hso := fun o => Go.MapKept.run_setObj_map (P := P) o e2
  have hrun : ∀ v w', (Builtin.delete_ #[t, t2] ty #[a.eval x, a.eval y]).run P w = .ok v w' → (execOp a.eval ⟨none, .call { callee := .builtin .delete, args := #[x, y], argTypes := #[t, t2] }, ty, pos, af, gd⟩).run P w = .ok (.value v) w' := fun v w' h => by
    simp only [execOp, resolve, invoke, builtin, Sem.run_bind, Sem.run_pure, Result.andThen_ok, List.map_toArray, List.map_cons, List.map_nil, h]
  unfold mdel
  cases hm : mfind b l 0 with
  | none =>
    rw [hm] at hf
    refine ⟨.tuple #[], _, τ, hrun _ _ ?_, mp_turn h h0 e0 e2 (es' := es) (clk := clk) e3⟩
    rw [e1, q1]
    simp [Builtin.delete_, run_underlying ht, hgo, hck, hf, hso]
  | some p =>
    obtain ⟨i, v0⟩ := p
    rw [hm] at hf
    refine ⟨.tuple #[], _, τ, hrun _ _ ?_, mp_turn h h0 e0 e2 (es' := es.eraseIdxIfInBounds i) (clk := clk) ?_⟩
    · rw [e1, q1]
      simp [Builtin.delete_, run_underlying ht, hgo, hck, hf, hso]
    · have hi : i < es.size := by
        have := (mfind_at hm).2
        rw [Nat.sub_zero] at this
        obtain ⟨e, r1, _⟩ := mp_key e3 this
        exact (Array.getElem?_eq_some_iff.1 r1).1
      show _ = mpE kf vf (l.eraseIdx i)
      rw [show es.eraseIdxIfInBounds i = es.eraseIdx i hi from by simp [Array.eraseIdxIfInBounds, hi], Array.toList_eraseIdx, map_erase, e3, mpE, mpE, map_erase]
end
end Go.H
end
section
namespace Go.H
open Go Go.RowKit
open Go.G (Ext Gr Blk)
mutual
def IV.fp (k : Nat) (us : List UV) : IV → IV
  | .u y => .u y
  | .own j => .own j
  | .ref j o => match Nat.beq j k with | true => .u (.ptr (us.drop o)) | false => .ref j o
  | .el j s i o => .el j s i o
  | .osl j s i o => .osl j s i o
  | .row j i m => .row j i m
  | .rel j i m => .rel j i m
  | .agg l => .agg (IV.fpL k us l)
  | .tup l => .tup (IV.fpL k us l)
  | .clo fn f c => .clo fn (IV.fpL k us f) (IV.fpL k us c)
  | .junk => .junk
termination_by structural i => i
def IV.fpL (k : Nat) (us : List UV) : List IV → List IV
  | [] => []
  | i :: r => i.fp k us :: IV.fpL k us r
termination_by structural l => l
end
theorem IV.fpL_map (k : Nat) (x : List UV) : ∀ l : List IV, IV.fpL k x l = l.map (·.fp k x)
  | [] => rfl
  | i :: r => by rw [IV.fpL, IV.fpL_map k x r]; rfl
section
variable {c : Ctx} {P : Program} {Q : Exit → Act → World → Prop} {F : Frm} {S : Sto} {ops : Array Oper} {l : List Oper} {τ : Nat → Value} {a : Act} {w : World}
theorem RepI.fp {ok ok' : Nat → Prop} {k : Nat} {us : List UV} {i : IV} {v : Value} (h : RepI τ w ok i v) (hok : ∀ b, ok b → ok' b) (hx : RepU w ok' (.ptr us) (τ k)) : RepI τ w ok' (i.fp k us) v := by
  induction h with
  | u h => exact .u (h.mono (Nat.le_refl _) (fun b hb _ => ⟨hok b hb, rfl⟩))
  | own j h => exact .own j h
  | ref h =>
    rename_i j off g
    rw [IV.fp]
    split
    · rename_i e
      have e := Nat.eq_of_beq_eq_true e
      subst e
      rw [h] at hx
      have := ptr_drop hx off
      rw [Addr.add_lit, Nat.zero_add] at this
      exact .u this
    · exact .ref h
  | el h => exact .el h
  | osl h h1 h2 => exact .osl h h1 h2
  | row h => exact .row h
  | rel h => exact .rel h
  | agg hl _ ih =>
    rw [IV.fp, IV.fpL_map]
    refine .agg (by simpa using hl) fun i u v h1 h2 => ?_
    rw [List.getElem?_map, Option.map_eq_some_iff] at h1
    obtain ⟨y, h1, rfl⟩ := h1
    exact ih i y v h1 h2
  | tup hl _ ih =>
    rw [IV.fp, IV.fpL_map]
    refine .tup (by simpa using hl) fun i u v h1 h2 => ?_
    rw [List.getElem?_map, Option.map_eq_some_iff] at h1
    obtain ⟨y, h1, rfl⟩ := h1
    exact ih i y v h1 h2
  | clo hl _ hl' _ ih ih' =>
    rw [IV.fp, IV.fpL_map, IV.fpL_map]
    refine .clo (by simpa using hl) (fun i u v h1 h2 => ?_) (by simpa using hl') (fun i u v h1 h2 => ?_)
    · rw [List.getElem?_map, Option.map_eq_some_iff] at h1
      obtain ⟨y, h1, rfl⟩ := h1
      exact ih i y v h1 h2
    · rw [List.getElem?_map, Option.map_eq_some_iff] at h1
      obtain ⟨y, h1, rfl⟩ := h1
      exact ih' i y v h1 h2
  | junk v => exact .junk v
def FpF (k : Nat) (x : List UV) (F : Frm) : Frm → Prop
  | [] => True
  | (t, j) :: r => (∃ i, look t F = some i ∧ i.fp k x = j) ∧ FpF k x F r
theorem Sat.freezeP {F' : Frm} {t k : Nat} {us : List UV} (hS : lookS k S = some (.cells t (us.map .u))) (hF : FpF k us F F') (h : Sat c (mk F S) a w) : Sat c (mk (F' ++ F) ((k, .dead) :: S)) a w := by
  obtain ⟨τ, h⟩ := h
  have hok : ∀ b, okOf c τ (mk F S).sto b → b < w.heap.size → okOf c τ (mk (F' ++ F) ((k, .dead) :: S)).sto b ∧ w.heap[b]? = w.heap[b]? := fun b hb _ => ⟨okOf_dead hb, rfl⟩
  have hsto : ∀ j sb, (mk (F' ++ F) ((k, .dead) :: S)).sto j = some sb → j ≠ k ∧ lookS j S = some sb := fun j sb hj => by
    have hj' : lookS j ((k, .dead) :: S) = some sb := hj
    by_cases e : k = j
    · subst e; rw [lookS_dead] at hj'; cases hj'
    · rw [lookS_ne e] at hj'; exact ⟨Ne.symm e, hj'⟩
  have hx : RepU w (okOf c τ (mk (F' ++ F) ((k, .dead) :: S)).sto) (.ptr us) (τ k) := by
    obtain ⟨g, vs, h1, h2, h3, h4⟩ := h.sto k _ hS
    have hv : vblk (τ k) = some g := by rw [h1]; rfl
    rw [h1]
    refine .ptr (cv := fun j => (vs[j]?).getD undef) (fun u hu => ?_) h2.lt ⟨?_, fun j sb hj hjv => ?_⟩ (fun j u hj => ?_) (fun j u hj => ?_)
    · have := h4 (.u u) (List.mem_map_of_mem hu); exact this
    · rcases h.own k _ g hS hv with q | q
      · exact .inr (.inl q)
      · exact .inr (.inr q)
    · obtain ⟨q1, q2⟩ := hsto j sb hj
      exact q1 (h.inj j k sb _ g q2 hS hjv hv)
    · have hlt : j < vs.length := by
        have := (List.getElem?_eq_some_iff.1 hj).1
        rw [← h3.1]; simpa using this
      rw [List.getElem?_eq_getElem hlt, Addr.add_lit, Nat.zero_add]
      have h2' : w.heap[g]? = some (.cells vs.toArray t (0, 0)) := h2
      simp [World.cell?, h2', hlt]
    · have hlt : j < vs.length := by
        have := (List.getElem?_eq_some_iff.1 hj).1
        rw [← h3.1]; simpa using this
      rw [List.getElem?_eq_getElem hlt]
      have := h3.2 j (.u u) vs[j] (by rw [List.getElem?_map, hj]; rfl) (List.getElem?_eq_getElem hlt)
      cases this with
      | u q => exact q.mono (Nat.le_refl _) hok
  refine ⟨τ, h.size, h.defers, h.gr, fun s i hl => ?_, fun j sb hj => ?_, fun j j' s s' b h1 h2 => h.inj j j' s s' b (hsto j s h1).2 (hsto j' s' h2).2, fun j sb b h1 => h.own j sb b (hsto j sb h1).2, h.pin⟩
  · have key : ∀ {F' : Frm}, FpF k us F F' → ∀ {i}, look s (F' ++ F) = some i → (∃ i0, look s F = some i0 ∧ i0.fp k us = i) ∨ look s F = some i := by
      intro F'
      induction F' with
      | nil => intro _ i hi; exact .inr hi
      | cons y r ih =>
        intro hh i hi
        obtain ⟨q, j⟩ := y
        rw [List.cons_append] at hi
        by_cases e : q = s
        · subst e; rw [look_eq] at hi; cases hi; exact .inl hh.1
        · rw [look_ne e] at hi; exact ih hh.2 hi
    rcases key hF hl with ⟨i0, h1, rfl⟩ | h1
    · obtain ⟨u, q1, q2⟩ := h.slot s i0 h1
      exact ⟨u, q1, q2.fp (fun b hb => okOf_dead hb) hx⟩
    · obtain ⟨u, q1, q2⟩ := h.slot s i h1
      exact ⟨u, q1, q2.mono (Nat.le_refl _) hok (fun _ _ => rfl)⟩
  · exact (h.sto j sb (hsto j sb hj).2).mono (Nat.le_refl _) hok (fun _ _ => rfl) rfl (fun _ _ => rfl)
theorem SL.freezeP {F' : Frm} {t : Nat} (us : List UV) {is : List IV} (k : Nat) (hS : lookS k S = some (.cells t is)) (hi : is = us.map .u) (hF : FpF k us F F') (h : SL c P ops Q l (F' ++ F) ((k, .dead) :: S)) : SL c P ops Q l F S := fun a w ha => h a w (ha.freezeP (hi ▸ hS) hF)
end
end Go.H
end
section
namespace Go.G
open Go Go.RowKit
section
variable {P : Program} {F : Frm} {w : World} {ty : TypeId}
theorem R.idx0 {x y : Operand} {t e : TypeId} {k : IntKind} {i n c : Nat} {ad : Addr} {inf : TypeInfo} (hx : ev F x = some (.slice (some ad) n c)) (hy : ev F y = some (.int k (i : Int))) (hi' : i < n)
    (ht : P.underlying t = some (.slice e)) (he : P.info? e = some inf) (hs : inf.size = 1) : Runs P w F (.indexAddr t x y) ty (.pointer (some (ad.add i))) := fun o ρ ho _ hρ => by
  simp only [execOp, ho, hρ x (by simp [Op.operands]) _ hx, hρ y (by simp [Op.operands]) _ hy]
  simp [Instr.indexAt, asIntOf, run_underlying ht, sizeOf, typeInfo, he, hs, hi']
theorem Own.blk {α : Type} {E : Enc α} {base e g m : Nat} {v : Value} {xs : List α} (h : Own E w base e v xs) (hv : v = .slice (some ⟨g, 0, none⟩) m m) (hm : xs.length = m) : Blk w g e (E.all xs) := by
  obtain ⟨_, h1 | ⟨g', cap, cur, h1, _, h2, h3, h4, h5, h6⟩⟩ := h
  · rw [hv] at h1; cases h1.1
  · rw [hv] at h1
    simp only [Value.slice.injEq, Option.some.injEq, Addr.mk.injEq, and_true] at h1
    obtain ⟨rfl, _, rfl⟩ := h1
    have e1 : cur.toList = E.all xs := by
      rw [← h6, List.take_of_length_le]
      rw [Array.length_toList, h5, hm]; exact Nat.le_refl _
    unfold Blk
    rw [h2, ← e1]
end
end Go.G
namespace Go.H
open Go Go.RowKit
open Go.G (Ext Gr Blk)
section
variable {c : Ctx} {P : Program} {Q : Exit → Act → World → Prop} {F F' : Frm} {S : Sto} {ops : Array Oper} {l : List Oper} {d : Nat} {ty : TypeId} {pos : String} {af : Array Edge} {gd : Option (Nat × Bool)} {τ : Nat → Value} {w w' : World} {ok ok' : Nat → Prop}
theorem RepB.grid_at {k i : Nat} {tr te : TypeId} {rows : List (List UV)} {r : List UV} (h : RepB τ w ok k (.grid tr te rows)) (hr : rows[i]? = some r) : ∃ g, τ k = .slice (some ⟨g, 0, none⟩) rows.length rows.length ∧ r.length ≤ maxLen ∧
    w.cell? (Addr.add ⟨g, 0, none⟩ i) = some (.slice (some ⟨g + 1 + i, 0, none⟩) r.length r.length) ∧ ∃ vs, Blk w (g + 1 + i) te vs ∧ AllU w ok r vs ∧ ∀ u ∈ r, u.one = true := by
  have hi := (List.getElem?_eq_some_iff.1 hr).1
  rcases h with ⟨h1, _⟩ | ⟨hne, hm1, g, m, hm2, h1, h2, h3⟩
  · rw [h1] at hr; simp at hr
  · obtain ⟨q1, vs, q2, q3, q4⟩ := h3 i r hr
    refine ⟨g, h1, by rw [q1]; exact hm2, ?_, vs, q2, q3, q4⟩
    rw [q1]
    exact h2.at i _ (by rw [List.getElem?_map, List.getElem?_range hi]; rfl)
theorem O.idx_grid {x y : Operand} {t e tr te : TypeId} {k : IntKind} {i kk : Nat} {ii : Int} {inf : TypeInfo} {rows : List (List UV)} (hx : ev F x = some (.own kk)) (hS : lookS kk S = some (.grid tr te rows)) (hy : ev F y = some (.u (.sc (.int k ii)))) (hii : ii = (i : Int)) (hlt : i < rows.length)
    (ht : P.underlying t = some (.slice e)) (he : P.info? e = some inf) (hs : inf.size = 1) (hd : Nat.blt d c.n = true) (hg : Taken ops F gd) : OpOk c P ops ⟨some d, .indexAddr t x y, ty, pos, af, gd⟩ F S [kk] [] (some (.el kk 1 i 0)) [] :=
  OpOk.runs hd hg fun σ τ a w hA hB h => by
    subst hii
    obtain ⟨h1, h2⟩ := h.opd hA (by simp [Op.operands]) hx
    have hy2 := (h.sc hA (by simp [Op.operands]) hy).2
    obtain ⟨g, q1, _⟩ := (h.sto kk _ ((hB kk (by simp)).trans hS)).grid_at (List.getElem?_eq_getElem hlt)
    generalize a.eval x = v at h1 h2
    cases h1
    rw [q1] at h2
    refine ⟨_, G.R.idx0 h2 hy2 hlt ht he hs, ?_⟩
    rw [Addr.add_lit, Nat.zero_add]
    have := RepI.el (w := w) (ok := okOf c τ σ.sto) (sz := 1) (i := i) (off := 0) q1
    rwa [Nat.mul_one, Nat.add_zero] at this
theorem O.ldrow {x : Operand} {t tr te : TypeId} {dd : TypeDesc} {kk i m : Nat} {rows : List (List UV)} {r : List UV} (hx : ev F x = some (.el kk 1 i 0)) (hS : lookS kk S = some (.grid tr te rows)) (hr : rows[i]? = some r) (hm : r.length = m) (ht : P.underlying t = some dd) (ha : G.aggD dd = false)
    (hd : Nat.blt d c.n = true) (hg : Taken ops F gd) : OpOk c P ops ⟨some d, .load t x, ty, pos, af, gd⟩ F S [kk] [] (some (.row kk i m)) [] :=
  OpOk.runs hd hg fun σ τ a w hA hB h => by
    subst hm
    obtain ⟨h1, h2⟩ := h.opd hA (by simp [Op.operands]) hx
    obtain ⟨g, q1, _, q2, _⟩ := (h.sto kk _ ((hB kk (by simp)).trans hS)).grid_at hr
    generalize a.eval x = v at h1 h2
    cases h1 with
    | @el _ _ _ _ g' n cc hk =>
      rw [q1] at hk
      simp only [Value.slice.injEq, Option.some.injEq, Addr.mk.injEq, and_true] at hk
      obtain ⟨rfl, _, _⟩ := hk
      rw [Nat.mul_one, Nat.add_zero] at h2
      rw [Addr.add_lit, Nat.zero_add] at q2
      refine ⟨_, G.R.ld1 (cs := []) h2 ⟨⟨g, i, none⟩, rfl, Nat.le_refl _, Nat.lt_succ_self _, fun j u hj => ?_⟩ ht ha, .row q1⟩
      match j with
      | 0 =>
        simp only [List.getElem?_cons_zero, Option.some.injEq] at hj
        rw [Addr.add_lit, Nat.add_zero, ← hj]; exact q2
      | j + 1 => simp at hj
theorem O.idx_row {x y : Operand} {t e : TypeId} {k : IntKind} {i j m kk : Nat} {ii : Int} {inf : TypeInfo} (hx : ev F x = some (.row kk i m)) (hy : ev F y = some (.u (.sc (.int k ii)))) (hii : ii = (j : Int)) (hlt : j < m)
    (ht : P.underlying t = some (.slice e)) (he : P.info? e = some inf) (hs : inf.size = 1) (hd : Nat.blt d c.n = true) (hg : Taken ops F gd) : OpOk c P ops ⟨some d, .indexAddr t x y, ty, pos, af, gd⟩ F S [] [] (some (.rel kk i j)) [] :=
  OpOk.runs hd hg fun σ τ a w hA hB h => by
    subst hii
    obtain ⟨h1, h2⟩ := h.opd hA (by simp [Op.operands]) hx
    have hy2 := (h.sc hA (by simp [Op.operands]) hy).2
    generalize a.eval x = v at h1 h2
    cases h1 with
    | @row _ _ _ g n cc hk =>
      refine ⟨_, G.R.idx0 h2 hy2 hlt ht he hs, ?_⟩
      rw [Addr.add_lit, Nat.zero_add]
      exact .rel hk
theorem row_set {rows : List (List UV)} {i q : Nat} {r x r' : List UV} (hr : rows[i]? = some r) (h : (rows.set i r')[q]? = some x) : (q = i ∧ x = r') ∨ (q ≠ i ∧ rows[q]? = some x) := by
  have hi := (List.getElem?_eq_some_iff.1 hr).1
  by_cases e : i = q
  · subst e
    rw [List.getElem?_set_self hi] at h
    exact .inl ⟨rfl, (Option.some.inj h).symm⟩
  · rw [List.getElem?_set_ne e] at h
    exact .inr ⟨Ne.symm e, h⟩
theorem O.st_rel {x y : Operand} {t tr te : TypeId} {kk i j : Nat} {rows rows' : List (List UV)} {r : List UV} {u : UV} {v0 : Value} (hx : ev F x = some (.rel kk i j)) (hS : lookS kk S = some (.grid tr te rows)) (hy : ev F y = some (.u (.sc v0))) (hu : u = .sc v0) (h1 : v0.oneCell' = true) (hs : (P.info? t).map (·.size) = some 1)
    (hr : rows[i]? = some r) (hj : j < r.length) (he : rows.set i (r.set j u) = rows') (hg : Taken ops F gd) : OpOk c P ops ⟨none, .store t x y, ty, pos, af, gd⟩ F S [kk] [] none [(kk, some (.grid tr te rows'))] := by
  refine OpOk.does hg fun σ τ a w hA hB h => ?_
  subst he; subst hu
  obtain ⟨p1, p2⟩ := h.opd hA (by simp [Op.operands]) hx
  have q2 := (h.sc hA (by simp [Op.operands]) hy).2
  have h0 := (hB kk (by simp)).trans hS
  have hB0 := h.sto kk _ h0
  have hi := (List.getElem?_eq_some_iff.1 hr).1
  rcases hB0 with ⟨e1, _⟩ | ⟨hne, hm1, g, m, hm2, e1, e2, e3⟩
  · rw [e1] at hr; simp at hr
  · obtain ⟨r1, vs, r2, r3, r4⟩ := e3 i r hr
    generalize a.eval x = v at p1 p2
    cases p1 with
    | @rel _ _ _ g' n cc hk =>
      rw [e1] at hk
      simp only [Value.slice.injEq, Option.some.injEq, Addr.mk.injEq, and_true] at hk
      obtain ⟨rfl, _, _⟩ := hk
      have hcl : v0.cells = #[v0] := by
        cases v0 <;> first | rfl | (simp [Value.oneCell'] at h1)
      obtain ⟨w', s1, s2, s3, s4⟩ := run_skip (o := ⟨none, .store t x y, ty, pos, af, gd⟩) (G.D.store (ty := ty) (o := j) (vs := [v0]) p2 q2 (by rw [hcl]) hs rfl r2 (by rw [← r3.1]; exact hj) (by simp [G.cells1, h1])) rfl rfl rfl
      refine ⟨w', τ, s1, h.turn h0 (Gr.of_grown s3 fun b hb => by cases hb; exact ⟨hne, g, _, _, e1, by omega, by omega⟩) (fun hok => ?_) (fun b ⟨_, g', n', c', z1, z2, z3⟩ => ⟨hne, g', n', c', z1, z2, by rwa [List.length_set] at z3⟩)⟩
      have hother : ∀ b, b ≠ g + 1 + i → b < w.heap.size → w'.heap[b]? = w.heap[b]? := fun b hb hlt => s3.block b hlt (by simpa using hb)
      refine .inr ⟨fun e => hne (by rw [List.set_eq_nil_iff] at e; exact e), by rw [List.length_set]; exact hm1, g, m, hm2, by rw [List.length_set]; exact e1, by rw [List.length_set]; exact (hother g (by omega) e2.lt).trans e2, fun q x hq => ?_⟩
      rcases row_set hr hq with ⟨rfl, rfl⟩ | ⟨hqi, hq⟩
      · refine ⟨by rw [List.length_set]; exact r1, _, s2, ?_, fun z hz => ?_⟩
        · have e4 : vs.take j ++ [v0] ++ vs.drop (j + [v0].length) = vs.set j v0 := by
            rw [List.set_eq_take_append_cons_drop, if_pos (by rw [← r3.1]; exact hj)]; simp
          rw [e4]
          refine ⟨by rw [List.length_set, List.length_set]; exact r3.1, fun z u' v' z1 z2 => ?_⟩
          by_cases e : j = z
          · subst e
            rw [List.getElem?_set_self hj] at z1
            rw [List.getElem?_set_self (by rw [← r3.1]; exact hj)] at z2
            cases z1; cases z2; exact .sc _
          · rw [List.getElem?_set_ne e] at z1
            rw [List.getElem?_set_ne e] at z2
            exact (r3.2 z u' v' z1 z2).mono (by rw [s4]; exact Nat.le_refl _) hok
        · rcases List.mem_or_eq_of_mem_set hz with hz | hz
          · exact r4 z hz
          · rw [hz]; exact h1
      · obtain ⟨t1, vs', t2, t3, t4⟩ := e3 q x hq
        exact ⟨t1, vs', (hother _ (by omega) t2.lt).trans t2, t3.mono (by rw [s4]; exact Nat.le_refl _) hok, t4⟩
def gridU (rows : List (List UV)) : List (List UV) := rows.map fun r => [.sl 1 (r.map fun u => [u])]
theorem flat_1 {r : List UV} : (r.map fun u => [u]).flatten = r := by
  induction r with
  | nil => rfl
  | cons u r ih => rw [List.map_cons, List.flatten_cons, ih]; rfl
theorem gridU_flat (rows : List (List UV)) : (gridU rows).flatten = rows.map fun r => UV.sl 1 (r.map fun u => [u]) := by
  rw [gridU]
  induction rows with
  | nil => rfl
  | cons r rows ih => rw [List.map_cons, List.flatten_cons, ih]; rfl
theorem own_grid {k : Nat} {tr te : TypeId} {rows : List (List UV)} (h : RepB τ w ok k (.grid tr te rows)) (h1 : ∀ b, (SB.grid tr te rows).has (τ k) b → ok' b) (h2 : ∀ b, ok b → ok' b) : RepU w ok' (.sl 1 (gridU rows)) (τ k) := by
  rcases h with ⟨e, A, c, e1, e2, e3⟩ | ⟨hne, hm1, g, m, hm2, e1, e2, e3⟩
  · rw [e1, e]; exact .sl0 e2 e3
  · have hl : (gridU rows).length = rows.length := by simp [gridU]
    have hat : ∀ j, j < rows.length → w.cell? (Addr.add ⟨g, 0, none⟩ j) = some (.slice (some ⟨g + 1 + j, 0, none⟩) m m) := fun j hj => e2.at j _ (by rw [List.getElem?_map, List.getElem?_range hj]; rfl)
    have := RepU.sl (w := w) (ok := ok') (sz := 1) (rows := gridU rows) (a := ⟨g, 0, none⟩) (c := rows.length) (cv := fun j => .slice (some ⟨g + 1 + j, 0, none⟩) m m) (fun e => hne (by simpa [gridU] using e)) (by rw [hl]; exact Nat.le_refl _) hm1
      (fun r hr => by obtain ⟨q, _, rfl⟩ := List.mem_map.1 hr; rfl) (by decide) (fun u hu => by rw [gridU_flat] at hu; obtain ⟨q, _, rfl⟩ := List.mem_map.1 hu; rfl) e2.lt (h1 g ⟨hne, g, _, _, e1, Nat.le_refl _, Nat.le_add_right _ _⟩)
      (fun j u hj => by
        rw [gridU_flat] at hj
        exact hat j (by have := (List.getElem?_eq_some_iff.1 hj).1; simpa using this))
      (fun j u hj => by
        rw [gridU_flat, List.getElem?_map, Option.map_eq_some_iff] at hj
        obtain ⟨r, hr, rfl⟩ := hj
        have hjl := (List.getElem?_eq_some_iff.1 hr).1
        obtain ⟨r1, vs, r2, r3, r4⟩ := e3 j r hr
        by_cases hr0 : r = []
        · rw [hr0] at r1 ⊢
          rw [← r1]; exact .sl0 (by simp [maxLen]) (fun e => by cases e)
        · have := RepU.sl (w := w) (ok := ok') (sz := 1) (rows := r.map fun u => [u]) (a := ⟨g + 1 + j, 0, none⟩) (c := m) (cv := fun q => vs.getD q undef) (by simpa using hr0) (by simp [r1]) hm2 (fun q hq => by obtain ⟨z, _, rfl⟩ := List.mem_map.1 hq; rfl) (by decide)
            (fun u hu => by rw [flat_1] at hu; exact r4 u hu) r2.lt (h1 _ ⟨hne, g, _, _, e1, by show g ≤ g + 1 + j; omega, by show g + 1 + j ≤ _; omega⟩)
            (fun q u hq => by
              rw [flat_1] at hq
              have hql : q < vs.length := by rw [← r3.1]; exact (List.getElem?_eq_some_iff.1 hq).1
              exact r2.at q _ (by rw [List.getD_eq_getElem?_getD, List.getElem?_eq_getElem hql]; rfl))
            (fun q u hq => by
              rw [flat_1] at hq
              have hql : q < vs.length := by rw [← r3.1]; exact (List.getElem?_eq_some_iff.1 hq).1
              exact (r3.2 q u _ hq (by rw [List.getD_eq_getElem?_getD, List.getElem?_eq_getElem hql]; rfl)).mono (Nat.le_refl _) (fun b hb _ => ⟨h2 b hb, rfl⟩))
          rw [List.length_map, r1] at this
          exact this)
    rw [hl] at this
    rw [e1]; exact this
theorem Sat.freezeG {a : Act} {F' : Frm} {tr te k : Nat} {rows : List (List UV)} (hS : lookS k S = some (.grid tr te rows)) (hF : FzF k (.sl 1 (gridU rows)) F F') (h : Sat c (mk F S) a w) : Sat c (mk (F' ++ F) ((k, .dead) :: S)) a w := by
  obtain ⟨τ, h⟩ := h
  have hok : ∀ b, okOf c τ (mk F S).sto b → b < w.heap.size → okOf c τ (mk (F' ++ F) ((k, .dead) :: S)).sto b ∧ w.heap[b]? = w.heap[b]? := fun b hb _ => ⟨okOf_dead hb, rfl⟩
  have hsto : ∀ j sb, (mk (F' ++ F) ((k, .dead) :: S)).sto j = some sb → j ≠ k ∧ lookS j S = some sb := fun j sb hj => by
    have hj' : lookS j ((k, .dead) :: S) = some sb := hj
    by_cases e : k = j
    · subst e; rw [lookS_dead] at hj'; cases hj'
    · rw [lookS_ne e] at hj'; exact ⟨Ne.symm e, hj'⟩
  have hx : RepU w (okOf c τ (mk (F' ++ F) ((k, .dead) :: S)).sto) (.sl 1 (gridU rows)) (τ k) := by
    refine own_grid (h.sto k _ hS) (fun b hb => ⟨?_, fun j sb hj hv => ?_⟩) (fun b hb => okOf_dead hb)
    · rcases h.own k _ b hS hb with h1 | h1
      · exact .inr (.inl h1)
      · exact .inr (.inr h1)
    · obtain ⟨h1, h2⟩ := hsto j sb hj
      exact h1 (h.inj j k sb _ b h2 hS hv hb)
  refine ⟨τ, h.size, h.defers, h.gr, fun s i hl => ?_, fun j sb hj => ?_, fun j j' s s' b h1 h2 => h.inj j j' s s' b (hsto j s h1).2 (hsto j' s' h2).2, fun j sb b h1 => h.own j sb b (hsto j sb h1).2, h.pin⟩
  · have key : ∀ {F' : Frm}, FzF k (.sl 1 (gridU rows)) F F' → ∀ {i}, look s (F' ++ F) = some i → (∃ i0, look s F = some i0 ∧ i0.fz k (.sl 1 (gridU rows)) = i) ∨ look s F = some i := by
      intro F'
      induction F' with
      | nil => intro _ i hi; exact .inr hi
      | cons y r ih =>
        intro hh i hi
        obtain ⟨q, j⟩ := y
        rw [List.cons_append] at hi
        by_cases e : q = s
        · subst e; rw [look_eq] at hi; cases hi; exact .inl hh.1
        · rw [look_ne e] at hi; exact ih hh.2 hi
    rcases key hF hl with ⟨i0, h1, rfl⟩ | h1
    · obtain ⟨u, q1, q2⟩ := h.slot s i0 h1
      exact ⟨u, q1, q2.fz (fun b hb => okOf_dead hb) hx⟩
    · obtain ⟨u, q1, q2⟩ := h.slot s i h1
      exact ⟨u, q1, q2.mono (Nat.le_refl _) hok (fun _ _ => rfl)⟩
  · exact (h.sto j sb (hsto j sb hj).2).mono (Nat.le_refl _) hok (fun _ _ => rfl) rfl (fun _ _ => rfl)
theorem Sat.freezeGC {a : Act} {w : World} (kb q k : Nat) {tr te : Nat} {rows : List (List UV)} {tb : TypeId} {is is' : List IV} (hS : lookS k S = some (.grid tr te rows)) (hb : lookS kb S = some (.cells tb is)) (hq : is[q]? = some (.own k)) (he : is.set q (.u (.sl 1 (gridU rows))) = is')
    (h : Sat c (mk F S) a w) : Sat c (mk F ((kb, .cells tb is') :: (k, .dead) :: S)) a w := by
  subst he
  obtain ⟨τ, h⟩ := h
  have hkb : kb ≠ k := fun e => by subst e; rw [hb] at hS; cases hS
  have hlive : ∀ j sb, lookS j ((kb, SB.cells tb (is.set q (.u (.sl 1 (gridU rows))))) :: (k, .dead) :: S) = some sb → j ≠ k ∧ ∃ sb', lookS j S = some sb' ∧ ∀ v b, sb.has v b → sb'.has v b := fun j sb hj => by
    rcases lookS_hd hj with ⟨rfl, rfl⟩ | ⟨_, h2⟩
    · exact ⟨hkb, _, hb, fun _ _ q => q⟩
    · obtain ⟨h3, h4⟩ := lookS_hdd h2; exact ⟨h3, _, h4, fun _ _ q => q⟩
  have hok : ∀ b, okOf c τ (mk F S).sto b → b < w.heap.size → okOf c τ (mk F ((kb, .cells tb (is.set q (.u (.sl 1 (gridU rows))))) :: (k, .dead) :: S)).sto b ∧ w.heap[b]? = w.heap[b]? :=
    fun b hb' _ => ⟨⟨hb'.1, fun j sb hj => by obtain ⟨_, sb', h2, h3⟩ := hlive j sb hj; exact fun hv => hb'.2 j sb' h2 (h3 _ _ hv)⟩, rfl⟩
  have hx : RepU w (okOf c τ (mk F ((kb, .cells tb (is.set q (.u (.sl 1 (gridU rows))))) :: (k, .dead) :: S)).sto) (.sl 1 (gridU rows)) (τ k) := by
    refine own_grid (h.sto k _ hS) (fun b hv => ⟨?_, fun j sb hj hv' => ?_⟩) (fun b hb' => ⟨hb'.1, fun j sb hj => by obtain ⟨_, sb', h2, h3⟩ := hlive j sb hj; exact fun hv => hb'.2 j sb' h2 (h3 _ _ hv)⟩)
    · rcases h.own k _ b hS hv with h1 | h1
      · exact .inr (.inl h1)
      · exact .inr (.inr h1)
    · obtain ⟨h1, sb', h2, h3⟩ := hlive j sb hj
      exact h1 (h.inj j k sb' _ b h2 hS (h3 _ _ hv') hv)
  refine ⟨τ, h.size, h.defers, h.gr, fun s i hl => ?_, fun j sb hj => ?_, fun j j' s s' b h1 h2 => ?_, fun j sb b h1 => ?_, h.pin⟩
  · obtain ⟨u, h1, h2⟩ := h.slot s i hl
    exact ⟨u, h1, h2.mono (Nat.le_refl _) hok (fun _ _ => rfl)⟩
  · rcases lookS_hd hj with ⟨rfl, rfl⟩ | ⟨_, h2⟩
    · exact rep_set ((h.sto j _ hb).mono (Nat.le_refl _) hok (fun _ _ => rfl) rfl (fun _ _ => rfl)) hq rfl (fun v hv => by cases hv; exact .u hx)
    · exact (h.sto j sb (lookS_hdd h2).2).mono (Nat.le_refl _) hok (fun _ _ => rfl) rfl (fun _ _ => rfl)
  · obtain ⟨_, a1, q1, z1⟩ := hlive j s h1
    obtain ⟨_, a2, q2, z2⟩ := hlive j' s' h2
    exact fun w1 w2 => h.inj j j' a1 a2 b q1 q2 (z1 _ _ w1) (z2 _ _ w2)
  · obtain ⟨_, a1, q1, z1⟩ := hlive j sb h1
    exact fun w1 => h.own j a1 b q1 (z1 _ _ w1)
theorem W.freezeG {cd : Code} {tr te : Nat} {rows : List (List UV)} (k : Nat) (hS : lookS k S = some (.grid tr te rows)) (hF : FzF k (.sl 1 (gridU rows)) F F') (h : W c P cd Q (F' ++ F) ((k, .dead) :: S)) : W c P cd Q F S := fun a w ha => h a w (ha.freezeG hS hF)
theorem SL.freezeGC (kb q k : Nat) {tr te : Nat} {rows : List (List UV)} {tb : TypeId} {is is' : List IV} (hS : lookS k S = some (.grid tr te rows)) (hb : lookS kb S = some (.cells tb is)) (hq : is[q]? = some (.own k)) (he : is.set q (.u (.sl 1 (gridU rows))) = is') (h : SL c P ops Q l F ((kb, .cells tb is') :: (k, .dead) :: S)) : SL c P ops Q l F S := fun a w ha => h a w (ha.freezeGC kb q k hS hb hq he)
def Grid0 (w w' : World) (v : Value) (tr te : TypeId) (z : Value) (n : Nat) : Prop :=
  ∃ g, v = .slice (some ⟨g, 0, none⟩) n n ∧ w.heap.size ≤ g ∧ Ext w w' ∧ Blk w' g tr ((List.range n).map fun i => Value.slice (some ⟨g + 1 + i, 0, none⟩) n n) ∧ ∀ i, i < n → Blk w' (g + 1 + i) te (List.replicate n z)
theorem con_grid {f : FuncId} {tr te : TypeId} {z : Value} {n : Nat} (hn : n ≤ 1000000) (hz : z.oneCell' = true) (h : ∀ w, G.CallsTo P f [.int .i64 (n : Int)] w (fun v w' => Grid0 w w' v tr te z n)) :
    Con P f [.u (.sc (.int .i64 (n : Int)))] [] (.own 0) [(0, .grid tr te (List.replicate n (List.replicate n (.sc z))))] := fun τ w vs ok hin => by
  obtain ⟨v0, rfl, hv0⟩ : ∃ v0, vs = [v0] ∧ v0 = .int .i64 (n : Int) := by
    have hl := hin.args.1
    match vs, hl with
    | [v0], _ =>
      refine ⟨v0, rfl, ?_⟩
      have := hin.args.2 0 _ v0 rfl rfl
      cases this with
      | u q => cases q; rfl
  subst hv0
  refine Calls.mono (h w) ?_
  rintro e w' ⟨v, rfl, g, rfl, hg, he, hb, hr⟩
  have hk : ∀ (k : Nat) (sb : SB), lookS k [(0, SB.grid tr te (List.replicate n (List.replicate n (.sc z))))] = some sb → k = 0 ∧ sb = .grid tr te (List.replicate n (List.replicate n (.sc z))) := fun k sb hk => by
    by_cases e : 0 = k
    · subst e; rw [lookS_grid] at hk; exact ⟨rfl, (Option.some.inj hk).symm⟩
    · rw [lookS_ne e] at hk; simp [lookS, look] at hk
  refine ⟨_, fun _ => .slice (some ⟨g, 0, none⟩) n n, rfl, Gr.of_ext he, fun k hk => (by cases hk), .own (τ := fun _ => Value.slice (some ⟨g, 0, none⟩) n n) 0 rfl, fun k sb hs => ?_, fun k k' sb sb' b h1 h2 _ _ => ?_, fun k sb b hs hv => ?_⟩
  · obtain ⟨rfl, rfl⟩ := hk k sb hs
    by_cases h0 : n = 0
    · subst h0
      exact .inl ⟨rfl, some ⟨g, 0, none⟩, 0, rfl, by simp [maxLen], fun e => by cases e⟩
    · refine .inr ⟨by simp [h0], by simp [maxLen]; omega, g, n, by simp [maxLen]; omega, by simp, by simpa using hb, fun i r hi => ?_⟩
      have hil := (List.getElem?_eq_some_iff.1 hi).1
      simp only [List.length_replicate] at hil
      rw [List.getElem?_replicate, if_pos hil] at hi
      cases hi
      refine ⟨by simp, _, hr i hil, ⟨by simp, fun j u v h1 h2 => ?_⟩, fun u hu => ?_⟩
      · have hj := (List.getElem?_eq_some_iff.1 h1).1
        simp only [List.length_replicate] at hj
        rw [List.getElem?_replicate, if_pos hj] at h1
        rw [List.getElem?_replicate, if_pos hj] at h2
        cases h1; cases h2; exact .sc _
      · rw [(List.mem_replicate.1 hu).2]; exact hz
  · rw [(hk k sb h1).1, (hk k' sb' h2).1]
  · obtain ⟨rfl, rfl⟩ := hk k sb hs
    obtain ⟨_, g', n', c', z1, z2, _⟩ := hv
    simp only [Value.slice.injEq, Option.some.injEq, Addr.mk.injEq, and_true] at z1
    obtain ⟨rfl, _, _⟩ := z1
    exact .inr (by omega)
end
end Go.H
namespace Go.H
open Go Go.RowKit
section
variable {c : Ctx} {P : Program} {Q : Exit → Act → World → Prop} {F : Frm} {S : Sto}
def Round (P : Program) (cd : Code) (Q : Exit → Act → World → Prop) (a : Act) (w : World) : Prop :=
  ∀ b k cs, ∃ e a' w'', Q e a' w'' ∧ Arrives P (lone (b.at a (.code cd :: .inLoop cd :: k)) cs w) b k cs e a' w''
theorem Round.of {cd : Code} {a : Act} {w : World} (h : cd.wp P (Exit.then (Round P cd Q) Q) a w) : Round P cd Q a w := by
  intro b k cs
  obtain ⟨e, a1, w1, hq, harr⟩ := h b (.inLoop cd :: k) cs
  cases e with
  | normal =>
    obtain ⟨e2, a2, w2, hq2, harr2⟩ := hq b k cs
    exact ⟨e2, a2, w2, hq2, .of_steps (Steps.trans harr (.one step_inLoop)) harr2⟩
  | exit id => exact ⟨_, a1, w1, hq, .pass (x := .inLoop cd) rfl (fun _ _ => .inl (by simp)) harr⟩
  | goto l => exact ⟨_, a1, w1, hq, .pass (x := .inLoop cd) rfl (fun _ _ => .inl (by simp)) harr⟩
  | ret => exact ⟨_, a1, w1, hq, .pass (x := .inLoop cd) rfl (fun _ _ => .inl (by simp)) harr⟩
  | panic ch => exact ⟨_, a1, w1, hq, .pass (x := .inLoop cd) rfl (fun _ _ => .inl (by simp)) harr⟩
  | outgrown => exact ⟨_, a1, w1, hq, .pass (x := .inLoop cd) rfl (fun _ _ => .inl (by simp)) harr⟩
theorem W.unroll {cd : Code} (h : W c P cd (Exit.then (Round P cd Q) Q) F S) : W c P (.loop cd) Q F S := by
  intro a w ha b k cs
  obtain ⟨e, a', w', hq, harr⟩ := Round.of (h a w ha) b k cs
  exact ⟨e, a', w', hq, .of_steps (.one step_loop) harr⟩
theorem E.reround {cd : Code} (h : W c P cd (Exit.then (Round P cd Q) Q) F S) : E c (Exit.then (Round P cd Q) Q) .normal F S := fun a w ha => Round.of (h a w ha)
end
end Go.H
end
section
namespace Go.G
open Go Go.RowKit
section
variable {n : Nat} {P : Program} {F : Frm} {w : World} {ty : TypeId}
theorem R.idxval {x y : Operand} {t e : TypeId} {len i : Nat} {k : IntKind} {cs : List Value} {u : Value} {dd : TypeDesc} (hx : ev F x = some (.agg cs.toArray)) (hy : ev F y = some (.int k (i : Int))) (hi : i < len) (ht : P.underlying t = some (.array len e))
    (he : (P.info? e).map (·.size) = some 1) (ho : cs[i]? = some u) (hd : P.underlying e = some dd) (ha : aggD dd = false) : Runs P w F (.index t x y) ty u := fun op ρ ho' _ hρ => by
  obtain ⟨inf, hinf, hs⟩ := Option.map_eq_some_iff.1 he
  simp only [execOp, ho', hρ x (by simp [Op.operands]) _ hx, hρ y (by simp [Op.operands]) _ hy]
  simp [Instr.index, asIntOf, run_underlying ht, hi, sizeOf, typeInfo, hinf, hs, part, run_isAgg' hd, ha, ho]
end
end Go.G
namespace Go.H
open Go Go.RowKit
section
variable {c : Ctx} {P : Program} {F : Frm} {S : Sto} {ops : Array Oper} {d : Nat} {ty : TypeId} {pos : String} {af : Array Edge} {gd : Option (Nat × Bool)}
theorem O.idxval {x y : Operand} {t e : TypeId} {k : IntKind} {ii : Int} {len i : Nat} {dd : TypeDesc} {i0 j : IV} (hx : ev F x = some i0) (hy : ev F y = some (.u (.sc (.int k ii)))) (hii : ii = (i : Int)) (hi : i < len) (hj : i0.fld i = some j)
    (ht : P.underlying t = some (.array len e)) (he : (P.info? e).map (·.size) = some 1) (hty : P.underlying e = some dd) (hag : G.aggD dd = false) (hd : Nat.blt d c.n = true) (hg : Taken ops F gd) : OpOk c P ops ⟨some d, .index t x y, ty, pos, af, gd⟩ F S [] [] (some j) [] :=
  OpOk.runs hd hg fun σ τ a w hA _ h => by
    subst hii
    obtain ⟨h1, h2⟩ := h.opd hA (by simp [Op.operands]) hx
    have hy2 := (h.sc hA (by simp [Op.operands]) hy).2
    obtain ⟨vs, u, e, q1, q2⟩ := h1.fld hj
    rw [e] at h2
    exact ⟨u, G.R.idxval h2 hy2 hi ht he q1 hty hag, q2⟩
end
end Go.H
end
section
namespace Go.G
open Go Go.RowKit
variable {P : Program} {w : World} {F : Frm} {ty : TypeId}
theorem R.max2 {x y : Operand} {t t2 : TypeId} {k : IntKind} {a b : Int} (hx : ev F x = some (.int k a)) (hy : ev F y = some (.int k b)) :
    Runs P w F (.call { callee := .builtin .max, args := #[x, y], argTypes := #[t, t2] }) ty (.int k (if a < b then b else a)) := fun o ρ ho hty hρ => by
  have hmx : x ∈ (Op.call { callee := .builtin .max, args := #[x, y], argTypes := #[t, t2] }).operands := by simp [Op.operands, Call.operands]
  have hmy : y ∈ (Op.call { callee := .builtin .max, args := #[x, y], argTypes := #[t, t2] }).operands := by simp [Op.operands, Call.operands]
  simp only [execOp, ho, resolve, Sem.run_bind, Sem.run_pure, Result.andThen_ok, invoke, List.map_toArray, List.map_cons, List.map_nil, hρ x hmx _ hx, hρ y hmy _ hy]
  simp [builtin, Builtin.max_, Builtin.max2]
end Go.G
end
section
namespace Go.H
open Go Go.RowKit Go.ChangeShapes Go.WideShapes Go.Deep
section
variable {H : Type} {henc : TypeId × Value → H} {P : Program} {w : World} {sp : Nat → Bool} {held : Bool}
def arrF (e m n : Nat) : List Field := (List.range n).map fun i => { (default : Field) with type := e, offset := i * m }
end
end Go.H
end
section
namespace Go.D33
open Go Go.RowKit Go.H

inductive Cn (R : Nat → Nat → Prop) : Nat → Nat → Prop
  | base {i j : Nat} (h : R i j) : Cn R i j
  | refl (i : Nat) : Cn R i i
  | symm {i j : Nat} (h : Cn R i j) : Cn R j i
  | trans {i j k : Nat} (h : Cn R i j) (g : Cn R j k) : Cn R i k
section
variable {R S : Nat → Nat → Prop}
theorem Cn.lift (h : ∀ i j, R i j → Cn S i j) {i j : Nat} (g : Cn R i j) : Cn S i j := by
  induction g with
  | base g => exact h _ _ g
  | refl i => exact .refl i
  | symm _ ih => exact ih.symm
  | trans _ _ ih ih' => exact ih.trans ih'
theorem Cn.mono (h : ∀ i j, R i j → S i j) {i j : Nat} (g : Cn R i j) : Cn S i j := g.lift fun i j r => .base (h i j r)
theorem Cn.keep {α : Type} {f : Nat → α} (h : ∀ i j, R i j → f i = f j) {i j : Nat} (g : Cn R i j) : f i = f j := by
  induction g with
  | base g => exact h _ _ g
  | refl i => rfl
  | symm _ ih => exact ih.symm
  | trans _ _ ih ih' => exact ih.trans ih'
end
theorem get_eq {α : Type} [Inhabited α] {l : List α} {i : Nat} (h : i < l.length) : l[i]! = l[i] := getElem!_pos l i h
theorem get_map {α β : Type} [Inhabited α] [Inhabited β] {l : List α} {f : α → β} {i : Nat} (h : i < l.length) : (l.map f)[i]! = f l[i]! := by
  rw [getElem!_pos _ _ (by rw [List.length_map]; exact h), List.getElem_map, getElem!_pos l i h]
theorem ext_g {α : Type} [Inhabited α] {a b : List α} (hl : a.length = b.length) (h : ∀ i, i < a.length → a[i]! = b[i]!) : a = b := by
  apply List.ext_getElem hl
  intro i h1 h2
  have := h i h1
  rwa [getElem!_pos a i h1, getElem!_pos b i h2] at this
theorem range_get {n i : Nat} (h : i < n) : (List.range n)[i]! = i := by rw [getElem!_pos _ _ (by simpa using h), List.getElem_range]
theorem set_get {α : Type} [Inhabited α] {l : List α} {i j : Nat} {x : α} (h : j < l.length) : (l.set i x)[j]! = if i = j then x else l[j]! := by
  rw [getElem!_pos _ _ (by rw [List.length_set]; exact h), List.getElem_set, getElem!_pos l j h]
structure Comp (n : Nat) (R : Nat → Nat → Prop) (l : List Nat) : Prop where
  len : l.length = n
  bnd : ∀ i j, R i j → i < n ∧ j < n
  le : ∀ i, i < n → l[i]! ≤ i
  rel : ∀ i j, R i j → l[i]! = l[j]!
  cn : ∀ i, i < n → Cn R i l[i]!
namespace Comp
variable {n : Nat} {R S : Nat → Nat → Prop} {l m : List Nat}
theorem lt (h : Comp n R l) {i : Nat} (hi : i < n) : l[i]! < n := Nat.lt_of_le_of_lt (h.le i hi) hi
theorem idem (h : Comp n R l) {i : Nat} (hi : i < n) : l[l[i]!]! = l[i]! := (Cn.keep (f := fun i => l[i]!) h.rel (h.cn i hi)).symm
theorem same (h : Comp n R l) {i j : Nat} (g : Cn R i j) : l[i]! = l[j]! := Cn.keep (f := fun i => l[i]!) h.rel g
theorem iff (h : Comp n R l) {i j : Nat} (hi : i < n) (hj : j < n) : l[i]! = l[j]! ↔ Cn R i j :=
  ⟨fun e => (h.cn i hi).trans (e ▸ (h.cn j hj).symm), h.same⟩
theorem uniq (h : Comp n R l) (g : Comp n R m) : l = m := ext_g (h.len.trans g.len.symm) fun i hi => by
  rw [h.len] at hi
  have h1 : m[i]! ≤ l[i]! := by rw [g.same (h.cn i hi)]; exact g.le _ (h.lt hi)
  have h2 : l[i]! ≤ m[i]! := by rw [h.same (g.cn i hi)]; exact h.le _ (g.lt hi)
  omega
theorem congr (h : Comp n R l) (hb : ∀ i j, S i j → i < n ∧ j < n) (h1 : ∀ i j, S i j → Cn R i j) (h2 : ∀ i j, R i j → Cn S i j) : Comp n S l :=
  ⟨h.len, hb, h.le, fun i j r => h.same (h1 i j r), fun i hi => (h.cn i hi).lift h2⟩
theorem alone (n : Nat) : Comp n (fun _ _ => False) (List.range n) :=
  ⟨List.length_range, fun _ _ h => h.elim, fun i hi => by rw [range_get hi]; exact Nat.le_refl _, fun _ _ h => h.elim, fun i hi => by rw [range_get hi]; exact .refl i⟩
end Comp
def joinL (l : List Nat) (a b : Nat) : List Nat := l.map fun x => if x = max l[a]! l[b]! then min l[a]! l[b]! else x
theorem join_len (l : List Nat) (a b : Nat) : (joinL l a b).length = l.length := List.length_map _
theorem join_get {l : List Nat} {a b i : Nat} (h : i < l.length) : (joinL l a b)[i]! = if l[i]! = max l[a]! l[b]! then min l[a]! l[b]! else l[i]! := get_map h
theorem Comp.join {n : Nat} {R : Nat → Nat → Prop} {l : List Nat} {a b : Nat} (h : Comp n R l) (ha : a < n) (hb : b < n) : Comp n (fun i j => R i j ∨ (i = a ∧ j = b)) (joinL l a b) := by
  have hg : ∀ i, i < n → (joinL l a b)[i]! = if l[i]! = max l[a]! l[b]! then min l[a]! l[b]! else l[i]! := fun i hi => join_get (by rw [h.len]; exact hi)
  refine ⟨(join_len l a b).trans h.len, fun i j r => r.elim (h.bnd i j) fun r => by omega, fun i hi => ?_, fun i j r => ?_, fun i hi => ?_⟩
  · rw [hg i hi]
    have := h.le i hi
    split <;> omega
  · rcases r with r | ⟨rfl, rfl⟩
    · obtain ⟨hi, hj⟩ := h.bnd i j r
      rw [hg i hi, hg j hj, h.rel i j r]
    · rw [hg i ha, hg j hb]
      split <;> split <;> omega
  · have up : ∀ {i j}, Cn R i j → Cn (fun i j => R i j ∨ (i = a ∧ j = b)) i j := fun g => g.mono fun _ _ r => .inl r
    have hab : Cn (fun i j => R i j ∨ (i = a ∧ j = b)) l[a]! l[b]! := ((up (h.cn a ha)).symm.trans (.base (.inr ⟨rfl, rfl⟩))).trans (up (h.cn b hb))
    rw [hg i hi]
    split
    · rename_i e
      refine (up (h.cn i hi)).trans ?_
      rw [e]
      rcases Nat.le_total l[a]! l[b]! with q | q
      · rw [Nat.max_eq_right q, Nat.min_eq_left q]; exact hab.symm
      · rw [Nat.max_eq_left q, Nat.min_eq_right q]; exact hab
    · exact up (h.cn i hi)
def joinsL (l : List Nat) (es : List (Nat × Nat)) : List Nat := es.foldl (fun l e => joinL l e.1 e.2) l
theorem joins_snoc (l : List Nat) (es : List (Nat × Nat)) (e : Nat × Nat) : joinsL l (es ++ [e]) = joinL (joinsL l es) e.1 e.2 := by
  rw [joinsL, List.foldl_append]; rfl
theorem Comp.joins {n : Nat} : ∀ {es : List (Nat × Nat)} {R : Nat → Nat → Prop} {l : List Nat}, Comp n R l → (∀ e ∈ es, e.1 < n ∧ e.2 < n) → Comp n (fun i j => R i j ∨ (i, j) ∈ es) (joinsL l es)
  | [], R, l, h, _ => h.congr (fun i j r => h.bnd i j (r.elim id fun q => by cases q)) (fun i j r => .base (r.elim id fun q => by cases q)) fun i j r => .base (.inl r)
  | e :: es, R, l, h, he => by
    have h1 := he e (by simp)
    have := (h.join h1.1 h1.2).joins (es := es) fun q hq => he q (by simp [hq])
    have key : ∀ i j, ((R i j ∨ (i = e.1 ∧ j = e.2)) ∨ (i, j) ∈ es) ↔ (R i j ∨ (i, j) ∈ e :: es) := fun i j => by
      rw [List.mem_cons, or_assoc, Prod.ext_iff]
    exact this.congr (fun i j r => this.bnd i j ((key i j).2 r)) (fun i j r => .base ((key i j).2 r)) fun i j r => .base ((key i j).1 r)
theorem Comp.joins0 {n : Nat} {es : List (Nat × Nat)} (he : ∀ e ∈ es, e.1 < n ∧ e.2 < n) : Comp n (fun i j => (i, j) ∈ es) (joinsL (List.range n) es) := by
  have := (Comp.alone n).joins he
  exact this.congr (fun i j r => this.bnd i j (.inr r)) (fun i j r => .base (.inr r)) fun i j r => .base (r.elim (fun f => f.elim) id)

def growF (E : Nat → Nat → Bool) : Nat → List Nat → List Nat → Nat → List Nat × List Nat
  | 0, part, left, _ => (part, left)
  | f + 1, part, left, i => if i < part.length then growF E f (part ++ left.filter (E part[i]!)) (left.filter fun u => !E part[i]! u) (i + 1) else (part, left)
def grow (E : Nat → Nat → Bool) (part left : List Nat) (i : Nat) : List Nat × List Nat := growF E (part.length + left.length - i) part left i
theorem filt_len (p : Nat → Bool) : ∀ l : List Nat, (l.filter p).length + (l.filter fun u => !p u).length = l.length
  | [] => rfl
  | a :: l => by
    have := filt_len p l
    cases h : p a <;> simp [h] <;> omega
theorem grow_end {E : Nat → Nat → Bool} {part left : List Nat} {i : Nat} (h : ¬ i < part.length) : grow E part left i = (part, left) := by
  unfold grow
  cases part.length + left.length - i with
  | zero => rfl
  | succ f => rw [growF, if_neg h]
theorem grow_step {E : Nat → Nat → Bool} {part left : List Nat} {i : Nat} (h : i < part.length) : grow E part left i = grow E (part ++ left.filter (E part[i]!)) (left.filter fun u => !E part[i]! u) (i + 1) := by
  have := filt_len (E part[i]!) left
  unfold grow
  rw [show part.length + left.length - i = ((part ++ left.filter (E part[i]!)).length + (left.filter fun u => !E part[i]! u).length - (i + 1)) + 1 by rw [List.length_append]; omega, growF, if_pos h]
def within (E : Nat → Nat → Bool) (p : List Nat) (i j : Nat) : Prop := E i j = true ∧ i ∈ p ∧ j ∈ p
theorem perm_filt (p : Nat → Bool) : ∀ l : List Nat, (l.filter p ++ l.filter fun u => !p u).Perm l
  | [] => .refl _
  | a :: l => by
    cases h : p a
    · simp only [List.filter_cons, h, Bool.not_false, if_true]
      exact List.perm_middle.trans ((perm_filt p l).cons a)
    · simp only [List.filter_cons, h, if_true]
      exact (perm_filt p l).cons a
theorem grow_ok {E : Nat → Nat → Bool} (r : Nat) : ∀ (m : Nat) (part left : List Nat) (i : Nat), part.length + left.length - i = m → (∀ u ∈ part, Cn (within E part) r u) → (∀ j, j < i → ∀ v ∈ left, E part[j]! v = false) → i ≤ part.length →
    ((grow E part left i).1 ++ (grow E part left i).2).Perm (part ++ left) ∧ (∀ u ∈ (grow E part left i).1, Cn (within E (grow E part left i).1) r u) ∧ (∀ u ∈ (grow E part left i).1, ∀ v ∈ (grow E part left i).2, E u v = false) ∧
      (grow E part left i).2.Sublist left ∧ part <+: (grow E part left i).1 := by
  intro m
  induction m using Nat.strongRecOn with
  | _ m ih =>
    intro part left i hm hc hs hi
    by_cases h : i < part.length
    · rw [grow_step h]
      have hl := filt_len (E part[i]!) left
      obtain ⟨a1, a2, a3, a4, a5⟩ := ih _ (by subst hm; rw [List.length_append]; omega) (part ++ left.filter (E part[i]!)) (left.filter fun u => !E part[i]! u) (i + 1) rfl (fun u hu => by
          have up : ∀ {x y}, Cn (within E part) x y → Cn (within E (part ++ left.filter (E part[i]!))) x y := fun g => g.mono fun _ _ q => ⟨q.1, List.mem_append_left _ q.2.1, List.mem_append_left _ q.2.2⟩
          rcases List.mem_append.1 hu with q | q
          · exact up (hc u q)
          · have hm : part[i]! ∈ part := by rw [get_eq h]; exact List.getElem_mem _
            exact (up (hc _ hm)).trans (.base ⟨(List.mem_filter.1 q).2, List.mem_append_left _ hm, List.mem_append_right _ q⟩)) (fun j hj v hv => by
          have hv' := List.mem_filter.1 hv
          have e : (part ++ left.filter (E part[i]!))[j]! = part[j]! := by
            rw [get_eq (show j < part.length by omega), getElem!_pos _ _ (by rw [List.length_append]; omega), List.getElem_append_left]
          rw [e]
          rcases Nat.lt_succ_iff_lt_or_eq.1 hj with q | rfl
          · exact hs j q v hv'.1
          · have := hv'.2; simpa using this) (by rw [List.length_append]; omega)
      refine ⟨a1.trans ?_, a2, a3, a4.trans List.filter_sublist, (List.prefix_append _ _).trans a5⟩
      rw [List.append_assoc]
      exact (perm_filt _ _).append_left _
    · rw [grow_end h]
      refine ⟨.refl _, hc, fun u hu v hv => ?_, .refl _, List.prefix_refl _⟩
      have hu' : u ∈ part := hu
      obtain ⟨j, hj, rfl⟩ := List.getElem_of_mem hu'
      rw [← get_eq hj]
      exact hs j (by omega) v hv
def partsF (E : Nat → Nat → Bool) : Nat → List Nat → List (List Nat)
  | 0, _ => []
  | _ + 1, [] => []
  | f + 1, u :: r => (grow E [u] r 0).1 :: partsF E f (grow E [u] r 0).2
def partsL (E : Nat → Nat → Bool) (l : List Nat) : List (List Nat) := partsF E l.length l
theorem grow1 {E : Nat → Nat → Bool} (u : Nat) (r : List Nat) :
    ((grow E [u] r 0).1 ++ (grow E [u] r 0).2).Perm (u :: r) ∧ (∀ v ∈ (grow E [u] r 0).1, Cn (within E (grow E [u] r 0).1) u v) ∧ (∀ x ∈ (grow E [u] r 0).1, ∀ v ∈ (grow E [u] r 0).2, E x v = false) ∧ (grow E [u] r 0).2.Sublist r ∧ [u] <+: (grow E [u] r 0).1 :=
  grow_ok u _ [u] r 0 rfl (fun v hv => by rw [List.mem_singleton.1 hv]; exact .refl _) (fun j hj => by omega) (by simp)
theorem partsF_ge {E : Nat → Nat → Bool} : ∀ {f g : Nat} {l : List Nat}, l.length ≤ f → l.length ≤ g → partsF E f l = partsF E g l
  | 0, 0, l, _, _ => rfl
  | 0, g + 1, [], _, _ => rfl
  | f + 1, 0, [], _, _ => rfl
  | f + 1, g + 1, [], _, _ => rfl
  | f + 1, g + 1, u :: r, h1, h2 => by
    have := (grow1 (E := E) u r).2.2.2.1.length_le
    rw [List.length_cons] at h1 h2
    rw [partsF, partsF, partsF_ge (g := g) (by omega) (by omega)]
theorem parts_nil (E : Nat → Nat → Bool) : partsL E [] = [] := rfl
theorem parts_cons (E : Nat → Nat → Bool) (u : Nat) (r : List Nat) : partsL E (u :: r) = (grow E [u] r 0).1 :: partsL E (grow E [u] r 0).2 := by
  have := (grow1 (E := E) u r).2.2.2.1.length_le
  unfold partsL
  rw [List.length_cons, partsF, partsF_ge (g := (grow E [u] r 0).2.length) (by omega) (Nat.le_refl _)]
structure Parts (E : Nat → Nat → Bool) (units : List Nat) (ps : List (List Nat)) : Prop where
  perm : ps.flatten.Perm units
  hd : ∀ p ∈ ps, ∃ u r, p = u :: r ∧ ∀ v ∈ r, u < v
  conn : ∀ p ∈ ps, ∀ u ∈ p, ∀ v ∈ p, Cn (within E p) u v
  sep : ps.Pairwise fun p q => ∀ u ∈ p, ∀ v ∈ q, E u v = false
theorem parts_ok {E : Nat → Nat → Bool} : ∀ (m : Nat) (l : List Nat), l.length = m → l.Pairwise (· < ·) → Parts E l (partsL E l) := by
  intro m
  induction m using Nat.strongRecOn with
  | _ m ih =>
    intro l hm hs
    cases l with
    | nil => rw [parts_nil]; exact ⟨.refl _, fun p hp => (by cases hp), fun p hp => (by cases hp), List.Pairwise.nil⟩
    | cons u r =>
      obtain ⟨a1, a2, a3, a4, a5⟩ := grow1 (E := E) u r
      rw [List.length_cons] at hm
      have hl := a4.length_le
      obtain ⟨hu, hr⟩ := List.pairwise_cons.1 hs
      have := ih _ (by omega) _ rfl (hr.sublist a4)
      rw [parts_cons]
      obtain ⟨q, hq⟩ := a5
      have hq' : (grow E [u] r 0).1 = u :: q := hq.symm
      have hperm : (q ++ (grow E [u] r 0).2).Perm r := by
        have := a1
        rw [hq', List.cons_append] at this
        exact this.cons_inv
      refine ⟨?_, fun p hp => ?_, fun p hp x hx v hv => ?_, List.pairwise_cons.2 ⟨fun p hp x hx v hv => ?_, this.sep⟩⟩
      · rw [List.flatten_cons]
        exact (this.perm.append_left _).trans a1
      · rcases List.mem_cons.1 hp with rfl | hp
        · exact ⟨u, q, hq', fun v hv => hu v (hperm.subset (List.mem_append_left _ hv))⟩
        · exact this.hd p hp
      · rcases List.mem_cons.1 hp with rfl | hp
        · exact (a2 x hx).symm.trans (a2 v hv)
        · exact this.conn p hp x hx v hv
      · exact a3 x hx v (this.perm.subset (List.mem_flatten.2 ⟨p, hp, hv⟩))
def minL : List Nat → Nat
  | [] => 0
  | u :: r => r.foldl min u
theorem foldl_min : ∀ {r : List Nat} {u : Nat}, (∀ v ∈ r, u < v) → r.foldl min u = u
  | [], _, _ => rfl
  | v :: r, u, h => by
    rw [List.foldl_cons, Nat.min_eq_left (Nat.le_of_lt (h v (by simp)))]
    exact foldl_min fun x hx => h x (by simp [hx])
theorem minL_hd {u : Nat} {r : List Nat} (h : ∀ v ∈ r, u < v) : minL (u :: r) = u := foldl_min h
def setAll {α : Type} (o : List α) (us : List Nat) (m : α) : List α := us.foldl (fun o u => o.set u m) o
theorem setAll_len {α : Type} {m : α} : ∀ {us : List Nat} {o : List α}, (setAll o us m).length = o.length
  | [], o => rfl
  | u :: us, o => by
    show (setAll (o.set u m) us m).length = _
    rw [setAll_len, List.length_set]
theorem setAll_get {α : Type} [Inhabited α] {m : α} {i : Nat} : ∀ {us : List Nat} {o : List α}, i < o.length → (setAll o us m)[i]! = if i ∈ us then m else o[i]!
  | [], o, h => by rw [if_neg (by simp)]; rfl
  | u :: us, o, h => by
    show (setAll (o.set u m) us m)[i]! = _
    rw [setAll_get (by rw [List.length_set]; exact h), set_get h]
    by_cases e : i ∈ us
    · rw [if_pos e, if_pos (by simp [e])]
    · rw [if_neg e]
      by_cases e2 : u = i
      · rw [if_pos e2, if_pos (by simp [e2])]
      · rw [if_neg e2, if_neg (by simp [e, Ne.symm e2])]
theorem setAll_snoc {α : Type} (o : List α) (us : List Nat) (u : Nat) (m : α) : setAll o (us ++ [u]) m = (setAll o us m).set u m := by rw [setAll, List.foldl_append]; rfl
def nameF {α : Type} (f : Nat → α) (o : List α) (ps : List (List Nat)) : List α := ps.foldl (fun o p => setAll o p (f (minL p))) o
theorem nameF_len {α : Type} {f : Nat → α} : ∀ {ps : List (List Nat)} {o : List α}, (nameF f o ps).length = o.length
  | [], o => rfl
  | p :: ps, o => by
    show (nameF f (setAll o p (f (minL p))) ps).length = _
    rw [nameF_len, setAll_len]
theorem nameF_snoc {α : Type} (f : Nat → α) (o : List α) (ps : List (List Nat)) (p : List Nat) : nameF f o (ps ++ [p]) = setAll (nameF f o ps) p (f (minL p)) := by rw [nameF, List.foldl_append]; rfl
theorem nameF_out {α : Type} [Inhabited α] {f : Nat → α} {i : Nat} : ∀ {ps : List (List Nat)} {o : List α}, i < o.length → (∀ p ∈ ps, i ∉ p) → (nameF f o ps)[i]! = o[i]!
  | [], o, _, _ => rfl
  | p :: ps, o, h, hp => by
    show (nameF f (setAll o p (f (minL p))) ps)[i]! = _
    rw [nameF_out (by rw [setAll_len]; exact h) (fun q hq => hp q (by simp [hq])), setAll_get h, if_neg (hp p (by simp))]
theorem nameF_in {α : Type} [Inhabited α] {f : Nat → α} {i : Nat} {p : List Nat} : ∀ {ps : List (List Nat)} {o : List α}, i < o.length → ps.flatten.Nodup → p ∈ ps → i ∈ p → (nameF f o ps)[i]! = f (minL p)
  | [], o, _, _, hp, _ => by cases hp
  | q :: ps, o, h, hn, hp, hi => by
    show (nameF f (setAll o q (f (minL q))) ps)[i]! = _
    rw [List.flatten_cons, List.nodup_append] at hn
    rcases List.mem_cons.1 hp with rfl | hp
    · rw [nameF_out (by rw [setAll_len]; exact h) (fun q hq hi2 => hn.2.2 i hi i (List.mem_flatten.2 ⟨q, hq, hi2⟩) rfl), setAll_get h, if_pos hi]
    · exact nameF_in (by rw [setAll_len]; exact h) hn.2.1 hp hi
def namedL (n : Nat) (ps : List (List Nat)) : List Nat := nameF id (List.replicate n 0) ps
theorem sep_same {E : Nat → Nat → Bool} (hE : ∀ i j, E i j = E j i) {ps : List (List Nat)} : ps.Pairwise (fun p q => ∀ u ∈ p, ∀ v ∈ q, E u v = false) → ∀ {p q : List Nat} {u v : Nat}, p ∈ ps → q ∈ ps → u ∈ p → v ∈ q → E u v = true → p = q := by
  intro h
  induction h with
  | nil => intro p q u v hp; cases hp
  | @cons a l ha _ ih =>
    intro p q u v hp hq hu hv he
    rcases List.mem_cons.1 hp with hp' | hp' <;> rcases List.mem_cons.1 hq with hq' | hq'
    · rw [hp', hq']
    · subst hp'; rw [ha q hq' u hu v hv] at he; cases he
    · subst hq'; rw [hE, ha p hp' v hv u hu] at he; cases he
    · exact ih hp' hq' hu hv he
theorem mem_part {E : Nat → Nat → Bool} {units : List Nat} {ps : List (List Nat)} (h : Parts E units ps) {i : Nat} : i ∈ units ↔ ∃ p ∈ ps, i ∈ p := by
  rw [← h.perm.mem_iff, List.mem_flatten]
theorem min_mem {E : Nat → Nat → Bool} {units : List Nat} {ps : List (List Nat)} (h : Parts E units ps) {p : List Nat} (hp : p ∈ ps) : minL p ∈ p ∧ ∀ v ∈ p, minL p ≤ v := by
  obtain ⟨u, r, rfl, hr⟩ := h.hd p hp
  rw [minL_hd hr]
  exact ⟨by simp, fun v hv => by rcases List.mem_cons.1 hv with rfl | q; exact Nat.le_refl _; exact Nat.le_of_lt (hr v q)⟩
theorem comp_parts {n : Nat} {E : Nat → Nat → Bool} (hE : ∀ i j, E i j = E j i) : Comp n (fun i j => E i j = true ∧ i < n ∧ j < n) (namedL n (partsL E (List.range n))) := by
  have h := parts_ok (E := E) _ (List.range n) rfl List.pairwise_lt_range
  have hnd : (partsL E (List.range n)).flatten.Nodup := h.perm.nodup_iff.2 List.nodup_range
  have hm : ∀ i, i < n → ∃ p ∈ partsL E (List.range n), i ∈ p := fun i hi => (mem_part h).1 (List.mem_range.2 hi)
  have hg : ∀ i, i < n → ∀ p ∈ partsL E (List.range n), i ∈ p → (namedL n (partsL E (List.range n)))[i]! = minL p := fun i hi p hp hip => nameF_in (by rw [List.length_replicate]; exact hi) hnd hp hip
  refine ⟨by rw [namedL, nameF_len, List.length_replicate], fun i j r => r.2, fun i hi => ?_, fun i j r => ?_, fun i hi => ?_⟩
  · obtain ⟨p, hp, hip⟩ := hm i hi
    rw [hg i hi p hp hip]
    exact (min_mem h hp).2 i hip
  · obtain ⟨p, hp, hip⟩ := hm i r.2.1
    obtain ⟨q, hq, hjq⟩ := hm j r.2.2
    have := sep_same hE h.sep hp hq hip hjq r.1
    subst this
    rw [hg i r.2.1 p hp hip, hg j r.2.2 p hp hjq]
  · obtain ⟨p, hp, hip⟩ := hm i hi
    rw [hg i hi p hp hip]
    refine (h.conn p hp i hip _ (min_mem h hp).1).mono fun x y r => ⟨r.1, ?_, ?_⟩
    · exact List.mem_range.1 ((mem_part h).2 ⟨p, hp, r.2.1⟩)
    · exact List.mem_range.1 ((mem_part h).2 ⟨p, hp, r.2.2⟩)
end Go.D33
end
section
namespace Go.Proofs.Ytbkbeplddddgeaa
open Go Go.RowKit Go.H Go.D33



def mkGr (g n k : Nat) : List Value := (List.range n).map fun i => if i < k then Value.slice (some ⟨g + 1 + i, 0, none⟩) n n else .slice none 0 0
theorem mkGr_0 (g n : Nat) : mkGr g n 0 = List.replicate n (.slice none 0 0) := by
  apply List.ext_getElem
  · simp [mkGr]
  · intro i h1 h2
    simp [mkGr]
theorem len0 {P : Program} {F : G.Frm} {w : World} {ty : TypeId} {x : Operand} {t e : TypeId} {A : Option Addr} {n c : Nat} (hx : G.ev F x = some (.slice A n c)) (ht : P.underlying t = some (.slice e)) :
    G.Runs P w F (.call { callee := .builtin .len, args := #[x], argTypes := #[t] }) ty (.int .i64 n) :=
  G.R.call1 hx (fun cc => by simp [builtin, Builtin.len_, run_underlying ht, goInt])
theorem mkGr_n (g n : Nat) : mkGr g n n = (List.range n).map fun i => Value.slice (some ⟨g + 1 + i, 0, none⟩) n n := List.map_congr_left fun _ hi => if_pos (List.mem_range.1 hi)
theorem mkGr_len (g n k : Nat) : (mkGr g n k).length = n := by simp [mkGr]
theorem mkGr_s {g n k : Nat} (h : k < n) : (mkGr g n k).take k ++ [Value.slice (some ⟨g + 1 + k, 0, none⟩) n n] ++ (mkGr g n k).drop (k + 1) = mkGr g n (k + 1) := by
  have e : (mkGr g n k).take k ++ [Value.slice (some ⟨g + 1 + k, 0, none⟩) n n] ++ (mkGr g n k).drop (k + 1) = (mkGr g n k).set k (Value.slice (some ⟨g + 1 + k, 0, none⟩) n n) := by
    rw [List.set_eq_take_append_cons_drop, if_pos (by rw [mkGr_len]; exact h)]; simp
  rw [e]
  apply List.ext_getElem
  · simp [mkGr]
  · intro i h1 h2
    simp only [mkGr, List.length_map, List.length_range] at h2
    rw [List.getElem_set]
    simp only [mkGr, List.getElem_map, List.getElem_range]
    split
    · rename_i q; subst q; rw [if_pos (by omega)]
    · rename_i q
      by_cases hk : i < k
      · rw [if_pos hk, if_pos (by omega)]
      · rw [if_neg hk, if_neg (by omega)]

theorem gridI_calls (n : Nat) (hn : n ≤ 1000000) (w : World) : G.CallsTo Try.prog 81 [.int .i64 (n : Int)] w (fun v w' => Grid0 w w' v 32 3 (Value.int .i64 0) n) := by
  obtain ⟨i1, hi1, hz1, hs1, hb1⟩ : ∃ i, Try.prog.info? 32 = some i ∧ i.zero = some (.slice none 0 0) ∧ i.size = 1 ∧ i.bytes = 24 := G.info_of (by kernel_rfl)
  obtain ⟨i2, hi2, hz2, hs2, hb2⟩ : ∃ i, Try.prog.info? 3 = some i ∧ i.zero = some (Value.int .i64 0) ∧ i.size = 1 ∧ i.bytes = 8 := G.info_of (by kernel_rfl)
  refine G.enter (n := 19) (l := [.int .i64 (n : Int)]) Try.func81 rfl rfl rfl ?_
  refine G.W.seq ?_
  refine G.W.region ?_
  refine G.WL.det (fun _ _ => G.R.assign rfl) rfl ?_
  refine G.WL.nil ?_
  refine G.E.to ?_
  refine G.W.seq ?_
  refine G.W.region ?_
  refine G.WL.det (fun _ _ => G.R.move rfl) rfl ?_
  refine G.WL.mk (G.M.make (E := G.encVal) (m := n) (zx := .slice none 0 0) rfl rfl Try.underlying68 hi1 hz1 hs1 rfl (by rw [hb1]; omega) (by omega)) rfl rfl ?_
  rintro _ w1 ⟨g, rfl, hg, hsz, e1, ho⟩
  have hb0 : G.Blk w1 g 32 (mkGr g n 0) := by
    have := ho.blk rfl (by simp)
    rw [mkGr_0]
    have e : G.encVal.all (List.replicate n (Value.slice none 0 0)) = List.replicate n (.slice none 0 0) := by
      show (List.replicate n (Value.slice none 0 0)).flatMap (fun v => [v]) = _
      simp
    rwa [e] at this
  refine G.WL.det (fun _ _ => G.R.assign rfl) rfl ?_
  refine G.WL.nil ?_
  refine G.E.to ?_
  refine G.W.seq ?_
  refine G.W.seq ?_
  refine G.W.region ?_
  refine G.WL.det (fun _ _ => G.R.move rfl) rfl ?_
  refine G.WL.det (fun _ _ => len0 rfl Try.underlying68) rfl ?_
  refine G.WL.det (fun _ _ => G.R.move rfl) rfl ?_
  refine G.WL.nil ?_
  refine G.E.to ?_
  refine G.W.block ?_
  refine G.W.loopx1 [0, 3, 8] (fun (k : Nat) => [(9, .val (.int .i64 (k : Int)))]) (fun (k : Nat) wr => k ≤ n ∧ G.Ext w wr ∧ wr.heap.size = g + 1 + k ∧ G.Blk wr g 32 (mkGr g n k) ∧ ∀ i, i < k → G.Blk wr (g + 1 + i) 3 (List.replicate n (Value.int .i64 0))) (fun (k : Nat) => n - k) 0 ?_ ?_ ?_
  · exact (G.Sub.cons rfl (G.Sub.cons rfl (G.Sub.cons rfl (G.Sub.cons rfl (G.Sub.nil _)))))
  · exact ⟨Nat.zero_le _, e1, hsz, hb0, fun i hi => absurd hi (Nat.not_lt_zero _)⟩
  rintro k w2 ⟨hk, hE, hS, hB, hR⟩
  refine G.W.seq ?_
  refine G.W.region ?_
  refine G.WL.det (fun _ _ => G.R.lss rfl rfl) rfl ?_
  refine G.WL.nil ?_
  refine G.E.to ?_
  refine G.W.seq ?_
  refine G.W.cond_d rfl (fun hc => ?_) (fun hc => ?_)
  · refine G.W.skip ?_
    refine G.E.to ?_
    refine G.W.seq ?_
    refine G.W.block ?_
    refine G.W.seq ?_
    refine G.W.region ?_
    refine G.WL.det (fun _ _ => G.R.move rfl) rfl ?_
    refine G.WL.det (fun _ _ => G.R.assign rfl) rfl ?_
    refine G.WL.nil ?_
    refine G.E.to ?_
    refine G.W.region ?_
    refine G.WL.det (fun _ _ => G.R.move rfl) rfl ?_
    refine G.WL.det (fun _ _ => G.R.move rfl) rfl ?_
    refine G.WL.det (fun _ _ => G.R.move rfl) rfl ?_
    refine G.WL.mk (G.M.make (E := G.encVal) (m := n) (zx := Value.int .i64 0) rfl rfl Try.underlying32 hi2 hz2 hs2 rfl (by rw [hb2]; omega) (by omega)) rfl rfl ?_
    rintro _ w3 ⟨g2, rfl, hg2, hsz2, e3, ho2⟩
    have hge : g2 = g + 1 + k := by omega
    subst hge
    have hrow : G.Blk w3 (g + 1 + k) 3 (List.replicate n (Value.int .i64 0)) := by
      have := ho2.blk rfl (by simp)
      have e : G.encVal.all (List.replicate n (Value.int .i64 0)) = List.replicate n (Value.int .i64 0) := by
        show (List.replicate n (Value.int .i64 0)).flatMap (fun v => [v]) = _
        simp
      rwa [e] at this
    replace hB := hB.ext e3
    have hR3 : ∀ i, i < k → G.Blk w3 (g + 1 + i) 3 (List.replicate n (Value.int .i64 0)) := fun i hi => (hR i hi).ext e3
    refine G.WL.det (fun _ _ => G.R.idx0 (i := k) rfl rfl (by omega) Try.underlying68 hi1 hs1) rfl ?_
    refine G.WL.do (G.D.store (g := g) (vs := [.slice (some ⟨g + 1 + k, 0, none⟩) n n]) (o := 0 + k) (by rw [← Addr.add_lit]; rfl) rfl rfl (m := 1) (by kernel_rfl) rfl hB (by rw [mkGr_len]; show 0 + k + 1 ≤ n; omega) rfl) rfl ?_
    rintro w4 ⟨h4, h5, h6⟩
    rw [Nat.zero_add] at h4
    replace h4 : G.Blk w4 g 32 (mkGr g n (k + 1)) := by rw [← mkGr_s (show k < n by omega)]; exact h4
    have hsg := hE.size
    refine G.WL.nil ?_
    refine G.E.inn ?_
    refine G.E.to ?_
    refine G.W.region ?_
    refine G.WL.det (fun _ _ => G.R.add64 rfl rfl (by omega)) rfl ?_
    refine G.WL.det (fun _ _ => G.R.move rfl) rfl ?_
    refine G.WL.nil ?_
    refine G.E.againx1 (k + 1) (G.Sub.cons rfl (G.Sub.cons rfl (G.Sub.cons rfl (G.Sub.cons rfl (G.Sub.nil _))))) ?_ (by omega)
    refine ⟨by omega, (hE.tr e3).grown h5 (fun j hj => by cases hj; omega), by omega, h4, fun i hi => ?_⟩
    by_cases e : i = k
    · rw [e]; exact hrow.far h5 (fun q => by simp at q; omega)
    · exact (hR3 i (by omega)).far h5 (fun q => by simp at q; omega)
  · refine G.W.exit ?_
    refine G.E.th ?_
    refine G.E.th ?_
    refine G.E.hit ?_
    refine G.E.to ?_
    refine G.W.seq ?_
    refine G.W.region ?_
    refine G.WL.det (fun _ _ => G.R.move rfl) rfl ?_
    refine G.WL.det (fun _ _ => G.R.assign rfl) rfl ?_
    refine G.WL.nil ?_
    refine G.E.to ?_
    refine G.W.ret ?_
    refine G.E.fin1 (.inl rfl) rfl rfl ?_
    obtain rfl : k = n := by omega
    exact ⟨_, rfl, g, rfl, by omega, hE, by rw [← mkGr_n]; exact hB, hR⟩
theorem gridI_h {n : Nat} (hn : n ≤ 1000000) : Con Try.prog 81 [vI (n : Int)] [] (.own 0) [(0, .grid 32 3 (List.replicate n (List.replicate n (.sc (Value.int .i64 0)))))] := con_grid hn rfl (gridI_calls n hn)

theorem gridB_calls (n : Nat) (hn : n ≤ 1000000) (w : World) : G.CallsTo Try.prog 82 [.int .i64 (n : Int)] w (fun v w' => Grid0 w w' v 112 4 (Value.bool false) n) := by
  obtain ⟨i1, hi1, hz1, hs1, hb1⟩ : ∃ i, Try.prog.info? 112 = some i ∧ i.zero = some (.slice none 0 0) ∧ i.size = 1 ∧ i.bytes = 24 := G.info_of (by kernel_rfl)
  obtain ⟨i2, hi2, hz2, hs2, hb2⟩ : ∃ i, Try.prog.info? 4 = some i ∧ i.zero = some (Value.bool false) ∧ i.size = 1 ∧ i.bytes = 1 := G.info_of (by kernel_rfl)
  refine G.enter (n := 19) (l := [.int .i64 (n : Int)]) Try.func82 rfl rfl rfl ?_
  refine G.W.seq ?_
  refine G.W.region ?_
  refine G.WL.det (fun _ _ => G.R.assign rfl) rfl ?_
  refine G.WL.nil ?_
  refine G.E.to ?_
  refine G.W.seq ?_
  refine G.W.region ?_
  refine G.WL.det (fun _ _ => G.R.move rfl) rfl ?_
  refine G.WL.mk (G.M.make (E := G.encVal) (m := n) (zx := .slice none 0 0) rfl rfl Try.underlying88 hi1 hz1 hs1 rfl (by rw [hb1]; omega) (by omega)) rfl rfl ?_
  rintro _ w1 ⟨g, rfl, hg, hsz, e1, ho⟩
  have hb0 : G.Blk w1 g 112 (mkGr g n 0) := by
    have := ho.blk rfl (by simp)
    rw [mkGr_0]
    have e : G.encVal.all (List.replicate n (Value.slice none 0 0)) = List.replicate n (.slice none 0 0) := by
      show (List.replicate n (Value.slice none 0 0)).flatMap (fun v => [v]) = _
      simp
    rwa [e] at this
  refine G.WL.det (fun _ _ => G.R.assign rfl) rfl ?_
  refine G.WL.nil ?_
  refine G.E.to ?_
  refine G.W.seq ?_
  refine G.W.seq ?_
  refine G.W.region ?_
  refine G.WL.det (fun _ _ => G.R.move rfl) rfl ?_
  refine G.WL.det (fun _ _ => len0 rfl Try.underlying88) rfl ?_
  refine G.WL.det (fun _ _ => G.R.move rfl) rfl ?_
  refine G.WL.nil ?_
  refine G.E.to ?_
  refine G.W.block ?_
  refine G.W.loopx1 [0, 3, 8] (fun (k : Nat) => [(9, .val (.int .i64 (k : Int)))]) (fun (k : Nat) wr => k ≤ n ∧ G.Ext w wr ∧ wr.heap.size = g + 1 + k ∧ G.Blk wr g 112 (mkGr g n k) ∧ ∀ i, i < k → G.Blk wr (g + 1 + i) 4 (List.replicate n (Value.bool false))) (fun (k : Nat) => n - k) 0 ?_ ?_ ?_
  · exact (G.Sub.cons rfl (G.Sub.cons rfl (G.Sub.cons rfl (G.Sub.cons rfl (G.Sub.nil _)))))
  · exact ⟨Nat.zero_le _, e1, hsz, hb0, fun i hi => absurd hi (Nat.not_lt_zero _)⟩
  rintro k w2 ⟨hk, hE, hS, hB, hR⟩
  refine G.W.seq ?_
  refine G.W.region ?_
  refine G.WL.det (fun _ _ => G.R.lss rfl rfl) rfl ?_
  refine G.WL.nil ?_
  refine G.E.to ?_
  refine G.W.seq ?_
  refine G.W.cond_d rfl (fun hc => ?_) (fun hc => ?_)
  · refine G.W.skip ?_
    refine G.E.to ?_
    refine G.W.seq ?_
    refine G.W.block ?_
    refine G.W.seq ?_
    refine G.W.region ?_
    refine G.WL.det (fun _ _ => G.R.move rfl) rfl ?_
    refine G.WL.det (fun _ _ => G.R.assign rfl) rfl ?_
    refine G.WL.nil ?_
    refine G.E.to ?_
    refine G.W.region ?_
    refine G.WL.det (fun _ _ => G.R.move rfl) rfl ?_
    refine G.WL.det (fun _ _ => G.R.move rfl) rfl ?_
    refine G.WL.det (fun _ _ => G.R.move rfl) rfl ?_
    refine G.WL.mk (G.M.make (E := G.encVal) (m := n) (zx := Value.bool false) rfl rfl Try.underlying112 hi2 hz2 hs2 rfl (by rw [hb2]; omega) (by omega)) rfl rfl ?_
    rintro _ w3 ⟨g2, rfl, hg2, hsz2, e3, ho2⟩
    have hge : g2 = g + 1 + k := by omega
    subst hge
    have hrow : G.Blk w3 (g + 1 + k) 4 (List.replicate n (Value.bool false)) := by
      have := ho2.blk rfl (by simp)
      have e : G.encVal.all (List.replicate n (Value.bool false)) = List.replicate n (Value.bool false) := by
        show (List.replicate n (Value.bool false)).flatMap (fun v => [v]) = _
        simp
      rwa [e] at this
    replace hB := hB.ext e3
    have hR3 : ∀ i, i < k → G.Blk w3 (g + 1 + i) 4 (List.replicate n (Value.bool false)) := fun i hi => (hR i hi).ext e3
    refine G.WL.det (fun _ _ => G.R.idx0 (i := k) rfl rfl (by omega) Try.underlying88 hi1 hs1) rfl ?_
    refine G.WL.do (G.D.store (g := g) (vs := [.slice (some ⟨g + 1 + k, 0, none⟩) n n]) (o := 0 + k) (by rw [← Addr.add_lit]; rfl) rfl rfl (m := 1) (by kernel_rfl) rfl hB (by rw [mkGr_len]; show 0 + k + 1 ≤ n; omega) rfl) rfl ?_
    rintro w4 ⟨h4, h5, h6⟩
    rw [Nat.zero_add] at h4
    replace h4 : G.Blk w4 g 112 (mkGr g n (k + 1)) := by rw [← mkGr_s (show k < n by omega)]; exact h4
    have hsg := hE.size
    refine G.WL.nil ?_
    refine G.E.inn ?_
    refine G.E.to ?_
    refine G.W.region ?_
    refine G.WL.det (fun _ _ => G.R.add64 rfl rfl (by omega)) rfl ?_
    refine G.WL.det (fun _ _ => G.R.move rfl) rfl ?_
    refine G.WL.nil ?_
    refine G.E.againx1 (k + 1) (G.Sub.cons rfl (G.Sub.cons rfl (G.Sub.cons rfl (G.Sub.cons rfl (G.Sub.nil _))))) ?_ (by omega)
    refine ⟨by omega, (hE.tr e3).grown h5 (fun j hj => by cases hj; omega), by omega, h4, fun i hi => ?_⟩
    by_cases e : i = k
    · rw [e]; exact hrow.far h5 (fun q => by simp at q; omega)
    · exact (hR3 i (by omega)).far h5 (fun q => by simp at q; omega)
  · refine G.W.exit ?_
    refine G.E.th ?_
    refine G.E.th ?_
    refine G.E.hit ?_
    refine G.E.to ?_
    refine G.W.seq ?_
    refine G.W.region ?_
    refine G.WL.det (fun _ _ => G.R.move rfl) rfl ?_
    refine G.WL.det (fun _ _ => G.R.assign rfl) rfl ?_
    refine G.WL.nil ?_
    refine G.E.to ?_
    refine G.W.ret ?_
    refine G.E.fin1 (.inl rfl) rfl rfl ?_
    obtain rfl : k = n := by omega
    exact ⟨_, rfl, g, rfl, by omega, hE, by rw [← mkGr_n]; exact hB, hR⟩
theorem gridB_h {n : Nat} (hn : n ≤ 1000000) : Con Try.prog 82 [vI (n : Int)] [] (.own 0) [(0, .grid 112 4 (List.replicate n (List.replicate n (.sc (Value.bool false)))))] := con_grid hn rfl (gridB_calls n hn)

end Go.Proofs.Ytbkbeplddddgeaa
end
section
namespace Go.D33
open Go Go.RowKit Go.H

structure Pr where
  a : Int
  b : Int
  w : Int
instance : Inhabited Pr := ⟨⟨0, 0, 0⟩⟩
structure Ru where
  k : Int
  a : Int
  b : Int
instance : Inhabited Ru := ⟨⟨0, 0, 0⟩⟩
abbrev ePr (x : Pr) : List UV := [uI x.a, uI x.b, uI x.w]
abbrev eRu (x : Ru) : List UV := [uI x.k, uI x.a, uI x.b]
abbrev eN (u : Nat) : List UV := [uI (u : Int)]
def prOk (N : Int) (x : Pr) : Prop := 0 ≤ x.a ∧ x.a < x.b ∧ x.b < N ∧ -1000 ≤ x.w ∧ x.w ≤ 1000
def prAsc (x y : Pr) : Prop := x.a < y.a ∨ (x.a = y.a ∧ x.b < y.b)
def ruOk (N : Int) (x : Ru) : Prop := (x.k = 1 ∨ x.k = 2) ∧ 0 ≤ x.a ∧ x.a < N ∧ 0 ≤ x.b ∧ x.b < N ∧ x.a ≠ x.b
instance (N : Int) (x : Pr) : Decidable (prOk N x) := by unfold prOk; infer_instance
instance (x y : Pr) : Decidable (prAsc x y) := by unfold prAsc; infer_instance
instance (N : Int) (x : Ru) : Decidable (ruOk N x) := by unfold ruOk; infer_instance
structure Prob where
  n : Int
  ps : List Pr
  rs : List Ru
def Prob.formed (p : Prob) : Prop := 0 ≤ p.n ∧ p.n ≤ 200 ∧ p.rs.length ≤ 400 ∧ (∀ i, i < p.ps.length → prOk p.n p.ps[i]! ∧ (0 < i → prAsc p.ps[i - 1]! p.ps[i]!)) ∧ ∀ i, i < p.rs.length → ruOk p.n p.rs[i]!
instance (p : Prob) : Decidable p.formed := by unfold Prob.formed; infer_instance
def gridF (n : Nat) (g : Nat → Nat → UV) : List (List UV) := (List.range n).map fun i => (List.range n).map (g i)
theorem gridF_len (n : Nat) (g : Nat → Nat → UV) : (gridF n g).length = n := by simp [gridF]
theorem gridF_get {n i : Nat} {g : Nat → Nat → UV} (h : i < n) : (gridF n g)[i]? = some ((List.range n).map (g i)) := by simp [gridF, h]
theorem gridF_0 (n : Nat) (u : UV) : List.replicate n (List.replicate n u) = gridF n (fun _ _ => u) := by
  apply List.ext_getElem
  · simp [gridF]
  · intro i h1 h2
    simp only [gridF, List.getElem_replicate, List.getElem_map]
    apply List.ext_getElem
    · simp
    · intro j h3 h4; simp
def upd2 {α : Type} (f : Nat → Nat → α) (a b : Nat) (x : α) : Nat → Nat → α := fun i j => if (i = a ∧ j = b) ∨ (i = b ∧ j = a) then x else f i j
theorem row_upd {n a b : Nat} {g : Nat → Nat → UV} {u : UV} (_ : a < n) (_ : b < n) : (gridF n g).set a (((List.range n).map (g a)).set b u) = gridF n (fun i j => if i = a ∧ j = b then u else g i j) := by
  apply List.ext_getElem
  · simp [gridF]
  · intro i h1 h2
    simp only [gridF, List.length_map, List.length_range] at h2
    rw [List.getElem_set]
    simp only [gridF, List.getElem_map, List.getElem_range]
    split
    · rename_i e; subst e
      apply List.ext_getElem
      · simp
      · intro j h3 h4
        rw [List.getElem_set]
        simp only [List.getElem_map, List.getElem_range, true_and]
        split <;> rename_i e
        · rw [if_pos e.symm]
        · rw [if_neg (fun q => e q.symm)]
    · rename_i e
      apply List.map_congr_left
      intro j _
      rw [if_neg (fun q => e q.1.symm)]
theorem grid_upd {n a b : Nat} {g : Nat → Nat → UV} {u : UV} (ha : a < n) (hb : b < n) (hne : a ≠ b) :
    ((gridF n g).set a (((List.range n).map (g a)).set b u)).set b (((List.range n).map (g b)).set a u) = gridF n (upd2 g a b u) := by
  rw [row_upd ha hb]
  have e : (List.range n).map (g b) = (List.range n).map ((fun i j => if i = a ∧ j = b then u else g i j) b) := by
    apply List.map_congr_left
    intro j _
    show g b j = if b = a ∧ j = b then u else g b j
    rw [if_neg (fun q => hne q.1.symm)]
  rw [e, row_upd hb ha]
  congr 1
  funext i j
  unfold upd2
  by_cases h1 : i = a ∧ j = b
  · rw [if_pos (show (i = a ∧ j = b) ∨ (i = b ∧ j = a) from .inl h1)]
    split <;> first | rfl | rw [if_pos h1]
  · by_cases h2 : i = b ∧ j = a
    · rw [if_pos h2, if_pos (.inr h2)]
    · rw [if_neg h2, if_neg h1, if_neg (by rintro (q | q); exact h1 q; exact h2 q)]
theorem row_after {n a b : Nat} {g : Nat → Nat → UV} {u : UV} (hb : b < n) (hne : a ≠ b) : ((gridF n g).set a (((List.range n).map (g a)).set b u))[b]? = some ((List.range n).map (g b)) := by
  rw [List.getElem?_set_ne hne, gridF_get hb]
theorem gridU_get {n i : Nat} {g : Nat → Nat → UV} (h : i < n) : (gridU (gridF n g))[i]? = some [.sl 1 ((List.range n).map fun j => [g i j])] := by
  rw [gridU, List.getElem?_map, gridF_get h]
  simp [Function.comp_def]
theorem gridR_get {n i j : Nat} {g : Nat → Nat → UV} (h : j < n) : ((List.range n).map fun j => [g i j])[j]? = some [g i j] := by simp [h]
def addW (f : Nat → Nat → Int) (x : Pr) : Nat → Nat → Int := upd2 f x.a.toNat x.b.toNat x.w
def addL (f : Nat → Nat → Bool) (x : Pr) : Nat → Nat → Bool := if 0 < x.w then upd2 f x.a.toNat x.b.toNat true else f
def addM (f : Nat → Nat → Bool) (x : Ru) : Nat → Nat → Bool := if x.k = 2 then f else upd2 f x.a.toNat x.b.toNat true
def wF (ps : List Pr) : Nat → Nat → Int := ps.foldl addW fun _ _ => 0
def lF (ps : List Pr) : Nat → Nat → Bool := ps.foldl addL fun _ _ => false
def mF (f : Nat → Nat → Bool) (rs : List Ru) : Nat → Nat → Bool := rs.foldl addM f
def mu (rs : List Ru) : Nat → Nat → Bool := mF (fun _ _ => false) rs
theorem snocP {α : Type} [Inhabited α] {l : List α} {k : Nat} (h : k < l.length) : l.take (k + 1) = l.take k ++ [l[k]!] := by
  rw [getElem!_pos l k h]; exact (List.take_append_getElem h).symm
theorem wF_s {ps : List Pr} {k : Nat} (h : k < ps.length) : wF (ps.take (k + 1)) = addW (wF (ps.take k)) ps[k]! := by rw [wF, snocP h, List.foldl_append]; rfl
theorem lF_s {ps : List Pr} {k : Nat} (h : k < ps.length) : lF (ps.take (k + 1)) = addL (lF (ps.take k)) ps[k]! := by rw [lF, snocP h, List.foldl_append]; rfl
theorem mF_s {f : Nat → Nat → Bool} {rs : List Ru} {k : Nat} (h : k < rs.length) : mF f (rs.take (k + 1)) = addM (mF f (rs.take k)) rs[k]! := by rw [mF, snocP h, List.foldl_append]; rfl
def barL (rs : List Ru) : List Ru := rs.filter fun x => decide (x.k = 2)
theorem bar_y {rs : List Ru} {k : Nat} (h : k < rs.length) (e : rs[k]!.k = 2) : barL (rs.take (k + 1)) = barL (rs.take k) ++ [rs[k]!] := by
  rw [barL, snocP h, List.filter_append, List.filter_cons, if_pos (decide_eq_true e)]; rfl
theorem bar_n {rs : List Ru} {k : Nat} (h : k < rs.length) (e : ¬ rs[k]!.k = 2) : barL (rs.take (k + 1)) = barL (rs.take k) := by
  rw [barL, snocP h, List.filter_append, List.filter_cons, if_neg (by simpa using e), List.filter_nil, List.append_nil]; rfl
abbrev eL1 (l : List Nat) : List UV := [.sl 1 (l.map eN)]
theorem minL_s {l : List Nat} {k : Nat} (h0 : 0 < k) (h : k < l.length) : minL (l.take (k + 1)) = min (minL (l.take k)) l[k]! := by
  rw [snocP h]
  match l, k, h0 with
  | u :: r, k + 1, _ => rw [List.take_succ_cons, List.cons_append, minL, minL, List.foldl_append]; rfl
theorem minL_1 {l : List Nat} (h : 0 < l.length) : minL (l.take 1) = l[0]! := by
  match l, h with
  | u :: r, _ => rfl
theorem setAll_s {o us : List Nat} {k m : Nat} (h : k < us.length) : setAll o (us.take (k + 1)) m = (setAll o (us.take k) m).set us[k]! m := by rw [snocP h, setAll_snoc]
theorem nameF_s {o : List Nat} {ps : List (List Nat)} {k : Nat} (h : k < ps.length) : nameF id o (ps.take (k + 1)) = setAll (nameF id o (ps.take k)) ps[k]! (minL ps[k]!) := by rw [snocP h, nameF_snoc]; rfl
theorem filt_y {p : Nat → Bool} {l : List Nat} {k : Nat} (h : k < l.length) (e : p l[k]! = true) : (l.take (k + 1)).filter p = (l.take k).filter p ++ [l[k]!] := by
  rw [snocP h, List.filter_append, List.filter_cons, if_pos e]; rfl
theorem filt_n {p : Nat → Bool} {l : List Nat} {k : Nat} (h : k < l.length) (e : p l[k]! = false) : (l.take (k + 1)).filter p = (l.take k).filter p := by
  rw [snocP h, List.filter_append, List.filter_cons, if_neg (by rw [e]; decide), List.filter_nil, List.append_nil]
theorem get_app {a b : List Nat} {i : Nat} (h : i < a.length) : (a ++ b)[i]! = a[i]! := by
  rw [getElem!_pos (a ++ b) i (by rw [List.length_append]; omega), getElem!_pos a i h, List.getElem_append_left h]
theorem mem_at {α : Type} [Inhabited α] {l : List α} {i : Nat} (h : i < l.length) : l[i]! ∈ l := by rw [getElem!_pos l i h]; exact List.getElem_mem _
theorem parts_left {E : Nat → Nat → Bool} {out : List (List Nat)} {l : List Nat} (h : 0 < l.length) : out ++ partsL E l = (out ++ [(grow E [l[0]!] (l.drop 1) 0).1]) ++ partsL E (grow E [l[0]!] (l.drop 1) 0).2 := by
  match l, h with
  | u :: r, _ => rw [parts_cons, List.append_assoc]; rfl
theorem upd2_map {α β : Type} (h : α → β) (f : Nat → Nat → α) (a b : Nat) (x : α) : upd2 (fun i j => h (f i j)) a b (h x) = fun i j => h (upd2 f a b x i j) := by
  funext i j; unfold upd2; split <;> rfl
theorem grid_updW {n a b : Nat} {f : Nat → Nat → Int} {x : Int} (ha : a < n) (hb : b < n) (hne : a ≠ b) :
    ((gridF n fun i j => uI (f i j)).set a (((List.range n).map fun j => uI (f a j)).set b (uI x))).set b (((List.range n).map fun j => uI (f b j)).set a (uI x)) = gridF n fun i j => uI (upd2 f a b x i j) := by
  rw [← upd2_map (fun v : Int => uI v)]; exact grid_upd (g := fun i j => uI (f i j)) ha hb hne
theorem grid_updB {n a b : Nat} {f : Nat → Nat → Bool} {x : Bool} (ha : a < n) (hb : b < n) (hne : a ≠ b) :
    ((gridF n fun i j => uB (f i j)).set a (((List.range n).map fun j => uB (f a j)).set b (uB x))).set b (((List.range n).map fun j => uB (f b j)).set a (uB x)) = gridF n fun i j => uB (upd2 f a b x i j) := by
  rw [← upd2_map (fun v : Bool => uB v)]; exact grid_upd (g := fun i j => uB (f i j)) ha hb hne
theorem addL_y {f : Nat → Nat → Bool} {x : Pr} (h : 0 < x.w) : addL f x = upd2 f x.a.toNat x.b.toNat true := if_pos h
theorem addL_n {f : Nat → Nat → Bool} {x : Pr} (h : ¬ 0 < x.w) : addL f x = f := if_neg h
theorem addM_y {f : Nat → Nat → Bool} {x : Ru} (h : ¬ x.k = 2) : addM f x = upd2 f x.a.toNat x.b.toNat true := if_neg h
theorem addM_n {f : Nat → Nat → Bool} {x : Ru} (h : x.k = 2) : addM f x = f := if_pos h
def Prob.atoms (p : Prob) : List Nat := namedL p.n.toNat (partsL (mu p.rs) (List.range p.n.toNat))
def Prob.lk (p : Prob) : Nat → Nat → Bool := mF (lF p.ps) p.rs
theorem bar_le (rs : List Ru) (k : Nat) : (barL (rs.take k)).length ≤ rs.length := by
  unfold barL
  refine Nat.le_trans (List.length_filter_le _ _) ?_
  rw [List.length_take]; omega
theorem parts_units {E : Nat → Nat → Bool} {n : Nat} : ∀ p ∈ partsL E (List.range n), 0 < p.length ∧ p.length ≤ n ∧ ∀ u ∈ p, u < n := fun p hp => by
  have h := parts_ok (E := E) _ (List.range n) rfl List.pairwise_lt_range
  obtain ⟨u, r, e, _⟩ := h.hd p hp
  have hm : ∀ v ∈ p, v < n := fun v hv => List.mem_range.1 (h.perm.subset (List.mem_flatten.2 ⟨p, hp, hv⟩))
  refine ⟨by rw [e]; simp, ?_, hm⟩
  have hl := h.perm.length_eq
  rw [List.length_range] at hl
  obtain ⟨a, b, hab⟩ := List.append_of_mem hp
  rw [hab, List.flatten_append, List.flatten_cons, List.length_append, List.length_append] at hl
  omega
theorem dec_iff {p q : Prop} [Decidable p] [Decidable q] (h : p ↔ q) : decide p = decide q := decide_eq_decide.2 h
theorem dec_t {q : Prop} [Decidable q] (h : q) : decide q = true := decide_eq_true h
theorem dec_f {q : Prop} [Decidable q] (h : ¬ q) : decide q = false := decide_eq_false h
def idxF {α : Type} (p : α → Bool) (l : List α) : Int := match l.findIdx? p with
  | some i => (i : Int)
  | none => -1
theorem idxF_here {α : Type} [Inhabited α] {p : α → Bool} {l : List α} {k : Nat} (hk : k < l.length) (h : ∀ j, j < k → p l[j]! = false) (e : p l[k]! = true) : idxF p l = k := by
  have : l.findIdx? p = some k := by
    rw [List.findIdx?_eq_some_iff_getElem]
    refine ⟨hk, by rw [← getElem!_pos l k hk]; exact e, fun j hj => ?_⟩
    have := h j hj
    rw [getElem!_pos l j (by omega)] at this
    simp [this]
  rw [idxF, this]
theorem idxF_none {α : Type} [Inhabited α] {p : α → Bool} {l : List α} {k : Nat} (hk : l.length ≤ k) (h : ∀ j, j < k → p l[j]! = false) : idxF p l = -1 := by
  have : l.findIdx? p = none := by
    rw [List.findIdx?_eq_none_iff]
    intro x hx
    obtain ⟨i, hi, rfl⟩ := List.getElem_of_mem hx
    rw [← getElem!_pos l i hi]
    exact h i (by omega)
  rw [idxF, this]
theorem any_iff {α : Type} [Inhabited α] {p : α → Bool} {l : List α} : (∃ x ∈ l, p x = true) ↔ 0 ≤ idxF p l := by
  constructor
  · rintro ⟨x, hx, e⟩
    unfold idxF
    split
    · omega
    · rename_i h
      rw [List.findIdx?_eq_none_iff] at h
      rw [h x hx] at e; cases e
  · intro h
    unfold idxF at h
    split at h
    · rename_i i hi
      obtain ⟨h1, h2, _⟩ := List.findIdx?_eq_some_iff_getElem.1 hi
      exact ⟨l[i], List.getElem_mem _, h2⟩
    · omega
theorem formed_no {p : Prob} {i : Nat} (hi : i < p.ps.length) (h : ¬ prOk p.n p.ps[i]!) : ¬ p.formed := fun q => h (q.2.2.2.1 i hi).1
theorem formed_na {p : Prob} {i : Nat} (hi : i < p.ps.length) (h0 : 0 < i) (h : ¬ prAsc p.ps[i - 1]! p.ps[i]!) : ¬ p.formed := fun q => h ((q.2.2.2.1 i hi).2 h0)
theorem formed_nr {p : Prob} {i : Nat} (hi : i < p.rs.length) (h : ¬ ruOk p.n p.rs[i]!) : ¬ p.formed := fun q => h (q.2.2.2.2 i hi)
def pOk (p : Prob) (k : Nat) : Prop := ∀ i, i < k → prOk p.n p.ps[i]! ∧ (0 < i → prAsc p.ps[i - 1]! p.ps[i]!)
theorem pOk_s {p : Prob} {k : Nat} (h : pOk p k) (h1 : prOk p.n p.ps[k]!) (h2 : 0 < k → prAsc p.ps[k - 1]! p.ps[k]!) : pOk p (k + 1) := fun i hi => by
  rcases Nat.lt_succ_iff_lt_or_eq.1 hi with q | q
  · exact h i q
  · rw [q]; exact ⟨h1, h2⟩
def rOk (p : Prob) (k : Nat) : Prop := ∀ i, i < k → ruOk p.n p.rs[i]!
theorem rOk_s {p : Prob} {k : Nat} (h : rOk p k) (h1 : ruOk p.n p.rs[k]!) : rOk p (k + 1) := fun i hi => by
  rcases Nat.lt_succ_iff_lt_or_eq.1 hi with q | q
  · exact h i q
  · rw [q]; exact h1
def isPart (n : Nat) (l : List Int) : Prop := l.length = n ∧ ∀ i, i < l.length → 0 ≤ l[i]! ∧ l[i]! ≤ (i : Int) ∧ l[(l[i]!).toNat]! = l[i]!
instance (n : Nat) (l : List Int) : Decidable (isPart n l) := by unfold isPart; infer_instance
def unitsL (l : List Nat) (c : Nat) : List Nat := (List.range l.length).filter fun u => decide (l[u]! = c)
theorem units_y {l : List Nat} {c k : Nat} (e : l[k]! = c) : (List.range (k + 1)).filter (fun u => decide (l[u]! = c)) = (List.range k).filter (fun u => decide (l[u]! = c)) ++ [k] := by
  rw [List.range_succ, List.filter_append, List.filter_cons, if_pos (decide_eq_true e)]; rfl
theorem units_n {l : List Nat} {c k : Nat} (e : ¬ l[k]! = c) : (List.range (k + 1)).filter (fun u => decide (l[u]! = c)) = (List.range k).filter (fun u => decide (l[u]! = c)) := by
  rw [List.range_succ, List.filter_append, List.filter_cons, if_neg (by simpa using e), List.filter_nil, List.append_nil]
def sumR (w : Nat → Nat → Int) (u : Nat) (l : List Nat) : Int := l.foldl (fun n v => n + w u v) 0
def valK (w : Nat → Nat → Int) (l : List Nat) : Nat → Int
  | 0 => 0
  | k + 1 => valK w l k + sumR w l[k]! (l.drop (k + 1))
def valF (w : Nat → Nat → Int) (l : List Nat) : Int := valK w l l.length
theorem sumR_s {w : Nat → Nat → Int} {u : Nat} {r : List Nat} {j : Nat} (h : j < r.length) : sumR w u (r.take (j + 1)) = sumR w u (r.take j) + w u r[j]! := by rw [sumR, snocP h, List.foldl_append]; rfl
theorem sumR_b {w : Nat → Nat → Int} (hw : ∀ i j, -1000 ≤ w i j ∧ w i j ≤ 1000) {u : Nat} {r : List Nat} : ∀ j : Nat, j ≤ r.length → -1000 * (j : Int) ≤ sumR w u (r.take j) ∧ sumR w u (r.take j) ≤ 1000 * (j : Int)
  | 0, _ => by rw [List.take_zero]; exact ⟨by simp [sumR], by simp [sumR]⟩
  | j + 1, h => by
    have ih := sumR_b hw (u := u) (r := r) j (by omega)
    have := hw u r[j]!
    rw [sumR_s (by omega)]; omega
theorem sumR_c {w : Nat → Nat → Int} (hw : ∀ i j, -1000 ≤ w i j ∧ w i j ≤ 1000) {u : Nat} (r : List Nat) : -1000 * (r.length : Int) ≤ sumR w u r ∧ sumR w u r ≤ 1000 * (r.length : Int) := by
  have := sumR_b hw (u := u) (r := r) r.length (Nat.le_refl _)
  rwa [List.take_length] at this
theorem valK_b {w : Nat → Nat → Int} (hw : ∀ i j, -1000 ≤ w i j ∧ w i j ≤ 1000) {l : List Nat} (hl : l.length ≤ 1000) : ∀ k : Nat, -1000000 * (k : Int) ≤ valK w l k ∧ valK w l k ≤ 1000000 * (k : Int)
  | 0 => ⟨by simp [valK], by simp [valK]⟩
  | k + 1 => by
    have ih := valK_b hw hl k
    have := sumR_c hw (u := l[k]!) (l.drop (k + 1))
    rw [List.length_drop] at this
    rw [valK]; omega
def clashR (m : List Nat) (x : Ru) : Bool := decide (m[x.a.toNat]! = m[x.b.toNat]!)
def clash (bar : List Ru) (m : List Nat) : Bool := bar.any (clashR m)
theorem any_any {α : Type} [Inhabited α] {p : α → Bool} {l : List α} : decide (0 ≤ idxF p l) = l.any p := by
  rw [Bool.eq_iff_iff, decide_eq_true_eq, ← any_iff, List.any_eq_true]
def Prob.bad (p : Prob) : Bool := clash (barL p.rs) p.atoms
def Prob.err (p : Prob) : Int := if ¬ p.formed then 1 else if p.bad = true then 13 else 0
def Prob.ok (p : Prob) : Prop := p.formed ∧ p.bad = false
theorem Prob.err_1 {p : Prob} (h : ¬ p.formed) : p.err = 1 := if_pos h
theorem Prob.err_13 {p : Prob} (h : p.formed) (c : p.bad = true) : p.err = 13 := by rw [Prob.err, if_neg (fun q => q h), if_pos c]
theorem Prob.err_0 {p : Prob} (h : p.ok) : p.err = 0 := by rw [Prob.err, if_neg (fun q => q h.1), if_neg (by rw [h.2]; decide)]
theorem Prob.err_iff {p : Prob} : p.err = 0 ↔ p.ok := by
  refine ⟨fun h => ?_, Prob.err_0⟩
  by_cases hf : p.formed
  · refine ⟨hf, ?_⟩
    cases hb : p.bad with
    | false => rfl
    | true => rw [Prob.err_13 hf hb] at h; cases h
  · rw [Prob.err_1 hf] at h; cases h
theorem Prob.nat {p : Prob} (h : p.formed) : p.n = (p.n.toNat : Int) := by have := h.1; omega
theorem bar_in {rs : List Ru} {x : Ru} (h : x ∈ barL rs) : x ∈ rs ∧ x.k = 2 := by
  have := List.mem_filter.1 h
  exact ⟨this.1, of_decide_eq_true this.2⟩
theorem formed_ru {p : Prob} (h : p.formed) {x : Ru} (hx : x ∈ p.rs) : ruOk p.n x := by
  obtain ⟨i, hi, rfl⟩ := List.getElem_of_mem hx
  have := h.2.2.2.2 i hi
  rwa [getElem!_pos _ i hi] at this
theorem named_len (n : Nat) (ps : List (List Nat)) : (namedL n ps).length = n := by rw [namedL, nameF_len, List.length_replicate]
theorem bar_rng {n : Nat} {ps : List Pr} {rs : List Ru} (h : (Prob.mk (n : Int) ps rs).formed) : ∀ x ∈ barL rs, 0 ≤ x.a ∧ x.a < (n : Int) ∧ 0 ≤ x.b ∧ x.b < (n : Int) := fun x hx => by
  have := formed_ru h (bar_in hx).1
  unfold ruOk at this
  exact ⟨this.2.1, this.2.2.1, this.2.2.2.1, this.2.2.2.2.1⟩
theorem eI_eN (m : List Nat) : (m.map fun x : Nat => (x : Int)).map eI = m.map eN := by rw [List.map_map]; rfl
theorem cast_of {l : List Int} (h : ∀ i, i < l.length → 0 ≤ l[i]!) : ∃ m : List Nat, l = m.map fun x : Nat => (x : Int) := by
  refine ⟨l.map Int.toNat, ?_⟩
  rw [List.map_map]
  apply List.ext_getElem
  · simp
  · intro i h1 h2
    have := h i h1
    rw [getElem!_pos l i h1] at this
    simp; omega
theorem cast_get {m : List Nat} {i : Nat} (h : i < m.length) : (m.map fun x : Nat => (x : Int))[i]! = ((m[i]! : Nat) : Int) := get_map h
theorem cast_back (m : List Nat) : (m.map fun x : Nat => (x : Int)).map Int.toNat = m := by
  rw [List.map_map]
  conv => rhs; rw [← List.map_id m]
  exact List.map_congr_left fun x _ => by simp
def isP (n : Nat) (m : List Nat) : Prop := m.length = n ∧ ∀ i, i < n → m[i]! ≤ i ∧ m[m[i]!]! = m[i]!
theorem isPart_cast {n : Nat} {m : List Nat} : isPart n (m.map fun x : Nat => (x : Int)) ↔ isP n m := by
  unfold isPart isP
  rw [List.length_map]
  refine ⟨fun ⟨h1, h2⟩ => ⟨h1, fun i hi => ?_⟩, fun ⟨h1, h2⟩ => ⟨h1, fun i hi => ?_⟩⟩
  · have := h2 i (by omega)
    rw [cast_get (by omega)] at this
    have h3 : m[i]! < m.length := by omega
    rw [Int.toNat_natCast, cast_get h3] at this
    omega
  · have := h2 i (by omega)
    rw [cast_get (by omega), Int.toNat_natCast, cast_get (by omega)]
    omega
def permM (n : Nat) (lk : Nat → Nat → Bool) (bar : List Ru) (atm m : List Nat) : Prop := clash bar m = false ∧ (∀ i, i < n → m[i]! = m[atm[i]!]!) ∧ ∀ i, i < n → i = m[i]! → (partsL lk (unitsL m m[i]!)).length = 1
instance (n : Nat) (lk : Nat → Nat → Bool) (bar : List Ru) (atm m : List Nat) : Decidable (permM n lk bar atm m) := by unfold permM; infer_instance
def permI (n : Nat) (lk : Nat → Nat → Bool) (bar : List Ru) (atm : List Nat) (l : List Int) : Prop := isPart n l ∧ permM n lk bar atm (l.map Int.toNat)
instance (n : Nat) (lk : Nat → Nat → Bool) (bar : List Ru) (atm : List Nat) (l : List Int) : Decidable (permI n lk bar atm l) := by unfold permI; infer_instance
theorem permI_cast {n : Nat} {lk : Nat → Nat → Bool} {bar : List Ru} {atm m : List Nat} : permI n lk bar atm (m.map fun x : Nat => (x : Int)) ↔ isP n m ∧ permM n lk bar atm m := by
  unfold permI; rw [isPart_cast, cast_back]
theorem units_lt {l : List Nat} {c u : Nat} (h : u ∈ unitsL l c) : u < l.length ∧ l[u]! = c := by
  have := List.mem_filter.1 h
  exact ⟨List.mem_range.1 this.1, of_decide_eq_true this.2⟩
theorem units_len (l : List Nat) (c : Nat) : (unitsL l c).length ≤ l.length := by
  have := List.length_filter_le (fun u => decide (l[u]! = c)) (List.range l.length)
  rwa [List.length_range] at this
end Go.D33
end
section
namespace Go.Proofs.Ytbkbeplddddgeaa
open Go Go.RowKit Go.H Go.D33

theorem hinf3 : ∃ i, Try.prog.info? 3 = some i ∧ i.zero = some (.int .i64 0) ∧ i.size = 1 ∧ i.bytes = 8 := G.info_of (by kernel_rfl)
theorem hinf4 : ∃ i, Try.prog.info? 4 = some i ∧ i.zero = some (.bool false) ∧ i.size = 1 ∧ i.bytes = 1 := G.info_of (by kernel_rfl)
theorem hinf32 : ∃ i, Try.prog.info? 32 = some i ∧ i.zero = some (.slice none 0 0) ∧ i.size = 1 ∧ i.bytes = 24 := G.info_of (by kernel_rfl)
theorem hinf112 : ∃ i, Try.prog.info? 112 = some i ∧ i.zero = some (.slice none 0 0) ∧ i.size = 1 ∧ i.bytes = 24 := G.info_of (by kernel_rfl)
theorem hcallOk54 : G.callOk Try.prog 54 = true := by kernel_rfl
theorem hcallOk87 : G.callOk Try.prog 87 = true := by kernel_rfl

set_option maxRecDepth 8000 in
theorem clone_h {rows : List (List UV)} (hb : rows.length ≤ 1000000) :
    Con Try.prog 54 [vL 1 rows] [] (.own 0) [(0, .data 3 1 (rows))] := by
 obtain ⟨i3, hi3, hz3, hs3, hb3⟩ := hinf3
 refine Con.enterL (n := 8) Try.func54 rfl rfl rfl (fun τ w ok vs hin => ?_)
 have hl0 := hin.len (i := 0) rfl
 try rw [List.length_map] at hl0
 clear hin
 refine W.rg (SL.an rfl rfl (E.fo (W.seq (W.rg (SL.mv rfl rfl ?_)))))
 refine SL.isnil (SlOf.fz rfl (by decide)) Try.underlying32 rfl Taken.no (fun bn1 hbn1 => ?_)
 refine E.fo ?_
 first | refine W.cond_d rfl (fun hc2 => ?_) (fun hc2 => ?_) | refine W.cond_nd rfl (fun hc2 => ?_) (fun hc2 => ?_) | refine W.cond rfl (fun hc2 => ?_) (fun hc2 => ?_)
 ·skip
  refine W.rg (SL.an rfl rfl (E.fo (W.ret (E.thr ?_))))
  refine E.adopt 2 101 3 1 (by decide) rfl rfl rfl ?_
  refine E.fin (rs := [_]) (rn [(0, 101)]) (.inl rfl) rfl (.cons (ResOne.tmp rfl) .nil) ?_ ?_ rfl (fixL_spec rfl)
  ·skip
   rfl
  · exact (SubS.val rfl (by rw [List.eq_nil_of_length_eq_zero (hbn1 (by assumption))]; rfl) SubS.nil)
 refine W.skip (E.to (W.rg ?_))
 refine SL.memS (O.buildSlice 102 (rows := ([] : List (List UV))) rfl rfl Try.underlying32 hi3 hz3 hs3 (by decide) rfl (by decide) rfl rfl rfl Taken.no) rfl rfl (S' := (102, .data 3 1 (([] : List (List UV)))) :: _) rfl ?_
 refine SL.mv rfl rfl ?_
 refine SL.memS (O.app (k' := 103) rfl rfl (SlOf.fz rfl (by decide)) Try.underlying32 hi3 hz3 hs3 rfl rfl (by exact List.nil_append _) (by rw [hb3]; (simp only [List.length_nil]; omega)) (by (simp only [List.length_nil]; omega)) rfl Taken.no) rfl rfl (S' := (103, _) :: (102, .dead) :: _) rfl ?_
 refine SL.an rfl rfl (E.fo (W.ret ?_))
 refine E.fin (rs := [_]) (rn [(0, 103)]) (.inl rfl) rfl (.cons (ResOne.tmp rfl) .nil) ?_ ?_ rfl (fixL_spec rfl)
 ·skip
  rfl
 · exact (SubS.val rfl (by rfl) SubS.nil)

set_option maxRecDepth 8000 in
theorem min_h {l : List Nat} (h0 : 0 < l.length) :
    Con Try.prog 87 [vL 1 (l.map eN)] [] (vI (minL l : Int)) [] := by
 obtain ⟨i3, hi3, hz3, hs3, hb3⟩ := hinf3
 refine Con.enterL (n := 25) Try.func87 rfl rfl rfl (fun τ w ok vs hin => ?_)
 have hl0 := hin.len (i := 0) rfl
 try rw [List.length_map] at hl0
 clear hin
 refine W.rg (SL.an rfl rfl (E.fo (W.seq (W.rg (SL.mv rfl rfl ?_)))))
 refine SL.val (O.lenE (SlOf.fz rfl (by decide)) (by first | exact List.length_map _ | rfl) Try.underlying32 rfl Taken.no) ?_
 refine SL.val (O.det (fun _ => G.R.lss rfl rfl) rfl Taken.no) ?_
 refine E.fo ?_
 first | refine W.cond_d rfl (fun hc1 => ?_) (fun hc1 => ?_) | refine W.cond_nd rfl (fun hc1 => ?_) (fun hc1 => ?_) | refine W.cond rfl (fun hc1 => ?_) (fun hc1 => ?_)
 ·skip
  exfalso; omega
 refine W.skip (E.to (W.rg (SL.mv rfl rfl ?_)))
 refine SL.val (O.idx_fz rfl rfl (rfl) (row_get (by omega)) Try.underlying32 hi3 hs3 rfl Taken.no) ?_
 refine SL.val (O.ld1 (PtI.ofU (PtU.fz rfl)) rfl Try.underlying3 rfl rfl Taken.no) ?_
 refine SL.an rfl rfl (E.fo (W.seq (W.rg (SL.an rfl rfl (E.fo (W.block ?_))))))
 refine W.loopx1 (fun (k : Nat) => [(4, vI (k : Int)), (3, vI (minL (l.take k) : Int))]) (fun (k : Nat) => []) (fun (k : Nat) => 0 < k ∧ k ≤ l.length) (fun (k : Nat) => l.length - k) (1) (rn []) (.cons (t := 0) rfl (.cons (t := 2) rfl .nil)) .nil rfl ?_ ?_ rfl rfl ?_ ?_
 · exact (SubF.cons rfl (SubF.val rfl (by exact iv_int (by rw [minL_1 h0])) SubF.nil))
 · exact SubS.nil
 ·skip
  omega
 intro k hinv
 obtain ⟨hk0, hk⟩ := hinv
 refine W.seq (W.rg (SL.mv rfl rfl (SL.mv rfl rfl ?_)))
 refine SL.val (O.lenE (SlOf.fz rfl (by decide)) (by first | exact List.length_map _ | rfl) Try.underlying32 rfl Taken.no) ?_
 refine SL.val (O.det (fun _ => G.R.lss rfl rfl) rfl Taken.no) ?_
 refine E.fo ?_
 first | refine W.cond_d rfl (fun hc2 => ?_) (fun hc2 => ?_) | refine W.cond_nd rfl (fun hc2 => ?_) (fun hc2 => ?_) | refine W.cond rfl (fun hc2 => ?_) (fun hc2 => ?_)
 ·skip
  refine W.skip (E.to (W.seq (W.block (W.region (SL.mv rfl rfl (SL.mv rfl rfl (SL.mv rfl rfl ?_)))))))
  refine SL.val (O.idx_fz rfl rfl (rfl) (row_get (by omega)) Try.underlying32 hi3 hs3 rfl Taken.no) ?_
  refine SL.val (O.ld1 (PtI.ofU (PtU.fz rfl)) rfl Try.underlying3 rfl rfl Taken.no) ?_
  refine SL.val (O.det (fun _ => G.R.min2 rfl rfl) rfl Taken.no) ?_
  refine SL.an rfl rfl (SL.nil (E.inn (E.to (W.region (SL.mv rfl rfl ?_)))))
  refine SL.val (O.det (fun _ => by first | exact G.R.add64 rfl rfl (by omega) | exact G.R.add rfl rfl) rfl Taken.no) ?_
  refine SL.an rfl rfl (SL.nil ?_)
  refine E.again ((k + 1)) (rn []) ?_ ?_ rfl (fixL_spec rfl) ?_ ?_
  · exact (SubF.cons rfl (SubF.val rfl (by (try dsimp only); exact iv_int (by rw [minL_s hk0 (by omega)]; omega)) (SubF.cons rfl (SubF.cons rfl SubF.nil))))
  · exact SubS.nil
  ·try dsimp only
   omega
  · (try dsimp only); omega
 refine W.exit (E.th (E.th (E.hit (E.to (W.rg (SL.mv rfl rfl (SL.an rfl rfl (E.fo (W.ret ?_)))))))))
 refine E.fin (rs := [_]) (rn []) (.inl rfl) rfl (.cons (ResOne.tmp rfl) .nil) ?_ ?_ rfl (fixL_spec rfl)
 ·skip
  (obtain rfl : k = l.length := (by omega)); rw [List.take_length]; rfl
 · exact SubS.nil

set_option maxRecDepth 8000 in
theorem named_h {n : Nat} {ps : List (List Nat)} (hn : n ≤ 1000) (hp : ∀ p ∈ ps, 0 < p.length ∧ p.length ≤ 1000 ∧ ∀ u ∈ p, u < n) :
    Con Try.prog 83 [vI (n : Int), vL 1 (ps.map eL1)] [] (.own 0) [(0, .data 3 1 ((namedL n ps).map eN))] := by
 obtain ⟨i3, hi3, hz3, hs3, hb3⟩ := hinf3
 obtain ⟨i32, hi32, hz32, hs32, hb32⟩ := hinf32
 refine Con.enterL (n := 32) Try.func83 rfl rfl rfl (fun τ w ok vs hin => ?_)
 have hl1 := hin.len (i := 1) rfl
 try rw [List.length_map] at hl1
 clear hin
 refine W.rg (SL.an rfl rfl (E.fo (W.rg (SL.mv rfl rfl ?_))))
 refine SL.memS (O.make (m := n) (kk := 101) rfl rfl (by rfl) (by rfl) Try.underlying32 hi3 hz3 hs3 rfl rfl (by decide) rfl (by rw [hb3]; omega) (by omega) rfl Taken.no) rfl rfl (S' := (101, _) :: _) rfl ?_
 refine SL.an rfl rfl (E.fo (W.seq (W.rg (SL.mv rfl rfl ?_))))
 refine SL.val (O.lenE (SlOf.fz rfl (by decide)) (by first | exact List.length_map _ | rfl) Try.underlying68 rfl Taken.no) ?_
 refine SL.mv rfl rfl (E.fo (W.block ?_))
 refine W.loopx1 (fun (k : Nat) => [(14, vI (k : Int)), (5, .own 102)]) (fun (k : Nat) => [(102, .data 3 1 ((nameF id (List.replicate n 0) (ps.take k)).map eN))]) (fun (k : Nat) => k ≤ ps.length) (fun (k : Nat) => ps.length - k) (0) (rn [(102, 101)]) (.cons (t := 4) rfl (.cons (t := 12) rfl (.cons (t := 13) rfl .nil))) .nil rfl ?_ ?_ rfl rfl ?_ ?_
 · exact (SubF.cons rfl (SubF.cons rfl SubF.nil))
 · exact (SubS.val rfl (by exact sb_data (by rw [List.take_zero]; show _ = List.map eN (List.replicate n 0); rw [List.map_replicate]; rfl)) SubS.nil)
 ·skip
  omega
 intro k hinv
 have hk := hinv
 refine W.rg ?_
 refine SL.val (O.det (fun _ => G.R.lss rfl rfl) rfl Taken.no) ?_
 refine E.fo (W.seq ?_)
 first | refine W.cond_d rfl (fun hc1 => ?_) (fun hc1 => ?_) | refine W.cond_nd rfl (fun hc1 => ?_) (fun hc1 => ?_) | refine W.cond rfl (fun hc1 => ?_) (fun hc1 => ?_)
 ·skip
  have hpk := hp ps[k]! (mem_at (by omega))
  refine W.skip (E.to (W.seq (W.block (W.rg ?_))))
  refine SL.val (O.idx_fz rfl rfl (rfl) (row_get (by omega)) Try.underlying68 hi32 hs32 rfl Taken.no) ?_
  refine SL.val (O.ld1 (PtI.ofU (PtU.fz rfl)) rfl Try.underlying32 rfl rfl Taken.no) ?_
  refine SL.an rfl rfl (E.fo (W.rg (SL.mv rfl rfl ?_)))
  refine SL.val (O.lenE (SlOf.fz rfl (by decide)) (by first | exact List.length_map _ | rfl) Try.underlying32 rfl Taken.no) ?_
  refine SL.mv rfl rfl (E.fo (W.block ?_))
  refine W.loopx1 (fun (j : Nat) => [(20, vI (j : Int)), (5, .own 103)]) (fun (j : Nat) => [(103, .data 3 1 ((setAll (nameF id (List.replicate n 0) (ps.take k)) (ps[k]!.take j) (minL ps[k]!)).map eN))]) (fun (j : Nat) => j ≤ ps[k]!.length) (fun (j : Nat) => ps[k]!.length - j) (0) (rn [(103, 102)]) (.cons (t := 4) rfl (.cons (t := 7) rfl (.cons (t := 12) rfl (.cons (t := 13) rfl (.cons (t := 14) rfl (.cons (t := 18) rfl (.cons (t := 19) rfl .nil))))))) .nil rfl ?_ ?_ rfl rfl ?_ ?_
  · exact (SubF.cons rfl (SubF.cons rfl SubF.nil))
  · exact (SubS.val rfl (by exact sb_data (by rw [List.take_zero]; rfl)) SubS.nil)
  ·skip
   omega
  intro j hinv
  have hj := hinv
  have hol : (setAll (nameF id (List.replicate n 0) (ps.take k)) (ps[k]!.take j) (minL ps[k]!)).length = n := by rw [setAll_len, nameF_len, List.length_replicate]
  refine W.rg ?_
  refine SL.val (O.det (fun _ => G.R.lss rfl rfl) rfl Taken.no) ?_
  refine E.fo (W.seq ?_)
  first | refine W.cond_d rfl (fun hc2 => ?_) (fun hc2 => ?_) | refine W.cond_nd rfl (fun hc2 => ?_) (fun hc2 => ?_) | refine W.cond rfl (fun hc2 => ?_) (fun hc2 => ?_)
  ·skip
   have hun := hpk.2.2 ps[k]![j]! (mem_at (by omega))
   refine W.skip (E.to (W.seq (W.block (W.rg ?_))))
   refine SL.val (O.idx_fz rfl rfl (rfl) (row_get (by omega)) Try.underlying32 hi3 hs3 rfl Taken.no) ?_
   refine SL.val (O.ld1 (PtI.ofU (PtU.fz rfl)) rfl Try.underlying3 rfl rfl Taken.no) ?_
   refine SL.an rfl rfl (E.fo (W.region (SL.mv rfl rfl (SL.mv rfl rfl (SL.mv rfl rfl ?_)))))
   refine SL.val (O.callp rfl rfl rfl (min_h (l := ps[k]!) (by omega)) (.cons (ArgOk.same rfl) .nil) hcallOk87 rfl Taken.no) ?_
   refine SL.val (O.idx_own (i := (ps[k]![j]!)) rfl rfl rfl (rfl) (by rw [List.length_map]; omega) Try.underlying32 hi3 hs3 rfl Taken.no) ?_
   refine SL.effS (O.st_els (m := 1) rfl rfl rfl (us := [_]) rfl rfl (by kernel_rfl) (by simp) (row_get (by omega)) (by exact Nat.le_of_ble_eq_true rfl) rfl rfl (rows' := ((setAll (nameF id (List.replicate n 0) (ps.take k)) (ps[k]!.take j) (minL ps[k]!)).set (ps[k]![j]!) (minL ps[k]!)).map eN) (by exact set_map rfl) Taken.no) (S' := (103, _) :: _) rfl ?_
   refine SL.nil (E.inn (E.to (W.region ?_)))
   refine SL.val (O.det (fun _ => by first | exact G.R.add64 rfl rfl (by omega) | exact G.R.add rfl rfl) rfl Taken.no) ?_
   refine SL.mv rfl rfl (SL.nil ?_)
   refine E.again ((j + 1)) (rn []) ?_ ?_ rfl (fixL_spec rfl) ?_ ?_
   · exact (SubF.cons rfl (SubF.cons rfl (SubF.cons rfl (SubF.cons rfl (SubF.cons rfl (SubF.cons rfl (SubF.cons rfl (SubF.cons rfl (SubF.cons rfl SubF.nil)))))))))
   · exact (SubS.val rfl (by (try dsimp only); exact sb_data (by rw [setAll_s (by omega)])) SubS.nil)
   ·try dsimp only
    omega
   · (try dsimp only); omega
  refine W.exit (E.th (E.th (E.hit (E.inn (E.to (W.region ?_))))))
  refine SL.val (O.det (fun _ => by first | exact G.R.add64 rfl rfl (by omega) | exact G.R.add rfl rfl) rfl Taken.no) ?_
  refine SL.mv rfl rfl (SL.nil ?_)
  refine E.again ((k + 1)) (rn [(102, 103)]) ?_ ?_ rfl (fixL_spec rfl) ?_ ?_
  · exact (SubF.cons rfl (SubF.cons rfl (SubF.cons rfl (SubF.cons rfl (SubF.cons rfl SubF.nil)))))
  · exact (SubS.val rfl (by (try dsimp only); exact sb_data (by rw [nameF_s (by omega), show j = ps[k]!.length by omega, List.take_length])) SubS.nil)
  ·try dsimp only
   omega
  · (try dsimp only); omega
 refine W.exit (E.th (E.th (E.hit (E.to (W.rg (SL.mv rfl rfl (SL.an rfl rfl (E.fo (W.ret ?_)))))))))
 refine E.fin (rs := [_]) (rn [(0, 102)]) (.inl rfl) rfl (.cons (ResOne.tmp rfl) .nil) ?_ ?_ rfl (fixL_spec rfl)
 ·skip
  rfl
 · exact (SubS.val rfl (by exact sb_data (by rw [show k = ps.length by omega, List.take_length]; rfl)) SubS.nil)

set_option maxRecDepth 8000 in
set_option maxHeartbeats 1600000 in
theorem parts_h {n : Nat} {lk : Nat → Nat → Bool} {us : List Nat} (hn : us.length ≤ 1000) (hu : ∀ u ∈ us, u < n) :
    Con Try.prog 76 [vL 1 (us.map eN), vL 1 (gridU (gridF n fun i j => uB (lk i j)))] [] (vL 1 ((partsL lk us).map eL1)) [] := by
 obtain ⟨i3, hi3, hz3, hs3, hb3⟩ := hinf3
 obtain ⟨i4, hi4, hz4, hs4, hb4⟩ := hinf4
 obtain ⟨i32, hi32, hz32, hs32, hb32⟩ := hinf32
 obtain ⟨i112, hi112, hz112, hs112, hb112⟩ := hinf112
 refine Con.enterL (n := 60) Try.func76 rfl rfl rfl (fun τ w ok vs hin => ?_)
 have hl0 := hin.len (i := 0) rfl
 try rw [List.length_map] at hl0
 have hl1 := hin.len (i := 1) rfl
 try rw [List.length_map] at hl1
 clear hin
 refine W.rg (SL.an rfl rfl (E.fo (W.rg (SL.an rfl rfl (E.fo (W.rg (SL.mv rfl rfl ?_)))))))
 refine SL.val (O.callp rfl rfl rfl (Con.fz (clone_h (rows := us.map eN) (by rw [List.length_map]; omega)) rfl rfl) (.cons (ArgOk.same rfl) .nil) hcallOk54 rfl Taken.no) ?_
 refine SL.an rfl rfl (E.fo (W.seq (W.block ?_)))
 refine W.adopt 5 102 32 1 (by decide) rfl rfl rfl ?_
 refine W.loopx2 (fun (out : List (List Nat)) (left : List Nat) => [(6, vL 1 (left.map eN)), (5, .own 101)]) (fun (out : List (List Nat)) (left : List Nat) => [(101, .data 32 1 (out.map eL1))]) (fun (out : List (List Nat)) (left : List Nat) => out ++ partsL lk left = partsL lk us ∧ left.length ≤ 1000 ∧ out.length + left.length ≤ 1000 ∧ ∀ u ∈ left, u < n) (fun (out : List (List Nat)) (left : List Nat) => left.length) ([]) (us) (rn [(101, 102)]) (.cons (t := 1) rfl (.cons (t := 4) rfl .nil)) .nil rfl ?_ ?_ rfl rfl ?_ ?_
 · exact (SubF.cons rfl (SubF.cons rfl SubF.nil))
 · exact (SubS.cons rfl SubS.nil)
 ·skip
  exact ⟨rfl, by omega, by simp; omega, hu⟩
 intro out left hinv
 obtain ⟨hi, hl1, hl2, hl3⟩ := hinv
 refine W.seq (W.rg (SL.mv rfl rfl ?_))
 refine SL.val (O.lenE (SlOf.fz rfl (by decide)) (by first | exact List.length_map _ | rfl) Try.underlying32 rfl Taken.no) ?_
 refine SL.val (O.det (fun _ => G.R.gtr rfl rfl) rfl Taken.no) ?_
 refine E.fo ?_
 first | refine W.cond_d rfl (fun hc1 => ?_) (fun hc1 => ?_) | refine W.cond_nd rfl (fun hc1 => ?_) (fun hc1 => ?_) | refine W.cond rfl (fun hc1 => ?_) (fun hc1 => ?_)
 ·skip
  have hl0 : 0 < left.length := by omega
  refine W.skip (E.to (W.block (W.rg (SL.mv rfl rfl ?_))))
  refine SL.val (O.idx_fz (i := 0) rfl rfl (rfl) (row_get (by omega)) Try.underlying32 hi3 hs3 rfl Taken.no) ?_
  refine SL.val (O.ld1 (PtI.ofU (PtU.fz rfl)) rfl Try.underlying3 rfl rfl Taken.no) ?_
  refine SL.memS (O.buildSlice 103 (rows := [left[0]!].map eN) rfl rfl Try.underlying32 hi3 hz3 hs3 (by decide) rfl (by decide) rfl rfl rfl Taken.no) rfl rfl (S' := (103, .data 3 1 ([left[0]!].map eN)) :: _) rfl ?_
  refine SL.an rfl rfl (E.fo (W.rg (SL.mv rfl rfl ?_)))
  refine SL.val (O.sub_fz (i := 1) rfl (Bnd.at rfl (by rfl)) Bnd.no (by rw [List.length_map]; omega) (by first | omega | (simp only [List.length_map, Nat.le_refl, Nat.zero_le] <;> omega) | (simp <;> omega)) sub_lo Try.underlying32 hi3 hs3 rfl Taken.no) ?_
  refine SL.an rfl rfl (E.fo (W.seq (W.rg (SL.an rfl rfl (E.fo (W.block ?_))))))
  refine W.loopx3 (fun (part : List Nat) (lft : List Nat) (i : Nat) => [(8, vI (i : Int)), (6, vL 1 (lft.map eN)), (7, .own 104)]) (fun (part : List Nat) (lft : List Nat) (i : Nat) => [(104, .data 3 1 (part.map eN))]) (fun (part : List Nat) (lft : List Nat) (i : Nat) => grow lk part lft i = (grow lk [left[0]!] (left.drop 1) 0) ∧ i ≤ part.length ∧ 0 < part.length ∧ part.length + lft.length ≤ left.length ∧ (∀ u ∈ lft, u < n) ∧ ∀ u ∈ part, u < n) (fun (part : List Nat) (lft : List Nat) (i : Nat) => part.length + lft.length - i) ([left[0]!]) (left.drop 1) (0) (rn [(104, 103)]) (.cons (t := 1) rfl (.cons (t := 4) rfl (.cons (t := 5) rfl .nil))) (.cons (t := 101) rfl .nil) rfl ?_ ?_ rfl rfl ?_ ?_
  · exact (SubF.cons rfl (SubF.cons rfl (SubF.cons rfl SubF.nil)))
  · exact (SubS.cons rfl SubS.nil)
  ·skip
   exact ⟨rfl, by simp, by simp, by simp; omega, fun u hq => hl3 u (List.mem_of_mem_drop hq), fun u hq => by rw [List.mem_singleton.1 hq]; exact hl3 _ (mem_at hl0)⟩
  intro part lft i hinv
  obtain ⟨hg, hi1, hi0, hq1, hq2, hq3⟩ := hinv
  refine W.seq (W.rg (SL.mv rfl rfl (SL.mv rfl rfl ?_)))
  refine SL.val (O.lenE (SlOf.own rfl rfl) (by first | exact List.length_map _ | rfl) Try.underlying32 rfl Taken.no) ?_
  refine SL.val (O.det (fun _ => G.R.lss rfl rfl) rfl Taken.no) ?_
  refine E.fo ?_
  first | refine W.cond_d rfl (fun hc2 => ?_) (fun hc2 => ?_) | refine W.cond_nd rfl (fun hc2 => ?_) (fun hc2 => ?_) | refine W.cond rfl (fun hc2 => ?_) (fun hc2 => ?_)
  ·skip
   have hil : i < part.length := by omega
   have hpn := hq3 part[i]! (mem_at hil)
   refine W.skip (E.to (W.seq (W.block (W.rg (SL.an rfl rfl (E.fo (W.seq (W.rg (SL.mv rfl rfl ?_)))))))))
   refine SL.val (O.lenE (SlOf.fz rfl (by decide)) (by first | exact List.length_map _ | rfl) Try.underlying32 rfl Taken.no) ?_
   refine SL.mv rfl rfl (E.fo (W.block ?_))
   refine W.adopt 9 107 3 1 (by decide) rfl rfl rfl ?_
   refine W.loopx1 (fun (j : Nat) => [(31, vI (j : Int)), (7, .own 105), (9, .own 106)]) (fun (j : Nat) => [(105, .data 3 1 ((part ++ (lft.take j).filter (lk part[i]!)).map eN)), (106, .data 3 1 (((lft.take j).filter fun u => !lk part[i]! u).map eN))]) (fun (j : Nat) => j ≤ lft.length) (fun (j : Nat) => lft.length - j) (0) (rn [(105, 104), (106, 107)]) (.cons (t := 1) rfl (.cons (t := 4) rfl (.cons (t := 5) rfl (.cons (t := 6) rfl (.cons (t := 8) rfl (.cons (t := 29) rfl (.cons (t := 30) rfl .nil))))))) (.cons (t := 101) rfl .nil) rfl ?_ ?_ rfl rfl ?_ ?_
   · exact (SubF.cons rfl (SubF.cons rfl (SubF.cons rfl SubF.nil)))
   · exact (SubS.val rfl (by exact sb_data (by rw [List.take_zero, List.filter_nil, List.append_nil])) (SubS.val rfl (by exact sb_data (by rw [List.take_zero, List.filter_nil]; rfl)) SubS.nil))
   ·skip
    omega
   intro j hinv
   have hj := hinv
   have htj := filt_len (lk part[i]!) (lft.take j)
   have htl : (lft.take j).length = j := by rw [List.length_take]; omega
   have hpi : ((part ++ (lft.take j).filter (lk part[i]!)))[i]! = part[i]! := get_app hil
   refine W.rg ?_
   refine SL.val (O.det (fun _ => G.R.lss rfl rfl) rfl Taken.no) ?_
   refine E.fo (W.seq ?_)
   first | refine W.cond_d rfl (fun hc3 => ?_) (fun hc3 => ?_) | refine W.cond_nd rfl (fun hc3 => ?_) (fun hc3 => ?_) | refine W.cond rfl (fun hc3 => ?_) (fun hc3 => ?_)
   ·skip
    have hun := hq2 lft[j]! (mem_at (by omega))
    refine W.skip (E.to (W.seq (W.block (W.rg ?_))))
    refine SL.val (O.idx_fz rfl rfl (rfl) (row_get (by omega)) Try.underlying32 hi3 hs3 rfl Taken.no) ?_
    refine SL.val (O.ld1 (PtI.ofU (PtU.fz rfl)) rfl Try.underlying3 rfl rfl Taken.no) ?_
    refine SL.an rfl rfl (E.fo (W.rg (SL.mv rfl rfl (SL.mv rfl rfl (SL.mv rfl rfl ?_)))))
    refine SL.val (O.idx_own (i := i) rfl rfl rfl (rfl) (by rw [List.length_map, List.length_append]; omega) Try.underlying32 hi3 hs3 rfl Taken.no) ?_
    refine SL.val (O.ld1 (PtI.ofU (PtU.el rfl rfl (row_get (by rw [List.length_append]; omega)))) rfl Try.underlying3 rfl rfl Taken.no) ?_
    rw [hpi]
    refine SL.val (O.idx_fz (i := (part[i]!)) rfl rfl (rfl) (gridU_get hpn) Try.underlying88 hi112 hs112 rfl Taken.no) ?_
    refine SL.val (O.ld1 (PtI.ofU (PtU.fz rfl)) rfl Try.underlying112 rfl rfl Taken.no) ?_
    refine SL.mv rfl rfl ?_
    refine SL.val (O.idx_fz (i := (lft[j]!)) rfl rfl (rfl) (gridR_get (g := fun i j => uB (lk i j)) (i := part[i]!) hun) Try.underlying112 hi4 hs4 rfl Taken.no) ?_
    refine SL.val (O.ld1 (PtI.ofU (PtU.fz rfl)) rfl Try.underlying4 rfl rfl Taken.no) ?_
    refine E.fo ?_
    first | refine W.cond_d rfl (fun hc4 => ?_) (fun hc4 => ?_) | refine W.cond_nd rfl (fun hc4 => ?_) (fun hc4 => ?_) | refine W.cond rfl (fun hc4 => ?_) (fun hc4 => ?_)
    ·skip
     have hE1 : lk part[i]! lft[j]! = true := by assumption
     refine W.region (SL.mv rfl rfl (SL.mv rfl rfl ?_))
     refine SL.memS (O.buildSlice 108 (rows := [lft[j]!].map eN) rfl rfl Try.underlying32 hi3 hz3 hs3 (by decide) rfl (by decide) rfl rfl rfl Taken.no) rfl rfl (S' := (108, .data 3 1 ([lft[j]!].map eN)) :: _) rfl ?_
     refine SL.memS (O.app (k' := 109) rfl rfl (SlOf.own rfl rfl) Try.underlying32 hi3 hz3 hs3 rfl rfl (by exact app_map) (by rw [hb3]; (simp only [List.length_map, List.length_singleton, List.length_append]; omega)) (by (simp only [List.length_map, List.length_singleton, List.length_append]; omega)) rfl Taken.no) rfl rfl (S' := (109, _) :: (105, .dead) :: _) rfl ?_
     refine SL.an rfl rfl (SL.nil (E.inn (E.to ?_)))
     refine W.pick (K:=[(1,_),(4,_),(5,_),(6,_),(7,_),(8,_),(9,_),(29,_),(30,_),(31,_)]) (Z:=[(101,_),(106,_),(108,_),(109,_)]) ⟨rfl,rfl,rfl,rfl,rfl,rfl,rfl,rfl,rfl,rfl,trivial⟩ ⟨rfl,rfl,rfl,rfl,trivial⟩ ?_
     refine W.region ?_
     refine SL.val (O.det (fun _ => by first | exact G.R.add64 rfl rfl (by omega) | exact G.R.add rfl rfl) rfl Taken.no) ?_
     refine SL.mv rfl rfl (SL.nil ?_)
     refine E.again ((j + 1)) (rn [(105, 109)]) ?_ ?_ rfl (fixL_spec rfl) ?_ ?_
     · exact (SubF.cons rfl (SubF.cons rfl (SubF.cons rfl (SubF.cons rfl (SubF.cons rfl (SubF.cons rfl (SubF.cons rfl (SubF.cons rfl (SubF.cons rfl (SubF.cons rfl SubF.nil))))))))))
     · exact (SubS.val rfl (by (try dsimp only); first | exact sb_data (by rw [filt_y (by omega) hE1, ← List.append_assoc]) | exact sb_data (by rw [filt_n (by omega) hE1])) (SubS.val rfl (by (try dsimp only); first | exact sb_data (by rw [filt_n (by omega) (by rw [hE1]; rfl)]) | exact sb_data (by rw [filt_y (by omega) (by rw [hE1]; rfl)])) (SubS.cons rfl SubS.nil)))
     ·try dsimp only
      omega
     · (try dsimp only); omega
    have hE1 : lk part[i]! lft[j]! = false := by first | assumption | simp_all
    refine W.region (SL.mv rfl rfl (SL.mv rfl rfl ?_))
    refine SL.memS (O.buildSlice 110 (rows := [lft[j]!].map eN) rfl rfl Try.underlying32 hi3 hz3 hs3 (by decide) rfl (by decide) rfl rfl rfl Taken.no) rfl rfl (S' := (110, .data 3 1 ([lft[j]!].map eN)) :: _) rfl ?_
    refine SL.memS (O.app (k' := 111) rfl rfl (SlOf.own rfl rfl) Try.underlying32 hi3 hz3 hs3 rfl rfl (by exact app_map) (by rw [hb3]; (simp only [List.length_map, List.length_singleton]; omega)) (by (simp only [List.length_map, List.length_singleton]; omega)) rfl Taken.no) rfl rfl (S' := (111, _) :: (106, .dead) :: _) rfl ?_
    refine SL.an rfl rfl (SL.nil (E.inn (E.to ?_)))
    refine W.pick (K:=[(1,_),(4,_),(5,_),(6,_),(7,_),(8,_),(9,_),(29,_),(30,_),(31,_)]) (Z:=[(101,_),(105,_),(110,_),(111,_)]) ⟨rfl,rfl,rfl,rfl,rfl,rfl,rfl,rfl,rfl,rfl,trivial⟩ ⟨rfl,rfl,rfl,rfl,trivial⟩ ?_
    refine W.region ?_
    refine SL.val (O.det (fun _ => by first | exact G.R.add64 rfl rfl (by omega) | exact G.R.add rfl rfl) rfl Taken.no) ?_
    refine SL.mv rfl rfl (SL.nil ?_)
    refine E.again ((j + 1)) (rn [(106, 111)]) ?_ ?_ rfl (fixL_spec rfl) ?_ ?_
    · exact (SubF.cons rfl (SubF.cons rfl (SubF.cons rfl (SubF.cons rfl (SubF.cons rfl (SubF.cons rfl (SubF.cons rfl (SubF.cons rfl (SubF.cons rfl (SubF.cons rfl SubF.nil))))))))))
    · exact (SubS.val rfl (by (try dsimp only); first | exact sb_data (by rw [filt_y (by omega) hE1, ← List.append_assoc]) | exact sb_data (by rw [filt_n (by omega) hE1])) (SubS.val rfl (by (try dsimp only); first | exact sb_data (by rw [filt_n (by omega) (by rw [hE1]; rfl)]) | exact sb_data (by rw [filt_y (by omega) (by rw [hE1]; rfl)])) (SubS.cons rfl SubS.nil)))
    ·try dsimp only
     omega
    · (try dsimp only); omega
   refine W.exit (E.th (E.th (E.hit (E.to (W.region (SL.mv rfl rfl (SL.an rfl rfl (SL.nil (E.inn (E.to (W.region (SL.mv rfl rfl ?_))))))))))))
   refine SL.val (O.det (fun _ => by first | exact G.R.add64 rfl rfl (by omega) | exact G.R.add rfl rfl) rfl Taken.no) ?_
   refine SL.an rfl rfl (SL.nil ?_)
   refine E.freeze 106 rfl (F' := [(6, _)]) (⟨⟨_, rfl, rfl⟩, trivial⟩) ?_
   refine E.again ((part ++ lft.filter (lk part[i]!)), (lft.filter fun u => !lk part[i]! u), (i + 1)) (rn [(104, 105)]) ?_ ?_ rfl (fixL_spec rfl) ?_ ?_
   · exact (SubF.cons rfl (SubF.val rfl (by (try dsimp only); rw [show j = lft.length by omega, List.take_length]; rfl) (SubF.cons rfl (SubF.cons rfl (SubF.cons rfl (SubF.cons rfl SubF.nil))))))
   · exact (SubS.val rfl (by (try dsimp only); exact sb_data (by rw [show j = lft.length by omega, List.take_length])) (SubS.cons rfl SubS.nil))
   ·try dsimp only
    have hfl := filt_len (lk part[i]!) lft
    exact ⟨by rw [← grow_step hil]; exact hg, by rw [List.length_append]; omega, by rw [List.length_append]; omega, by rw [List.length_append]; omega, fun u hq => hq2 u (List.mem_filter.1 hq).1, fun u hq => by rcases List.mem_append.1 hq with z | z; exact hq3 u z; exact hq2 u (List.mem_filter.1 z).1⟩
   · (try dsimp only); (have hfl := filt_len (lk part[i]!) lft; rw [List.length_append]; omega)
  refine W.exit (E.th (E.th (E.hit (E.to (W.region (SL.mv rfl rfl (SL.mv rfl rfl ?_)))))))
  refine SL.freeze 104 rfl (F' := [(56, _)]) (⟨⟨_, rfl, rfl⟩, trivial⟩) ?_
  refine SL.memS (O.buildSlice 112 (rows := [part].map eL1) rfl rfl Try.underlying68 hi32 hz32 hs32 (by decide) rfl (by decide) rfl rfl rfl Taken.no) rfl rfl (S' := (112, .data 32 1 ([part].map eL1)) :: _) rfl ?_
  refine SL.memS (O.app (k' := 113) rfl rfl (SlOf.own rfl rfl) Try.underlying68 hi32 hz32 hs32 rfl rfl (by exact app_map) (by rw [hb32]; (simp only [List.length_map, List.length_singleton]; omega)) (by (simp only [List.length_map, List.length_singleton]; omega)) rfl Taken.no) rfl rfl (S' := (113, _) :: (101, .dead) :: _) rfl ?_
  refine SL.an rfl rfl (SL.nil (E.inn ?_))
  have hge : grow lk part lft i = (part, lft) := grow_end (by omega)
  refine E.again ((out ++ [(grow lk [left[0]!] (left.drop 1) 0).1]), ((grow lk [left[0]!] (left.drop 1) 0).2)) (rn [(101, 113)]) ?_ ?_ rfl (fixL_spec rfl) ?_ ?_
  · exact (SubF.val rfl (by (try dsimp only); (rw [← hg, hge]; try rfl)) (SubF.cons rfl (SubF.cons rfl (SubF.cons rfl SubF.nil))))
  · exact (SubS.val rfl (by (try dsimp only); exact sb_data (by rw [← hg, hge]; try exact app_map)) SubS.nil)
  ·try dsimp only
   have hge : grow lk part lft i = (part, lft) := grow_end (by omega)
   exact ⟨by rw [← parts_left hl0]; exact hi, by rw [← hg, hge]; show lft.length ≤ 1000; omega, by rw [List.length_append, List.length_singleton, ← hg, hge]; show _ + 1 + lft.length ≤ _; omega, by rw [← hg, hge]; exact hq2⟩
  · (try dsimp only); (rw [← hg, hge]; show lft.length < _; omega)
 refine W.exit (E.th (E.th (E.hit (E.to (W.rg (SL.mv rfl rfl (SL.an rfl rfl (E.fo (W.ret ?_)))))))))
 refine E.freeze 101 rfl (F' := [(4, _)]) (⟨⟨_, rfl, rfl⟩, trivial⟩) ?_
 refine E.fin (rs := [_]) (rn []) (.inl rfl) rfl (.cons (ResOne.tmp rfl) .nil) ?_ ?_ rfl (fixL_spec rfl)
 ·skip
  have hl : left = [] := List.eq_nil_of_length_eq_zero (by omega)
  subst hl
  rw [parts_nil, List.append_nil] at hi
  rw [hi]; rfl
 · exact SubS.nil

end Go.Proofs.Ytbkbeplddddgeaa
end
section
namespace Go.Proofs.Ytbkbeplddddgeaa
open Go Go.RowKit Go.H Go.D33

theorem hinf51 : ∃ i, Try.prog.info? 51 = some i ∧ i.zero = some (.agg #[.int .i64 0, .int .i64 0, .int .i64 0]) ∧ i.size = 3 ∧ i.bytes = 24 := G.info_of (by kernel_rfl)
theorem hinf61 : ∃ i, Try.prog.info? 61 = some i ∧ i.zero = some (.agg #[.int .i64 0, .int .i64 0, .int .i64 0]) ∧ i.size = 3 ∧ i.bytes = 24 := G.info_of (by kernel_rfl)
theorem hinf88 : ∃ i, Try.prog.info? 88 = some i ∧ i.zero = some (.slice none 0 0) ∧ i.size = 1 ∧ i.bytes = 24 := G.info_of (by kernel_rfl)
theorem hcallOk76 : G.callOk Try.prog 76 = true := by kernel_rfl
theorem hcallOk81 : G.callOk Try.prog 81 = true := by kernel_rfl
theorem hcallOk82 : G.callOk Try.prog 82 = true := by kernel_rfl
theorem hcallOk83 : G.callOk Try.prog 83 = true := by kernel_rfl

set_option maxRecDepth 8000 in
set_option maxHeartbeats 3200000 in
theorem newField_h {n : Nat} {ps : List Pr} {rs : List Ru} (hf : (Prob.mk (n : Int) ps rs).formed) :
    Con Try.prog 72 [vA [uI (n : Int), .sl 3 (ps.map ePr), .sl 3 (rs.map eRu)]] [] (.u (.ptr [uI (n : Int), .sl 1 (gridU (gridF n fun i j => uI (wF ps i j))), .sl 1 (gridU (gridF n fun i j => uB (mF (lF ps) rs i j))), .sl 3 ((barL rs).map eRu), .sl 1 ((namedL n (partsL (mu rs) (List.range n))).map eN), .sl 1 ((List.range n).map eN)])) [] := by
 have hn2 : (n : Int) ≤ 200 := hf.2.1
 have hr4 : rs.length ≤ 400 := hf.2.2.1
 obtain ⟨i3, hi3, hz3, hs3, hb3⟩ := hinf3
 obtain ⟨i4, hi4, hz4, hs4, hb4⟩ := hinf4
 obtain ⟨i32, hi32, hz32, hs32, hb32⟩ := hinf32
 obtain ⟨i51, hi51, hz51, hs51, hb51⟩ := hinf51
 obtain ⟨i61, hi61, hz61, hs61, hb61⟩ := hinf61
 obtain ⟨i88, hi88, hz88, hs88, hb88⟩ := hinf88
 obtain ⟨i112, hi112, hz112, hs112, hb112⟩ := hinf112
 refine Con.enterL (n := 160) Try.func72 rfl rfl rfl (fun τ w ok vs hin => ?_)
 have hl0_1 := hin.lenA (i := 0) (j := 1) rfl rfl
 try rw [List.length_map] at hl0_1
 have hl0_2 := hin.lenA (i := 0) (j := 2) rfl rfl
 try rw [List.length_map] at hl0_2
 clear hin
 refine W.rg ?_
 refine SL.memS (O.box (is := [_, _, _]) 101 rfl rfl (by simp) rfl rfl Taken.no) rfl rfl (S' := (101, _) :: _) rfl ?_
 refine SL.an rfl rfl (E.fo (W.seq ?_))
 refine W.draw [⟨[], [], [], [101]⟩, ⟨[101], [], [], []⟩, ⟨[], [], [], [101]⟩, ⟨[101], [], [], []⟩, ⟨[102], [102], [102], []⟩, ⟨[], [], [], [101]⟩, ⟨[101], [], [], []⟩, ⟨[103], [103], [103], []⟩, ⟨[], [], [], [102, 103]⟩, ⟨[102, 103, 104], [104], [104], []⟩, ⟨[], [], [], [104]⟩] rfl (by kernel_rfl) (by kernel_rfl) rfl rfl ?_
 refine WH.val (O.fld_ref (o' := 0) rfl Try.underlying30 rfl (m := 0) (by kernel_rfl) rfl rfl Taken.no) rfl rfl ?_
 refine WH.val (O.ld1 (PtI.ref rfl rfl) rfl Try.underlying3 rfl rfl Taken.no) rfl rfl ?_
 refine WH.val (O.fld_ref (o' := 0) rfl Try.underlying30 rfl (m := 0) (by kernel_rfl) rfl rfl Taken.no) rfl rfl ?_
 refine WH.val (O.ld1 (PtI.ref rfl rfl) rfl Try.underlying3 rfl rfl Taken.no) rfl rfl ?_
 refine WH.memS (O.call (rn [(0, 102)]) [] rfl rfl rfl (gridI_h (n := n) (by omega)) (.cons (ArgOk.same rfl) .nil) SubS.nil rfl rfl rfl rfl rfl (.inl rfl) hcallOk81 (r' := .own 102) rfl rfl Taken.no) rfl rfl rfl rfl rfl (S' := (102, .grid _ _ _) :: _) rfl ?_
 refine WH.val (O.fld_ref (o' := 0) rfl Try.underlying30 rfl (m := 0) (by kernel_rfl) rfl rfl Taken.no) rfl rfl ?_
 refine WH.val (O.ld1 (PtI.ref rfl rfl) rfl Try.underlying3 rfl rfl Taken.no) rfl rfl ?_
 refine WH.memS (O.call (rn [(0, 103)]) [] rfl rfl rfl (gridB_h (n := n) (by omega)) (.cons (ArgOk.same rfl) .nil) SubS.nil rfl rfl rfl rfl rfl (.inl rfl) hcallOk82 (r' := .own 103) rfl rfl Taken.no) rfl rfl rfl rfl rfl (S' := (103, .grid _ _ _) :: _) rfl ?_
 refine WH.val (O.build (res := [_, _, _, _, _, _]) (z := .agg #[.int .i64 0, .slice none 0 0, .slice none 0 0, .slice none 0 0, .slice none 0 0, .slice none 0 0]) (places := [(0, 1), (1, 1), (2, 1), (3, 1), (4, 1), (5, 1)]) rfl rfl Try.underlying90 (by kernel_rfl) (fun _ => by kernel_rfl) rfl rfl Taken.no) rfl rfl ?_
 refine WH.memS (O.box (is := [_, _, _, _, _, _]) 104 rfl rfl (by simp) rfl rfl Taken.no) rfl rfl rfl rfl rfl (S' := (104, _) :: _) rfl ?_
 refine WH.val (O.assign rfl rfl Taken.no) rfl rfl ?_
 refine WH.nil (E.to (W.rg ?_))
 refine SL.val (O.fld_ref (o' := 0) rfl Try.underlying30 rfl (m := 0) (by kernel_rfl) rfl rfl Taken.no) ?_
 refine SL.val (O.ld1 (PtI.ref rfl rfl) rfl Try.underlying3 rfl rfl Taken.no) ?_
 refine SL.memS (O.call (rn [(0, 105)]) [] rfl rfl rfl (gridB_h (n := n) (by omega)) (.cons (ArgOk.same rfl) .nil) SubS.nil rfl rfl rfl rfl rfl (.inl rfl) hcallOk82 (r' := .own 105) rfl rfl Taken.no) rfl rfl (S' := (105, .grid _ _ _) :: _) rfl ?_
 refine SL.an rfl rfl (E.fo (W.seq (W.rg ?_)))
 refine SL.val (O.fld_ref (o' := 1) rfl Try.underlying30 rfl (m := 0) (by kernel_rfl) rfl rfl Taken.no) ?_
 refine SL.val (O.ld1 (PtI.ref rfl rfl) rfl Try.underlying28 rfl rfl Taken.no) ?_
 refine SL.val (O.lenE (SlOf.fz rfl (by decide)) (by first | exact List.length_map _ | rfl) Try.underlying28 rfl Taken.no) ?_
 refine SL.mv rfl rfl (E.fo (W.block ?_))
 refine W.loopx1 (fun (k : Nat) => [(28, vI (k : Int))]) (fun (k : Nat) => [(106, .grid 32 3 (gridF n fun i j => uI ((wF (ps.take k)) i j))), (107, .grid 112 4 (gridF n fun i j => uB ((lF (ps.take k)) i j))), (104, .cells 90 [vI (n : Int), .own 106, .own 107, .u (.sc (.slice none 0 0)), .u (.sc (.slice none 0 0)), .u (.sc (.slice none 0 0))])]) (fun (k : Nat) => k ≤ ps.length) (fun (k : Nat) => ps.length - k) (0) (rn [(106, 102), (107, 103)]) (.cons (t := 1) rfl (.cons (t := 2) rfl (.cons (t := 3) rfl (.cons (t := 4) rfl (.cons (t := 26) rfl (.cons (t := 27) rfl .nil)))))) (.cons (t := 101) rfl (.cons (t := 105) rfl .nil)) rfl ?_ ?_ rfl rfl ?_ ?_
 · exact (SubF.cons rfl SubF.nil)
 · exact (SubS.val rfl (by exact congrArg (SB.grid 32 3) (gridF_0 n _)) (SubS.val rfl (by exact congrArg (SB.grid 112 4) (gridF_0 n _)) (SubS.cons rfl SubS.nil)))
 ·skip
  omega
 intro k hinv
 have hk := hinv
 refine W.rg ?_
 refine SL.val (O.det (fun _ => G.R.lss rfl rfl) rfl Taken.no) ?_
 refine E.fo (W.seq ?_)
 first | refine W.cond_d rfl (fun hc1 => ?_) (fun hc1 => ?_) | refine W.cond_nd rfl (fun hc1 => ?_) (fun hc1 => ?_) | refine W.cond rfl (fun hc1 => ?_) (fun hc1 => ?_)
 ·skip
  have hpk : prOk (n : Int) ps[k]! := (hf.2.2.2.1 k (by show k < ps.length; omega)).1
  unfold prOk at hpk
  refine W.skip (E.to (W.seq (W.block (W.rg ?_))))
  refine SL.val (O.idx_fz rfl rfl (rfl) (row_get (by omega)) Try.underlying28 hi61 hs61 rfl Taken.no) ?_
  refine SL.val (O.ldU (m := 3) (PtU.fz rfl) rfl Try.underlying61 rfl (by kernel_rfl) rfl Taken.no) ?_
  refine SL.memS (O.alloc (z := .agg #[.int .i64 0, .int .i64 0, .int .i64 0]) (is := [.u (.sc (.int .i64 0)), .u (.sc (.int .i64 0)), .u (.sc (.int .i64 0))]) 108 (by kernel_rfl) rfl rfl rfl Taken.no) rfl rfl (S' := (108, _) :: _) rfl ?_
  refine SL.effS (O.st_ref (m := 3) rfl rfl rfl (js := [_, _, _]) rfl rfl (by kernel_rfl) (by simp) (Nat.le_of_ble_eq_true rfl) rfl (is' := [_, _, _]) rfl Taken.no) (S' := (108, _) :: _) rfl ?_
  refine E.fo (W.seq ?_)
  refine W.draw [⟨[], [], [], [104]⟩, ⟨[], [], [], [104]⟩, ⟨[], [], [], [104]⟩, ⟨[104], [], [], [106]⟩, ⟨[], [], [], [108]⟩, ⟨[108], [], [], []⟩, ⟨[106], [], [], []⟩, ⟨[106], [], [], []⟩, ⟨[], [], [], [108]⟩, ⟨[108], [], [], []⟩, ⟨[], [], [], [104]⟩, ⟨[], [], [], [104]⟩, ⟨[], [], [], [104]⟩, ⟨[104], [], [], [106]⟩, ⟨[], [], [], [108]⟩, ⟨[108], [], [], []⟩, ⟨[106], [], [], []⟩, ⟨[106], [], [], []⟩, ⟨[], [], [], [108]⟩, ⟨[108], [], [], []⟩, ⟨[], [], [], [108]⟩, ⟨[108], [], [], []⟩, ⟨[], [], [], [108]⟩, ⟨[108], [], [], []⟩, ⟨[], [], [], [106]⟩, ⟨[106], [106], [], []⟩, ⟨[], [], [], [106]⟩, ⟨[106], [106], [], []⟩] rfl (by kernel_rfl) (by kernel_rfl) rfl rfl ?_
  refine WH.mv rfl rfl rfl ?_
  refine WH.val (O.nilCheck rfl rfl rfl Taken.no) rfl rfl ?_
  refine WH.val (O.fld_ref (o' := 1) rfl Try.underlying90 rfl (m := 0) (by kernel_rfl) rfl rfl Taken.no) rfl rfl ?_
  refine WH.val (O.ld1 (PtI.ref rfl rfl) rfl Try.underlying68 rfl rfl Taken.no) rfl rfl ?_
  refine WH.val (O.fld_ref (o' := 0) rfl Try.underlying61 rfl (m := 0) (by kernel_rfl) rfl rfl Taken.no) rfl rfl ?_
  refine WH.val (O.ld1 (PtI.ref rfl rfl) rfl Try.underlying3 rfl rfl Taken.no) rfl rfl ?_
  refine WH.val (O.idx_grid (i := (ps[k]!.a.toNat)) rfl rfl rfl (by omega) (by rw [gridF_len]; omega) Try.underlying68 hi32 hs32 rfl Taken.no) rfl rfl ?_
  refine WH.val (O.ldrow (m := n) rfl rfl (gridF_get (g := (fun i j => uI ((wF (ps.take k)) i j))) (by omega)) (by simp) Try.underlying32 rfl rfl Taken.no) rfl rfl ?_
  refine WH.val (O.fld_ref (o' := 1) rfl Try.underlying61 rfl (m := 0) (by kernel_rfl) rfl rfl Taken.no) rfl rfl ?_
  refine WH.val (O.ld1 (PtI.ref rfl rfl) rfl Try.underlying3 rfl rfl Taken.no) rfl rfl ?_
  refine WH.mv rfl rfl rfl ?_
  refine WH.val (O.nilCheck rfl rfl rfl Taken.no) rfl rfl ?_
  refine WH.val (O.fld_ref (o' := 1) rfl Try.underlying90 rfl (m := 0) (by kernel_rfl) rfl rfl Taken.no) rfl rfl ?_
  refine WH.val (O.ld1 (PtI.ref rfl rfl) rfl Try.underlying68 rfl rfl Taken.no) rfl rfl ?_
  refine WH.val (O.fld_ref (o' := 1) rfl Try.underlying61 rfl (m := 0) (by kernel_rfl) rfl rfl Taken.no) rfl rfl ?_
  refine WH.val (O.ld1 (PtI.ref rfl rfl) rfl Try.underlying3 rfl rfl Taken.no) rfl rfl ?_
  refine WH.val (O.idx_grid (i := (ps[k]!.b.toNat)) rfl rfl rfl (by omega) (by rw [gridF_len]; omega) Try.underlying68 hi32 hs32 rfl Taken.no) rfl rfl ?_
  refine WH.val (O.ldrow (m := n) rfl rfl (gridF_get (g := (fun i j => uI ((wF (ps.take k)) i j))) (by omega)) (by simp) Try.underlying32 rfl rfl Taken.no) rfl rfl ?_
  refine WH.val (O.fld_ref (o' := 0) rfl Try.underlying61 rfl (m := 0) (by kernel_rfl) rfl rfl Taken.no) rfl rfl ?_
  refine WH.val (O.ld1 (PtI.ref rfl rfl) rfl Try.underlying3 rfl rfl Taken.no) rfl rfl ?_
  refine WH.val (O.fld_ref (o' := 2) rfl Try.underlying61 rfl (m := 0) (by kernel_rfl) rfl rfl Taken.no) rfl rfl ?_
  refine WH.val (O.ld1 (PtI.ref rfl rfl) rfl Try.underlying3 rfl rfl Taken.no) rfl rfl ?_
  refine WH.val (O.fld_ref (o' := 2) rfl Try.underlying61 rfl (m := 0) (by kernel_rfl) rfl rfl Taken.no) rfl rfl ?_
  refine WH.val (O.ld1 (PtI.ref rfl rfl) rfl Try.underlying3 rfl rfl Taken.no) rfl rfl ?_
  refine WH.val (O.idx_row (j := (ps[k]!.b.toNat)) rfl rfl (by omega) (by omega) Try.underlying32 hi3 hs3 rfl Taken.no) rfl rfl ?_
  refine WH.effS (O.st_rel rfl rfl rfl rfl rfl (by kernel_rfl) (gridF_get (g := (fun i j => uI ((wF (ps.take k)) i j))) (by omega)) (by rw [List.length_map, List.length_range]; omega) (rows' := (gridF n (fun i j => uI ((wF (ps.take k)) i j))).set (ps[k]!.a.toNat) (((List.range n).map fun j => uI ((wF (ps.take k)) (ps[k]!.a.toNat) j)).set (ps[k]!.b.toNat) (uI ps[k]!.w))) (by rfl) Taken.no) rfl rfl rfl (S' := (106, _) :: _) rfl ?_
  refine WH.val (O.idx_row (j := (ps[k]!.a.toNat)) rfl rfl (by omega) (by omega) Try.underlying32 hi3 hs3 rfl Taken.no) rfl rfl ?_
  refine WH.effS (O.st_rel rfl rfl rfl rfl rfl (by kernel_rfl) (row_after (g := (fun i j => uI ((wF (ps.take k)) i j))) (by omega) (by omega)) (by rw [List.length_map, List.length_range]; omega) (rows' := gridF n fun i j => uI (upd2 (wF (ps.take k)) (ps[k]!.a.toNat) (ps[k]!.b.toNat) ps[k]!.w i j)) (by exact grid_updW (by omega) (by omega) (by omega)) Taken.no) rfl rfl rfl (S' := (106, _) :: _) rfl ?_
  refine WH.nil (E.to ?_)
  refine W.pick (K:=[(1,_),(2,_),(3,_),(4,_),(6,_),(26,_),(27,_),(28,_)]) (Z:=[(101,_),(104,_),(105,_),(106,_),(107,_),(108,_)]) ⟨rfl,rfl,rfl,rfl,rfl,rfl,rfl,rfl,trivial⟩ ⟨rfl,rfl,rfl,rfl,rfl,rfl,trivial⟩ ?_
  refine W.rg ?_
  refine SL.val (O.fld_ref (o' := 2) rfl Try.underlying61 rfl (m := 0) (by kernel_rfl) rfl rfl Taken.no) ?_
  refine SL.val (O.ld1 (PtI.ref rfl rfl) rfl Try.underlying3 rfl rfl Taken.no) ?_
  refine SL.val (O.det (fun _ => G.R.gtr rfl rfl) rfl Taken.no) ?_
  refine E.fo ?_
  first | refine W.cond_d rfl (fun hc2 => ?_) (fun hc2 => ?_) | refine W.cond_nd rfl (fun hc2 => ?_) (fun hc2 => ?_) | refine W.cond rfl (fun hc2 => ?_) (fun hc2 => ?_)
  ·skip
   refine W.draw [⟨[], [], [], [104]⟩, ⟨[], [], [], [104]⟩, ⟨[], [], [], [104]⟩, ⟨[104], [], [], [107]⟩, ⟨[], [], [], [108]⟩, ⟨[108], [], [], []⟩, ⟨[107], [], [], []⟩, ⟨[107], [], [], []⟩, ⟨[], [], [], [108]⟩, ⟨[108], [], [], []⟩, ⟨[], [], [], [104]⟩, ⟨[], [], [], [104]⟩, ⟨[], [], [], [104]⟩, ⟨[104], [], [], [107]⟩, ⟨[], [], [], [108]⟩, ⟨[108], [], [], []⟩, ⟨[107], [], [], []⟩, ⟨[107], [], [], []⟩, ⟨[], [], [], [108]⟩, ⟨[108], [], [], []⟩, ⟨[], [], [], [107]⟩, ⟨[107], [107], [], []⟩, ⟨[], [], [], [107]⟩, ⟨[107], [107], [], []⟩] rfl (by kernel_rfl) (by kernel_rfl) rfl rfl ?_
   refine WH.mv rfl rfl rfl ?_
   refine WH.val (O.nilCheck rfl rfl rfl Taken.no) rfl rfl ?_
   refine WH.val (O.fld_ref (o' := 2) rfl Try.underlying90 rfl (m := 0) (by kernel_rfl) rfl rfl Taken.no) rfl rfl ?_
   refine WH.val (O.ld1 (PtI.ref rfl rfl) rfl Try.underlying88 rfl rfl Taken.no) rfl rfl ?_
   refine WH.val (O.fld_ref (o' := 0) rfl Try.underlying61 rfl (m := 0) (by kernel_rfl) rfl rfl Taken.no) rfl rfl ?_
   refine WH.val (O.ld1 (PtI.ref rfl rfl) rfl Try.underlying3 rfl rfl Taken.no) rfl rfl ?_
   refine WH.val (O.idx_grid (i := (ps[k]!.a.toNat)) rfl rfl rfl (by omega) (by rw [gridF_len]; omega) Try.underlying88 hi112 hs112 rfl Taken.no) rfl rfl ?_
   refine WH.val (O.ldrow (m := n) rfl rfl (gridF_get (g := (fun i j => uB ((lF (ps.take k)) i j))) (by omega)) (by simp) Try.underlying112 rfl rfl Taken.no) rfl rfl ?_
   refine WH.val (O.fld_ref (o' := 1) rfl Try.underlying61 rfl (m := 0) (by kernel_rfl) rfl rfl Taken.no) rfl rfl ?_
   refine WH.val (O.ld1 (PtI.ref rfl rfl) rfl Try.underlying3 rfl rfl Taken.no) rfl rfl ?_
   refine WH.mv rfl rfl rfl ?_
   refine WH.val (O.nilCheck rfl rfl rfl Taken.no) rfl rfl ?_
   refine WH.val (O.fld_ref (o' := 2) rfl Try.underlying90 rfl (m := 0) (by kernel_rfl) rfl rfl Taken.no) rfl rfl ?_
   refine WH.val (O.ld1 (PtI.ref rfl rfl) rfl Try.underlying88 rfl rfl Taken.no) rfl rfl ?_
   refine WH.val (O.fld_ref (o' := 1) rfl Try.underlying61 rfl (m := 0) (by kernel_rfl) rfl rfl Taken.no) rfl rfl ?_
   refine WH.val (O.ld1 (PtI.ref rfl rfl) rfl Try.underlying3 rfl rfl Taken.no) rfl rfl ?_
   refine WH.val (O.idx_grid (i := (ps[k]!.b.toNat)) rfl rfl rfl (by omega) (by rw [gridF_len]; omega) Try.underlying88 hi112 hs112 rfl Taken.no) rfl rfl ?_
   refine WH.val (O.ldrow (m := n) rfl rfl (gridF_get (g := (fun i j => uB ((lF (ps.take k)) i j))) (by omega)) (by simp) Try.underlying112 rfl rfl Taken.no) rfl rfl ?_
   refine WH.val (O.fld_ref (o' := 0) rfl Try.underlying61 rfl (m := 0) (by kernel_rfl) rfl rfl Taken.no) rfl rfl ?_
   refine WH.val (O.ld1 (PtI.ref rfl rfl) rfl Try.underlying3 rfl rfl Taken.no) rfl rfl ?_
   refine WH.val (O.idx_row (j := (ps[k]!.b.toNat)) rfl rfl (by omega) (by omega) Try.underlying112 hi4 hs4 rfl Taken.no) rfl rfl ?_
   refine WH.effS (O.st_rel rfl rfl rfl rfl rfl (by kernel_rfl) (gridF_get (g := (fun i j => uB ((lF (ps.take k)) i j))) (by omega)) (by rw [List.length_map, List.length_range]; omega) (rows' := (gridF n (fun i j => uB ((lF (ps.take k)) i j))).set (ps[k]!.a.toNat) (((List.range n).map fun j => uB ((lF (ps.take k)) (ps[k]!.a.toNat) j)).set (ps[k]!.b.toNat) (uB true))) (by rfl) Taken.no) rfl rfl rfl (S' := (107, _) :: _) rfl ?_
   refine WH.val (O.idx_row (j := (ps[k]!.a.toNat)) rfl rfl (by omega) (by omega) Try.underlying112 hi4 hs4 rfl Taken.no) rfl rfl ?_
   refine WH.effS (O.st_rel rfl rfl rfl rfl rfl (by kernel_rfl) (row_after (g := (fun i j => uB ((lF (ps.take k)) i j))) (by omega) (by omega)) (by rw [List.length_map, List.length_range]; omega) (rows' := gridF n fun i j => uB (upd2 (lF (ps.take k)) (ps[k]!.a.toNat) (ps[k]!.b.toNat) true i j)) (by exact grid_updB (by omega) (by omega) (by omega)) Taken.no) rfl rfl rfl (S' := (107, _) :: _) rfl ?_
   refine WH.nil (E.inn (E.to ?_))
   refine W.pick (K:=[(1,_),(2,_),(3,_),(4,_),(26,_),(27,_),(28,_)]) (Z:=[(101,_),(104,_),(105,_),(106,_),(107,_),(108,_)]) ⟨rfl,rfl,rfl,rfl,rfl,rfl,rfl,trivial⟩ ⟨rfl,rfl,rfl,rfl,rfl,rfl,trivial⟩ ?_
   refine W.region ?_
   refine SL.val (O.det (fun _ => by first | exact G.R.add64 rfl rfl (by omega) | exact G.R.add rfl rfl) rfl Taken.no) ?_
   refine SL.mv rfl rfl (SL.nil ?_)
   refine E.again ((k + 1)) (rn []) ?_ ?_ rfl (fixL_spec rfl) ?_ ?_
   · exact (SubF.cons rfl (SubF.cons rfl (SubF.cons rfl (SubF.cons rfl (SubF.cons rfl (SubF.cons rfl (SubF.cons rfl SubF.nil)))))))
   · exact (SubS.val rfl (by (try dsimp only); exact congrArg (SB.grid 32 3) (by rw [wF_s (by omega)]; rfl)) (SubS.val rfl (by (try dsimp only); first | exact congrArg (SB.grid 112 4) (by rw [lF_s (by omega), addL_y (by omega)]) | exact congrArg (SB.grid 112 4) (by rw [lF_s (by omega), addL_n (by omega)])) (SubS.cons rfl (SubS.cons rfl (SubS.cons rfl SubS.nil)))))
   ·try dsimp only
    omega
   · (try dsimp only); omega
  refine W.skip (E.inn (E.to (W.region ?_)))
  refine SL.val (O.det (fun _ => by first | exact G.R.add64 rfl rfl (by omega) | exact G.R.add rfl rfl) rfl Taken.no) ?_
  refine SL.mv rfl rfl (SL.nil ?_)
  refine E.again ((k + 1)) (rn []) ?_ ?_ rfl (fixL_spec rfl) ?_ ?_
  · exact (SubF.cons rfl (SubF.cons rfl (SubF.cons rfl (SubF.cons rfl (SubF.cons rfl (SubF.cons rfl (SubF.cons rfl SubF.nil)))))))
  · exact (SubS.val rfl (by (try dsimp only); exact congrArg (SB.grid 32 3) (by rw [wF_s (by omega)]; rfl)) (SubS.val rfl (by (try dsimp only); first | exact congrArg (SB.grid 112 4) (by rw [lF_s (by omega), addL_y (by omega)]) | exact congrArg (SB.grid 112 4) (by rw [lF_s (by omega), addL_n (by omega)])) (SubS.cons rfl (SubS.cons rfl (SubS.cons rfl SubS.nil)))))
  ·try dsimp only
   omega
  · (try dsimp only); omega
 refine W.exit (E.th (E.th (E.hit (E.to (W.seq (W.rg ?_))))))
 refine SL.val (O.fld_ref (o' := 2) rfl Try.underlying30 rfl (m := 0) (by kernel_rfl) rfl rfl Taken.no) ?_
 refine SL.val (O.ld1 (PtI.ref rfl rfl) rfl Try.underlying23 rfl rfl Taken.no) ?_
 refine SL.val (O.lenE (SlOf.fz rfl (by decide)) (by first | exact List.length_map _ | rfl) Try.underlying23 rfl Taken.no) ?_
 refine SL.mv rfl rfl (E.fo (W.block ?_))
 obtain rfl : k = ps.length := by omega
 rw [List.take_length]
 refine W.adoptC 104 3 113 51 3 (is' := [_, _, _, _, _, _]) (by decide) rfl rfl rfl rfl rfl ?_
 refine W.loopx1 (fun (k : Nat) => [(87, vI (k : Int)), (4, .own 111)]) (fun (k : Nat) => [(109, .grid 32 3 (gridF n fun i j => uI ((wF ps) i j))), (110, .grid 112 4 (gridF n fun i j => uB ((mF (lF ps) (rs.take k)) i j))), (111, .grid 112 4 (gridF n fun i j => uB ((mu (rs.take k)) i j))), (112, .data 51 3 ((barL (rs.take k)).map eRu)), (104, .cells 90 [vI (n : Int), .own 109, .own 110, .own 112, .u (.sc (.slice none 0 0)), .u (.sc (.slice none 0 0))])]) (fun (k : Nat) => k ≤ rs.length) (fun (k : Nat) => rs.length - k) (0) (rn [(109, 106), (110, 107), (111, 105), (112, 113)]) (.cons (t := 1) rfl (.cons (t := 2) rfl (.cons (t := 3) rfl (.cons (t := 85) rfl (.cons (t := 86) rfl .nil))))) (.cons (t := 101) rfl .nil) rfl ?_ ?_ rfl rfl ?_ ?_
 · exact (SubF.cons rfl (SubF.cons rfl SubF.nil))
 · exact (SubS.cons rfl (SubS.val rfl (by exact congrArg (SB.grid 112 4) (by rw [List.take_zero]; rfl)) (SubS.val rfl (by exact congrArg (SB.grid 112 4) ((gridF_0 n _).trans (by rw [List.take_zero]; rfl))) (SubS.val rfl (by exact sb_data (by rw [List.take_zero]; rfl)) (SubS.cons rfl SubS.nil)))))
 ·skip
  omega
 intro k hinv
 have hk := hinv
 have hbl := bar_le rs k
 refine W.rg ?_
 refine SL.val (O.det (fun _ => G.R.lss rfl rfl) rfl Taken.no) ?_
 refine E.fo (W.seq ?_)
 first | refine W.cond_d rfl (fun hc3 => ?_) (fun hc3 => ?_) | refine W.cond_nd rfl (fun hc3 => ?_) (fun hc3 => ?_) | refine W.cond rfl (fun hc3 => ?_) (fun hc3 => ?_)
 ·skip
  have hrk : ruOk (n : Int) rs[k]! := hf.2.2.2.2 k (by show k < rs.length; omega)
  unfold ruOk at hrk
  refine W.skip (E.to (W.seq (W.block (W.rg ?_))))
  refine SL.val (O.idx_fz rfl rfl (rfl) (row_get (by omega)) Try.underlying23 hi51 hs51 rfl Taken.no) ?_
  refine SL.val (O.ldU (m := 3) (PtU.fz rfl) rfl Try.underlying51 rfl (by kernel_rfl) rfl Taken.no) ?_
  refine SL.memS (O.alloc (z := .agg #[.int .i64 0, .int .i64 0, .int .i64 0]) (is := [.u (.sc (.int .i64 0)), .u (.sc (.int .i64 0)), .u (.sc (.int .i64 0))]) 114 (by kernel_rfl) rfl rfl rfl Taken.no) rfl rfl (S' := (114, _) :: _) rfl ?_
  refine SL.effS (O.st_ref (m := 3) rfl rfl rfl (js := [_, _, _]) rfl rfl (by kernel_rfl) (by simp) (Nat.le_of_ble_eq_true rfl) rfl (is' := [_, _, _]) rfl Taken.no) (S' := (114, _) :: _) rfl ?_
  refine E.fo (W.seq (W.rg ?_))
  refine SL.val (O.fld_ref (o' := 0) rfl Try.underlying51 rfl (m := 0) (by kernel_rfl) rfl rfl Taken.no) ?_
  refine SL.val (O.ld1 (PtI.ref rfl rfl) rfl Try.underlying3 rfl rfl Taken.no) ?_
  refine SL.val (O.det (fun _ => G.R.eql rfl rfl) rfl Taken.no) ?_
  refine E.fo ?_
  first | refine W.cond_d rfl (fun hc4 => ?_) (fun hc4 => ?_) | refine W.cond_nd rfl (fun hc4 => ?_) (fun hc4 => ?_) | refine W.cond rfl (fun hc4 => ?_) (fun hc4 => ?_)
  ·skip
   have hk2 : rs[k]!.k = 2 := by omega
   refine W.seq ?_
   refine W.draw [⟨[], [], [], [104]⟩, ⟨[], [], [], [104]⟩, ⟨[], [], [], [104]⟩, ⟨[], [], [], [104]⟩, ⟨[104], [], [], [112]⟩, ⟨[114], [], [], []⟩, ⟨[115], [115], [115], []⟩, ⟨[112, 115, 116], [112, 116], [116], []⟩, ⟨[], [], [], [104]⟩, ⟨[], [], [], [104]⟩, ⟨[104, 109, 110, 116], [104], [], []⟩] rfl (by kernel_rfl) (by kernel_rfl) rfl rfl ?_
   refine WH.mv rfl rfl rfl (WH.mv rfl rfl rfl ?_)
   refine WH.val (O.nilCheck rfl rfl rfl Taken.no) rfl rfl ?_
   refine WH.val (O.fld_ref (o' := 3) rfl Try.underlying90 rfl (m := 0) (by kernel_rfl) rfl rfl Taken.no) rfl rfl ?_
   refine WH.val (O.ld1 (PtI.ref rfl rfl) rfl Try.underlying23 rfl rfl Taken.no) rfl rfl ?_
   refine WH.val (O.ldN (m := 3) (PtI.ref rfl rfl) (js := [_, _, _]) rfl (Nat.le_of_ble_eq_true rfl) Try.underlying51 rfl (by kernel_rfl) rfl Taken.no) rfl rfl ?_
   refine WH.memS (O.buildSlice 115 rfl rfl Try.underlying23 hi51 hz51 hs51 (by decide) rfl (by decide) rfl rfl rfl Taken.no) rfl rfl rfl rfl rfl (S' := (115, _) :: _) rfl ?_
   refine WH.memS (O.app (k' := 116) rfl rfl (SlOf.own rfl rfl) Try.underlying23 hi51 hz51 hs51 rfl rfl (by exact map_snoc (x := rs[k]!) rfl) (by rw [hb51]; (simp only [List.length_map, List.length_singleton]; omega)) (by (simp only [List.length_map, List.length_singleton]; omega)) rfl Taken.no) rfl rfl rfl rfl rfl (S' := (116, _) :: (112, .dead) :: _) rfl ?_
   refine WH.val (O.nilCheck rfl rfl rfl Taken.no) rfl rfl ?_
   refine WH.val (O.fld_ref (o' := 3) rfl Try.underlying90 rfl (m := 0) (by kernel_rfl) rfl rfl Taken.no) rfl rfl ?_
   refine WH.effS (O.st_ref (m := 1) rfl rfl rfl (js := [_]) rfl rfl (by kernel_rfl) (by simp) (Nat.le_of_ble_eq_true rfl) rfl (is' := [_, _, _, _, _, _]) rfl Taken.no) rfl rfl rfl (S' := (104, _) :: _) rfl ?_
   refine WH.nil (E.to (W.exit (E.th (E.hit (E.to (W.region ?_))))))
   refine SL.val (O.det (fun _ => by first | exact G.R.add64 rfl rfl (by omega) | exact G.R.add rfl rfl) rfl Taken.no) ?_
   refine SL.mv rfl rfl (SL.nil ?_)
   refine E.again ((k + 1)) (rn [(112, 116)]) ?_ ?_ rfl (fixL_spec rfl) ?_ ?_
   · exact (SubF.cons rfl (SubF.cons rfl (SubF.cons rfl (SubF.cons rfl (SubF.cons rfl (SubF.cons rfl (SubF.cons rfl SubF.nil)))))))
   · exact (SubS.cons rfl (SubS.val rfl (by (try dsimp only); first | exact congrArg (SB.grid 112 4) (by rw [mF_s (by omega), addM_n hk2]) | exact congrArg (SB.grid 112 4) (by rw [mF_s (by omega), addM_y hk2])) (SubS.val rfl (by (try dsimp only); first | exact congrArg (SB.grid 112 4) (by rw [mu, mu, mF_s (by omega), addM_n hk2]) | exact congrArg (SB.grid 112 4) (by rw [mu, mu, mF_s (by omega), addM_y hk2])) (SubS.val rfl (by (try dsimp only); first | exact sb_data (by rw [bar_y (by omega) hk2]) | exact sb_data (by rw [bar_n (by omega) hk2])) (SubS.cons rfl (SubS.cons rfl SubS.nil))))))
   ·try dsimp only
    omega
   · (try dsimp only); omega
  have hk2 : ¬ rs[k]!.k = 2 := by omega
  refine W.skip (E.to (W.rg (SL.mv rfl rfl ?_)))
  refine SL.val (O.nilCheck rfl rfl rfl Taken.no) ?_
  refine SL.val (O.fld_ref (o' := 2) rfl Try.underlying90 rfl (m := 0) (by kernel_rfl) rfl rfl Taken.no) ?_
  refine SL.val (O.ld1 (PtI.ref rfl rfl) rfl Try.underlying88 rfl rfl Taken.no) ?_
  refine SL.mv rfl rfl ?_
  refine SL.val (O.buildA (m := 1) (res := [_, _]) (z := .agg #[.slice none 0 0, .slice none 0 0]) rfl rfl Try.underlying113 (by kernel_rfl) hi88 hs88 rfl rfl Taken.no) ?_
  refine SL.mv rfl rfl (E.fo (W.block ?_))
  refine W.unroll ?_
  refine W.rg ?_
  refine SL.val (O.det (fun _ => G.R.mv (G.R.lss rfl rfl) (congrArg Value.bool (decide_eq_true (by decide)))) rfl Taken.no) ?_
  refine E.fo (W.seq ?_)
  refine W.cond_t rfl ?_
  refine W.skip (E.to (W.seq (W.block (W.rg ?_))))
  refine SL.val (O.idxval (i := 0) rfl rfl (by rfl) (by decide) (by rfl) Try.underlying113 (by kernel_rfl) Try.underlying88 rfl rfl Taken.no) ?_
  refine SL.an rfl rfl (E.fo ?_)
  refine W.draw [⟨[], [], [], [110]⟩, ⟨[], [], [], [114]⟩, ⟨[114], [], [], []⟩, ⟨[110], [], [], []⟩, ⟨[110], [], [], []⟩, ⟨[], [], [], [114]⟩, ⟨[114], [], [], []⟩, ⟨[], [], [], [110]⟩, ⟨[], [], [], [114]⟩, ⟨[114], [], [], []⟩, ⟨[110], [], [], []⟩, ⟨[110], [], [], []⟩, ⟨[], [], [], [114]⟩, ⟨[114], [], [], []⟩, ⟨[], [], [], [110]⟩, ⟨[110], [110], [], []⟩, ⟨[], [], [], [110]⟩, ⟨[110], [110], [], []⟩] rfl (by kernel_rfl) (by kernel_rfl) rfl rfl ?_
  refine WH.mv rfl rfl rfl ?_
  refine WH.val (O.fld_ref (o' := 1) rfl Try.underlying51 rfl (m := 0) (by kernel_rfl) rfl rfl Taken.no) rfl rfl ?_
  refine WH.val (O.ld1 (PtI.ref rfl rfl) rfl Try.underlying3 rfl rfl Taken.no) rfl rfl ?_
  refine WH.val (O.idx_grid (i := (rs[k]!.a.toNat)) rfl rfl rfl (by omega) (by rw [gridF_len]; omega) Try.underlying88 hi112 hs112 rfl Taken.no) rfl rfl ?_
  refine WH.val (O.ldrow (m := n) rfl rfl (gridF_get (g := (fun i j => uB ((mF (lF ps) (rs.take k)) i j))) (by omega)) (by simp) Try.underlying112 rfl rfl Taken.no) rfl rfl ?_
  refine WH.val (O.fld_ref (o' := 2) rfl Try.underlying51 rfl (m := 0) (by kernel_rfl) rfl rfl Taken.no) rfl rfl ?_
  refine WH.val (O.ld1 (PtI.ref rfl rfl) rfl Try.underlying3 rfl rfl Taken.no) rfl rfl ?_
  refine WH.mv rfl rfl rfl ?_
  refine WH.val (O.fld_ref (o' := 2) rfl Try.underlying51 rfl (m := 0) (by kernel_rfl) rfl rfl Taken.no) rfl rfl ?_
  refine WH.val (O.ld1 (PtI.ref rfl rfl) rfl Try.underlying3 rfl rfl Taken.no) rfl rfl ?_
  refine WH.val (O.idx_grid (i := (rs[k]!.b.toNat)) rfl rfl rfl (by omega) (by rw [gridF_len]; omega) Try.underlying88 hi112 hs112 rfl Taken.no) rfl rfl ?_
  refine WH.val (O.ldrow (m := n) rfl rfl (gridF_get (g := (fun i j => uB ((mF (lF ps) (rs.take k)) i j))) (by omega)) (by simp) Try.underlying112 rfl rfl Taken.no) rfl rfl ?_
  refine WH.val (O.fld_ref (o' := 1) rfl Try.underlying51 rfl (m := 0) (by kernel_rfl) rfl rfl Taken.no) rfl rfl ?_
  refine WH.val (O.ld1 (PtI.ref rfl rfl) rfl Try.underlying3 rfl rfl Taken.no) rfl rfl ?_
  refine WH.val (O.idx_row (j := (rs[k]!.b.toNat)) rfl rfl (by omega) (by omega) Try.underlying112 hi4 hs4 rfl Taken.no) rfl rfl ?_
  refine WH.effS (O.st_rel rfl rfl rfl rfl rfl (by kernel_rfl) (gridF_get (g := (fun i j => uB ((mF (lF ps) (rs.take k)) i j))) (by omega)) (by rw [List.length_map, List.length_range]; omega) (rows' := (gridF n (fun i j => uB ((mF (lF ps) (rs.take k)) i j))).set (rs[k]!.a.toNat) (((List.range n).map fun j => uB ((mF (lF ps) (rs.take k)) (rs[k]!.a.toNat) j)).set (rs[k]!.b.toNat) (uB true))) (by rfl) Taken.no) rfl rfl rfl (S' := (110, _) :: _) rfl ?_
  refine WH.val (O.idx_row (j := (rs[k]!.a.toNat)) rfl rfl (by omega) (by omega) Try.underlying112 hi4 hs4 rfl Taken.no) rfl rfl ?_
  refine WH.effS (O.st_rel rfl rfl rfl rfl rfl (by kernel_rfl) (row_after (g := (fun i j => uB ((mF (lF ps) (rs.take k)) i j))) (by omega) (by omega)) (by rw [List.length_map, List.length_range]; omega) (rows' := gridF n fun i j => uB (upd2 (mF (lF ps) (rs.take k)) (rs[k]!.a.toNat) (rs[k]!.b.toNat) true i j)) (by exact grid_updB (by omega) (by omega) (by omega)) Taken.no) rfl rfl rfl (S' := (110, _) :: _) rfl ?_
  refine WH.nil (E.inn (E.to ?_))
  refine W.pick (K:=[(1,_),(2,_),(3,_),(4,_),(8,_),(10,_),(85,_),(86,_),(87,_),(109,_),(110,_),(111,_),(112,_),(113,_),(114,_),(115,_),(116,_),(117,_),(118,_),(119,_),(120,_),(121,_),(122,_),(123,_),(124,_),(125,_),(126,_),(127,_),(128,_)]) (Z:=[(101,_),(104,_),(109,_),(110,_),(111,_),(112,_),(114,_)]) ⟨rfl,rfl,rfl,rfl,rfl,rfl,rfl,rfl,rfl,rfl,rfl,rfl,rfl,rfl,rfl,rfl,rfl,rfl,rfl,rfl,rfl,rfl,rfl,rfl,rfl,rfl,rfl,rfl,rfl,trivial⟩ ⟨rfl,rfl,rfl,rfl,rfl,rfl,rfl,trivial⟩ ?_
  refine W.region ?_
  refine SL.val (O.det (fun _ => by first | exact G.R.add64 rfl rfl (by omega) | exact G.R.add rfl rfl) rfl Taken.no) ?_
  refine SL.mv rfl rfl (SL.nil ?_)
  refine E.reround ?_
  refine W.pick (K:=[(1,_),(2,_),(3,_),(4,_),(8,_),(10,_),(85,_),(86,_),(87,_),(109,_),(110,_),(111,_),(112,_),(113,_),(114,_),(115,_),(116,_),(117,_),(118,_),(119,_),(120,_),(121,_),(122,_),(123,_),(124,_),(125,_),(126,_),(127,_),(128,_),(129,_)]) (Z:=[(101,_),(104,_),(109,_),(110,_),(111,_),(112,_),(114,_)]) ⟨rfl,rfl,rfl,rfl,rfl,rfl,rfl,rfl,rfl,rfl,rfl,rfl,rfl,rfl,rfl,rfl,rfl,rfl,rfl,rfl,rfl,rfl,rfl,rfl,rfl,rfl,rfl,rfl,rfl,rfl,trivial⟩ ⟨rfl,rfl,rfl,rfl,rfl,rfl,rfl,trivial⟩ ?_
  refine W.rg ?_
  refine SL.val (O.det (fun _ => G.R.mv (G.R.lss rfl rfl) (congrArg Value.bool (decide_eq_true (by decide)))) rfl Taken.no) ?_
  refine E.fo ?_
  refine W.pick (K:=[(1,_),(2,_),(3,_),(4,_),(8,_),(10,_),(85,_),(86,_),(87,_),(109,_),(110,_),(111,_),(112,_),(113,_),(114,_),(115,_),(116,_),(117,_),(118,_),(119,_),(120,_),(121,_),(122,_),(123,_),(124,_),(125,_),(126,_),(127,_),(128,_),(129,_)]) (Z:=[(101,_),(104,_),(109,_),(110,_),(111,_),(112,_),(114,_)]) ⟨rfl,rfl,rfl,rfl,rfl,rfl,rfl,rfl,rfl,rfl,rfl,rfl,rfl,rfl,rfl,rfl,rfl,rfl,rfl,rfl,rfl,rfl,rfl,rfl,rfl,rfl,rfl,rfl,rfl,rfl,trivial⟩ ⟨rfl,rfl,rfl,rfl,rfl,rfl,rfl,trivial⟩ ?_
  refine W.seq ?_
  refine W.cond_t rfl ?_
  refine W.skip (E.to ?_)
  refine W.pick (K:=[(1,_),(2,_),(3,_),(4,_),(8,_),(10,_),(85,_),(86,_),(87,_),(109,_),(110,_),(111,_),(112,_),(113,_),(114,_),(115,_),(116,_),(117,_),(118,_),(119,_),(120,_),(121,_),(122,_),(123,_),(124,_),(125,_),(126,_),(127,_),(128,_),(129,_)]) (Z:=[(101,_),(104,_),(109,_),(110,_),(111,_),(112,_),(114,_)]) ⟨rfl,rfl,rfl,rfl,rfl,rfl,rfl,rfl,rfl,rfl,rfl,rfl,rfl,rfl,rfl,rfl,rfl,rfl,rfl,rfl,rfl,rfl,rfl,rfl,rfl,rfl,rfl,rfl,rfl,rfl,trivial⟩ ⟨rfl,rfl,rfl,rfl,rfl,rfl,rfl,trivial⟩ ?_
  refine W.seq (W.block (W.rg ?_))
  refine SL.val (O.idxval (i := 1) rfl rfl (by rfl) (by decide) (by rfl) Try.underlying113 (by kernel_rfl) Try.underlying88 rfl rfl Taken.no) ?_
  refine SL.an rfl rfl (E.fo ?_)
  refine W.pick (K:=[(1,_),(2,_),(3,_),(4,_),(8,_),(10,_),(85,_),(86,_),(87,_),(109,_),(110,_),(111,_),(112,_),(113,_),(114,_),(115,_),(116,_),(117,_),(118,_),(119,_),(120,_),(121,_),(122,_),(123,_),(124,_),(125,_),(126,_),(127,_),(128,_),(129,_)]) (Z:=[(101,_),(104,_),(109,_),(110,_),(111,_),(112,_),(114,_)]) ⟨rfl,rfl,rfl,rfl,rfl,rfl,rfl,rfl,rfl,rfl,rfl,rfl,rfl,rfl,rfl,rfl,rfl,rfl,rfl,rfl,rfl,rfl,rfl,rfl,rfl,rfl,rfl,rfl,rfl,rfl,trivial⟩ ⟨rfl,rfl,rfl,rfl,rfl,rfl,rfl,trivial⟩ ?_
  refine W.draw [⟨[], [], [], [111]⟩, ⟨[], [], [], [114]⟩, ⟨[114], [], [], []⟩, ⟨[111], [], [], []⟩, ⟨[111], [], [], []⟩, ⟨[], [], [], [114]⟩, ⟨[114], [], [], []⟩, ⟨[], [], [], [111]⟩, ⟨[], [], [], [114]⟩, ⟨[114], [], [], []⟩, ⟨[111], [], [], []⟩, ⟨[111], [], [], []⟩, ⟨[], [], [], [114]⟩, ⟨[114], [], [], []⟩, ⟨[], [], [], [111]⟩, ⟨[111], [111], [], []⟩, ⟨[], [], [], [111]⟩, ⟨[111], [111], [], []⟩] rfl (by kernel_rfl) (by kernel_rfl) rfl rfl ?_
  refine WH.mv rfl rfl rfl ?_
  refine WH.val (O.fld_ref (o' := 1) rfl Try.underlying51 rfl (m := 0) (by kernel_rfl) rfl rfl Taken.no) rfl rfl ?_
  refine WH.val (O.ld1 (PtI.ref rfl rfl) rfl Try.underlying3 rfl rfl Taken.no) rfl rfl ?_
  refine WH.val (O.idx_grid (i := (rs[k]!.a.toNat)) rfl rfl rfl (by omega) (by rw [gridF_len]; omega) Try.underlying88 hi112 hs112 rfl Taken.no) rfl rfl ?_
  refine WH.val (O.ldrow (m := n) rfl rfl (gridF_get (g := (fun i j => uB ((mu (rs.take k)) i j))) (by omega)) (by simp) Try.underlying112 rfl rfl Taken.no) rfl rfl ?_
  refine WH.val (O.fld_ref (o' := 2) rfl Try.underlying51 rfl (m := 0) (by kernel_rfl) rfl rfl Taken.no) rfl rfl ?_
  refine WH.val (O.ld1 (PtI.ref rfl rfl) rfl Try.underlying3 rfl rfl Taken.no) rfl rfl ?_
  refine WH.mv rfl rfl rfl ?_
  refine WH.val (O.fld_ref (o' := 2) rfl Try.underlying51 rfl (m := 0) (by kernel_rfl) rfl rfl Taken.no) rfl rfl ?_
  refine WH.val (O.ld1 (PtI.ref rfl rfl) rfl Try.underlying3 rfl rfl Taken.no) rfl rfl ?_
  refine WH.val (O.idx_grid (i := (rs[k]!.b.toNat)) rfl rfl rfl (by omega) (by rw [gridF_len]; omega) Try.underlying88 hi112 hs112 rfl Taken.no) rfl rfl ?_
  refine WH.val (O.ldrow (m := n) rfl rfl (gridF_get (g := (fun i j => uB ((mu (rs.take k)) i j))) (by omega)) (by simp) Try.underlying112 rfl rfl Taken.no) rfl rfl ?_
  refine WH.val (O.fld_ref (o' := 1) rfl Try.underlying51 rfl (m := 0) (by kernel_rfl) rfl rfl Taken.no) rfl rfl ?_
  refine WH.val (O.ld1 (PtI.ref rfl rfl) rfl Try.underlying3 rfl rfl Taken.no) rfl rfl ?_
  refine WH.val (O.idx_row (j := (rs[k]!.b.toNat)) rfl rfl (by omega) (by omega) Try.underlying112 hi4 hs4 rfl Taken.no) rfl rfl ?_
  refine WH.effS (O.st_rel rfl rfl rfl rfl rfl (by kernel_rfl) (gridF_get (g := (fun i j => uB ((mu (rs.take k)) i j))) (by omega)) (by rw [List.length_map, List.length_range]; omega) (rows' := (gridF n (fun i j => uB ((mu (rs.take k)) i j))).set (rs[k]!.a.toNat) (((List.range n).map fun j => uB ((mu (rs.take k)) (rs[k]!.a.toNat) j)).set (rs[k]!.b.toNat) (uB true))) (by rfl) Taken.no) rfl rfl rfl (S' := (111, _) :: _) rfl ?_
  refine WH.val (O.idx_row (j := (rs[k]!.a.toNat)) rfl rfl (by omega) (by omega) Try.underlying112 hi4 hs4 rfl Taken.no) rfl rfl ?_
  refine WH.effS (O.st_rel rfl rfl rfl rfl rfl (by kernel_rfl) (row_after (g := (fun i j => uB ((mu (rs.take k)) i j))) (by omega) (by omega)) (by rw [List.length_map, List.length_range]; omega) (rows' := gridF n fun i j => uB (upd2 (mu (rs.take k)) (rs[k]!.a.toNat) (rs[k]!.b.toNat) true i j)) (by exact grid_updB (by omega) (by omega) (by omega)) Taken.no) rfl rfl rfl (S' := (111, _) :: _) rfl ?_
  refine WH.nil (E.inn (E.to ?_))
  refine W.pick (K:=[(1,_),(2,_),(3,_),(4,_),(8,_),(10,_),(85,_),(86,_),(87,_),(109,_),(110,_),(111,_),(112,_),(113,_),(114,_),(115,_),(116,_),(117,_),(118,_),(119,_),(120,_),(121,_),(122,_),(123,_),(124,_),(125,_),(126,_),(127,_),(128,_),(129,_)]) (Z:=[(101,_),(104,_),(109,_),(110,_),(111,_),(112,_),(114,_)]) ⟨rfl,rfl,rfl,rfl,rfl,rfl,rfl,rfl,rfl,rfl,rfl,rfl,rfl,rfl,rfl,rfl,rfl,rfl,rfl,rfl,rfl,rfl,rfl,rfl,rfl,rfl,rfl,rfl,rfl,rfl,trivial⟩ ⟨rfl,rfl,rfl,rfl,rfl,rfl,rfl,trivial⟩ ?_
  refine W.region ?_
  refine SL.val (O.det (fun _ => by first | exact G.R.add64 rfl rfl (by omega) | exact G.R.add rfl rfl) rfl Taken.no) ?_
  refine SL.mv rfl rfl (SL.nil ?_)
  refine E.reround ?_
  refine W.pick (K:=[(1,_),(2,_),(3,_),(4,_),(8,_),(10,_),(85,_),(86,_),(87,_),(109,_),(110,_),(111,_),(112,_),(113,_),(114,_),(115,_),(116,_),(117,_),(118,_),(119,_),(120,_),(121,_),(122,_),(123,_),(124,_),(125,_),(126,_),(127,_),(128,_),(129,_)]) (Z:=[(101,_),(104,_),(109,_),(110,_),(111,_),(112,_),(114,_)]) ⟨rfl,rfl,rfl,rfl,rfl,rfl,rfl,rfl,rfl,rfl,rfl,rfl,rfl,rfl,rfl,rfl,rfl,rfl,rfl,rfl,rfl,rfl,rfl,rfl,rfl,rfl,rfl,rfl,rfl,rfl,trivial⟩ ⟨rfl,rfl,rfl,rfl,rfl,rfl,rfl,trivial⟩ ?_
  refine W.rg ?_
  refine SL.val (O.det (fun _ => G.R.mv (G.R.lss rfl rfl) (congrArg Value.bool (decide_eq_false (by decide)))) rfl Taken.no) ?_
  refine E.fo ?_
  refine W.pick (K:=[(1,_),(2,_),(3,_),(4,_),(8,_),(10,_),(85,_),(86,_),(87,_),(109,_),(110,_),(111,_),(112,_),(113,_),(114,_),(115,_),(116,_),(117,_),(118,_),(119,_),(120,_),(121,_),(122,_),(123,_),(124,_),(125,_),(126,_),(127,_),(128,_),(129,_)]) (Z:=[(101,_),(104,_),(109,_),(110,_),(111,_),(112,_),(114,_)]) ⟨rfl,rfl,rfl,rfl,rfl,rfl,rfl,rfl,rfl,rfl,rfl,rfl,rfl,rfl,rfl,rfl,rfl,rfl,rfl,rfl,rfl,rfl,rfl,rfl,rfl,rfl,rfl,rfl,rfl,rfl,trivial⟩ ⟨rfl,rfl,rfl,rfl,rfl,rfl,rfl,trivial⟩ ?_
  refine W.seq ?_
  refine W.cond_f rfl ?_
  refine W.exit (E.th (E.th (E.hit (E.inn (E.to ?_)))))
  refine W.pick (K:=[(1,_),(2,_),(3,_),(4,_),(85,_),(86,_),(87,_)]) (Z:=[(101,_),(104,_),(109,_),(110,_),(111,_),(112,_),(114,_)]) ⟨rfl,rfl,rfl,rfl,rfl,rfl,rfl,trivial⟩ ⟨rfl,rfl,rfl,rfl,rfl,rfl,rfl,trivial⟩ ?_
  refine W.region ?_
  refine SL.val (O.det (fun _ => by first | exact G.R.add64 rfl rfl (by omega) | exact G.R.add rfl rfl) rfl Taken.no) ?_
  refine SL.mv rfl rfl (SL.nil ?_)
  refine E.again ((k + 1)) (rn []) ?_ ?_ rfl (fixL_spec rfl) ?_ ?_
  · exact (SubF.cons rfl (SubF.cons rfl (SubF.cons rfl (SubF.cons rfl (SubF.cons rfl (SubF.cons rfl (SubF.cons rfl SubF.nil)))))))
  · exact (SubS.cons rfl (SubS.val rfl (by (try dsimp only); first | exact congrArg (SB.grid 112 4) (by rw [mF_s (by omega), addM_n hk2]) | exact congrArg (SB.grid 112 4) (by rw [mF_s (by omega), addM_y hk2])) (SubS.val rfl (by (try dsimp only); first | exact congrArg (SB.grid 112 4) (by rw [mu, mu, mF_s (by omega), addM_n hk2]) | exact congrArg (SB.grid 112 4) (by rw [mu, mu, mF_s (by omega), addM_y hk2])) (SubS.val rfl (by (try dsimp only); first | exact sb_data (by rw [bar_y (by omega) hk2]) | exact sb_data (by rw [bar_n (by omega) hk2])) (SubS.cons rfl (SubS.cons rfl SubS.nil))))))
  ·try dsimp only
   omega
  · (try dsimp only); omega
 refine W.exit (E.th (E.th (E.hit (E.to (W.seq (W.rg ?_))))))
 refine SL.val (O.fld_ref (o' := 0) rfl Try.underlying30 rfl (m := 0) (by kernel_rfl) rfl rfl Taken.no) ?_
 refine SL.val (O.ld1 (PtI.ref rfl rfl) rfl Try.underlying3 rfl rfl Taken.no) ?_
 refine SL.mv rfl rfl (E.fo (W.block ?_))
 obtain rfl : k = rs.length := by omega
 rw [List.take_length]
 refine W.adoptC 104 5 121 3 1 (is' := [_, _, _, _, _, _]) (by decide) rfl rfl rfl rfl rfl ?_
 refine W.loopx1 (fun (u : Nat) => [(133, vI (u : Int))]) (fun (u : Nat) => [(117, .grid 32 3 (gridF n fun i j => uI ((wF ps) i j))), (118, .grid 112 4 (gridF n fun i j => uB ((mF (lF ps) rs) i j))), (119, .data 51 3 ((barL rs).map eRu)), (120, .data 3 1 ((List.range u).map eN)), (104, .cells 90 [vI (n : Int), .own 117, .own 118, .own 119, .u (.sc (.slice none 0 0)), .own 120])]) (fun (u : Nat) => u ≤ n) (fun (u : Nat) => n - u) (0) (rn [(117, 109), (118, 110), (119, 112), (120, 121)]) (.cons (t := 1) rfl (.cons (t := 2) rfl (.cons (t := 3) rfl (.cons (t := 4) rfl (.cons (t := 132) rfl .nil))))) (.cons (t := 101) rfl (.cons (t := 111) rfl .nil)) rfl ?_ ?_ rfl rfl ?_ ?_
 · exact (SubF.cons rfl SubF.nil)
 · exact (SubS.cons rfl (SubS.cons rfl (SubS.cons rfl (SubS.cons rfl (SubS.cons rfl SubS.nil)))))
 ·skip
  omega
 intro u hinv
 have hu := hinv
 refine W.rg ?_
 refine SL.val (O.det (fun _ => G.R.lss rfl rfl) rfl Taken.no) ?_
 refine E.fo (W.seq ?_)
 first | refine W.cond_d rfl (fun hc5 => ?_) (fun hc5 => ?_) | refine W.cond_nd rfl (fun hc5 => ?_) (fun hc5 => ?_) | refine W.cond rfl (fun hc5 => ?_) (fun hc5 => ?_)
 ·skip
  refine W.skip (E.to (W.seq (W.block (W.rg (SL.mv rfl rfl (SL.an rfl rfl (E.fo (W.region (SL.mv rfl rfl (SL.mv rfl rfl ?_))))))))))
  refine SL.val (O.nilCheck rfl rfl rfl Taken.no) ?_
  refine SL.val (O.fld_ref (o' := 5) rfl Try.underlying90 rfl (m := 0) (by kernel_rfl) rfl rfl Taken.no) ?_
  refine SL.val (O.ld1 (PtI.ref rfl rfl) rfl Try.underlying32 rfl rfl Taken.no) ?_
  refine SL.mv rfl rfl ?_
  refine SL.memS (O.buildSlice 122 rfl rfl Try.underlying32 hi3 hz3 hs3 (by decide) rfl (by decide) rfl rfl rfl Taken.no) rfl rfl (S' := (122, _) :: _) rfl ?_
  refine SL.memS (O.app (k' := 123) rfl rfl (SlOf.own rfl rfl) Try.underlying32 hi3 hz3 hs3 rfl rfl (by first | exact map_snoc rfl | exact app_map | exact List.nil_append _ | rfl) (by rw [hb3]; first | omega | (simp only [List.length_map]; omega) | (simp <;> omega)) (by first | omega | (simp only [List.length_map]; omega) | (simp <;> omega)) rfl Taken.no) rfl rfl (S' := (123, _) :: (120, .dead) :: _) rfl ?_
  refine SL.val (O.nilCheck rfl rfl rfl Taken.no) ?_
  refine SL.val (O.fld_ref (o' := 5) rfl Try.underlying90 rfl (m := 0) (by kernel_rfl) rfl rfl Taken.no) ?_
  refine SL.effS (O.st_ref (m := 1) rfl rfl rfl (js := [_]) rfl rfl (by kernel_rfl) (by simp) (Nat.le_of_ble_eq_true rfl) rfl (is' := [_, _, _, _, _, _]) rfl Taken.no) (S' := (104, _) :: _) rfl ?_
  refine SL.nil (E.inn (E.to (W.region ?_)))
  refine SL.val (O.det (fun _ => by first | exact G.R.add64 rfl rfl (by omega) | exact G.R.add rfl rfl) rfl Taken.no) ?_
  refine SL.mv rfl rfl (SL.nil ?_)
  refine E.again ((u + 1)) (rn [(120, 123)]) ?_ ?_ rfl (fixL_spec rfl) ?_ ?_
  · exact (SubF.cons rfl (SubF.cons rfl (SubF.cons rfl (SubF.cons rfl (SubF.cons rfl (SubF.cons rfl SubF.nil))))))
  · exact (SubS.cons rfl (SubS.cons rfl (SubS.cons rfl (SubS.val rfl (by (try dsimp only); exact sb_data (by rw [List.range_succ])) (SubS.cons rfl (SubS.cons rfl (SubS.cons rfl SubS.nil)))))))
  ·try dsimp only
   omega
  · (try dsimp only); omega
 refine W.exit (E.th (E.th (E.hit (E.to (W.seq ?_)))))
 obtain rfl : u = n := by omega
 refine W.freezeC 104 5 120 (is' := [_, _, _, _, _, _]) rfl rfl rfl rfl ?_
 refine W.freezeG 111 rfl (F' := [(4, _)]) (⟨⟨_, rfl, rfl⟩, trivial⟩) ?_
 refine W.draw [⟨[], [], [], [104]⟩, ⟨[], [], [], [101]⟩, ⟨[101], [], [], []⟩, ⟨[], [], [], [104]⟩, ⟨[], [], [], [104]⟩, ⟨[], [], [], [104]⟩, ⟨[104], [], [], []⟩, ⟨[], [], [], []⟩, ⟨[], [], [], []⟩, ⟨[124], [124], [124], []⟩, ⟨[], [], [], [104]⟩, ⟨[], [], [], [104]⟩, ⟨[104, 117, 118, 119, 124], [104], [], []⟩] rfl (by kernel_rfl) (by kernel_rfl) rfl rfl ?_
 refine WH.mv rfl rfl rfl ?_
 refine WH.val (O.fld_ref (o' := 0) rfl Try.underlying30 rfl (m := 0) (by kernel_rfl) rfl rfl Taken.no) rfl rfl ?_
 refine WH.val (O.ld1 (PtI.ref rfl rfl) rfl Try.underlying3 rfl rfl Taken.no) rfl rfl ?_
 refine WH.mv rfl rfl rfl ?_
 refine WH.val (O.nilCheck rfl rfl rfl Taken.no) rfl rfl ?_
 refine WH.val (O.fld_ref (o' := 5) rfl Try.underlying90 rfl (m := 0) (by kernel_rfl) rfl rfl Taken.no) rfl rfl ?_
 refine WH.val (O.ld1 (PtI.ref rfl rfl) rfl Try.underlying32 rfl rfl Taken.no) rfl rfl ?_
 refine WH.mv rfl rfl rfl ?_
 refine WH.val (O.callp rfl rfl rfl (parts_h (us := List.range u) (by rw [List.length_range]; omega) (fun v hv => List.mem_range.1 hv)) (.cons (ArgOk.same rfl) (.cons (ArgOk.same rfl) .nil)) hcallOk76 rfl Taken.no) rfl rfl ?_
 refine WH.memS (O.call (rn [(0, 124)]) [] rfl rfl rfl (named_h (by omega) (fun q hq => by have := parts_units q hq; exact ⟨this.1, by omega, this.2.2⟩)) (.cons (ArgOk.same rfl) (.cons (ArgOk.same rfl) .nil)) SubS.nil rfl rfl rfl rfl rfl (.inl rfl) hcallOk83 (r' := .own 124) rfl rfl Taken.no) rfl rfl rfl rfl rfl (S' := (124, .data _ _ _) :: _) rfl ?_
 refine WH.val (O.nilCheck rfl rfl rfl Taken.no) rfl rfl ?_
 refine WH.val (O.fld_ref (o' := 4) rfl Try.underlying90 rfl (m := 0) (by kernel_rfl) rfl rfl Taken.no) rfl rfl ?_
 refine WH.effS (O.st_ref (m := 1) rfl rfl rfl (js := [_]) rfl rfl (by kernel_rfl) (by simp) (Nat.le_of_ble_eq_true rfl) rfl (is' := [_, _, _, _, _, _]) rfl Taken.no) rfl rfl rfl (S' := (104, _) :: _) rfl ?_
 refine WH.nil (E.to (W.rg ?_))
 refine SL.freezeGC 104 1 117 (is' := [_, _, _, _, _, _]) rfl rfl rfl rfl ?_
 refine SL.freezeGC 104 2 118 (is' := [_, _, _, _, _, _]) rfl rfl rfl rfl ?_
 refine SL.freezeC 104 3 119 (is' := [_, _, _, _, _, _]) rfl rfl rfl rfl ?_
 refine SL.freezeC 104 4 124 (is' := [_, _, _, _, _, _]) rfl rfl rfl rfl ?_
 refine SL.freezeP ([_, _, _, _, _, _]) 104 rfl (by rfl) (F' := [(3, _), (147, _), (150, _), (151, _), (152, _), (157, _), (158, _)]) (⟨⟨_, rfl, rfl⟩, ⟨_, rfl, rfl⟩, ⟨_, rfl, rfl⟩, ⟨_, rfl, rfl⟩, ⟨_, rfl, rfl⟩, ⟨_, rfl, rfl⟩, ⟨_, rfl, rfl⟩, trivial⟩) ?_
 refine SL.mv rfl rfl (SL.an rfl rfl (E.fo ?_))
 refine W.pick (K:=[(2,_)]) (Z:=[(101,_)]) ⟨rfl,trivial⟩ ⟨rfl,trivial⟩ ?_
 refine W.ret ?_
 refine E.fin (rs := [_]) (rn []) (.inl rfl) rfl (.cons (ResOne.tmp rfl) .nil) ?_ ?_ rfl (fixL_spec rfl)
 ·skip
  rfl
 · exact SubS.nil

end Go.Proofs.Ytbkbeplddddgeaa
end
section
namespace Go.Proofs.Ytbkbeplddddgeaa
open Go Go.RowKit Go.H Go.D33

theorem hcallOk65 : G.callOk Try.prog 65 = true := by kernel_rfl
theorem hcallOk70 : G.callOk Try.prog 70 = true := by kernel_rfl
theorem hcallOk78 : G.callOk Try.prog 78 = true := by kernel_rfl
theorem hcallOk79 : G.callOk Try.prog 79 = true := by kernel_rfl
theorem hcallOk80 : G.callOk Try.prog 80 = true := by kernel_rfl

set_option maxRecDepth 8000 in
theorem formed1_h {N : Int} {ps : List Pr} {rs : List Ru} {x : Int} :
    Con Try.prog 79 [vI x, .u (.ptr [uI N, .sl 3 (ps.map ePr), .sl 3 (rs.map eRu)])] [] (vB (decide (0 ≤ x ∧ x < N))) [] := by
 refine Con.enterL (n := 12) Try.func79 rfl rfl rfl (fun τ w ok vs hin => ?_)
 clear hin
 refine W.rg (SL.an rfl rfl (E.fo (W.rg (SL.mv rfl rfl ?_))))
 refine SL.val (O.det (fun _ => G.R.geq rfl rfl) rfl Taken.no) ?_
 refine SL.mv rfl rfl ?_
 refine SL.case (j := 2) (g := 6) (want := true) rfl rfl (fun hg1 => ?_) (fun hg1 => ?_)
 ·skip
  first | have hg1p := G.gA1 hg1 | have hg1p := G.gA2 hg1 | have hg1p := hg1
  refine SL.val (O.move rfl rfl (Taken.yes rfl rfl hg1)) ?_
  refine SL.val (O.fld_fz rfl Try.underlying30 rfl (m := 0) (by kernel_rfl) rfl rfl (Taken.yes rfl rfl hg1)) ?_
  refine SL.val (O.ld1 (PtI.ofU (PtU.fz rfl)) rfl Try.underlying3 rfl rfl (Taken.yes rfl rfl hg1)) ?_
  refine SL.val (O.det (fun _ => G.R.lss rfl rfl) rfl (Taken.yes rfl rfl hg1)) ?_
  refine SL.val (O.pick_t rfl hg1 rfl rfl Taken.no) ?_
  refine SL.an rfl rfl (E.fo (W.ret ?_))
  refine E.fin (rs := [_]) (rn []) (.inl rfl) rfl (.cons (ResOne.tmp rfl) .nil) ?_ ?_ rfl (fixL_spec rfl)
  ·skip
   first | exact iv_bool (dec_iff (by omega)) | exact iv_bool (dec_f (by omega))
  · exact SubS.nil
 first | have hg1p := G.gA5 hg1 | have hg1p := G.gA6 hg1 | have hg1p := hg1
 refine SL.sk rfl rfl rfl hg1 (SL.sk rfl rfl rfl hg1 (SL.sk rfl rfl rfl hg1 (SL.sk rfl rfl rfl hg1 ?_)))
 refine SL.val (O.pick_f rfl (G.ne_t hg1) rfl rfl Taken.no) ?_
 refine SL.an rfl rfl (E.fo (W.ret ?_))
 refine E.fin (rs := [_]) (rn []) (.inl rfl) rfl (.cons (ResOne.tmp rfl) .nil) ?_ ?_ rfl (fixL_spec rfl)
 ·skip
  first | exact iv_bool (dec_iff (by omega)) | exact iv_bool (dec_f (by omega))
 · exact SubS.nil

set_option maxRecDepth 8000 in
theorem formed2_h {N : Int} {ps : List Pr} {rs : List Ru} {x : Ru} :
    Con Try.prog 80 [vA (eRu x), .ref 0 0] [(0, .cells 82 [.clo (.func 79) [] [.ref 1 0]]), (1, .cells 30 [.u (uI N), .u (.sl 3 (ps.map ePr)), .u (.sl 3 (rs.map eRu))])] (vB (decide (¬ ruOk N x))) [(0, .cells 82 [.clo (.func 79) [] [.ref 1 0]]), (1, .cells 30 [.u (uI N), .u (.sl 3 (ps.map ePr)), .u (.sl 3 (rs.map eRu))])] := by
 refine Con.enterL (n := 33) Try.func80 rfl rfl rfl (fun τ w ok vs hin => ?_)
 clear hin
 refine W.rg ?_
 refine SL.memS (O.box (is := [_, _, _]) 101 rfl rfl (by simp) rfl rfl Taken.no) rfl rfl (S' := (101, _) :: _) rfl ?_
 refine SL.an rfl rfl (E.fo (W.rg ?_))
 refine SL.val (O.fld_ref (o' := 0) rfl Try.underlying51 rfl (m := 0) (by kernel_rfl) rfl rfl Taken.no) ?_
 refine SL.val (O.ld1 (PtI.ref rfl rfl) rfl Try.underlying3 rfl rfl Taken.no) ?_
 refine SL.val (O.det (fun _ => G.R.neq rfl rfl) rfl Taken.no) ?_
 refine SL.mv rfl rfl ?_
 refine SL.case (j := 3) (g := 7) (want := true) rfl rfl (fun hg1 => ?_) (fun hg1 => ?_)
 ·skip
  first | have hg1p := G.gA1 hg1 | have hg1p := G.gA2 hg1 | have hg1p := hg1
  refine SL.val (O.fld_ref (o' := 0) rfl Try.underlying51 rfl (m := 0) (by kernel_rfl) rfl rfl (Taken.yes rfl rfl hg1)) ?_
  refine SL.val (O.ld1 (PtI.ref rfl rfl) rfl Try.underlying3 rfl rfl (Taken.yes rfl rfl hg1)) ?_
  refine SL.val (O.det (fun _ => G.R.neq rfl rfl) rfl (Taken.yes rfl rfl hg1)) ?_
  refine SL.val (O.pick_t rfl hg1 rfl rfl Taken.no) ?_
  refine SL.mv rfl rfl ?_
  refine SL.case (j := 8) (g := 12) (want := false) rfl rfl (fun hg2 => ?_) (fun hg2 => ?_)
  ·skip
   first | have hg2p := G.gA3 hg2 | have hg2p := G.gA4 hg2 | have hg2p := hg2
   refine SL.val (O.ld1 (PtI.ref rfl rfl) rfl Try.underlying82 rfl rfl (Taken.yes rfl rfl hg2)) ?_
   refine SL.val (O.fld_ref (o' := 1) rfl Try.underlying51 rfl (m := 0) (by kernel_rfl) rfl rfl (Taken.yes rfl rfl hg2)) ?_
   refine SL.val (O.ld1 (PtI.ref rfl rfl) rfl Try.underlying3 rfl rfl (Taken.yes rfl rfl hg2)) ?_
   refine SL.memS (O.call (rn []) [1] rfl rfl rfl (formed1_h (N := N) (ps := ps) (rs := rs)) (.cons (ArgOk.same rfl) (.cons (ArgOk.ref rfl rfl rfl) .nil)) SubS.nil rfl rfl rfl rfl rfl (.inr ⟨rfl, fun x hx => by simp at hx⟩) hcallOk79 (r' := .u _) rfl rfl (Taken.yes rfl rfl hg2)) rfl rfl (S' := _) rfl ?_
   refine SL.val (O.det (fun _ => G.R.not rfl) rfl (Taken.yes rfl rfl hg2)) ?_
   refine SL.val (O.pick_f rfl hg2 rfl rfl Taken.no) ?_
   refine SL.mv rfl rfl ?_
   refine SL.case (j := 15) (g := 19) (want := false) rfl rfl (fun hg3 => ?_) (fun hg3 => ?_)
   ·skip
    first | have hg3p := G.gA3 hg3 | have hg3p := G.gA4 hg3 | have hg3p := hg3
    refine SL.val (O.ld1 (PtI.ref rfl rfl) rfl Try.underlying82 rfl rfl (Taken.yes rfl rfl hg3)) ?_
    refine SL.val (O.fld_ref (o' := 2) rfl Try.underlying51 rfl (m := 0) (by kernel_rfl) rfl rfl (Taken.yes rfl rfl hg3)) ?_
    refine SL.val (O.ld1 (PtI.ref rfl rfl) rfl Try.underlying3 rfl rfl (Taken.yes rfl rfl hg3)) ?_
    refine SL.memS (O.call (rn []) [1] rfl rfl rfl (formed1_h (N := N) (ps := ps) (rs := rs)) (.cons (ArgOk.same rfl) (.cons (ArgOk.ref rfl rfl rfl) .nil)) SubS.nil rfl rfl rfl rfl rfl (.inr ⟨rfl, fun x hx => by simp at hx⟩) hcallOk79 (r' := .u _) rfl rfl (Taken.yes rfl rfl hg3)) rfl rfl (S' := _) rfl ?_
    refine SL.val (O.det (fun _ => G.R.not rfl) rfl (Taken.yes rfl rfl hg3)) ?_
    refine SL.val (O.pick_f rfl hg3 rfl rfl Taken.no) ?_
    refine SL.mv rfl rfl ?_
    refine SL.case (j := 22) (g := 26) (want := false) rfl rfl (fun hg4 => ?_) (fun hg4 => ?_)
    ·skip
     first | have hg4p := G.gA3 hg4 | have hg4p := G.gA4 hg4 | have hg4p := hg4
     refine SL.val (O.fld_ref (o' := 1) rfl Try.underlying51 rfl (m := 0) (by kernel_rfl) rfl rfl (Taken.yes rfl rfl hg4)) ?_
     refine SL.val (O.ld1 (PtI.ref rfl rfl) rfl Try.underlying3 rfl rfl (Taken.yes rfl rfl hg4)) ?_
     refine SL.val (O.fld_ref (o' := 2) rfl Try.underlying51 rfl (m := 0) (by kernel_rfl) rfl rfl (Taken.yes rfl rfl hg4)) ?_
     refine SL.val (O.ld1 (PtI.ref rfl rfl) rfl Try.underlying3 rfl rfl (Taken.yes rfl rfl hg4)) ?_
     refine SL.val (O.det (fun _ => G.R.eql rfl rfl) rfl (Taken.yes rfl rfl hg4)) ?_
     refine SL.val (O.pick_f rfl hg4 rfl rfl Taken.no) ?_
     refine SL.an rfl rfl (E.fo ?_)
     refine W.pick (K:=[(3,_)]) (Z:=[(0,_),(1,_),(101,_)]) ⟨rfl,trivial⟩ ⟨rfl,rfl,rfl,trivial⟩ ?_
     refine W.ret ?_
     refine E.fin (rs := [_]) (rn []) (.inl rfl) rfl (.cons (ResOne.tmp rfl) .nil) ?_ ?_ rfl (fixL_spec rfl)
     ·skip
      first | exact iv_bool (dec_t (fun q => by unfold ruOk at q; omega)) | exact iv_bool (dec_f (fun q => q (by unfold ruOk; omega))) | exact iv_bool (dec_iff (by unfold ruOk; omega))
     · exact (SubS.cons rfl (SubS.cons rfl SubS.nil))
    first | have hg4p := G.gA7 hg4 | have hg4p := G.gA8 hg4 | have hg4p := hg4
    refine SL.sk rfl rfl rfl hg4 (SL.sk rfl rfl rfl hg4 (SL.sk rfl rfl rfl hg4 (SL.sk rfl rfl rfl hg4 (SL.sk rfl rfl rfl hg4 ?_))))
    refine SL.val (O.pick_t rfl (G.ne_f hg4) rfl rfl Taken.no) ?_
    refine SL.an rfl rfl (E.fo ?_)
    refine W.pick (K:=[(3,_)]) (Z:=[(0,_),(1,_),(101,_)]) ⟨rfl,trivial⟩ ⟨rfl,rfl,rfl,trivial⟩ ?_
    refine W.ret ?_
    refine E.fin (rs := [_]) (rn []) (.inl rfl) rfl (.cons (ResOne.tmp rfl) .nil) ?_ ?_ rfl (fixL_spec rfl)
    ·skip
     first | exact iv_bool (dec_t (fun q => by unfold ruOk at q; omega)) | exact iv_bool (dec_f (fun q => q (by unfold ruOk; omega))) | exact iv_bool (dec_iff (by unfold ruOk; omega))
    · exact (SubS.cons rfl (SubS.cons rfl SubS.nil))
   first | have hg3p := G.gA7 hg3 | have hg3p := G.gA8 hg3 | have hg3p := hg3
   refine SL.sk rfl rfl rfl hg3 (SL.sk rfl rfl rfl hg3 (SL.sk rfl rfl rfl hg3 (SL.sk rfl rfl rfl hg3 (SL.sk rfl rfl rfl hg3 ?_))))
   refine SL.val (O.pick_t rfl (G.ne_f hg3) rfl rfl Taken.no) ?_
   refine SL.mv rfl rfl ?_
   have hg5 : true ≠ false := by decide
   refine SL.sk rfl rfl rfl hg5 (SL.sk rfl rfl rfl hg5 (SL.sk rfl rfl rfl hg5 (SL.sk rfl rfl rfl hg5 (SL.sk rfl rfl rfl hg5 ?_))))
   refine SL.val (O.pick_t rfl rfl rfl rfl Taken.no) ?_
   refine SL.an rfl rfl (E.fo ?_)
   refine W.pick (K:=[(3,_)]) (Z:=[(0,_),(1,_),(101,_)]) ⟨rfl,trivial⟩ ⟨rfl,rfl,rfl,trivial⟩ ?_
   refine W.ret ?_
   refine E.fin (rs := [_]) (rn []) (.inl rfl) rfl (.cons (ResOne.tmp rfl) .nil) ?_ ?_ rfl (fixL_spec rfl)
   ·skip
    first | exact iv_bool (dec_t (fun q => by unfold ruOk at q; omega)) | exact iv_bool (dec_f (fun q => q (by unfold ruOk; omega))) | exact iv_bool (dec_iff (by unfold ruOk; omega))
   · exact (SubS.cons rfl (SubS.cons rfl SubS.nil))
  first | have hg2p := G.gA7 hg2 | have hg2p := G.gA8 hg2 | have hg2p := hg2
  refine SL.sk rfl rfl rfl hg2 (SL.sk rfl rfl rfl hg2 (SL.sk rfl rfl rfl hg2 (SL.sk rfl rfl rfl hg2 (SL.sk rfl rfl rfl hg2 ?_))))
  refine SL.val (O.pick_t rfl (G.ne_f hg2) rfl rfl Taken.no) ?_
  refine SL.mv rfl rfl ?_
  have hg6 : true ≠ false := by decide
  refine SL.sk rfl rfl rfl hg6 (SL.sk rfl rfl rfl hg6 (SL.sk rfl rfl rfl hg6 (SL.sk rfl rfl rfl hg6 (SL.sk rfl rfl rfl hg6 ?_))))
  refine SL.val (O.pick_t rfl rfl rfl rfl Taken.no) ?_
  refine SL.mv rfl rfl ?_
  have hg7 : true ≠ false := by decide
  refine SL.sk rfl rfl rfl hg7 (SL.sk rfl rfl rfl hg7 (SL.sk rfl rfl rfl hg7 (SL.sk rfl rfl rfl hg7 (SL.sk rfl rfl rfl hg7 ?_))))
  refine SL.val (O.pick_t rfl rfl rfl rfl Taken.no) ?_
  refine SL.an rfl rfl (E.fo ?_)
  refine W.pick (K:=[(3,_)]) (Z:=[(0,_),(1,_),(101,_)]) ⟨rfl,trivial⟩ ⟨rfl,rfl,rfl,trivial⟩ ?_
  refine W.ret ?_
  refine E.fin (rs := [_]) (rn []) (.inl rfl) rfl (.cons (ResOne.tmp rfl) .nil) ?_ ?_ rfl (fixL_spec rfl)
  ·skip
   first | exact iv_bool (dec_t (fun q => by unfold ruOk at q; omega)) | exact iv_bool (dec_f (fun q => q (by unfold ruOk; omega))) | exact iv_bool (dec_iff (by unfold ruOk; omega))
  · exact (SubS.cons rfl (SubS.cons rfl SubS.nil))
 first | have hg1p := G.gA5 hg1 | have hg1p := G.gA6 hg1 | have hg1p := hg1
 refine SL.sk rfl rfl rfl hg1 (SL.sk rfl rfl rfl hg1 (SL.sk rfl rfl rfl hg1 ?_))
 refine SL.val (O.pick_f rfl (G.ne_t hg1) rfl rfl Taken.no) ?_
 refine SL.mv rfl rfl ?_
 have hg8 : false = false := by decide
 refine SL.val (O.ld1 (PtI.ref rfl rfl) rfl Try.underlying82 rfl rfl (Taken.yes rfl rfl hg8)) ?_
 refine SL.val (O.fld_ref (o' := 1) rfl Try.underlying51 rfl (m := 0) (by kernel_rfl) rfl rfl (Taken.yes rfl rfl hg8)) ?_
 refine SL.val (O.ld1 (PtI.ref rfl rfl) rfl Try.underlying3 rfl rfl (Taken.yes rfl rfl hg8)) ?_
 refine SL.memS (O.call (rn []) [1] rfl rfl rfl (formed1_h (N := N) (ps := ps) (rs := rs)) (.cons (ArgOk.same rfl) (.cons (ArgOk.ref rfl rfl rfl) .nil)) SubS.nil rfl rfl rfl rfl rfl (.inr ⟨rfl, fun x hx => by simp at hx⟩) hcallOk79 (r' := .u _) rfl rfl (Taken.yes rfl rfl hg8)) rfl rfl (S' := _) rfl ?_
 refine SL.val (O.det (fun _ => G.R.not rfl) rfl (Taken.yes rfl rfl hg8)) ?_
 refine SL.val (O.pick_f rfl rfl rfl rfl Taken.no) ?_
 refine SL.mv rfl rfl ?_
 refine SL.case (j := 15) (g := 19) (want := false) rfl rfl (fun hg9 => ?_) (fun hg9 => ?_)
 ·skip
  first | have hg9p := G.gA3 hg9 | have hg9p := G.gA4 hg9 | have hg9p := hg9
  refine SL.val (O.ld1 (PtI.ref rfl rfl) rfl Try.underlying82 rfl rfl (Taken.yes rfl rfl hg9)) ?_
  refine SL.val (O.fld_ref (o' := 2) rfl Try.underlying51 rfl (m := 0) (by kernel_rfl) rfl rfl (Taken.yes rfl rfl hg9)) ?_
  refine SL.val (O.ld1 (PtI.ref rfl rfl) rfl Try.underlying3 rfl rfl (Taken.yes rfl rfl hg9)) ?_
  refine SL.memS (O.call (rn []) [1] rfl rfl rfl (formed1_h (N := N) (ps := ps) (rs := rs)) (.cons (ArgOk.same rfl) (.cons (ArgOk.ref rfl rfl rfl) .nil)) SubS.nil rfl rfl rfl rfl rfl (.inr ⟨rfl, fun x hx => by simp at hx⟩) hcallOk79 (r' := .u _) rfl rfl (Taken.yes rfl rfl hg9)) rfl rfl (S' := _) rfl ?_
  refine SL.val (O.det (fun _ => G.R.not rfl) rfl (Taken.yes rfl rfl hg9)) ?_
  refine SL.val (O.pick_f rfl hg9 rfl rfl Taken.no) ?_
  refine SL.mv rfl rfl ?_
  refine SL.case (j := 22) (g := 26) (want := false) rfl rfl (fun hg10 => ?_) (fun hg10 => ?_)
  ·skip
   first | have hg10p := G.gA3 hg10 | have hg10p := G.gA4 hg10 | have hg10p := hg10
   refine SL.val (O.fld_ref (o' := 1) rfl Try.underlying51 rfl (m := 0) (by kernel_rfl) rfl rfl (Taken.yes rfl rfl hg10)) ?_
   refine SL.val (O.ld1 (PtI.ref rfl rfl) rfl Try.underlying3 rfl rfl (Taken.yes rfl rfl hg10)) ?_
   refine SL.val (O.fld_ref (o' := 2) rfl Try.underlying51 rfl (m := 0) (by kernel_rfl) rfl rfl (Taken.yes rfl rfl hg10)) ?_
   refine SL.val (O.ld1 (PtI.ref rfl rfl) rfl Try.underlying3 rfl rfl (Taken.yes rfl rfl hg10)) ?_
   refine SL.val (O.det (fun _ => G.R.eql rfl rfl) rfl (Taken.yes rfl rfl hg10)) ?_
   refine SL.val (O.pick_f rfl hg10 rfl rfl Taken.no) ?_
   refine SL.an rfl rfl (E.fo ?_)
   refine W.pick (K:=[(3,_)]) (Z:=[(0,_),(1,_),(101,_)]) ⟨rfl,trivial⟩ ⟨rfl,rfl,rfl,trivial⟩ ?_
   refine W.ret ?_
   refine E.fin (rs := [_]) (rn []) (.inl rfl) rfl (.cons (ResOne.tmp rfl) .nil) ?_ ?_ rfl (fixL_spec rfl)
   ·skip
    first | exact iv_bool (dec_t (fun q => by unfold ruOk at q; omega)) | exact iv_bool (dec_f (fun q => q (by unfold ruOk; omega))) | exact iv_bool (dec_iff (by unfold ruOk; omega))
   · exact (SubS.cons rfl (SubS.cons rfl SubS.nil))
  first | have hg10p := G.gA7 hg10 | have hg10p := G.gA8 hg10 | have hg10p := hg10
  refine SL.sk rfl rfl rfl hg10 (SL.sk rfl rfl rfl hg10 (SL.sk rfl rfl rfl hg10 (SL.sk rfl rfl rfl hg10 (SL.sk rfl rfl rfl hg10 ?_))))
  refine SL.val (O.pick_t rfl (G.ne_f hg10) rfl rfl Taken.no) ?_
  refine SL.an rfl rfl (E.fo ?_)
  refine W.pick (K:=[(3,_)]) (Z:=[(0,_),(1,_),(101,_)]) ⟨rfl,trivial⟩ ⟨rfl,rfl,rfl,trivial⟩ ?_
  refine W.ret ?_
  refine E.fin (rs := [_]) (rn []) (.inl rfl) rfl (.cons (ResOne.tmp rfl) .nil) ?_ ?_ rfl (fixL_spec rfl)
  ·skip
   first | exact iv_bool (dec_t (fun q => by unfold ruOk at q; omega)) | exact iv_bool (dec_f (fun q => q (by unfold ruOk; omega))) | exact iv_bool (dec_iff (by unfold ruOk; omega))
  · exact (SubS.cons rfl (SubS.cons rfl SubS.nil))
 first | have hg9p := G.gA7 hg9 | have hg9p := G.gA8 hg9 | have hg9p := hg9
 refine SL.sk rfl rfl rfl hg9 (SL.sk rfl rfl rfl hg9 (SL.sk rfl rfl rfl hg9 (SL.sk rfl rfl rfl hg9 (SL.sk rfl rfl rfl hg9 ?_))))
 refine SL.val (O.pick_t rfl (G.ne_f hg9) rfl rfl Taken.no) ?_
 refine SL.mv rfl rfl ?_
 have hg11 : true ≠ false := by decide
 refine SL.sk rfl rfl rfl hg11 (SL.sk rfl rfl rfl hg11 (SL.sk rfl rfl rfl hg11 (SL.sk rfl rfl rfl hg11 (SL.sk rfl rfl rfl hg11 ?_))))
 refine SL.val (O.pick_t rfl rfl rfl rfl Taken.no) ?_
 refine SL.an rfl rfl (E.fo ?_)
 refine W.pick (K:=[(3,_)]) (Z:=[(0,_),(1,_),(101,_)]) ⟨rfl,trivial⟩ ⟨rfl,rfl,rfl,trivial⟩ ?_
 refine W.ret ?_
 refine E.fin (rs := [_]) (rn []) (.inl rfl) rfl (.cons (ResOne.tmp rfl) .nil) ?_ ?_ rfl (fixL_spec rfl)
 ·skip
  first | exact iv_bool (dec_t (fun q => by unfold ruOk at q; omega)) | exact iv_bool (dec_f (fun q => q (by unfold ruOk; omega))) | exact iv_bool (dec_iff (by unfold ruOk; omega))
 · exact (SubS.cons rfl (SubS.cons rfl SubS.nil))

set_option maxRecDepth 8000 in
theorem indexFuncC {f : Nat} {caps : List UV} {pr : Ru → Bool} {q : List Ru} (hok : G.callOk Try.prog f = true) (hpr : ∀ x ∈ q, Con Try.prog f ([vA (eRu x)] ++ caps.map .u) [] (vB (pr x)) []) :
    Con Try.prog 78 [vL 3 (q.map eRu), .u (.clo (.func f) [] caps)] [] (vI (idxF pr q)) [] := by
 obtain ⟨i51, hi51, hz51, hs51, hb51⟩ := hinf51
 refine Con.enterL (n := 19) Try.func78 rfl rfl rfl (fun τ w ok vs hin => ?_)
 have hl0 := hin.len (i := 0) rfl
 try rw [List.length_map] at hl0
 clear hin
 refine W.rg (SL.an rfl rfl (E.fo (W.seq (W.rg (SL.mv rfl rfl ?_)))))
 refine SL.val (O.lenE (SlOf.fz rfl (by decide)) (by first | exact List.length_map _ | rfl) Try.underlying23 rfl Taken.no) ?_
 refine SL.mv rfl rfl (E.fo (W.block ?_))
 refine W.loopx1 (fun (k : Nat) => [(8, vI (k : Int))]) (fun (k : Nat) => []) (fun (k : Nat) => k ≤ q.length ∧ ∀ j, j < k → (pr) q[j]! = false) (fun (k : Nat) => q.length - k) (0) (rn []) (.cons (t := 0) rfl (.cons (t := 1) rfl (.cons (t := 7) rfl .nil))) .nil rfl ?_ ?_ rfl rfl ?_ ?_
 · exact (SubF.cons rfl SubF.nil)
 · exact SubS.nil
 ·skip
  exact ⟨by omega, fun j h => by omega⟩
 intro k hinv
 obtain ⟨hk, hp⟩ := hinv
 refine W.rg ?_
 refine SL.val (O.det (fun _ => G.R.lss rfl rfl) rfl Taken.no) ?_
 refine E.fo (W.seq ?_)
 first | refine W.cond_d rfl (fun hc1 => ?_) (fun hc1 => ?_) | refine W.cond_nd rfl (fun hc1 => ?_) (fun hc1 => ?_) | refine W.cond rfl (fun hc1 => ?_) (fun hc1 => ?_)
 ·skip
  refine W.skip (E.to (W.seq (W.block (W.rg (SL.mv rfl rfl (SL.an rfl rfl (E.fo (W.rg (SL.mv rfl rfl (SL.mv rfl rfl (SL.mv rfl rfl ?_)))))))))))
  refine SL.val (O.idx_fz rfl rfl (rfl) (row_get (by omega)) Try.underlying23 hi51 hs51 rfl Taken.no) ?_
  refine SL.val (O.ldU (m := 3) (PtU.fz rfl) rfl Try.underlying51 rfl (by kernel_rfl) rfl Taken.no) ?_
  refine SL.val (O.callp rfl rfl rfl (hpr q[k]! (mem_at (by omega))) (.cons (ArgOk.same rfl) (ArgsOk.caps caps)) hok rfl Taken.no) ?_
  refine E.fo ?_
  first | refine W.cond_d rfl (fun hc2 => ?_) (fun hc2 => ?_) | refine W.cond_nd rfl (fun hc2 => ?_) (fun hc2 => ?_) | refine W.cond rfl (fun hc2 => ?_) (fun hc2 => ?_)
  ·skip
   refine W.rg (SL.mv rfl rfl (SL.an rfl rfl (E.fo (W.ret ?_))))
   refine E.inr ?_
   refine E.thr (E.thr ?_)
   refine E.inr ?_
   refine E.thr ?_
   refine E.fin (rs := [_]) (rn []) (.inl rfl) rfl (.cons (ResOne.tmp rfl) .nil) ?_ ?_ rfl (fixL_spec rfl)
   ·skip
    exact iv_int (idxF_here (by omega) hp (by assumption))
   · exact SubS.nil
  refine W.skip (E.inn (E.to (W.region ?_)))
  refine SL.val (O.det (fun _ => by first | exact G.R.add64 rfl rfl (by omega) | exact G.R.add rfl rfl) rfl Taken.no) ?_
  refine SL.mv rfl rfl (SL.nil ?_)
  refine E.again ((k + 1)) (rn []) ?_ ?_ rfl (fixL_spec rfl) ?_ ?_
  · exact (SubF.cons rfl (SubF.cons rfl (SubF.cons rfl (SubF.cons rfl SubF.nil))))
  · exact SubS.nil
  ·try dsimp only
   exact ⟨by omega, fun j hj => by rcases Nat.lt_succ_iff_lt_or_eq.1 hj with h | h; exact hp j h; subst h; simp_all⟩
  · (try dsimp only); omega
 refine W.exit (E.th (E.th (E.hit (E.to (W.rg (SL.an rfl rfl (E.fo (W.ret ?_))))))))
 refine E.fin (rs := [_]) (rn []) (.inl rfl) rfl (.cons (ResOne.tmp rfl) .nil) ?_ ?_ rfl (fixL_spec rfl)
 ·skip
  exact iv_int (idxF_none (by omega) hp)
 · exact SubS.nil

set_option maxRecDepth 8000 in
theorem containsFuncC {f : Nat} {caps : List UV} {pr : Ru → Bool} {q : List Ru} (hok : G.callOk Try.prog f = true) (hpr : ∀ x ∈ q, Con Try.prog f ([vA (eRu x)] ++ caps.map .u) [] (vB (pr x)) []) :
    Con Try.prog 65 [vL 3 (q.map eRu), .u (.clo (.func f) [] caps)] [] (vB (decide (0 ≤ idxF pr q))) [] := by
 refine Con.enterL (n := 9) Try.func65 rfl rfl rfl (fun τ w ok vs hin => ?_)
 have hl0 := hin.len (i := 0) rfl
 try rw [List.length_map] at hl0
 clear hin
 refine W.rg (SL.an rfl rfl (E.fo (W.rg (SL.mv rfl rfl (SL.mv rfl rfl ?_)))))
 refine SL.val (O.callp rfl rfl rfl (indexFuncC hok hpr) (.cons (ArgOk.same rfl) (.cons (ArgOk.same rfl) .nil)) hcallOk78 rfl Taken.no) ?_
 refine SL.val (O.det (fun _ => G.R.geq rfl rfl) rfl Taken.no) ?_
 refine SL.an rfl rfl (E.fo (W.ret ?_))
 refine E.fin (rs := [_]) (rn []) (.inl rfl) rfl (.cons (ResOne.tmp rfl) .nil) ?_ ?_ rfl (fixL_spec rfl)
 ·skip
  rfl
 · exact SubS.nil

set_option maxRecDepth 8000 in
theorem indexFuncI {f : Nat} {caps : List UV} {pr : Int → Bool} {q : List Int} (hok : G.callOk Try.prog f = true) (hpr : ∀ x ∈ q, Con Try.prog f ([vI x] ++ caps.map .u) [] (vB (pr x)) []) :
    Con Try.prog 70 [vL 1 (q.map eI), .u (.clo (.func f) [] caps)] [] (vI (idxF pr q)) [] := by
 obtain ⟨i3, hi3, hz3, hs3, hb3⟩ := hinf3
 refine Con.enterL (n := 19) Try.func70 rfl rfl rfl (fun τ w ok vs hin => ?_)
 have hl0 := hin.len (i := 0) rfl
 try rw [List.length_map] at hl0
 clear hin
 refine W.rg (SL.an rfl rfl (E.fo (W.seq (W.rg (SL.mv rfl rfl ?_)))))
 refine SL.val (O.lenE (SlOf.fz rfl (by decide)) (by first | exact List.length_map _ | rfl) Try.underlying32 rfl Taken.no) ?_
 refine SL.mv rfl rfl (E.fo (W.block ?_))
 refine W.loopx1 (fun (k : Nat) => [(8, vI (k : Int))]) (fun (k : Nat) => []) (fun (k : Nat) => k ≤ q.length ∧ ∀ j, j < k → (pr) q[j]! = false) (fun (k : Nat) => q.length - k) (0) (rn []) (.cons (t := 0) rfl (.cons (t := 1) rfl (.cons (t := 7) rfl .nil))) .nil rfl ?_ ?_ rfl rfl ?_ ?_
 · exact (SubF.cons rfl SubF.nil)
 · exact SubS.nil
 ·skip
  exact ⟨by omega, fun j h => by omega⟩
 intro k hinv
 obtain ⟨hk, hp⟩ := hinv
 refine W.rg ?_
 refine SL.val (O.det (fun _ => G.R.lss rfl rfl) rfl Taken.no) ?_
 refine E.fo (W.seq ?_)
 first | refine W.cond_d rfl (fun hc1 => ?_) (fun hc1 => ?_) | refine W.cond_nd rfl (fun hc1 => ?_) (fun hc1 => ?_) | refine W.cond rfl (fun hc1 => ?_) (fun hc1 => ?_)
 ·skip
  refine W.skip (E.to (W.seq (W.block (W.rg (SL.mv rfl rfl (SL.an rfl rfl (E.fo (W.rg (SL.mv rfl rfl (SL.mv rfl rfl (SL.mv rfl rfl ?_)))))))))))
  refine SL.val (O.idx_fz rfl rfl (rfl) (row_get (by omega)) Try.underlying32 hi3 hs3 rfl Taken.no) ?_
  refine SL.val (O.ld1 (PtI.ofU (PtU.fz rfl)) rfl Try.underlying3 rfl rfl Taken.no) ?_
  refine SL.val (O.callp rfl rfl rfl (hpr q[k]! (mem_at (by omega))) (.cons (ArgOk.same rfl) (ArgsOk.caps caps)) hok rfl Taken.no) ?_
  refine E.fo ?_
  first | refine W.cond_d rfl (fun hc2 => ?_) (fun hc2 => ?_) | refine W.cond_nd rfl (fun hc2 => ?_) (fun hc2 => ?_) | refine W.cond rfl (fun hc2 => ?_) (fun hc2 => ?_)
  ·skip
   refine W.rg (SL.mv rfl rfl (SL.an rfl rfl (E.fo (W.ret ?_))))
   refine E.inr ?_
   refine E.thr (E.thr ?_)
   refine E.inr ?_
   refine E.thr ?_
   refine E.fin (rs := [_]) (rn []) (.inl rfl) rfl (.cons (ResOne.tmp rfl) .nil) ?_ ?_ rfl (fixL_spec rfl)
   ·skip
    exact iv_int (idxF_here (by omega) hp (by assumption))
   · exact SubS.nil
  refine W.skip (E.inn (E.to (W.region ?_)))
  refine SL.val (O.det (fun _ => by first | exact G.R.add64 rfl rfl (by omega) | exact G.R.add rfl rfl) rfl Taken.no) ?_
  refine SL.mv rfl rfl (SL.nil ?_)
  refine E.again ((k + 1)) (rn []) ?_ ?_ rfl (fixL_spec rfl) ?_ ?_
  · exact (SubF.cons rfl (SubF.cons rfl (SubF.cons rfl (SubF.cons rfl SubF.nil))))
  · exact SubS.nil
  ·try dsimp only
   exact ⟨by omega, fun j hj => by rcases Nat.lt_succ_iff_lt_or_eq.1 hj with h | h; exact hp j h; subst h; simp_all⟩
  · (try dsimp only); omega
 refine W.exit (E.th (E.th (E.hit (E.to (W.rg (SL.an rfl rfl (E.fo (W.ret ?_))))))))
 refine E.fin (rs := [_]) (rn []) (.inl rfl) rfl (.cons (ResOne.tmp rfl) .nil) ?_ ?_ rfl (fixL_spec rfl)
 ·skip
  exact iv_int (idxF_none (by omega) hp)
 · exact SubS.nil

set_option maxRecDepth 8000 in
theorem containsFuncI {f : Nat} {caps : List UV} {pr : Int → Bool} {q : List Int} (hok : G.callOk Try.prog f = true) (hpr : ∀ x ∈ q, Con Try.prog f ([vI x] ++ caps.map .u) [] (vB (pr x)) []) :
    Con Try.prog 51 [vL 1 (q.map eI), .u (.clo (.func f) [] caps)] [] (vB (decide (0 ≤ idxF pr q))) [] := by
 refine Con.enterL (n := 9) Try.func51 rfl rfl rfl (fun τ w ok vs hin => ?_)
 have hl0 := hin.len (i := 0) rfl
 try rw [List.length_map] at hl0
 clear hin
 refine W.rg (SL.an rfl rfl (E.fo (W.rg (SL.mv rfl rfl (SL.mv rfl rfl ?_)))))
 refine SL.val (O.callp rfl rfl rfl (indexFuncI hok hpr) (.cons (ArgOk.same rfl) (.cons (ArgOk.same rfl) .nil)) hcallOk70 rfl Taken.no) ?_
 refine SL.val (O.det (fun _ => G.R.geq rfl rfl) rfl Taken.no) ?_
 refine SL.an rfl rfl (E.fo (W.ret ?_))
 refine E.fin (rs := [_]) (rn []) (.inl rfl) rfl (.cons (ResOne.tmp rfl) .nil) ?_ ?_ rfl (fixL_spec rfl)
 ·skip
  rfl
 · exact SubS.nil

set_option maxRecDepth 8000 in
theorem indexFuncF {N : Int} {ps : List Pr} {rs : List Ru} {q : List Ru} :
    Con Try.prog 78 [vL 3 (q.map eRu), .clo (.func 80) [] [.ref 0 0]] [(0, .cells 82 [.clo (.func 79) [] [.ref 1 0]]), (1, .cells 30 [.u (uI N), .u (.sl 3 (ps.map ePr)), .u (.sl 3 (rs.map eRu))])] (vI (idxF (fun x => decide (¬ ruOk N x)) q)) [(0, .cells 82 [.clo (.func 79) [] [.ref 1 0]]), (1, .cells 30 [.u (uI N), .u (.sl 3 (ps.map ePr)), .u (.sl 3 (rs.map eRu))])] := by
 obtain ⟨i51, hi51, hz51, hs51, hb51⟩ := hinf51
 refine Con.enterL (n := 19) Try.func78 rfl rfl rfl (fun τ w ok vs hin => ?_)
 have hl0 := hin.len (i := 0) rfl
 try rw [List.length_map] at hl0
 clear hin
 refine W.rg (SL.an rfl rfl (E.fo (W.seq (W.rg (SL.mv rfl rfl ?_)))))
 refine SL.val (O.lenE (SlOf.fz rfl (by decide)) (by first | exact List.length_map _ | rfl) Try.underlying23 rfl Taken.no) ?_
 refine SL.mv rfl rfl (E.fo (W.block ?_))
 refine W.loopx1 (fun (k : Nat) => [(8, vI (k : Int))]) (fun (k : Nat) => []) (fun (k : Nat) => k ≤ q.length ∧ ∀ j, j < k → (fun x => decide (¬ ruOk N x)) q[j]! = false) (fun (k : Nat) => q.length - k) (0) (rn []) (.cons (t := 0) rfl (.cons (t := 1) rfl (.cons (t := 7) rfl .nil))) (.cons (t := 0) rfl (.cons (t := 1) rfl .nil)) rfl ?_ ?_ rfl rfl ?_ ?_
 · exact (SubF.cons rfl SubF.nil)
 · exact SubS.nil
 ·skip
  exact ⟨by omega, fun j h => by omega⟩
 intro k hinv
 obtain ⟨hk, hp⟩ := hinv
 refine W.rg ?_
 refine SL.val (O.det (fun _ => G.R.lss rfl rfl) rfl Taken.no) ?_
 refine E.fo (W.seq ?_)
 first | refine W.cond_d rfl (fun hc1 => ?_) (fun hc1 => ?_) | refine W.cond_nd rfl (fun hc1 => ?_) (fun hc1 => ?_) | refine W.cond rfl (fun hc1 => ?_) (fun hc1 => ?_)
 ·skip
  refine W.skip (E.to (W.seq (W.block (W.rg (SL.mv rfl rfl (SL.an rfl rfl (E.fo (W.rg (SL.mv rfl rfl (SL.mv rfl rfl (SL.mv rfl rfl ?_)))))))))))
  refine SL.val (O.idx_fz rfl rfl (rfl) (row_get (by omega)) Try.underlying23 hi51 hs51 rfl Taken.no) ?_
  refine SL.val (O.ldU (m := 3) (PtU.fz rfl) rfl Try.underlying51 rfl (by kernel_rfl) rfl Taken.no) ?_
  refine SL.memS (O.call (rn [(0, 0), (1, 1)]) [] rfl rfl rfl (formed2_h (N := N) (ps := ps) (rs := rs) (x := q[k]!)) (.cons (ArgOk.same rfl) (.cons (ArgOk.same rfl) .nil)) (SubS.cons rfl (SubS.cons rfl SubS.nil)) rfl rfl rfl rfl rfl (.inl rfl) hcallOk80 (r' := .u _) rfl rfl Taken.no) rfl rfl (S' := (0, .cells _ [_]) :: (1, .cells _ [.u _, .u _, .u _]) :: _) rfl ?_
  refine E.fo ?_
  first | refine W.cond_d rfl (fun hc2 => ?_) (fun hc2 => ?_) | refine W.cond_nd rfl (fun hc2 => ?_) (fun hc2 => ?_) | refine W.cond rfl (fun hc2 => ?_) (fun hc2 => ?_)
  ·skip
   refine W.rg (SL.mv rfl rfl (SL.an rfl rfl (E.fo (W.ret ?_))))
   refine E.inr ?_
   refine E.thr (E.thr ?_)
   refine E.inr ?_
   refine E.thr ?_
   refine E.fin (rs := [_]) (rn []) (.inl rfl) rfl (.cons (ResOne.tmp rfl) .nil) ?_ ?_ rfl (fixL_spec rfl)
   ·skip
    exact iv_int (idxF_here (p := fun x => decide (¬ ruOk N x)) (by omega) hp (by first | assumption | exact decide_eq_true (by assumption)))
   · exact (SubS.cons rfl (SubS.cons rfl SubS.nil))
  refine W.skip (E.inn (E.to (W.region ?_)))
  refine SL.val (O.det (fun _ => by first | exact G.R.add64 rfl rfl (by omega) | exact G.R.add rfl rfl) rfl Taken.no) ?_
  refine SL.mv rfl rfl (SL.nil ?_)
  refine E.again ((k + 1)) (rn []) ?_ ?_ rfl (fixL_spec rfl) ?_ ?_
  · exact (SubF.cons rfl (SubF.cons rfl (SubF.cons rfl (SubF.cons rfl SubF.nil))))
  · exact (SubS.cons rfl (SubS.cons rfl SubS.nil))
  ·try dsimp only
   exact ⟨by omega, fun j hj => by rcases Nat.lt_succ_iff_lt_or_eq.1 hj with h | h; exact hp j h; subst h; simp_all⟩
  · (try dsimp only); omega
 refine W.exit (E.th (E.th (E.hit (E.to (W.rg (SL.an rfl rfl (E.fo (W.ret ?_))))))))
 refine E.fin (rs := [_]) (rn []) (.inl rfl) rfl (.cons (ResOne.tmp rfl) .nil) ?_ ?_ rfl (fixL_spec rfl)
 ·skip
  exact iv_int (idxF_none (p := fun x => decide (¬ ruOk N x)) (by omega) hp)
 · exact (SubS.cons rfl (SubS.cons rfl SubS.nil))

set_option maxRecDepth 8000 in
theorem containsFuncF {N : Int} {ps : List Pr} {rs : List Ru} {q : List Ru} :
    Con Try.prog 65 [vL 3 (q.map eRu), .clo (.func 80) [] [.ref 0 0]] [(0, .cells 82 [.clo (.func 79) [] [.ref 1 0]]), (1, .cells 30 [.u (uI N), .u (.sl 3 (ps.map ePr)), .u (.sl 3 (rs.map eRu))])] (vB (decide (0 ≤ idxF (fun x => decide (¬ ruOk N x)) q))) [(0, .cells 82 [.clo (.func 79) [] [.ref 1 0]]), (1, .cells 30 [.u (uI N), .u (.sl 3 (ps.map ePr)), .u (.sl 3 (rs.map eRu))])] := by
 refine Con.enterL (n := 9) Try.func65 rfl rfl rfl (fun τ w ok vs hin => ?_)
 have hl0 := hin.len (i := 0) rfl
 try rw [List.length_map] at hl0
 clear hin
 refine W.rg (SL.an rfl rfl (E.fo (W.rg (SL.mv rfl rfl (SL.mv rfl rfl ?_)))))
 refine SL.memS (O.call (rn [(0, 0), (1, 1)]) [] rfl rfl rfl (indexFuncF (N := N) (ps := ps) (rs := rs) (q := q)) (.cons (ArgOk.same rfl) (.cons (ArgOk.same rfl) .nil)) (SubS.cons rfl (SubS.cons rfl SubS.nil)) rfl rfl rfl rfl rfl (.inl rfl) hcallOk78 (r' := .u _) rfl rfl Taken.no) rfl rfl (S' := (0, .cells _ [_]) :: (1, .cells _ [.u _, .u _, .u _]) :: _) rfl ?_
 refine SL.val (O.det (fun _ => G.R.geq rfl rfl) rfl Taken.no) ?_
 refine SL.an rfl rfl (E.fo (W.ret ?_))
 refine E.fin (rs := [_]) (rn []) (.inl rfl) rfl (.cons (ResOne.tmp rfl) .nil) ?_ ?_ rfl (fixL_spec rfl)
 ·skip
  rfl
 · exact (SubS.cons rfl (SubS.cons rfl SubS.nil))

set_option maxRecDepth 8000 in
set_option maxHeartbeats 3200000 in
theorem formed_h {N : Int} {ps : List Pr} {rs : List Ru} :
    Con Try.prog 71 [vA [uI N, .sl 3 (ps.map ePr), .sl 3 (rs.map eRu)]] [] (vB (decide (Prob.mk N ps rs).formed)) [] := by
 obtain ⟨i61, hi61, hz61, hs61, hb61⟩ := hinf61
 refine Con.enterL (n := 102) Try.func71 rfl rfl rfl (fun τ w ok vs hin => ?_)
 have hl0_1 := hin.lenA (i := 0) (j := 1) rfl rfl
 try rw [List.length_map] at hl0_1
 have hl0_2 := hin.lenA (i := 0) (j := 2) rfl rfl
 try rw [List.length_map] at hl0_2
 clear hin
 refine W.rg ?_
 refine SL.memS (O.box (is := [_, _, _]) 101 rfl rfl (by simp) rfl rfl Taken.no) rfl rfl (S' := (101, _) :: _) rfl ?_
 refine SL.an rfl rfl (E.fo (W.seq (W.rg ?_)))
 refine SL.val (O.fld_ref (o' := 0) rfl Try.underlying30 rfl (m := 0) (by kernel_rfl) rfl rfl Taken.no) ?_
 refine SL.val (O.ld1 (PtI.ref rfl rfl) rfl Try.underlying3 rfl rfl Taken.no) ?_
 refine SL.val (O.det (fun _ => G.R.lss rfl rfl) rfl Taken.no) ?_
 refine SL.mv rfl rfl ?_
 refine SL.case (j := 3) (g := 9) (want := false) rfl rfl (fun hg1 => ?_) (fun hg1 => ?_)
 ·skip
  first | have hg1p := G.gA3 hg1 | have hg1p := G.gA4 hg1 | have hg1p := hg1
  refine SL.val (O.fld_ref (o' := 0) rfl Try.underlying30 rfl (m := 0) (by kernel_rfl) rfl rfl (Taken.yes rfl rfl hg1)) ?_
  refine SL.val (O.ld1 (PtI.ref rfl rfl) rfl Try.underlying3 rfl rfl (Taken.yes rfl rfl hg1)) ?_
  refine SL.val (O.det (fun _ => G.R.gtr rfl rfl) rfl (Taken.yes rfl rfl hg1)) ?_
  refine SL.val (O.pick_f rfl hg1 rfl rfl Taken.no) ?_
  refine SL.mv rfl rfl ?_
  refine SL.case (j := 8) (g := 14) (want := false) rfl rfl (fun hg2 => ?_) (fun hg2 => ?_)
  ·skip
   first | have hg2p := G.gA3 hg2 | have hg2p := G.gA4 hg2 | have hg2p := hg2
   refine SL.val (O.fld_ref (o' := 2) rfl Try.underlying30 rfl (m := 0) (by kernel_rfl) rfl rfl (Taken.yes rfl rfl hg2)) ?_
   refine SL.val (O.ld1 (PtI.ref rfl rfl) rfl Try.underlying23 rfl rfl (Taken.yes rfl rfl hg2)) ?_
   refine SL.val (O.lenE (SlOf.fz rfl (by decide)) (by first | exact List.length_map _ | rfl) Try.underlying23 rfl (Taken.yes rfl rfl hg2)) ?_
   refine SL.val (O.det (fun _ => G.R.gtr rfl rfl) rfl (Taken.yes rfl rfl hg2)) ?_
   refine SL.val (O.pick_f rfl hg2 rfl rfl Taken.no) ?_
   refine E.fo ?_
   first | refine W.cond_d rfl (fun hc3 => ?_) (fun hc3 => ?_) | refine W.cond_nd rfl (fun hc3 => ?_) (fun hc3 => ?_) | refine W.cond rfl (fun hc3 => ?_) (fun hc3 => ?_)
   ·skip
    refine W.rg (SL.an rfl rfl (E.fo (W.ret (E.thr ?_))))
    refine E.fin (rs := [_]) (rn []) (.inl rfl) rfl (.cons (ResOne.tmp rfl) .nil) ?_ ?_ rfl (fixL_spec rfl)
    ·skip
     exact iv_bool (dec_f fun q => by have q1 : 0 ≤ N := q.1; have q2 : N ≤ 200 := q.2.1; have q3 : rs.length ≤ 400 := q.2.2.1; omega)
    · exact SubS.nil
   have hN0 : 0 ≤ N := by omega
   have hN2 : N ≤ 200 := by omega
   have hr4 : rs.length ≤ 400 := by omega
   refine W.skip (E.to (W.rg ?_))
   refine SL.val (O.makeFunc rfl rfl rfl Taken.no) ?_
   refine SL.memS (O.alloc (z := .nilFunc) (is := [.u (.sc (.nilFunc))]) 102 (by kernel_rfl) rfl rfl rfl Taken.no) rfl rfl (S' := (102, _) :: _) rfl ?_
   refine SL.effS (O.st_ref (m := 1) rfl rfl rfl (js := [_]) rfl rfl (by kernel_rfl) (by simp) (Nat.le_of_ble_eq_true rfl) rfl (is' := [_]) rfl Taken.no) (S' := (102, _) :: _) rfl ?_
   refine E.fo (W.seq (W.rg ?_))
   refine SL.val (O.fld_ref (o' := 1) rfl Try.underlying30 rfl (m := 0) (by kernel_rfl) rfl rfl Taken.no) ?_
   refine SL.val (O.ld1 (PtI.ref rfl rfl) rfl Try.underlying28 rfl rfl Taken.no) ?_
   refine SL.val (O.lenE (SlOf.fz rfl (by decide)) (by first | exact List.length_map _ | rfl) Try.underlying28 rfl Taken.no) ?_
   refine SL.mv rfl rfl (E.fo (W.block ?_))
   refine W.loopx1 (fun (k : Nat) => [(24, vI (k : Int))]) (fun (k : Nat) => []) (fun (k : Nat) => k ≤ ps.length ∧ pOk (Prob.mk N ps rs) k) (fun (k : Nat) => ps.length - k) (0) (rn []) (.cons (t := 1) rfl (.cons (t := 3) rfl (.cons (t := 22) rfl (.cons (t := 23) rfl .nil)))) (.cons (t := 101) rfl (.cons (t := 102) rfl .nil)) rfl ?_ ?_ rfl rfl ?_ ?_
   · exact (SubF.cons rfl SubF.nil)
   · exact SubS.nil
   ·skip
    exact ⟨by omega, fun i h => by omega⟩
   intro k hinv
   obtain ⟨hk, hp⟩ := hinv
   refine W.rg ?_
   refine SL.val (O.det (fun _ => G.R.lss rfl rfl) rfl Taken.no) ?_
   refine E.fo (W.seq ?_)
   first | refine W.cond_d rfl (fun hc4 => ?_) (fun hc4 => ?_) | refine W.cond_nd rfl (fun hc4 => ?_) (fun hc4 => ?_) | refine W.cond rfl (fun hc4 => ?_) (fun hc4 => ?_)
   ·skip
    refine W.skip (E.to (W.seq (W.block (W.rg (SL.mv rfl rfl ?_)))))
    refine SL.val (O.idx_fz rfl rfl (rfl) (row_get (by omega)) Try.underlying28 hi61 hs61 rfl Taken.no) ?_
    refine SL.val (O.ldU (m := 3) (PtU.fz rfl) rfl Try.underlying61 rfl (by kernel_rfl) rfl Taken.no) ?_
    refine SL.memS (O.alloc (z := .agg #[.int .i64 0, .int .i64 0, .int .i64 0]) (is := [.u (.sc (.int .i64 0)), .u (.sc (.int .i64 0)), .u (.sc (.int .i64 0))]) 103 (by kernel_rfl) rfl rfl rfl Taken.no) rfl rfl (S' := (103, _) :: _) rfl ?_
    refine SL.an rfl rfl ?_
    refine SL.effS (O.st_ref (m := 3) rfl rfl rfl (js := [_, _, _]) rfl rfl (by kernel_rfl) (by simp) (Nat.le_of_ble_eq_true rfl) rfl (is' := [_, _, _]) rfl Taken.no) (S' := (103, _) :: _) rfl ?_
    refine E.fo (W.seq (W.rg ?_))
    refine SL.val (O.ld1 (PtI.ref rfl rfl) rfl Try.underlying82 rfl rfl Taken.no) ?_
    refine SL.val (O.fld_ref (o' := 0) rfl Try.underlying61 rfl (m := 0) (by kernel_rfl) rfl rfl Taken.no) ?_
    refine SL.val (O.ld1 (PtI.ref rfl rfl) rfl Try.underlying3 rfl rfl Taken.no) ?_
    refine SL.memS (O.call (rn []) [101] rfl rfl rfl (formed1_h (N := N) (ps := ps) (rs := rs)) (.cons (ArgOk.same rfl) (.cons (ArgOk.ref rfl rfl rfl) .nil)) SubS.nil rfl rfl rfl rfl rfl (.inr ⟨rfl, fun x hx => by simp at hx⟩) hcallOk79 (r' := .u _) rfl rfl Taken.no) rfl rfl (S' := _) rfl ?_
    refine SL.val (O.det (fun _ => G.R.not rfl) rfl Taken.no) ?_
    refine SL.mv rfl rfl ?_
    refine SL.case (j := 5) (g := 34) (want := false) rfl rfl (fun hg5 => ?_) (fun hg5 => ?_)
    ·skip
     first | have hg5p := G.gA3 hg5 | have hg5p := G.gA4 hg5 | have hg5p := hg5
     refine SL.val (O.ld1 (PtI.ref rfl rfl) rfl Try.underlying82 rfl rfl (Taken.yes rfl rfl hg5)) ?_
     refine SL.val (O.fld_ref (o' := 1) rfl Try.underlying61 rfl (m := 0) (by kernel_rfl) rfl rfl (Taken.yes rfl rfl hg5)) ?_
     refine SL.val (O.ld1 (PtI.ref rfl rfl) rfl Try.underlying3 rfl rfl (Taken.yes rfl rfl hg5)) ?_
     refine SL.memS (O.call (rn []) [101] rfl rfl rfl (formed1_h (N := N) (ps := ps) (rs := rs)) (.cons (ArgOk.same rfl) (.cons (ArgOk.ref rfl rfl rfl) .nil)) SubS.nil rfl rfl rfl rfl rfl (.inr ⟨rfl, fun x hx => by simp at hx⟩) hcallOk79 (r' := .u _) rfl rfl (Taken.yes rfl rfl hg5)) rfl rfl (S' := _) rfl ?_
     refine SL.val (O.det (fun _ => G.R.not rfl) rfl (Taken.yes rfl rfl hg5)) ?_
     refine SL.val (O.pick_f rfl hg5 rfl rfl Taken.no) ?_
     refine SL.mv rfl rfl ?_
     refine SL.case (j := 12) (g := 41) (want := false) rfl rfl (fun hg6 => ?_) (fun hg6 => ?_)
     ·skip
      first | have hg6p := G.gA3 hg6 | have hg6p := G.gA4 hg6 | have hg6p := hg6
      refine SL.val (O.fld_ref (o' := 0) rfl Try.underlying61 rfl (m := 0) (by kernel_rfl) rfl rfl (Taken.yes rfl rfl hg6)) ?_
      refine SL.val (O.ld1 (PtI.ref rfl rfl) rfl Try.underlying3 rfl rfl (Taken.yes rfl rfl hg6)) ?_
      refine SL.val (O.fld_ref (o' := 1) rfl Try.underlying61 rfl (m := 0) (by kernel_rfl) rfl rfl (Taken.yes rfl rfl hg6)) ?_
      refine SL.val (O.ld1 (PtI.ref rfl rfl) rfl Try.underlying3 rfl rfl (Taken.yes rfl rfl hg6)) ?_
      refine SL.val (O.det (fun _ => G.R.geq rfl rfl) rfl (Taken.yes rfl rfl hg6)) ?_
      refine SL.val (O.pick_f rfl hg6 rfl rfl Taken.no) ?_
      refine SL.mv rfl rfl ?_
      refine SL.case (j := 19) (g := 48) (want := false) rfl rfl (fun hg7 => ?_) (fun hg7 => ?_)
      ·skip
       first | have hg7p := G.gA3 hg7 | have hg7p := G.gA4 hg7 | have hg7p := hg7
       refine SL.val (O.fld_ref (o' := 2) rfl Try.underlying61 rfl (m := 0) (by kernel_rfl) rfl rfl (Taken.yes rfl rfl hg7)) ?_
       refine SL.val (O.ld1 (PtI.ref rfl rfl) rfl Try.underlying3 rfl rfl (Taken.yes rfl rfl hg7)) ?_
       refine SL.val (O.det (fun _ => G.R.lss rfl rfl) rfl (Taken.yes rfl rfl hg7)) ?_
       refine SL.val (O.pick_f rfl hg7 rfl rfl Taken.no) ?_
       refine SL.mv rfl rfl ?_
       refine SL.case (j := 24) (g := 53) (want := false) rfl rfl (fun hg8 => ?_) (fun hg8 => ?_)
       ·skip
        first | have hg8p := G.gA3 hg8 | have hg8p := G.gA4 hg8 | have hg8p := hg8
        refine SL.val (O.fld_ref (o' := 2) rfl Try.underlying61 rfl (m := 0) (by kernel_rfl) rfl rfl (Taken.yes rfl rfl hg8)) ?_
        refine SL.val (O.ld1 (PtI.ref rfl rfl) rfl Try.underlying3 rfl rfl (Taken.yes rfl rfl hg8)) ?_
        refine SL.val (O.det (fun _ => G.R.gtr rfl rfl) rfl (Taken.yes rfl rfl hg8)) ?_
        refine SL.val (O.pick_f rfl hg8 rfl rfl Taken.no) ?_
        refine E.fo ?_
        refine W.pick (K:=[(1,_),(3,_),(4,_),(5,_),(22,_),(23,_),(24,_),(57,_)]) (Z:=[(101,_),(102,_),(103,_)]) ⟨rfl,rfl,rfl,rfl,rfl,rfl,rfl,rfl,trivial⟩ ⟨rfl,rfl,rfl,trivial⟩ ?_
        first | refine W.cond_d rfl (fun hc9 => ?_) (fun hc9 => ?_) | refine W.cond_nd rfl (fun hc9 => ?_) (fun hc9 => ?_) | refine W.cond rfl (fun hc9 => ?_) (fun hc9 => ?_)
        ·skip
         refine W.rg (SL.an rfl rfl (E.fo (W.ret (E.thr ?_))))
         refine E.inr ?_
         refine E.thr (E.thr ?_)
         refine E.inr ?_
         refine E.thr ?_
         refine E.fin (rs := [_]) (rn []) (.inl rfl) rfl (.cons (ResOne.tmp rfl) .nil) ?_ ?_ rfl (fixL_spec rfl)
         ·skip
          exact iv_bool (dec_f (formed_no (p := (Prob.mk N ps rs)) (i := k) (show k < ps.length by omega) (fun q : prOk N ps[k]! => by unfold prOk at q; omega)))
         · exact SubS.nil
        have hpk : prOk N ps[k]! := by unfold prOk; omega
        refine W.skip (E.to (W.seq ?_))
        refine W.draw [⟨[], [], [], []⟩, ⟨[], [], [], []⟩, ⟨[], [], [], []⟩, ⟨[], [], [], [103]⟩, ⟨[103], [], [], []⟩, ⟨[], [], [], [101]⟩, ⟨[101], [], [], []⟩, ⟨[], [], [], []⟩, ⟨[], [], [], []⟩, ⟨[], [], [], []⟩, ⟨[], [], [], []⟩, ⟨[], [], [], []⟩, ⟨[], [], [], []⟩, ⟨[], [], [], []⟩, ⟨[], [], [], [103]⟩, ⟨[103], [], [], []⟩, ⟨[], [], [], [101]⟩, ⟨[101], [], [], []⟩, ⟨[], [], [], []⟩, ⟨[], [], [], []⟩, ⟨[], [], [], []⟩, ⟨[], [], [], []⟩, ⟨[], [], [], []⟩, ⟨[], [], [], []⟩, ⟨[], [], [], []⟩, ⟨[], [], [], [103]⟩, ⟨[103], [], [], []⟩, ⟨[], [], [], [101]⟩, ⟨[101], [], [], []⟩, ⟨[], [], [], []⟩, ⟨[], [], [], []⟩, ⟨[], [], [], []⟩, ⟨[], [], [], []⟩, ⟨[], [], [], []⟩, ⟨[], [], [], []⟩, ⟨[], [], [], []⟩, ⟨[], [], [], []⟩, ⟨[], [], [], []⟩] rfl (by kernel_rfl) (by kernel_rfl) rfl rfl ?_
        refine WH.mv rfl rfl rfl ?_
        refine WH.val (O.det (fun _ => G.R.gtr rfl rfl) rfl Taken.no) rfl rfl ?_
        refine WH.mv rfl rfl rfl ?_
        refine WH.case (j := 2) (g := 60) (want := true) rfl rfl (fun hg10 => ?_) (fun hg10 => ?_)
        ·skip
         first | have hg10p := G.gA1 hg10 | have hg10p := G.gA2 hg10 | have hg10p := hg10
         refine WH.val (O.fld_ref (o' := 0) rfl Try.underlying61 rfl (m := 0) (by kernel_rfl) rfl rfl (Taken.yes rfl rfl hg10)) rfl rfl ?_
         refine WH.val (O.ld1 (PtI.ref rfl rfl) rfl Try.underlying3 rfl rfl (Taken.yes rfl rfl hg10)) rfl rfl ?_
         refine WH.val (O.fld_ref (o' := 1) rfl Try.underlying30 rfl (m := 0) (by kernel_rfl) rfl rfl (Taken.yes rfl rfl hg10)) rfl rfl ?_
         refine WH.val (O.ld1 (PtI.ref rfl rfl) rfl Try.underlying28 rfl rfl (Taken.yes rfl rfl hg10)) rfl rfl ?_
         refine WH.val (O.move rfl rfl (Taken.yes rfl rfl hg10)) rfl rfl ?_
         refine WH.val (O.det (fun _ => by first | exact G.R.sub64 rfl rfl (by omega) | exact G.R.sub rfl rfl) rfl (Taken.yes rfl rfl hg10)) rfl rfl ?_
         refine WH.val (O.idx_fz (i := (k - 1)) rfl rfl (by omega) (row_get (by omega)) Try.underlying28 hi61 hs61 rfl (Taken.yes rfl rfl hg10)) rfl rfl ?_
         refine WH.val (O.fld_fz rfl Try.underlying61 rfl (m := 0) (by kernel_rfl) rfl rfl (Taken.yes rfl rfl hg10)) rfl rfl ?_
         refine WH.val (O.ld1 (PtI.ofU (PtU.fz rfl)) rfl Try.underlying3 rfl rfl (Taken.yes rfl rfl hg10)) rfl rfl ?_
         refine WH.val (O.det (fun _ => G.R.lss rfl rfl) rfl (Taken.yes rfl rfl hg10)) rfl rfl ?_
         refine WH.val (O.move rfl rfl (Taken.yes rfl rfl hg10)) rfl rfl ?_
         refine WH.case (j := 13) (g := 71) (want := false) rfl rfl (fun hg11 => ?_) (fun hg11 => ?_)
         ·skip
          first | have hg11p := G.gA3 hg11 | have hg11p := G.gA4 hg11 | have hg11p := hg11
          refine WH.val (O.fld_ref (o' := 0) rfl Try.underlying61 rfl (m := 0) (by kernel_rfl) rfl rfl (Taken.yes rfl rfl hg11)) rfl rfl ?_
          refine WH.val (O.ld1 (PtI.ref rfl rfl) rfl Try.underlying3 rfl rfl (Taken.yes rfl rfl hg11)) rfl rfl ?_
          refine WH.val (O.fld_ref (o' := 1) rfl Try.underlying30 rfl (m := 0) (by kernel_rfl) rfl rfl (Taken.yes rfl rfl hg11)) rfl rfl ?_
          refine WH.val (O.ld1 (PtI.ref rfl rfl) rfl Try.underlying28 rfl rfl (Taken.yes rfl rfl hg11)) rfl rfl ?_
          refine WH.val (O.move rfl rfl (Taken.yes rfl rfl hg11)) rfl rfl ?_
          refine WH.val (O.det (fun _ => by first | exact G.R.sub64 rfl rfl (by omega) | exact G.R.sub rfl rfl) rfl (Taken.yes rfl rfl hg11)) rfl rfl ?_
          refine WH.val (O.idx_fz (i := (k - 1)) rfl rfl (by omega) (row_get (by omega)) Try.underlying28 hi61 hs61 rfl (Taken.yes rfl rfl hg11)) rfl rfl ?_
          refine WH.val (O.fld_fz rfl Try.underlying61 rfl (m := 0) (by kernel_rfl) rfl rfl (Taken.yes rfl rfl hg11)) rfl rfl ?_
          refine WH.val (O.ld1 (PtI.ofU (PtU.fz rfl)) rfl Try.underlying3 rfl rfl (Taken.yes rfl rfl hg11)) rfl rfl ?_
          refine WH.val (O.det (fun _ => G.R.eql rfl rfl) rfl (Taken.yes rfl rfl hg11)) rfl rfl ?_
          refine WH.val (O.move rfl rfl (Taken.yes rfl rfl hg11)) rfl rfl ?_
          refine WH.case (j := 24) (g := 82) (want := true) rfl rfl (fun hg12 => ?_) (fun hg12 => ?_)
          ·skip
           first | have hg12p := G.gA1 hg12 | have hg12p := G.gA2 hg12 | have hg12p := hg12
           refine WH.val (O.fld_ref (o' := 1) rfl Try.underlying61 rfl (m := 0) (by kernel_rfl) rfl rfl (Taken.yes rfl rfl hg12)) rfl rfl ?_
           refine WH.val (O.ld1 (PtI.ref rfl rfl) rfl Try.underlying3 rfl rfl (Taken.yes rfl rfl hg12)) rfl rfl ?_
           refine WH.val (O.fld_ref (o' := 1) rfl Try.underlying30 rfl (m := 0) (by kernel_rfl) rfl rfl (Taken.yes rfl rfl hg12)) rfl rfl ?_
           refine WH.val (O.ld1 (PtI.ref rfl rfl) rfl Try.underlying28 rfl rfl (Taken.yes rfl rfl hg12)) rfl rfl ?_
           refine WH.val (O.move rfl rfl (Taken.yes rfl rfl hg12)) rfl rfl ?_
           refine WH.val (O.det (fun _ => by first | exact G.R.sub64 rfl rfl (by omega) | exact G.R.sub rfl rfl) rfl (Taken.yes rfl rfl hg12)) rfl rfl ?_
           refine WH.val (O.idx_fz (i := (k - 1)) rfl rfl (by omega) (row_get (by omega)) Try.underlying28 hi61 hs61 rfl (Taken.yes rfl rfl hg12)) rfl rfl ?_
           refine WH.val (O.fld_fz rfl Try.underlying61 rfl (m := 0) (by kernel_rfl) rfl rfl (Taken.yes rfl rfl hg12)) rfl rfl ?_
           refine WH.val (O.ld1 (PtI.ofU (PtU.fz rfl)) rfl Try.underlying3 rfl rfl (Taken.yes rfl rfl hg12)) rfl rfl ?_
           refine WH.val (O.det (fun _ => G.R.leq rfl rfl) rfl (Taken.yes rfl rfl hg12)) rfl rfl ?_
           refine WH.val (O.pick_t rfl hg12 rfl rfl (Taken.yes rfl rfl hg11)) rfl rfl ?_
           refine WH.val (O.pick_f rfl hg11 rfl rfl (Taken.yes rfl rfl hg10)) rfl rfl ?_
           refine WH.val (O.pick_t rfl hg10 rfl rfl Taken.no) rfl rfl ?_
           refine WH.nil (E.to ?_)
           refine W.pick (K:=[(1,_),(3,_),(22,_),(23,_),(24,_),(95,_)]) (Z:=[(101,_),(102,_),(103,_)]) ⟨rfl,rfl,rfl,rfl,rfl,rfl,trivial⟩ ⟨rfl,rfl,rfl,trivial⟩ ?_
           first | refine W.cond_d rfl (fun hc13 => ?_) (fun hc13 => ?_) | refine W.cond_nd rfl (fun hc13 => ?_) (fun hc13 => ?_) | refine W.cond rfl (fun hc13 => ?_) (fun hc13 => ?_)
           ·skip
            refine W.rg (SL.an rfl rfl (E.fo (W.ret ?_)))
            refine E.inr ?_
            refine E.thr (E.thr ?_)
            refine E.inr ?_
            refine E.thr ?_
            refine E.fin (rs := [_]) (rn []) (.inl rfl) rfl (.cons (ResOne.tmp rfl) .nil) ?_ ?_ rfl (fixL_spec rfl)
            ·skip
             exact iv_bool (dec_f (formed_na (p := (Prob.mk N ps rs)) (i := k) (show k < ps.length by omega) (by omega) (fun q : prAsc ps[k - 1]! ps[k]! => by unfold prAsc at q; omega)))
            · exact SubS.nil
           refine W.skip (E.inn (E.to (W.region ?_)))
           refine SL.val (O.det (fun _ => by first | exact G.R.add64 rfl rfl (by omega) | exact G.R.add rfl rfl) rfl Taken.no) ?_
           refine SL.mv rfl rfl (SL.nil ?_)
           refine E.again ((k + 1)) (rn []) ?_ ?_ rfl (fixL_spec rfl) ?_ ?_
           · exact (SubF.cons rfl (SubF.cons rfl (SubF.cons rfl (SubF.cons rfl (SubF.cons rfl SubF.nil)))))
           · exact (SubS.cons rfl (SubS.cons rfl SubS.nil))
           ·try dsimp only
            exact ⟨by omega, pOk_s hp hpk (fun h0 => by show prAsc ps[k - 1]! ps[k]!; unfold prAsc; omega)⟩
           · (try dsimp only); omega
          first | have hg12p := G.gA5 hg12 | have hg12p := G.gA6 hg12 | have hg12p := hg12
          refine WH.sk rfl rfl rfl hg12 (WH.sk rfl rfl rfl hg12 (WH.sk rfl rfl rfl hg12 (WH.sk rfl rfl rfl hg12 (WH.sk rfl rfl rfl hg12 (WH.sk rfl rfl rfl hg12 (WH.sk rfl rfl rfl hg12 (WH.sk rfl rfl rfl hg12 (WH.sk rfl rfl rfl hg12 (WH.sk rfl rfl rfl hg12 ?_)))))))))
          refine WH.val (O.pick_f rfl (G.ne_t hg12) rfl rfl (Taken.yes rfl rfl hg11)) rfl rfl ?_
          refine WH.val (O.pick_f rfl hg11 rfl rfl (Taken.yes rfl rfl hg10)) rfl rfl ?_
          refine WH.val (O.pick_t rfl hg10 rfl rfl Taken.no) rfl rfl ?_
          refine WH.nil (E.to ?_)
          refine W.pick (K:=[(1,_),(3,_),(22,_),(23,_),(24,_),(95,_)]) (Z:=[(101,_),(102,_),(103,_)]) ⟨rfl,rfl,rfl,rfl,rfl,rfl,trivial⟩ ⟨rfl,rfl,rfl,trivial⟩ ?_
          refine W.cond_f rfl ?_
          refine W.skip (E.inn (E.to (W.region ?_)))
          refine SL.val (O.det (fun _ => by first | exact G.R.add64 rfl rfl (by omega) | exact G.R.add rfl rfl) rfl Taken.no) ?_
          refine SL.mv rfl rfl (SL.nil ?_)
          refine E.again ((k + 1)) (rn []) ?_ ?_ rfl (fixL_spec rfl) ?_ ?_
          · exact (SubF.cons rfl (SubF.cons rfl (SubF.cons rfl (SubF.cons rfl (SubF.cons rfl SubF.nil)))))
          · exact (SubS.cons rfl (SubS.cons rfl SubS.nil))
          ·try dsimp only
           exact ⟨by omega, pOk_s hp hpk (fun h0 => by show prAsc ps[k - 1]! ps[k]!; unfold prAsc; omega)⟩
          · (try dsimp only); omega
         first | have hg11p := G.gA7 hg11 | have hg11p := G.gA8 hg11 | have hg11p := hg11
         refine WH.sk rfl rfl rfl hg11 (WH.sk rfl rfl rfl hg11 (WH.sk rfl rfl rfl hg11 (WH.sk rfl rfl rfl hg11 (WH.sk rfl rfl rfl hg11 (WH.sk rfl rfl rfl hg11 (WH.sk rfl rfl rfl hg11 (WH.sk rfl rfl rfl hg11 (WH.sk rfl rfl rfl hg11 (WH.sk rfl rfl rfl hg11 (WH.sk rfl rfl rfl hg11 ?_))))))))))
         refine WH.skip (OpOk.not2 rfl rfl rfl) ?_
         refine WH.skip (OpOk.not2 rfl rfl rfl) ?_
         refine WH.skip (OpOk.not2 rfl rfl rfl) ?_
         refine WH.skip (OpOk.not2 rfl rfl rfl) ?_
         refine WH.skip (OpOk.not2 rfl rfl rfl) ?_
         refine WH.skip (OpOk.not2 rfl rfl rfl) ?_
         refine WH.skip (OpOk.not2 rfl rfl rfl) ?_
         refine WH.skip (OpOk.not2 rfl rfl rfl) ?_
         refine WH.skip (OpOk.not2 rfl rfl rfl) ?_
         refine WH.skip (OpOk.not2 rfl rfl rfl) ?_
         refine WH.sk rfl rfl rfl hg11 ?_
         refine WH.val (O.pick_t rfl (G.ne_f hg11) rfl rfl (Taken.yes rfl rfl hg10)) rfl rfl ?_
         refine WH.val (O.pick_t rfl hg10 rfl rfl Taken.no) rfl rfl ?_
         refine WH.nil (E.to ?_)
         refine W.pick (K:=[(1,_),(3,_),(22,_),(23,_),(24,_),(95,_)]) (Z:=[(101,_),(102,_),(103,_)]) ⟨rfl,rfl,rfl,rfl,rfl,rfl,trivial⟩ ⟨rfl,rfl,rfl,trivial⟩ ?_
         refine W.cond_t rfl ?_
         refine W.rg (SL.an rfl rfl (E.fo (W.ret ?_)))
         refine E.inr ?_
         refine E.thr (E.thr ?_)
         refine E.inr ?_
         refine E.thr ?_
         refine E.fin (rs := [_]) (rn []) (.inl rfl) rfl (.cons (ResOne.tmp rfl) .nil) ?_ ?_ rfl (fixL_spec rfl)
         ·skip
          exact iv_bool (dec_f (formed_na (p := (Prob.mk N ps rs)) (i := k) (show k < ps.length by omega) (by omega) (fun q : prAsc ps[k - 1]! ps[k]! => by unfold prAsc at q; omega)))
         · exact SubS.nil
        first | have hg10p := G.gA5 hg10 | have hg10p := G.gA6 hg10 | have hg10p := hg10
        refine WH.sk rfl rfl rfl hg10 (WH.sk rfl rfl rfl hg10 (WH.sk rfl rfl rfl hg10 (WH.sk rfl rfl rfl hg10 (WH.sk rfl rfl rfl hg10 (WH.sk rfl rfl rfl hg10 (WH.sk rfl rfl rfl hg10 (WH.sk rfl rfl rfl hg10 (WH.sk rfl rfl rfl hg10 (WH.sk rfl rfl rfl hg10 (WH.sk rfl rfl rfl hg10 ?_))))))))))
        refine WH.skip (OpOk.not2 rfl rfl rfl) ?_
        refine WH.skip (OpOk.not2 rfl rfl rfl) ?_
        refine WH.skip (OpOk.not2 rfl rfl rfl) ?_
        refine WH.skip (OpOk.not2 rfl rfl rfl) ?_
        refine WH.skip (OpOk.not2 rfl rfl rfl) ?_
        refine WH.skip (OpOk.not2 rfl rfl rfl) ?_
        refine WH.skip (OpOk.not2 rfl rfl rfl) ?_
        refine WH.skip (OpOk.not2 rfl rfl rfl) ?_
        refine WH.skip (OpOk.not2 rfl rfl rfl) ?_
        refine WH.skip (OpOk.not2 rfl rfl rfl) ?_
        refine WH.skip (OpOk.not2 rfl rfl rfl) ?_
        refine WH.skip (OpOk.not2 rfl rfl rfl) ?_
        refine WH.skip (OpOk.not2 rfl rfl rfl) ?_
        refine WH.skip (OpOk.not2 rfl rfl rfl) ?_
        refine WH.skip (OpOk.not2 rfl rfl rfl) ?_
        refine WH.skip (OpOk.not2 rfl rfl rfl) ?_
        refine WH.skip (OpOk.not2 rfl rfl rfl) ?_
        refine WH.skip (OpOk.not2 rfl rfl rfl) ?_
        refine WH.skip (OpOk.not2 rfl rfl rfl) ?_
        refine WH.skip (OpOk.not2 rfl rfl rfl) ?_
        refine WH.skip (OpOk.not2 rfl rfl rfl) ?_
        refine WH.skip (OpOk.not2 rfl rfl rfl) ?_
        refine WH.sk rfl rfl rfl hg10 ?_
        refine WH.val (O.pick_f rfl (G.ne_t hg10) rfl rfl Taken.no) rfl rfl ?_
        refine WH.nil (E.to ?_)
        refine W.pick (K:=[(1,_),(3,_),(22,_),(23,_),(24,_),(95,_)]) (Z:=[(101,_),(102,_),(103,_)]) ⟨rfl,rfl,rfl,rfl,rfl,rfl,trivial⟩ ⟨rfl,rfl,rfl,trivial⟩ ?_
        refine W.cond_f rfl ?_
        refine W.skip (E.inn (E.to (W.region ?_)))
        refine SL.val (O.det (fun _ => by first | exact G.R.add64 rfl rfl (by omega) | exact G.R.add rfl rfl) rfl Taken.no) ?_
        refine SL.mv rfl rfl (SL.nil ?_)
        refine E.again ((k + 1)) (rn []) ?_ ?_ rfl (fixL_spec rfl) ?_ ?_
        · exact (SubF.cons rfl (SubF.cons rfl (SubF.cons rfl (SubF.cons rfl (SubF.cons rfl SubF.nil)))))
        · exact (SubS.cons rfl (SubS.cons rfl SubS.nil))
        ·try dsimp only
         exact ⟨by omega, pOk_s hp hpk (fun h0 => by show prAsc ps[k - 1]! ps[k]!; unfold prAsc; omega)⟩
        · (try dsimp only); omega
       first | have hg8p := G.gA7 hg8 | have hg8p := G.gA8 hg8 | have hg8p := hg8
       refine SL.sk rfl rfl rfl hg8 (SL.sk rfl rfl rfl hg8 (SL.sk rfl rfl rfl hg8 ?_))
       refine SL.val (O.pick_t rfl (G.ne_f hg8) rfl rfl Taken.no) ?_
       refine E.fo ?_
       refine W.pick (K:=[(1,_),(3,_),(4,_),(5,_),(22,_),(23,_),(24,_),(57,_)]) (Z:=[(101,_),(102,_),(103,_)]) ⟨rfl,rfl,rfl,rfl,rfl,rfl,rfl,rfl,trivial⟩ ⟨rfl,rfl,rfl,trivial⟩ ?_
       refine W.cond_t rfl ?_
       refine W.rg (SL.an rfl rfl (E.fo (W.ret (E.thr ?_))))
       refine E.inr ?_
       refine E.thr (E.thr ?_)
       refine E.inr ?_
       refine E.thr ?_
       refine E.fin (rs := [_]) (rn []) (.inl rfl) rfl (.cons (ResOne.tmp rfl) .nil) ?_ ?_ rfl (fixL_spec rfl)
       ·skip
        exact iv_bool (dec_f (formed_no (p := (Prob.mk N ps rs)) (i := k) (show k < ps.length by omega) (fun q : prOk N ps[k]! => by unfold prOk at q; omega)))
       · exact SubS.nil
      first | have hg7p := G.gA7 hg7 | have hg7p := G.gA8 hg7 | have hg7p := hg7
      refine SL.sk rfl rfl rfl hg7 (SL.sk rfl rfl rfl hg7 (SL.sk rfl rfl rfl hg7 ?_))
      refine SL.val (O.pick_t rfl (G.ne_f hg7) rfl rfl Taken.no) ?_
      refine SL.mv rfl rfl ?_
      have hg14 : true ≠ false := by decide
      refine SL.sk rfl rfl rfl hg14 (SL.sk rfl rfl rfl hg14 (SL.sk rfl rfl rfl hg14 ?_))
      refine SL.val (O.pick_t rfl rfl rfl rfl Taken.no) ?_
      refine E.fo ?_
      refine W.pick (K:=[(1,_),(3,_),(4,_),(5,_),(22,_),(23,_),(24,_),(57,_)]) (Z:=[(101,_),(102,_),(103,_)]) ⟨rfl,rfl,rfl,rfl,rfl,rfl,rfl,rfl,trivial⟩ ⟨rfl,rfl,rfl,trivial⟩ ?_
      refine W.cond_t rfl ?_
      refine W.rg (SL.an rfl rfl (E.fo (W.ret (E.thr ?_))))
      refine E.inr ?_
      refine E.thr (E.thr ?_)
      refine E.inr ?_
      refine E.thr ?_
      refine E.fin (rs := [_]) (rn []) (.inl rfl) rfl (.cons (ResOne.tmp rfl) .nil) ?_ ?_ rfl (fixL_spec rfl)
      ·skip
       exact iv_bool (dec_f (formed_no (p := (Prob.mk N ps rs)) (i := k) (show k < ps.length by omega) (fun q : prOk N ps[k]! => by unfold prOk at q; omega)))
      · exact SubS.nil
     first | have hg6p := G.gA7 hg6 | have hg6p := G.gA8 hg6 | have hg6p := hg6
     refine SL.sk rfl rfl rfl hg6 (SL.sk rfl rfl rfl hg6 (SL.sk rfl rfl rfl hg6 (SL.sk rfl rfl rfl hg6 (SL.sk rfl rfl rfl hg6 ?_))))
     refine SL.val (O.pick_t rfl (G.ne_f hg6) rfl rfl Taken.no) ?_
     refine SL.mv rfl rfl ?_
     have hg15 : true ≠ false := by decide
     refine SL.sk rfl rfl rfl hg15 (SL.sk rfl rfl rfl hg15 (SL.sk rfl rfl rfl hg15 ?_))
     refine SL.val (O.pick_t rfl rfl rfl rfl Taken.no) ?_
     refine SL.mv rfl rfl ?_
     have hg16 : true ≠ false := by decide
     refine SL.sk rfl rfl rfl hg16 (SL.sk rfl rfl rfl hg16 (SL.sk rfl rfl rfl hg16 ?_))
     refine SL.val (O.pick_t rfl rfl rfl rfl Taken.no) ?_
     refine E.fo ?_
     refine W.pick (K:=[(1,_),(3,_),(4,_),(5,_),(22,_),(23,_),(24,_),(57,_)]) (Z:=[(101,_),(102,_),(103,_)]) ⟨rfl,rfl,rfl,rfl,rfl,rfl,rfl,rfl,trivial⟩ ⟨rfl,rfl,rfl,trivial⟩ ?_
     refine W.cond_t rfl ?_
     refine W.rg (SL.an rfl rfl (E.fo (W.ret (E.thr ?_))))
     refine E.inr ?_
     refine E.thr (E.thr ?_)
     refine E.inr ?_
     refine E.thr ?_
     refine E.fin (rs := [_]) (rn []) (.inl rfl) rfl (.cons (ResOne.tmp rfl) .nil) ?_ ?_ rfl (fixL_spec rfl)
     ·skip
      exact iv_bool (dec_f (formed_no (p := (Prob.mk N ps rs)) (i := k) (show k < ps.length by omega) (fun q : prOk N ps[k]! => by unfold prOk at q; omega)))
     · exact SubS.nil
    first | have hg5p := G.gA7 hg5 | have hg5p := G.gA8 hg5 | have hg5p := hg5
    refine SL.sk rfl rfl rfl hg5 (SL.sk rfl rfl rfl hg5 (SL.sk rfl rfl rfl hg5 (SL.sk rfl rfl rfl hg5 (SL.sk rfl rfl rfl hg5 ?_))))
    refine SL.val (O.pick_t rfl (G.ne_f hg5) rfl rfl Taken.no) ?_
    refine SL.mv rfl rfl ?_
    have hg17 : true ≠ false := by decide
    refine SL.sk rfl rfl rfl hg17 (SL.sk rfl rfl rfl hg17 (SL.sk rfl rfl rfl hg17 (SL.sk rfl rfl rfl hg17 (SL.sk rfl rfl rfl hg17 ?_))))
    refine SL.val (O.pick_t rfl rfl rfl rfl Taken.no) ?_
    refine SL.mv rfl rfl ?_
    have hg18 : true ≠ false := by decide
    refine SL.sk rfl rfl rfl hg18 (SL.sk rfl rfl rfl hg18 (SL.sk rfl rfl rfl hg18 ?_))
    refine SL.val (O.pick_t rfl rfl rfl rfl Taken.no) ?_
    refine SL.mv rfl rfl ?_
    have hg19 : true ≠ false := by decide
    refine SL.sk rfl rfl rfl hg19 (SL.sk rfl rfl rfl hg19 (SL.sk rfl rfl rfl hg19 ?_))
    refine SL.val (O.pick_t rfl rfl rfl rfl Taken.no) ?_
    refine E.fo ?_
    refine W.pick (K:=[(1,_),(3,_),(4,_),(5,_),(22,_),(23,_),(24,_),(57,_)]) (Z:=[(101,_),(102,_),(103,_)]) ⟨rfl,rfl,rfl,rfl,rfl,rfl,rfl,rfl,trivial⟩ ⟨rfl,rfl,rfl,trivial⟩ ?_
    refine W.cond_t rfl ?_
    refine W.rg (SL.an rfl rfl (E.fo (W.ret (E.thr ?_))))
    refine E.inr ?_
    refine E.thr (E.thr ?_)
    refine E.inr ?_
    refine E.thr ?_
    refine E.fin (rs := [_]) (rn []) (.inl rfl) rfl (.cons (ResOne.tmp rfl) .nil) ?_ ?_ rfl (fixL_spec rfl)
    ·skip
     exact iv_bool (dec_f (formed_no (p := (Prob.mk N ps rs)) (i := k) (show k < ps.length by omega) (fun q : prOk N ps[k]! => by unfold prOk at q; omega)))
    · exact SubS.nil
   refine W.exit (E.th (E.th (E.hit (E.to (W.rg ?_)))))
   refine SL.val (O.fld_ref (o' := 2) rfl Try.underlying30 rfl (m := 0) (by kernel_rfl) rfl rfl Taken.no) ?_
   refine SL.val (O.ld1 (PtI.ref rfl rfl) rfl Try.underlying23 rfl rfl Taken.no) ?_
   refine SL.val (O.makeFunc rfl rfl rfl Taken.no) ?_
   refine SL.memS (O.call (rn [(0, 102), (1, 101)]) [] rfl rfl rfl (containsFuncF (N := N) (ps := ps) (rs := rs) (q := rs)) (.cons (ArgOk.same rfl) (.cons (ArgOk.same rfl) .nil)) (SubS.cons rfl (SubS.cons rfl SubS.nil)) rfl rfl rfl rfl rfl (.inl rfl) hcallOk65 (r' := .u _) rfl rfl Taken.no) rfl rfl (S' := (102, .cells _ [_]) :: (101, .cells _ [.u _, .u _, .u _]) :: _) rfl ?_
   refine SL.val (O.det (fun _ => G.R.not rfl) rfl Taken.no) ?_
   refine SL.an rfl rfl (E.fo (W.ret ?_))
   refine E.fin (rs := [_]) (rn []) (.inl rfl) rfl (.cons (ResOne.tmp rfl) .nil) ?_ ?_ rfl (fixL_spec rfl)
   ·skip
    obtain rfl : k = ps.length := by omega
    refine iv_bool ?_
    rw [← decide_not]
    refine dec_iff ⟨fun q h => ?_, fun q => ⟨hN0, hN2, hr4, hp, fun i hi => Classical.byContradiction fun h => q (any_iff.1 ⟨rs[i]!, mem_at hi, decide_eq_true h⟩)⟩⟩
    obtain ⟨x, hx, e⟩ := any_iff.2 h
    obtain ⟨i, hi, rfl⟩ := List.getElem_of_mem hx
    have q4 : ruOk N rs[i]! := q.2.2.2.2 i hi
    rw [getElem!_pos _ i hi] at q4
    exact absurd q4 (of_decide_eq_true e)
   · exact SubS.nil
  first | have hg2p := G.gA7 hg2 | have hg2p := G.gA8 hg2 | have hg2p := hg2
  refine SL.sk rfl rfl rfl hg2 (SL.sk rfl rfl rfl hg2 (SL.sk rfl rfl rfl hg2 (SL.sk rfl rfl rfl hg2 ?_)))
  refine SL.val (O.pick_t rfl (G.ne_f hg2) rfl rfl Taken.no) ?_
  refine E.fo ?_
  refine W.cond_t rfl ?_
  refine W.rg (SL.an rfl rfl (E.fo (W.ret (E.thr ?_))))
  refine E.fin (rs := [_]) (rn []) (.inl rfl) rfl (.cons (ResOne.tmp rfl) .nil) ?_ ?_ rfl (fixL_spec rfl)
  ·skip
   exact iv_bool (dec_f fun q => by have q1 : 0 ≤ N := q.1; have q2 : N ≤ 200 := q.2.1; have q3 : rs.length ≤ 400 := q.2.2.1; omega)
  · exact SubS.nil
 first | have hg1p := G.gA7 hg1 | have hg1p := G.gA8 hg1 | have hg1p := hg1
 refine SL.sk rfl rfl rfl hg1 (SL.sk rfl rfl rfl hg1 (SL.sk rfl rfl rfl hg1 ?_))
 refine SL.val (O.pick_t rfl (G.ne_f hg1) rfl rfl Taken.no) ?_
 refine SL.mv rfl rfl ?_
 have hg20 : true ≠ false := by decide
 refine SL.sk rfl rfl rfl hg20 (SL.sk rfl rfl rfl hg20 (SL.sk rfl rfl rfl hg20 (SL.sk rfl rfl rfl hg20 ?_)))
 refine SL.val (O.pick_t rfl rfl rfl rfl Taken.no) ?_
 refine E.fo ?_
 refine W.cond_t rfl ?_
 refine W.rg (SL.an rfl rfl (E.fo (W.ret (E.thr ?_))))
 refine E.fin (rs := [_]) (rn []) (.inl rfl) rfl (.cons (ResOne.tmp rfl) .nil) ?_ ?_ rfl (fixL_spec rfl)
 ·skip
  exact iv_bool (dec_f fun q => by have q1 : 0 ≤ N := q.1; have q2 : N ≤ 200 := q.2.1; have q3 : rs.length ≤ 400 := q.2.2.1; omega)
 · exact SubS.nil

end Go.Proofs.Ytbkbeplddddgeaa
end
section
namespace Go.Proofs.Ytbkbeplddddgeaa
open Go Go.RowKit Go.H Go.D33

theorem hcallOk53 : G.callOk Try.prog 53 = true := by kernel_rfl
theorem hcallOk71 : G.callOk Try.prog 71 = true := by kernel_rfl
theorem hcallOk72 : G.callOk Try.prog 72 = true := by kernel_rfl
theorem hcallOk73 : G.callOk Try.prog 73 = true := by kernel_rfl
theorem hcallOk84 : G.callOk Try.prog 84 = true := by kernel_rfl

set_option maxRecDepth 8000 in
theorem contra1_h {m : List Nat} {x : Ru} (hx : 0 ≤ x.a ∧ x.a < (m.length : Int) ∧ 0 ≤ x.b ∧ x.b < (m.length : Int)) :
    Con Try.prog 84 [vA (eRu x), .u (.ptr [.sl 1 (m.map eN)])] [] (vB (clashR m x)) [] := by
 obtain ⟨i3, hi3, hz3, hs3, hb3⟩ := hinf3
 refine Con.enterL (n := 15) Try.func84 rfl rfl rfl (fun τ w ok vs hin => ?_)
 clear hin
 refine W.rg ?_
 refine SL.memS (O.box (is := [_, _, _]) 101 rfl rfl (by simp) rfl rfl Taken.no) rfl rfl (S' := (101, _) :: _) rfl ?_
 refine SL.an rfl rfl (E.fo (W.seq ?_))
 refine W.draw [⟨[], [], [], []⟩, ⟨[], [], [], [101]⟩, ⟨[101], [], [], []⟩, ⟨[], [], [], []⟩, ⟨[], [], [], []⟩, ⟨[], [], [], []⟩, ⟨[], [], [], [101]⟩, ⟨[101], [], [], []⟩, ⟨[], [], [], []⟩, ⟨[], [], [], []⟩, ⟨[], [], [], []⟩, ⟨[], [], [], []⟩] rfl (by kernel_rfl) (by kernel_rfl) rfl rfl ?_
 refine WH.val (O.ld1 (PtI.ofU (PtU.fz rfl)) rfl Try.underlying32 rfl rfl Taken.no) rfl rfl ?_
 refine WH.val (O.fld_ref (o' := 1) rfl Try.underlying51 rfl (m := 0) (by kernel_rfl) rfl rfl Taken.no) rfl rfl ?_
 refine WH.val (O.ld1 (PtI.ref rfl rfl) rfl Try.underlying3 rfl rfl Taken.no) rfl rfl ?_
 refine WH.val (O.idx_fz (i := x.a.toNat) rfl rfl (by omega) (row_get (by omega)) Try.underlying32 hi3 hs3 rfl Taken.no) rfl rfl ?_
 refine WH.val (O.ld1 (PtI.ofU (PtU.fz rfl)) rfl Try.underlying3 rfl rfl Taken.no) rfl rfl ?_
 refine WH.val (O.ld1 (PtI.ofU (PtU.fz rfl)) rfl Try.underlying32 rfl rfl Taken.no) rfl rfl ?_
 refine WH.val (O.fld_ref (o' := 2) rfl Try.underlying51 rfl (m := 0) (by kernel_rfl) rfl rfl Taken.no) rfl rfl ?_
 refine WH.val (O.ld1 (PtI.ref rfl rfl) rfl Try.underlying3 rfl rfl Taken.no) rfl rfl ?_
 refine WH.val (O.idx_fz (i := x.b.toNat) rfl rfl (by omega) (row_get (by omega)) Try.underlying32 hi3 hs3 rfl Taken.no) rfl rfl ?_
 refine WH.val (O.ld1 (PtI.ofU (PtU.fz rfl)) rfl Try.underlying3 rfl rfl Taken.no) rfl rfl ?_
 refine WH.val (O.det (fun _ => G.R.eql rfl rfl) rfl Taken.no) rfl rfl ?_
 refine WH.val (O.assign rfl rfl Taken.no) rfl rfl ?_
 refine WH.nil (E.to (W.ret ?_))
 refine E.fin (rs := [_]) (rn []) (.inl rfl) rfl (.cons (ResOne.tmp rfl) .nil) ?_ ?_ rfl (fixL_spec rfl)
 ·skip
  exact iv_bool (dec_iff (by omega))
 · exact SubS.nil

set_option maxRecDepth 8000 in
theorem contra_h {n : Nat} {wt : Nat → Nat → Int} {lk : Nat → Nat → Bool} {bar : List Ru} {atm : List Nat} {m : List Nat} (hb : ∀ x ∈ bar, 0 ≤ x.a ∧ x.a < (m.length : Int) ∧ 0 ≤ x.b ∧ x.b < (m.length : Int)) :
    Con Try.prog 73 [.u (.ptr [uI (n : Int), .sl 1 (gridU (gridF n fun i j => uI (wt i j))), .sl 1 (gridU (gridF n fun i j => uB (lk i j))), .sl 3 (bar.map eRu), .sl 1 (atm.map eN), .sl 1 ((List.range n).map eN)]), vL 1 (m.map eN)] [] (vB (clash bar m)) [] := by
 refine Con.enterL (n := 11) Try.func73 rfl rfl rfl (fun τ w ok vs hin => ?_)
 have hl1 := hin.len (i := 1) rfl
 try rw [List.length_map] at hl1
 clear hin
 refine W.rg ?_
 refine SL.memS (O.box (is := [_]) 101 rfl rfl (by simp) rfl rfl Taken.no) rfl rfl (S' := (101, _) :: _) rfl ?_
 refine SL.an rfl rfl (E.fo (W.rg (SL.mv rfl rfl ?_)))
 refine SL.val (O.nilCheck rfl rfl rfl Taken.no) ?_
 refine SL.val (O.fld_fz rfl Try.underlying90 rfl (m := 0) (by kernel_rfl) rfl rfl Taken.no) ?_
 refine SL.val (O.ld1 (PtI.ofU (PtU.fz rfl)) rfl Try.underlying23 rfl rfl Taken.no) ?_
 refine SL.val (O.makeFunc rfl rfl rfl Taken.no) ?_
 refine SL.memS (O.call (rn []) [101] rfl rfl rfl (containsFuncC (q := bar) (f := 84) (caps := [.ptr [.sl 1 (m.map eN)]]) (pr := clashR m) hcallOk84 (fun x hx => contra1_h (hb x hx))) (.cons (ArgOk.same rfl) (.cons (ArgOk.cloU .nil (.cons (ArgOk.ref rfl rfl rfl) .nil)) .nil)) SubS.nil rfl rfl rfl rfl rfl (.inr ⟨rfl, fun x hx => by simp at hx⟩) hcallOk65 (r' := .u _) rfl rfl Taken.no) rfl rfl (S' := _) rfl ?_
 refine SL.an rfl rfl (E.fo (W.ret ?_))
 refine E.fin (rs := [_]) (rn []) (.inl rfl) rfl (.cons (ResOne.tmp rfl) .nil) ?_ ?_ rfl (fixL_spec rfl)
 ·skip
  exact iv_bool any_any.symm
 · exact SubS.nil

set_option maxRecDepth 8000 in
theorem check_ok {n : Nat} {ps : List Pr} {rs : List Ru} (hok : (Prob.mk (n : Int) ps rs).ok) :
    Con Try.prog 53 [vA [uI (n : Int), .sl 3 (ps.map ePr), .sl 3 (rs.map eRu)]] [] (.tup [.u (.ptr [uI (n : Int), .sl 1 (gridU (gridF n fun i j => uI (wF ps i j))), .sl 1 (gridU (gridF n fun i j => uB (mF (lF ps) rs i j))), .sl 3 ((barL rs).map eRu), .sl 1 ((namedL n (partsL (mu rs) (List.range n))).map eN), .sl 1 ((List.range n).map eN)]), vI 0]) [] := by
 have hf := hok.1
 refine Con.enterL (n := 17) Try.func53 rfl rfl rfl (fun τ w ok vs hin => ?_)
 have hl0_1 := hin.lenA (i := 0) (j := 1) rfl rfl
 try rw [List.length_map] at hl0_1
 have hl0_2 := hin.lenA (i := 0) (j := 2) rfl rfl
 try rw [List.length_map] at hl0_2
 clear hin
 refine W.rg ?_
 refine SL.memS (O.box (is := [_, _, _]) 101 rfl rfl (by simp) rfl rfl Taken.no) rfl rfl (S' := (101, _) :: _) rfl ?_
 refine SL.an rfl rfl (SL.an rfl rfl (E.fo (W.seq (W.rg ?_))))
 refine SL.val (O.ldN (m := 3) (PtI.ref rfl rfl) (js := [_, _, _]) rfl (Nat.le_of_ble_eq_true rfl) Try.underlying30 rfl (by kernel_rfl) rfl Taken.no) ?_
 refine SL.val (O.callp rfl rfl rfl (formed_h (N := (n : Int)) (ps := ps) (rs := rs)) (.cons (ArgOk.aggU (.cons (ArgOk.same rfl) (.cons (ArgOk.same rfl) (.cons (ArgOk.same rfl) .nil)))) .nil) hcallOk71 rfl Taken.no) ?_
 refine SL.as (i' := vB true) 6 rfl (by exact iv_bool (dec_t hf)) ?_
 refine SL.val (O.det (fun _ => G.R.mv (G.R.not rfl) rfl) rfl Taken.no) ?_
 refine E.fo ?_
 refine W.cond_f rfl ?_
 refine W.skip (E.to (W.rg ?_))
 refine SL.val (O.ldN (m := 3) (PtI.ref rfl rfl) (js := [_, _, _]) rfl (Nat.le_of_ble_eq_true rfl) Try.underlying30 rfl (by kernel_rfl) rfl Taken.no) ?_
 refine SL.val (O.callp rfl rfl rfl (newField_h (n := n) (ps := ps) (rs := rs) hf) (.cons (ArgOk.aggU (.cons (ArgOk.same rfl) (.cons (ArgOk.same rfl) (.cons (ArgOk.same rfl) .nil)))) .nil) hcallOk72 rfl Taken.no) ?_
 refine SL.an rfl rfl (E.fo (W.seq (W.rg (SL.mv rfl rfl (SL.mv rfl rfl ?_)))))
 refine SL.val (O.nilCheck rfl rfl rfl Taken.no) ?_
 refine SL.val (O.fld_fz rfl Try.underlying90 rfl (m := 0) (by kernel_rfl) rfl rfl Taken.no) ?_
 refine SL.val (O.ld1 (PtI.ofU (PtU.fz rfl)) rfl Try.underlying32 rfl rfl Taken.no) ?_
 refine SL.val (O.callp rfl rfl rfl (contra_h (m := namedL n (partsL (mu rs) (List.range n))) (by rw [named_len]; exact bar_rng hf)) (.cons (ArgOk.same rfl) (.cons (ArgOk.same rfl) .nil)) hcallOk73 rfl Taken.no) ?_
 refine SL.as (i' := vB false) 15 rfl (by exact iv_bool hok.2) ?_
 refine E.fo ?_
 refine W.cond_f rfl ?_
 refine W.skip (E.to (W.rg (SL.mv rfl rfl (SL.an rfl rfl (SL.an rfl rfl (E.fo (W.ret ?_)))))))
 refine E.fin (rs := [_, _]) (rn []) (.inl rfl) rfl (.cons (ResOne.tmp rfl) (.cons (ResOne.tmp rfl) .nil)) ?_ ?_ rfl (fixL_spec rfl)
 ·skip
  rfl
 · exact SubS.nil

set_option maxRecDepth 8000 in
theorem check_bad {N : Int} {ps : List Pr} {rs : List Ru} (hok : ¬ (Prob.mk N ps rs).ok) :
    Con Try.prog 53 [vA [uI N, .sl 3 (ps.map ePr), .sl 3 (rs.map eRu)]] [] (.tup [.u (.sc (.pointer none)), vI (Prob.mk N ps rs).err]) [] := by
 refine Con.enterL (n := 17) Try.func53 rfl rfl rfl (fun τ w ok vs hin => ?_)
 have hl0_1 := hin.lenA (i := 0) (j := 1) rfl rfl
 try rw [List.length_map] at hl0_1
 have hl0_2 := hin.lenA (i := 0) (j := 2) rfl rfl
 try rw [List.length_map] at hl0_2
 clear hin
 refine W.rg ?_
 refine SL.memS (O.box (is := [_, _, _]) 101 rfl rfl (by simp) rfl rfl Taken.no) rfl rfl (S' := (101, _) :: _) rfl ?_
 refine SL.an rfl rfl (SL.an rfl rfl (E.fo (W.seq (W.rg ?_))))
 refine SL.val (O.ldN (m := 3) (PtI.ref rfl rfl) (js := [_, _, _]) rfl (Nat.le_of_ble_eq_true rfl) Try.underlying30 rfl (by kernel_rfl) rfl Taken.no) ?_
 refine SL.val (O.callp rfl rfl rfl (formed_h (N := N) (ps := ps) (rs := rs)) (.cons (ArgOk.aggU (.cons (ArgOk.same rfl) (.cons (ArgOk.same rfl) (.cons (ArgOk.same rfl) .nil)))) .nil) hcallOk71 rfl Taken.no) ?_
 refine SL.val (O.det (fun _ => G.R.not rfl) rfl Taken.no) ?_
 refine E.fo ?_
 first | refine W.cond_d rfl (fun hc1 => ?_) (fun hc1 => ?_) | refine W.cond_nd rfl (fun hc1 => ?_) (fun hc1 => ?_) | refine W.cond rfl (fun hc1 => ?_) (fun hc1 => ?_)
 ·skip
  refine W.rg (SL.an rfl rfl (SL.an rfl rfl (E.fo (W.ret (E.thr ?_)))))
  refine E.fin (rs := [_, _]) (rn []) (.inl rfl) rfl (.cons (ResOne.tmp rfl) (.cons (ResOne.tmp rfl) .nil)) ?_ ?_ rfl (fixL_spec rfl)
  ·skip
   rw [Prob.err_1 (by assumption)]; rfl
  · exact SubS.nil
 have hf : (Prob.mk N ps rs).formed := by assumption
 obtain ⟨n, rfl⟩ : ∃ n : Nat, N = (n : Int) := ⟨N.toNat, Prob.nat hf⟩
 refine W.skip (E.to (W.rg ?_))
 refine SL.val (O.ldN (m := 3) (PtI.ref rfl rfl) (js := [_, _, _]) rfl (Nat.le_of_ble_eq_true rfl) Try.underlying30 rfl (by kernel_rfl) rfl Taken.no) ?_
 refine SL.val (O.callp rfl rfl rfl (newField_h hf) (.cons (ArgOk.aggU (.cons (ArgOk.same rfl) (.cons (ArgOk.same rfl) (.cons (ArgOk.same rfl) .nil)))) .nil) hcallOk72 rfl Taken.no) ?_
 refine SL.an rfl rfl (E.fo (W.seq (W.rg (SL.mv rfl rfl (SL.mv rfl rfl ?_)))))
 refine SL.val (O.nilCheck rfl rfl rfl Taken.no) ?_
 refine SL.val (O.fld_fz rfl Try.underlying90 rfl (m := 0) (by kernel_rfl) rfl rfl Taken.no) ?_
 refine SL.val (O.ld1 (PtI.ofU (PtU.fz rfl)) rfl Try.underlying32 rfl rfl Taken.no) ?_
 refine SL.val (O.callp rfl rfl rfl (contra_h (m := namedL n (partsL (mu rs) (List.range n))) (by rw [named_len]; exact bar_rng hf)) (.cons (ArgOk.same rfl) (.cons (ArgOk.same rfl) .nil)) hcallOk73 rfl Taken.no) ?_
 refine SL.as (i' := vB true) 15 rfl (by exact iv_bool (by cases hb : (Prob.mk (n : Int) ps rs).bad with | true => exact hb | false => exact absurd ⟨hf, hb⟩ hok)) ?_
 refine E.fo ?_
 refine W.cond_t rfl ?_
 refine W.rg (SL.an rfl rfl (SL.an rfl rfl (E.fo (W.ret (E.thr ?_)))))
 refine E.fin (rs := [_, _]) (rn []) (.inl rfl) rfl (.cons (ResOne.tmp rfl) (.cons (ResOne.tmp rfl) .nil)) ?_ ?_ rfl (fixL_spec rfl)
 ·skip
  rw [Prob.err_13 hf (by cases hb : (Prob.mk (n : Int) ps rs).bad with | true => rfl | false => exact absurd ⟨hf, hb⟩ hok)]; rfl
 · exact SubS.nil

set_option maxRecDepth 8000 in
theorem valid_ok {n : Nat} {ps : List Pr} {rs : List Ru} (hok : (Prob.mk (n : Int) ps rs).ok) :
    Con Try.prog 50 [vA [uI (n : Int), .sl 3 (ps.map ePr), .sl 3 (rs.map eRu)]] [] (vI 0) [] := by
 have hf := hok.1
 have hn2 : (n : Int) ≤ 200 := hf.2.1
 refine Con.enterL (n := 11) Try.func50 rfl rfl rfl (fun τ w ok vs hin => ?_)
 have hl0_1 := hin.lenA (i := 0) (j := 1) rfl rfl
 try rw [List.length_map] at hl0_1
 have hl0_2 := hin.lenA (i := 0) (j := 2) rfl rfl
 try rw [List.length_map] at hl0_2
 clear hin
 refine W.rg ?_
 refine SL.memS (O.box (is := [_, _, _]) 101 rfl rfl (by simp) rfl rfl Taken.no) rfl rfl (S' := (101, _) :: _) rfl ?_
 refine SL.an rfl rfl (E.fo (W.rg ?_))
 refine SL.val (O.ldN (m := 3) (PtI.ref rfl rfl) (js := [_, _, _]) rfl (Nat.le_of_ble_eq_true rfl) Try.underlying30 rfl (by kernel_rfl) rfl Taken.no) ?_
 refine SL.memS (O.call (rn []) [] rfl rfl rfl (check_ok hok) (.cons (ArgOk.aggU (.cons (ArgOk.same rfl) (.cons (ArgOk.same rfl) (.cons (ArgOk.same rfl) .nil)))) .nil) SubS.nil rfl rfl rfl rfl rfl (.inl rfl) hcallOk53 (r' := .tup [.u _, .u _]) rfl rfl Taken.no) rfl rfl (S' := _) rfl ?_
 refine SL.mv rfl rfl ?_
 refine SL.val (O.extract rfl rfl rfl Taken.no) ?_
 refine SL.val (O.extract rfl rfl rfl Taken.no) ?_
 refine SL.an rfl rfl (SL.an rfl rfl (E.fo (W.rg (SL.mv rfl rfl (SL.an rfl rfl (E.fo (W.ret ?_)))))))
 refine E.fin (rs := [_]) (rn []) (.inl rfl) rfl (.cons (ResOne.tmp rfl) .nil) ?_ ?_ rfl (fixL_spec rfl)
 ·skip
  rfl
 · exact SubS.nil

set_option maxRecDepth 8000 in
theorem valid_bad {N : Int} {ps : List Pr} {rs : List Ru} (hok : ¬ (Prob.mk N ps rs).ok) :
    Con Try.prog 50 [vA [uI N, .sl 3 (ps.map ePr), .sl 3 (rs.map eRu)]] [] (vI (Prob.mk N ps rs).err) [] := by
 have he : (Prob.mk N ps rs).err ≠ 0 := fun q => hok (Prob.err_iff.1 q)
 refine Con.enterL (n := 11) Try.func50 rfl rfl rfl (fun τ w ok vs hin => ?_)
 have hl0_1 := hin.lenA (i := 0) (j := 1) rfl rfl
 try rw [List.length_map] at hl0_1
 have hl0_2 := hin.lenA (i := 0) (j := 2) rfl rfl
 try rw [List.length_map] at hl0_2
 clear hin
 refine W.rg ?_
 refine SL.memS (O.box (is := [_, _, _]) 101 rfl rfl (by simp) rfl rfl Taken.no) rfl rfl (S' := (101, _) :: _) rfl ?_
 refine SL.an rfl rfl (E.fo (W.rg ?_))
 refine SL.val (O.ldN (m := 3) (PtI.ref rfl rfl) (js := [_, _, _]) rfl (Nat.le_of_ble_eq_true rfl) Try.underlying30 rfl (by kernel_rfl) rfl Taken.no) ?_
 refine SL.memS (O.call (rn []) [] rfl rfl rfl (check_bad hok) (.cons (ArgOk.aggU (.cons (ArgOk.same rfl) (.cons (ArgOk.same rfl) (.cons (ArgOk.same rfl) .nil)))) .nil) SubS.nil rfl rfl rfl rfl rfl (.inl rfl) hcallOk53 (r' := .tup [.u _, .u _]) rfl rfl Taken.no) rfl rfl (S' := _) rfl ?_
 refine SL.mv rfl rfl ?_
 refine SL.val (O.extract rfl rfl rfl Taken.no) ?_
 refine SL.val (O.extract rfl rfl rfl Taken.no) ?_
 refine SL.an rfl rfl (SL.an rfl rfl (E.fo (W.rg (SL.mv rfl rfl (SL.an rfl rfl (E.fo (W.ret ?_)))))))
 refine E.fin (rs := [_]) (rn []) (.inl rfl) rfl (.cons (ResOne.tmp rfl) .nil) ?_ ?_ rfl (fixL_spec rfl)
 ·skip
  rfl
 · exact SubS.nil

theorem valid_h {N : Int} {ps : List Pr} {rs : List Ru} : Con Try.prog 50 [vA [uI N, .sl 3 (ps.map ePr), .sl 3 (rs.map eRu)]] [] (vI (Prob.mk N ps rs).err) [] := by
  by_cases h : (Prob.mk N ps rs).ok
  · obtain ⟨n, rfl⟩ : ∃ n : Nat, N = (n : Int) := ⟨N.toNat, Prob.nat h.1⟩
    rw [Prob.err_0 h]; exact valid_ok h
  · exact valid_bad h

set_option maxRecDepth 8000 in
theorem atoms_ok {n : Nat} {ps : List Pr} {rs : List Ru} (hok : (Prob.mk (n : Int) ps rs).ok) :
    Con Try.prog 64 [vA [uI (n : Int), .sl 3 (ps.map ePr), .sl 3 (rs.map eRu)]] [] (.tup [vL 1 ((namedL n (partsL (mu rs) (List.range n))).map eN), vI 0]) [] := by
 have hf := hok.1
 have hn2 : (n : Int) ≤ 200 := hf.2.1
 refine Con.enterL (n := 18) Try.func64 rfl rfl rfl (fun τ w ok vs hin => ?_)
 have hl0_1 := hin.lenA (i := 0) (j := 1) rfl rfl
 try rw [List.length_map] at hl0_1
 have hl0_2 := hin.lenA (i := 0) (j := 2) rfl rfl
 try rw [List.length_map] at hl0_2
 clear hin
 refine W.rg ?_
 refine SL.memS (O.box (is := [_, _, _]) 101 rfl rfl (by simp) rfl rfl Taken.no) rfl rfl (S' := (101, _) :: _) rfl ?_
 refine SL.an rfl rfl (SL.an rfl rfl (E.fo (W.rg ?_)))
 refine SL.val (O.ldN (m := 3) (PtI.ref rfl rfl) (js := [_, _, _]) rfl (Nat.le_of_ble_eq_true rfl) Try.underlying30 rfl (by kernel_rfl) rfl Taken.no) ?_
 refine SL.memS (O.call (rn []) [] rfl rfl rfl (check_ok hok) (.cons (ArgOk.aggU (.cons (ArgOk.same rfl) (.cons (ArgOk.same rfl) (.cons (ArgOk.same rfl) .nil)))) .nil) SubS.nil rfl rfl rfl rfl rfl (.inl rfl) hcallOk53 (r' := .tup [.u _, .u _]) rfl rfl Taken.no) rfl rfl (S' := _) rfl ?_
 refine SL.mv rfl rfl ?_
 refine SL.val (O.extract rfl rfl rfl Taken.no) ?_
 refine SL.val (O.extract rfl rfl rfl Taken.no) ?_
 refine SL.an rfl rfl (SL.an rfl rfl (E.fo (W.seq (W.rg (SL.mv rfl rfl ?_)))))
 refine SL.val (O.det (fun _ => G.R.mv (G.R.neq rfl rfl) (congrArg Value.bool (decide_eq_false (by decide)))) rfl Taken.no) ?_
 refine E.fo ?_
 refine W.cond_f rfl ?_
 refine W.skip (E.to (W.rg (SL.mv rfl rfl ?_)))
 refine SL.val (O.nilCheck rfl rfl rfl Taken.no) ?_
 refine SL.val (O.fld_fz rfl Try.underlying90 rfl (m := 0) (by kernel_rfl) rfl rfl Taken.no) ?_
 refine SL.val (O.ld1 (PtI.ofU (PtU.fz rfl)) rfl Try.underlying32 rfl rfl Taken.no) ?_
 refine SL.an rfl rfl (SL.an rfl rfl (E.fo (W.ret ?_)))
 refine E.fin (rs := [_, _]) (rn []) (.inl rfl) rfl (.cons (ResOne.tmp rfl) (.cons (ResOne.tmp rfl) .nil)) ?_ ?_ rfl (fixL_spec rfl)
 ·skip
  rfl
 · exact SubS.nil


set_option maxRecDepth 8000 in
theorem partition_h {n : Nat} {wt : Nat → Nat → Int} {lk : Nat → Nat → Bool} {bar : List Ru} {atm : List Nat} {l : List Int} :
    Con Try.prog 56 [.u (.ptr [uI (n : Int), .sl 1 (gridU (gridF n fun i j => uI (wt i j))), .sl 1 (gridU (gridF n fun i j => uB (lk i j))), .sl 3 (bar.map eRu), .sl 1 (atm.map eN), .sl 1 ((List.range n).map eN)]), vL 1 (l.map eI)] [] (vB (decide (isPart n l))) [] := by
 obtain ⟨i3, hi3, hz3, hs3, hb3⟩ := hinf3
 refine Con.enterL (n := 37) Try.func56 rfl rfl rfl (fun τ w ok vs hin => ?_)
 have hl1 := hin.len (i := 1) rfl
 try rw [List.length_map] at hl1
 clear hin
 refine W.rg (SL.an rfl rfl (E.fo (W.seq (W.rg (SL.mv rfl rfl ?_)))))
 refine SL.val (O.lenE (SlOf.fz rfl (by decide)) (by first | exact List.length_map _ | rfl) Try.underlying32 rfl Taken.no) ?_
 refine SL.mv rfl rfl ?_
 refine SL.val (O.nilCheck rfl rfl rfl Taken.no) ?_
 refine SL.val (O.fld_fz rfl Try.underlying90 rfl (m := 0) (by kernel_rfl) rfl rfl Taken.no) ?_
 refine SL.val (O.ld1 (PtI.ofU (PtU.fz rfl)) rfl Try.underlying3 rfl rfl Taken.no) ?_
 refine SL.val (O.det (fun _ => G.R.neq rfl rfl) rfl Taken.no) ?_
 refine E.fo ?_
 first | refine W.cond_d rfl (fun hc1 => ?_) (fun hc1 => ?_) | refine W.cond_nd rfl (fun hc1 => ?_) (fun hc1 => ?_) | refine W.cond rfl (fun hc1 => ?_) (fun hc1 => ?_)
 ·skip
  refine W.rg (SL.an rfl rfl (E.fo (W.ret (E.thr ?_))))
  refine E.fin (rs := [_]) (rn []) (.inl rfl) rfl (.cons (ResOne.tmp rfl) .nil) ?_ ?_ rfl (fixL_spec rfl)
  ·skip
   exact iv_bool (dec_f fun q => by have := q.1; omega)
  · exact SubS.nil
 refine W.skip (E.to (W.seq (W.rg (SL.mv rfl rfl ?_))))
 refine SL.val (O.lenE (SlOf.fz rfl (by decide)) (by first | exact List.length_map _ | rfl) Try.underlying32 rfl Taken.no) ?_
 refine SL.mv rfl rfl (E.fo (W.block ?_))
 refine W.loopx1 (fun (k : Nat) => [(16, vI (k : Int))]) (fun (k : Nat) => []) (fun (k : Nat) => k ≤ l.length ∧ ∀ i, i < k → 0 ≤ l[i]! ∧ l[i]! ≤ (i : Int) ∧ l[(l[i]!).toNat]! = l[i]!) (fun (k : Nat) => l.length - k) (0) (rn []) (.cons (t := 1) rfl (.cons (t := 14) rfl (.cons (t := 15) rfl .nil))) .nil rfl ?_ ?_ rfl rfl ?_ ?_
 · exact (SubF.cons rfl SubF.nil)
 · exact SubS.nil
 ·skip
  exact ⟨by omega, fun i h => by omega⟩
 intro k hinv
 obtain ⟨hk, hp⟩ := hinv
 refine W.rg ?_
 refine SL.val (O.det (fun _ => G.R.lss rfl rfl) rfl Taken.no) ?_
 refine E.fo (W.seq ?_)
 first | refine W.cond_d rfl (fun hc2 => ?_) (fun hc2 => ?_) | refine W.cond_nd rfl (fun hc2 => ?_) (fun hc2 => ?_) | refine W.cond rfl (fun hc2 => ?_) (fun hc2 => ?_)
 ·skip
  refine W.skip (E.to (W.seq (W.block (W.rg (SL.mv rfl rfl ?_)))))
  refine SL.val (O.idx_fz rfl rfl (rfl) (row_get (by omega)) Try.underlying32 hi3 hs3 rfl Taken.no) ?_
  refine SL.val (O.ld1 (PtI.ofU (PtU.fz rfl)) rfl Try.underlying3 rfl rfl Taken.no) ?_
  refine SL.an rfl rfl (SL.an rfl rfl (E.fo (W.rg (SL.mv rfl rfl ?_))))
  refine SL.val (O.det (fun _ => G.R.lss rfl rfl) rfl Taken.no) ?_
  refine SL.mv rfl rfl ?_
  refine SL.case (j := 2) (g := 23) (want := false) rfl rfl (fun hg3 => ?_) (fun hg3 => ?_)
  ·skip
   first | have hg3p := G.gA3 hg3 | have hg3p := G.gA4 hg3 | have hg3p := hg3
   refine SL.val (O.move rfl rfl (Taken.yes rfl rfl hg3)) ?_
   refine SL.val (O.move rfl rfl (Taken.yes rfl rfl hg3)) ?_
   refine SL.val (O.det (fun _ => G.R.gtr rfl rfl) rfl (Taken.yes rfl rfl hg3)) ?_
   refine SL.val (O.pick_f rfl hg3 rfl rfl Taken.no) ?_
   refine SL.mv rfl rfl ?_
   refine SL.case (j := 7) (g := 28) (want := false) rfl rfl (fun hg4 => ?_) (fun hg4 => ?_)
   ·skip
    first | have hg4p := G.gA3 hg4 | have hg4p := G.gA4 hg4 | have hg4p := hg4
    refine SL.val (O.move rfl rfl (Taken.yes rfl rfl hg4)) ?_
    refine SL.val (O.move rfl rfl (Taken.yes rfl rfl hg4)) ?_
    refine SL.val (O.idx_fz (i := (l[k]!).toNat) rfl rfl (by omega) (row_get (by omega)) Try.underlying32 hi3 hs3 rfl (Taken.yes rfl rfl hg4)) ?_
    refine SL.val (O.ld1 (PtI.ofU (PtU.fz rfl)) rfl Try.underlying3 rfl rfl (Taken.yes rfl rfl hg4)) ?_
    refine SL.val (O.move rfl rfl (Taken.yes rfl rfl hg4)) ?_
    refine SL.val (O.det (fun _ => G.R.neq rfl rfl) rfl (Taken.yes rfl rfl hg4)) ?_
    refine SL.val (O.pick_f rfl hg4 rfl rfl Taken.no) ?_
    refine E.fo ?_
    refine W.pick (K:=[(1,_),(14,_),(15,_),(16,_),(35,_)]) (Z:=[]) ⟨rfl,rfl,rfl,rfl,rfl,trivial⟩ trivial ?_
    first | refine W.cond_d rfl (fun hc5 => ?_) (fun hc5 => ?_) | refine W.cond_nd rfl (fun hc5 => ?_) (fun hc5 => ?_) | refine W.cond rfl (fun hc5 => ?_) (fun hc5 => ?_)
    ·skip
     refine W.rg (SL.an rfl rfl (E.fo (W.ret ?_)))
     refine E.inr ?_
     refine E.thr (E.thr ?_)
     refine E.inr ?_
     refine E.thr ?_
     refine E.fin (rs := [_]) (rn []) (.inl rfl) rfl (.cons (ResOne.tmp rfl) .nil) ?_ ?_ rfl (fixL_spec rfl)
     ·skip
      exact iv_bool (dec_f fun q => by have q1 := q.2 k (by omega); omega)
     · exact SubS.nil
    refine W.skip (E.inn (E.to (W.region ?_)))
    refine SL.val (O.det (fun _ => by first | exact G.R.add64 rfl rfl (by omega) | exact G.R.add rfl rfl) rfl Taken.no) ?_
    refine SL.mv rfl rfl (SL.nil ?_)
    refine E.again ((k + 1)) (rn []) ?_ ?_ rfl (fixL_spec rfl) ?_ ?_
    · exact (SubF.cons rfl (SubF.cons rfl (SubF.cons rfl (SubF.cons rfl SubF.nil))))
    · exact SubS.nil
    ·try dsimp only
     exact ⟨by omega, fun j hj => by rcases Nat.lt_succ_iff_lt_or_eq.1 hj with h | h; exact hp j h; subst h; exact ⟨by omega, by omega, by omega⟩⟩
    · (try dsimp only); omega
   first | have hg4p := G.gA7 hg4 | have hg4p := G.gA8 hg4 | have hg4p := hg4
   refine SL.sk rfl rfl rfl hg4 (SL.sk rfl rfl rfl hg4 (SL.sk rfl rfl rfl hg4 (SL.sk rfl rfl rfl hg4 (SL.sk rfl rfl rfl hg4 (SL.sk rfl rfl rfl hg4 ?_)))))
   refine SL.val (O.pick_t rfl (G.ne_f hg4) rfl rfl Taken.no) ?_
   refine E.fo ?_
   refine W.pick (K:=[(1,_),(14,_),(15,_),(16,_),(35,_)]) (Z:=[]) ⟨rfl,rfl,rfl,rfl,rfl,trivial⟩ trivial ?_
   refine W.cond_t rfl ?_
   refine W.rg (SL.an rfl rfl (E.fo (W.ret ?_)))
   refine E.inr ?_
   refine E.thr (E.thr ?_)
   refine E.inr ?_
   refine E.thr ?_
   refine E.fin (rs := [_]) (rn []) (.inl rfl) rfl (.cons (ResOne.tmp rfl) .nil) ?_ ?_ rfl (fixL_spec rfl)
   ·skip
    exact iv_bool (dec_f fun q => by have q1 := q.2 k (by omega); omega)
   · exact SubS.nil
  first | have hg3p := G.gA7 hg3 | have hg3p := G.gA8 hg3 | have hg3p := hg3
  refine SL.sk rfl rfl rfl hg3 (SL.sk rfl rfl rfl hg3 (SL.sk rfl rfl rfl hg3 ?_))
  refine SL.val (O.pick_t rfl (G.ne_f hg3) rfl rfl Taken.no) ?_
  refine SL.mv rfl rfl ?_
  have hg6 : true ≠ false := by decide
  refine SL.sk rfl rfl rfl hg6 (SL.sk rfl rfl rfl hg6 (SL.sk rfl rfl rfl hg6 (SL.sk rfl rfl rfl hg6 (SL.sk rfl rfl rfl hg6 (SL.sk rfl rfl rfl hg6 ?_)))))
  refine SL.val (O.pick_t rfl rfl rfl rfl Taken.no) ?_
  refine E.fo ?_
  refine W.pick (K:=[(1,_),(14,_),(15,_),(16,_),(35,_)]) (Z:=[]) ⟨rfl,rfl,rfl,rfl,rfl,trivial⟩ trivial ?_
  refine W.cond_t rfl ?_
  refine W.rg (SL.an rfl rfl (E.fo (W.ret ?_)))
  refine E.inr ?_
  refine E.thr (E.thr ?_)
  refine E.inr ?_
  refine E.thr ?_
  refine E.fin (rs := [_]) (rn []) (.inl rfl) rfl (.cons (ResOne.tmp rfl) .nil) ?_ ?_ rfl (fixL_spec rfl)
  ·skip
   exact iv_bool (dec_f fun q => by have q1 := q.2 k (by omega); omega)
  · exact SubS.nil
 refine W.exit (E.th (E.th (E.hit (E.to (W.rg (SL.an rfl rfl (E.fo (W.ret ?_))))))))
 refine E.fin (rs := [_]) (rn []) (.inl rfl) rfl (.cons (ResOne.tmp rfl) .nil) ?_ ?_ rfl (fixL_spec rfl)
 ·skip
  exact iv_bool (dec_t ⟨by omega, fun i hi => hp i (by omega)⟩)
 · exact SubS.nil

set_option maxRecDepth 8000 in
theorem units_h {l : List Nat} {c : Nat} (hl : l.length ≤ 1000) :
    Con Try.prog 58 [vL 1 (l.map eN), vI (c : Int)] [] (.own 0) [(0, .data 3 1 ((unitsL l c).map eN))] := by
 obtain ⟨i3, hi3, hz3, hs3, hb3⟩ := hinf3
 refine Con.enterL (n := 24) Try.func58 rfl rfl rfl (fun τ w ok vs hin => ?_)
 have hl0 := hin.len (i := 0) rfl
 try rw [List.length_map] at hl0
 clear hin
 refine W.rg (SL.an rfl rfl (E.fo (W.rg (SL.an rfl rfl (E.fo (W.seq (W.rg (SL.mv rfl rfl ?_))))))))
 refine SL.val (O.lenE (SlOf.fz rfl (by decide)) (by first | exact List.length_map _ | rfl) Try.underlying32 rfl Taken.no) ?_
 refine SL.mv rfl rfl (E.fo (W.block ?_))
 refine W.adopt 5 102 3 1 (by decide) rfl rfl rfl ?_
 refine W.loopx1 (fun (k : Nat) => [(10, vI (k : Int)), (5, .own 101)]) (fun (k : Nat) => [(101, .data 3 1 (((List.range k).filter fun u => decide (l[u]! = c)).map eN))]) (fun (k : Nat) => k ≤ l.length) (fun (k : Nat) => l.length - k) (0) (rn [(101, 102)]) (.cons (t := 1) rfl (.cons (t := 4) rfl (.cons (t := 8) rfl (.cons (t := 9) rfl .nil)))) .nil rfl ?_ ?_ rfl rfl ?_ ?_
 · exact (SubF.cons rfl (SubF.cons rfl SubF.nil))
 · exact (SubS.cons rfl SubS.nil)
 ·skip
  omega
 intro k hinv
 have hk := hinv
 have hfl := List.length_filter_le (fun u => decide (l[u]! = c)) (List.range k)
 rw [List.length_range] at hfl
 refine W.rg ?_
 refine SL.val (O.det (fun _ => G.R.lss rfl rfl) rfl Taken.no) ?_
 refine E.fo (W.seq ?_)
 first | refine W.cond_d rfl (fun hc1 => ?_) (fun hc1 => ?_) | refine W.cond_nd rfl (fun hc1 => ?_) (fun hc1 => ?_) | refine W.cond rfl (fun hc1 => ?_) (fun hc1 => ?_)
 ·skip
  refine W.skip (E.to (W.seq (W.block (W.rg (SL.mv rfl rfl ?_)))))
  refine SL.val (O.idx_fz rfl rfl (rfl) (row_get (by omega)) Try.underlying32 hi3 hs3 rfl Taken.no) ?_
  refine SL.val (O.ld1 (PtI.ofU (PtU.fz rfl)) rfl Try.underlying3 rfl rfl Taken.no) ?_
  refine SL.an rfl rfl (SL.an rfl rfl (E.fo (W.rg (SL.mv rfl rfl (SL.mv rfl rfl ?_)))))
  refine SL.val (O.det (fun _ => G.R.eql rfl rfl) rfl Taken.no) ?_
  refine E.fo ?_
  first | refine W.cond_d rfl (fun hc2 => ?_) (fun hc2 => ?_) | refine W.cond_nd rfl (fun hc2 => ?_) (fun hc2 => ?_) | refine W.cond rfl (fun hc2 => ?_) (fun hc2 => ?_)
  ·skip
   refine W.region (SL.mv rfl rfl (SL.mv rfl rfl ?_))
   refine SL.memS (O.buildSlice 103 (rows := [k].map eN) rfl rfl Try.underlying32 hi3 hz3 hs3 (by decide) rfl (by decide) rfl rfl rfl Taken.no) rfl rfl (S' := (103, .data 3 1 ([k].map eN)) :: _) rfl ?_
   refine SL.memS (O.app (k' := 104) rfl rfl (SlOf.own rfl rfl) Try.underlying32 hi3 hz3 hs3 rfl rfl (by exact app_map) (by rw [hb3]; (simp only [List.length_map, List.length_singleton]; omega)) (by (simp only [List.length_map, List.length_singleton]; omega)) rfl Taken.no) rfl rfl (S' := (104, _) :: (101, .dead) :: _) rfl ?_
   refine SL.an rfl rfl (SL.nil (E.inn (E.to (W.region ?_))))
   refine SL.val (O.det (fun _ => by first | exact G.R.add64 rfl rfl (by omega) | exact G.R.add rfl rfl) rfl Taken.no) ?_
   refine SL.mv rfl rfl (SL.nil ?_)
   refine E.again ((k + 1)) (rn [(101, 104)]) ?_ ?_ rfl (fixL_spec rfl) ?_ ?_
   · exact (SubF.cons rfl (SubF.cons rfl (SubF.cons rfl (SubF.cons rfl (SubF.cons rfl (SubF.cons rfl SubF.nil))))))
   · exact (SubS.val rfl (by (try dsimp only); first | exact sb_data (by rw [units_y (show l[k]! = c by omega)]) | exact sb_data (by rw [units_n (show ¬ l[k]! = c by omega)])) SubS.nil)
   ·try dsimp only
    omega
   · (try dsimp only); omega
  refine W.skip (E.inn (E.to (W.region ?_)))
  refine SL.val (O.det (fun _ => by first | exact G.R.add64 rfl rfl (by omega) | exact G.R.add rfl rfl) rfl Taken.no) ?_
  refine SL.mv rfl rfl (SL.nil ?_)
  refine E.again ((k + 1)) (rn []) ?_ ?_ rfl (fixL_spec rfl) ?_ ?_
  · exact (SubF.cons rfl (SubF.cons rfl (SubF.cons rfl (SubF.cons rfl (SubF.cons rfl (SubF.cons rfl SubF.nil))))))
  · exact (SubS.val rfl (by (try dsimp only); first | exact sb_data (by rw [units_y (show l[k]! = c by omega)]) | exact sb_data (by rw [units_n (show ¬ l[k]! = c by omega)])) SubS.nil)
  ·try dsimp only
   omega
  · (try dsimp only); omega
 refine W.exit (E.th (E.th (E.hit (E.to (W.rg (SL.mv rfl rfl (SL.an rfl rfl (E.fo (W.ret ?_)))))))))
 refine E.fin (rs := [_]) (rn [(0, 101)]) (.inl rfl) rfl (.cons (ResOne.tmp rfl) .nil) ?_ ?_ rfl (fixL_spec rfl)
 ·skip
  rfl
 · exact (SubS.val rfl (by exact sb_data (by rw [unitsL, show k = l.length by omega])) SubS.nil)

end Go.Proofs.Ytbkbeplddddgeaa
end
