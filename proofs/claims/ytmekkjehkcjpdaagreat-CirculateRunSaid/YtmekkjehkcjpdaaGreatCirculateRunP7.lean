/-
  What the proof rests on: part 7 of 14.
-/
import Derived.Test.YtmekkjehkcjpdaaGreatCirculateRunP6
import Derived.Deep.Slices
section
namespace Go.H
open Go Go.RowKit Go.ChangeShapes Go.WideShapes Go.Deep

section
variable {H : Type} {henc : TypeId × Value → H} {P : Program} {w : World} {sp : Nat → Bool} {held : Bool}
abbrev okAll : Nat → Prop := fun _ => True
def Op {H : Type} (henc : TypeId × Value → H) (P : Program) (w : World) (sp : Nat → Bool) (held : Bool) (t : TypeId) {α : Type} (enc : α → List UV) (good : α → Prop) : Prop :=
  ∀ fuel cs x, DataW.trod henc P w 0 sp held fuel t cs = some x → ∃ a : α, good a ∧ AllU w okAll (enc a) cs ∧ ∀ u ∈ enc a, u.one = true
theorem allU_one {u : UV} {v : Value} (h : RepU w okAll u v) : AllU w okAll [u] [v] := ⟨rfl, fun i x y h1 h2 => by
  cases i with
  | zero => simp at h1 h2; subst h1; subst h2; exact h
  | succ i => simp at h1⟩
def eK (k : IntKind) (n : Int) : List UV := [.sc (.int k n)]
theorem Op.int {t : TypeId} {k : IntKind} (ht : P.underlying t = some (.int k)) : Op henc P w sp held t (eK k) (fun n => k.min ≤ n ∧ n ≤ k.max) := fun fuel cs x h => by
  obtain ⟨n, rfl, _, hw⟩ := DataW.trod_int ht h
  exact ⟨n, G.wf_in hw, allU_one (.sc _), fun u hu => by simp [eK] at hu; subst hu; rfl⟩
theorem Op.i64 {t : TypeId} (ht : P.underlying t = some (.int .i64)) : Op henc P w sp held t eI (fun n => -9223372036854775808 ≤ n ∧ n ≤ 9223372036854775807) := Op.int ht
theorem Op.str {t : TypeId} (ht : P.underlying t = some .string) : Op henc P w sp held t eS (fun s => s.size ≤ 9223372036854775807) := fun fuel cs x h => by
  obtain ⟨s, rfl, _, hw⟩ := DataW.trod_string ht h
  exact ⟨s, by simp only [maxLen] at hw; omega, allU_one (.sc _), fun u hu => by simp [eS] at hu; subst hu; rfl⟩
def eBool (b : Bool) : List UV := [.sc (.bool b)]
theorem Op.bool {t : TypeId} (ht : P.underlying t = some .bool) : Op henc P w sp held t eBool (fun _ => True) := fun fuel cs x h => by
  obtain ⟨s, rfl, _⟩ := DataW.trod_bool ht h
  exact ⟨s, trivial, allU_one (.sc _), fun u hu => by simp [eBool] at hu; subst hu; rfl⟩
theorem Op.map {t : TypeId} {α β : Type} {enc : α → List UV} {good : α → Prop} {enc' : β → List UV} {good' : β → Prop} (h : Op henc P w sp held t enc good) (f : α → β) (he : ∀ a, enc' (f a) = enc a) (hg : ∀ a, good a → good' (f a)) : Op henc P w sp held t enc' good' := fun fuel cs x h0 => by
  obtain ⟨a, h1, h2, h3⟩ := h fuel cs x h0
  exact ⟨f a, hg a h1, by rw [he]; exact h2, by rw [he]; exact h3⟩
def eSl {α : Type} (sz : Nat) (enc : α → List UV) (l : List α) : List UV := [.sl sz (l.map enc)]
theorem Op.slice {t e : TypeId} {sz : Nat} {α : Type} [Inhabited α] {enc : α → List UV} {good : α → Prop} (ht : P.underlying t = some (.slice e)) (hc : P.cellsOf e = sz) (hp : 0 < sz) (hl : ∀ a, (enc a).length = sz) (h : Op henc P w sp held e enc good) :
    Op henc P w sp held t (eSl sz enc) (fun l => (∀ a ∈ l, good a) ∧ l.length ≤ 9223372036854775807) := fun fuel cs x h0 => by
  rcases open_slice ht h0 with ⟨rfl, _⟩ | ⟨ad, len, cap, m, n, D, Pl, rfl, _, h1, h2, hm, _, hx⟩
  · exact ⟨[], ⟨fun a ha => (by cases ha), by simp⟩, allU_one (.sl0 (by simp [maxLen]) (fun _ => rfl)), fun u hu => by simp [eSl] at hu; subst hu; rfl⟩
  · have hlm : len ≤ m := by rw [hm]; split <;> omega
    rw [hc] at hx
    have key : ∀ i, i < len → ∃ (a : α) (cs' : List Value), good a ∧ AllU w okAll (enc a) cs' ∧ (∀ u ∈ enc a, u.one = true) ∧ ∀ j, j < sz → w.cell? ((ad.add (i * sz)).add j) = cs'[j]? := fun i hi => by
      obtain ⟨cs', q1, q2⟩ := hx i xA
      obtain ⟨a, q3, q4, q5⟩ := h _ _ _ q2
      exact ⟨a, cs', q3, q4, q5, (World.cells?_some q1).2.2⟩
    obtain ⟨A, hA⟩ : ∃ A : Nat → α, ∀ i, i < len → ∃ cs' : List Value, good (A i) ∧ AllU w okAll (enc (A i)) cs' ∧ (∀ u ∈ enc (A i), u.one = true) ∧ ∀ j, j < sz → w.cell? ((ad.add (i * sz)).add j) = cs'[j]? :=
      choose_lt (α := α) (p := fun i a => ∃ cs' : List Value, good a ∧ AllU w okAll (enc a) cs' ∧ (∀ u ∈ enc a, u.one = true) ∧ ∀ j, j < sz → w.cell? ((ad.add (i * sz)).add j) = cs'[j]?) key
    have hrows : ∀ r ∈ ((List.range len).map A).map enc, r.length = sz := fun r hr => by obtain ⟨a, _, rfl⟩ := List.mem_map.1 hr; exact hl a
    have hone : ∀ u ∈ (((List.range len).map A).map enc).flatten, u.one = true := fun u hu => by
      obtain ⟨r, hr, hu⟩ := List.mem_flatten.1 hu
      obtain ⟨a, ha, rfl⟩ := List.mem_map.1 hr
      obtain ⟨i, hi, rfl⟩ := List.mem_map.1 ha
      obtain ⟨_, _, _, q, _⟩ := hA i (List.mem_range.1 hi)
      exact q u hu
    have hgood : ∀ a ∈ (List.range len).map A, good a := fun a ha => by
      obtain ⟨i, hi, rfl⟩ := List.mem_map.1 ha
      obtain ⟨_, q, _⟩ := hA i (List.mem_range.1 hi)
      exact q
    refine ⟨(List.range len).map A, ⟨hgood, by simp only [maxLen] at h2; simp; omega⟩, ?_, fun u hu => by simp [eSl] at hu; subst hu; rfl⟩
    refine allU_one ?_
    by_cases h0 : len = 0
    · subst h0
      exact .sl0 h2 (fun e => by cases e)
    · have hfl : (((List.range len).map A).map enc).flatten.length = len * sz := by rw [flat_len hrows]; simp
      have hat : ∀ (j : Nat) (u : UV), (((List.range len).map A).map enc).flatten[j]? = some u → ∃ v, w.cell? (ad.add j) = some v ∧ RepU w okAll u v := fun j u hj => by
        have hjl : j < len * sz := by rw [← hfl]; exact (List.getElem?_eq_some_iff.1 hj).1
        have hq : j / sz < len := Nat.div_lt_of_lt_mul (by rw [Nat.mul_comm]; exact hjl)
        have hr : j % sz < sz := Nat.mod_lt _ hp
        obtain ⟨cs', _, q2, _, q4⟩ := hA (j / sz) hq
        have hel : j % sz < (enc (A (j / sz))).length := by rw [hl]; exact hr
        have hrow : (((List.range len).map A).map enc)[j / sz]? = some (enc (A (j / sz))) := by simp [hq]
        have hfg := flatten_get hrows hrow (List.getElem?_eq_getElem hel)
        have ej : j / sz * sz + j % sz = j := by rw [Nat.mul_comm]; exact Nat.div_add_mod j sz
        rw [ej, hj] at hfg
        have hcl : j % sz < cs'.length := by rw [← q2.1]; exact hel
        have hc := q4 (j % sz) hr
        rw [G.add_add, ej, List.getElem?_eq_getElem hcl] at hc
        refine ⟨_, hc, ?_⟩
        rw [Option.some.inj hfg]
        exact q2.2 _ _ _ (List.getElem?_eq_getElem hel) (List.getElem?_eq_getElem hcl)
      have hb : ad.block < w.heap.size := by
        have h00 : 0 < (((List.range len).map A).map enc).flatten.length := by rw [hfl]; exact Nat.mul_pos xA hp
        obtain ⟨v, q, _⟩ := hat 0 _ (List.getElem?_eq_getElem h00)
        have := World.block_lt_of_cell? w _ q
        rwa [G.block_add] at this
      obtain ⟨V, hV⟩ : ∃ V : Nat → Value, ∀ j, j < len * sz → ∀ u, (((List.range len).map A).map enc).flatten[j]? = some u → w.cell? (ad.add j) = some (V j) ∧ RepU w okAll u (V j) :=
        choose_lt (α := Value) (p := fun j v => ∀ u, (((List.range len).map A).map enc).flatten[j]? = some u → w.cell? (ad.add j) = some v ∧ RepU w okAll u v) (fun j hj => by
          have hjl : j < (((List.range len).map A).map enc).flatten.length := by rw [hfl]; exact hj
          obtain ⟨v, q1, q2⟩ := hat j _ (List.getElem?_eq_getElem hjl)
          exact ⟨v, fun u hu => by rw [List.getElem?_eq_getElem hjl] at hu; cases hu; exact ⟨q1, q2⟩⟩)
      have hlt : ∀ {j : Nat} {u : UV}, (((List.range len).map A).map enc).flatten[j]? = some u → j < len * sz := fun {j u} hj => by rw [← hfl]; exact (List.getElem?_eq_some_iff.1 hj).1
      have := RepU.sl (w := w) (ok := okAll) (sz := sz) (rows := ((List.range len).map A).map enc) (a := ad) (c := cap) (cv := V) zB (by simpa using h1) h2 hrows hp hone hb trivial (fun j u hj => (hV j (hlt hj) u hj).1) (fun j u hj => (hV j (hlt hj) u hj).2)
      simpa using this
theorem AllU.app2 {us1 us2 : List UV} {cs : List Value} {k : Nat} (h1 : AllU w okAll us1 (cs.take k)) (h2 : AllU w okAll us2 (cs.drop k)) : AllU w okAll (us1 ++ us2) cs := by
  have := h1.app h2
  rwa [List.take_append_drop] at this
theorem Op.agg {t : TypeId} {α : Type} {enc : α → List UV} {good : α → Prop} {fs : Array Field} {r : Reach} {b0 : Nat} {v : Value} {d : DataW H} {ps : List MemPlace} (h : Op henc P w sp held t enc good) (ht : P.underlying t = some (.struct fs)) (hval : Value.okWide P w r b0 t v)
    (hd : DataW.Trod henc P w 0 sp held t v d ps) : ∃ a, good a ∧ ∀ τ, RepI τ w okAll (.u (.agg (enc a))) v := by
  obtain ⟨cs, rfl, _⟩ := okWide_struct ht hval
  obtain ⟨fuel, hf⟩ := hd
  obtain ⟨a, h1, h2, _⟩ := h fuel _ _ hf
  refine ⟨a, h1, fun τ => .u ?_⟩
  have := RepU.agg (w := w) (ok := okAll) (us := enc a) (vs := cs.toList) h2.1 h2.2
  simpa using this
theorem Op.sl {t e : TypeId} {sz : Nat} {α : Type} {enc : α → List UV} {good : List α → Prop} {r : Reach} {b0 : Nat} {v : Value} {d : DataW H} {ps : List MemPlace} (h : Op henc P w sp held t (eSl sz enc) good) (ht : P.underlying t = some (.slice e)) (hval : Value.okWide P w r b0 t v)
    (hd : DataW.Trod henc P w 0 sp held t v d ps) : ∃ l, good l ∧ ∀ τ, RepI τ w okAll (vL sz (l.map enc)) v := by
  obtain ⟨a0, len, cap, rfl⟩ := okWide_slice ht hval
  obtain ⟨fuel, hf⟩ := hd
  obtain ⟨a, h1, h2, _⟩ := h fuel _ _ hf
  exact ⟨a, h1, fun τ => .u (h2.2 0 _ _ rfl rfl)⟩
end
theorem Con.law {P : Program} {f : FuncId} {ivs : List IV} {vs : List Value} {w : World} (h : Con P f ivs [] (vB true) []) (hA : AllI (fun _ => undef) w okAll ivs vs) : G.CallsTo P f vs w (fun v w' => v = .bool true ∧ G.Ext w w') := by
  refine Calls.mono (h (fun _ => undef) w vs okAll ⟨hA, fun k sb hk => by simp [lookS, look] at hk, fun k k' sb sb' b hk => by simp [lookS, look] at hk, fun b _ ⟨k, sb, hk, _⟩ => by simp [lookS, look] at hk⟩) ?_
  rintro e w' ⟨v, τ', he, out⟩
  exact ⟨v, he, rep_sc out.res, G.Gr.to_ext out.gr fun k ⟨q, sb, hk, _⟩ _ => by simp [lookS, look] at hk⟩
theorem AllI.nil {τ : Nat → Value} {w : World} {ok : Nat → Prop} : AllI τ w ok [] [] := ⟨rfl, fun i u v h => by simp at h⟩
theorem AllI.cons {τ : Nat → Value} {w : World} {ok : Nat → Prop} {i : IV} {is : List IV} {v : Value} {vs : List Value} (h : RepI τ w ok i v) (r : AllI τ w ok is vs) : AllI τ w ok (i :: is) (v :: vs) := (AllI.single h).app r
end Go.H
end
