/-
  Openers of trees: a struct that has a slice of itself, and how much of it there is.
-/
import Derived.Test.YtfmgpocbpbfalaaHLift2
import Derived.SizedLaws
namespace Go.H
open Go Go.RowKit Go.ChangeShapes Go.WideShapes Go.Deep
section
variable {H : Type} {henc : TypeId × Value → H} {P : Program} {w : World} {sp : Nat → Bool} {held : Bool}
/-- Rows that were read one by one, as a slice. -/
theorem rows_sl {sz : Nat} {α : Type} [Inhabited α] {enc : α → List UV} {good : α → Prop} {ad : Addr} {len cap : Nat} (hp : 0 < sz) (hl : ∀ a, (enc a).length = sz) (h1 : len ≤ cap) (h2 : cap ≤ maxLen)
    (key : ∀ i, i < len → ∃ (a : α) (cs' : List Value), good a ∧ AllU w okAll (enc a) cs' ∧ (∀ u ∈ enc a, u.one = true) ∧ ∀ j, j < sz → w.cell? ((ad.add (i * sz)).add j) = cs'[j]?) :
    ∃ l : List α, l.length = len ∧ (∀ a ∈ l, good a) ∧ RepU w okAll (.sl sz (l.map enc)) (.slice (some ad) len cap) := by
  obtain ⟨A, hA⟩ : ∃ A : Nat → α, ∀ i, i < len → ∃ cs' : List Value, good (A i) ∧ AllU w okAll (enc (A i)) cs' ∧ (∀ u ∈ enc (A i), u.one = true) ∧ ∀ j, j < sz → w.cell? ((ad.add (i * sz)).add j) = cs'[j]? :=
    choose_lt (α := α) (p := fun i a => ∃ cs' : List Value, good a ∧ AllU w okAll (enc a) cs' ∧ (∀ u ∈ enc a, u.one = true) ∧ ∀ j, j < sz → w.cell? ((ad.add (i * sz)).add j) = cs'[j]?) key
  have hrows : ∀ r ∈ ((List.range len).map A).map enc, r.length = sz := fun r hr => by obtain ⟨a, _, rfl⟩ := List.mem_map.1 hr; exact hl a
  have hone : ∀ u ∈ (((List.range len).map A).map enc).flatten, u.one = true := fun u hu => by
    obtain ⟨r, hr, hu⟩ := List.mem_flatten.1 hu
    obtain ⟨a, ha, rfl⟩ := List.mem_map.1 hr
    obtain ⟨i, hi, rfl⟩ := List.mem_map.1 ha
    obtain ⟨_, _, _, q, _⟩ := hA i (List.mem_range.1 hi)
    exact q u hu
  have hgood : ∀ a ∈ (List.range len).map A, good a := fun a ha => by
    obtain ⟨i, hi, rfl⟩ := List.mem_map.1 ha
    obtain ⟨_, q, _⟩ := hA i (List.mem_range.1 hi)
    exact q
  refine ⟨(List.range len).map A, by simp, hgood, ?_⟩
  by_cases h0 : len = 0
  · subst h0
    exact .sl0 h2 (fun e => by cases e)
  · have hfl : (((List.range len).map A).map enc).flatten.length = len * sz := by rw [flat_len hrows]; simp
    have hat : ∀ (j : Nat) (u : UV), (((List.range len).map A).map enc).flatten[j]? = some u → ∃ v, w.cell? (ad.add j) = some v ∧ RepU w okAll u v := fun j u hj => by
      have hjl : j < len * sz := by rw [← hfl]; exact (List.getElem?_eq_some_iff.1 hj).1
      have hq : j / sz < len := Nat.div_lt_of_lt_mul (by rw [Nat.mul_comm]; exact hjl)
      have hr : j % sz < sz := Nat.mod_lt _ hp
      obtain ⟨cs', _, q2, _, q4⟩ := hA (j / sz) hq
      have hel : j % sz < (enc (A (j / sz))).length := by rw [hl]; exact hr
      have hrow : (((List.range len).map A).map enc)[j / sz]? = some (enc (A (j / sz))) := by simp [hq]
      have hfg := flatten_get hrows hrow (List.getElem?_eq_getElem hel)
      have ej : j / sz * sz + j % sz = j := by rw [Nat.mul_comm]; exact Nat.div_add_mod j sz
      rw [ej, hj] at hfg
      have hcl : j % sz < cs'.length := by rw [← q2.1]; exact hel
      have hc := q4 (j % sz) hr
      rw [G.add_add, ej, List.getElem?_eq_getElem hcl] at hc
      refine ⟨_, hc, ?_⟩
      rw [Option.some.inj hfg]
      exact q2.2 _ _ _ (List.getElem?_eq_getElem hel) (List.getElem?_eq_getElem hcl)
    have hb : ad.block < w.heap.size := by
      have h00 : 0 < (((List.range len).map A).map enc).flatten.length := by rw [hfl]; exact Nat.mul_pos (by omega) hp
      obtain ⟨v, q, _⟩ := hat 0 _ (List.getElem?_eq_getElem h00)
      have := World.block_lt_of_cell? w _ q
      rwa [G.block_add] at this
    obtain ⟨V, hV⟩ : ∃ V : Nat → Value, ∀ j, j < len * sz → ∀ u, (((List.range len).map A).map enc).flatten[j]? = some u → w.cell? (ad.add j) = some (V j) ∧ RepU w okAll u (V j) :=
      choose_lt (α := Value) (p := fun j v => ∀ u, (((List.range len).map A).map enc).flatten[j]? = some u → w.cell? (ad.add j) = some v ∧ RepU w okAll u v) (fun j hj => by
        have hjl : j < (((List.range len).map A).map enc).flatten.length := by rw [hfl]; exact hj
        obtain ⟨v, q1, q2⟩ := hat j _ (List.getElem?_eq_getElem hjl)
        exact ⟨v, fun u hu => by rw [List.getElem?_eq_getElem hjl] at hu; cases hu; exact ⟨q1, q2⟩⟩)
    have hlt : ∀ {j : Nat} {u : UV}, (((List.range len).map A).map enc).flatten[j]? = some u → j < len * sz := fun {j u} hj => by rw [← hfl]; exact (List.getElem?_eq_some_iff.1 hj).1
    have := RepU.sl (w := w) (ok := okAll) (sz := sz) (rows := ((List.range len).map A).map enc) (a := ad) (c := cap) (cv := V) (by simp; omega) (by simpa using h1) h2 hrows hp hone hb trivial (fun j u hj => (hV j (hlt hj) u hj).1) (fun j u hj => (hV j (hlt hj) u hj).2)
    simpa using this
theorem all_mem {P : Program} {e : TypeId} : ∀ {ds : List (DataW H)} {d : DataW H}, d ∈ ds → ∀ n ∈ d.weights P e, n ∈ DataW.weightsAll P e ds
  | d0 :: r, d, hd, n, hn => by
    rw [DataW.weightsAll, List.mem_append]
    rcases List.mem_cons.1 hd with e | q
    · subst e; exact .inl hn
    · exact .inr (all_mem q n hn)
/-- What is handed in has no more bytes than fit. -/
def Wts (P : Program) (t : TypeId) (d : DataW H) : Prop := ∀ n ∈ d.weights P t, n ≤ reachBytes
end
end Go.H
namespace Go.G
open Go Go.RowKit Go.ChangeShapes Go.WideShapes Go.ChangeAt
theorem lift_sized {H : Type} {enc : TypeId × Value → H} {C : Checked} {os : Os} {f : FuncId} {fn : Func} {s : ChangeSpec} {conds : List PathCond} {tb : TypeId}
    (own : ownKnob C.prog.godebug = none) (started : os.Started) (noInit : C.prog.inits.idxOf? f = none) (hfn : C.prog.funcs[f]? = some fn)
    (witness : ∃ (w : World) (tape : Tape) (i : Input), w.os = os ∧ (w.forCall tape i).Shaped C.prog ∧ i.vars = [] ∧ Input.okWide C.prog (w.forCall tape i) .any w.heap.size f i ∧
      s.pre6 enc C.prog fn conds false (w.forCall tape i).memory i.args ∧ (({} : Assume)).holds C.prog (lone (Frame.enter C.prog f i.args .normal) [] (w.forCall tape i)))
    (hl : laidOutB C.prog = true) (hts : typesOk C.prog fn.params.toList = true) (hr : fn.resultTypes = #[tb]) (htb : C.prog.underlying tb = some .bool) (hv : s.vars = [])
    (contract : ∀ (W : World) (base : Nat) (args : Array Value) (ds : List (DataW H)) (p : List MemPlace),
      (∀ (j : Nat) t v, fn.params[j]? = some t → args[j]? = some v → Value.okWide C.prog W .any base t v) →
      DataW.TrodAll enc C.prog W 0 (fun _ => true) true fn.params.toList args.toList ds p →
      (∀ (j : Nat) t d, fn.params.toList[j]? = some t → ds[j]? = some d → Go.H.Wts C.prog t d) →
      s.fn H ds = { results := [.lit (.bool true)], args := ds } ∧ CallsTo C.prog f args.toList W (fun v W' => v = .bool true ∧ Ext W W')) :
    ReturnsInHanded {} C os f .any (s.pre6 enc C.prog fn conds false) (s.post enc C.prog fn false true false false) := by
  refine returnsInHanded_of_change_sized own started noInit hfn witness ?_
  intro W base args ds gs before hval hW _ hwt _
  have hW' := hW
  obtain ⟨p, q, hA, hV, hpq, hz, hn⟩ := hW
  obtain ⟨h1, h2⟩ := contract W base args ds p hval hA (fun j t d ht hd n hn' => by
    have hjt := (List.getElem?_eq_some_iff.1 ht).1
    have hjd := (List.getElem?_eq_some_iff.1 hd).1
    have := List.all_eq_true.1 hwt n (DataW.weights_mem_each (j := j) (t := t) (d := d) (by rw [List.getElem?_append_left hjt]; exact ht) (by rw [List.getElem?_append_left hjd]; exact hd) n hn')
    simpa using this)
  refine Calls.mono h2 ?_
  rintro e W' ⟨v, rfl, rfl, hb⟩
  exact ⟨_, rfl, post_law hl hts hr htb hv hW' h1 hb⟩
end Go.G
