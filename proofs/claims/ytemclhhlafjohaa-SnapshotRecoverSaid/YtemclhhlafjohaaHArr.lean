/-
  Openers of arrays.
-/
import Derived.Test.YtemclhhlafjohaaHLift2
import Derived.OpenShut
namespace Go.H
open Go Go.RowKit Go.ChangeShapes Go.WideShapes Go.Deep
section
variable {H : Type} {henc : TypeId × Value → H} {P : Program} {w : World} {sp : Nat → Bool} {held : Bool}
/-- An array's elements, as if they were fields. -/
def arrF (e m n : Nat) : List Field := (List.range n).map fun i => { (default : Field) with type := e, offset := i * m }
theorem Op.arrN {t e n m mm : Nat} {α : Type} {enc : α → List UV} {good : α → Prop} (ht : P.underlying t = some (.array n e)) (hm : P.cellsOf t = mm) (he : P.cellsOf e = m) (h : OpFs henc P w sp held (arrF e m n) 0 mm enc good) : Op henc P w sp held t enc good := fun fuel cs x h0 => by
  obtain ⟨xs, q, _, _, hl, hlen, hf⟩ := DataW.trod_array ht h0
  obtain ⟨a, a1, a2, a3⟩ := h q cs (fun f hf' => by
    obtain ⟨i, hi, rfl⟩ := List.mem_map.1 hf'
    have hi' := List.mem_range.1 hi
    have := hf i hi'
    rw [List.getElem?_eq_getElem (by omega), he] at this
    refine ⟨xs[i], ?_⟩
    show DataW.trod _ _ _ _ _ _ _ e ((cs.drop (i * m)).take (P.cellsOf e)) = _
    rw [he]; exact this)
  refine ⟨a, a1, ?_, a3⟩
  rw [List.drop_zero, List.take_of_length_le (by omega)] at a2
  exact a2
theorem okWide_arr {t e n : TypeId} {r : Reach} {b0 : Nat} {v : Value} (ht : P.underlying t = some (.array n e)) (h : Value.okWide P w r b0 t v) : ∃ cs, v = .agg cs := by
  simp only [Value.okWide, ht] at h
  obtain ⟨cs, h1, _⟩ := h
  exact ⟨cs, h1⟩
theorem Op.aggA {t e n : TypeId} {α : Type} {enc : α → List UV} {good : α → Prop} {r : Reach} {b0 : Nat} {v : Value} {d : DataW H} {ps : List MemPlace} (h : Op henc P w sp held t enc good) (ht : P.underlying t = some (.array n e)) (hval : Value.okWide P w r b0 t v)
    (hd : DataW.Trod henc P w 0 sp held t v d ps) : ∃ a, good a ∧ ∀ τ, RepI τ w okAll (.u (.agg (enc a))) v := by
  obtain ⟨cs, rfl⟩ := okWide_arr ht hval
  obtain ⟨fuel, hf⟩ := hd
  obtain ⟨a, h1, h2, _⟩ := h fuel _ _ hf
  refine ⟨a, h1, fun τ => .u ?_⟩
  have := RepU.agg (w := w) (ok := okAll) (us := enc a) (vs := cs.toList) h2.1 h2.2
  simpa using this
end
end Go.H
