/-
  Openers of structs of any number of fields.
-/
import Derived.Test.YtfmgpocbpbfalaaHLift
import Derived.ChangeArms
namespace Go.H
open Go Go.RowKit Go.ChangeShapes Go.WideShapes Go.Deep
section
variable {H : Type} {henc : TypeId × Value → H} {P : Program} {w : World} {sp : Nat → Bool} {held : Bool}
def OpFs {H : Type} (henc : TypeId × Value → H) (P : Program) (w : World) (sp : Nat → Bool) (held : Bool) (fs : List Field) (off m : Nat) {α : Type} (enc : α → List UV) (good : α → Prop) : Prop :=
  ∀ n (cs : List Value), (∀ f ∈ fs, ∃ y, DataW.trod henc P w 0 sp held n f.type ((cs.drop f.offset).take (P.cellsOf f.type)) = some y) → ∃ a : α, good a ∧ AllU w okAll (enc a) ((cs.drop off).take m) ∧ ∀ u ∈ enc a, u.one = true
theorem OpFs.last {f : Field} {off m : Nat} {α : Type} {enc : α → List UV} {good : α → Prop} (o : f.offset = off) (hm : P.cellsOf f.type = m) (h : Op henc P w sp held f.type enc good) : OpFs henc P w sp held [f] off m enc good := fun n cs hf => by
  obtain ⟨y, hy⟩ := hf f (by simp)
  rw [o, hm] at hy
  exact h _ _ _ hy
theorem OpFs.cons {f : Field} {fs : List Field} {off m1 m2 : Nat} {α β : Type} {e0 : α → List UV} {e1 : β → List UV} {g0 : α → Prop} {g1 : β → Prop} (o : f.offset = off) (hm : P.cellsOf f.type = m1) (h : Op henc P w sp held f.type e0 g0)
    (r : OpFs henc P w sp held fs (off + m1) m2 e1 g1) : OpFs henc P w sp held (f :: fs) off (m1 + m2) (fun x : α × β => e0 x.1 ++ e1 x.2) (fun x => g0 x.1 ∧ g1 x.2) := fun n cs hf => by
  obtain ⟨y, hy⟩ := hf f (by simp)
  rw [o, hm] at hy
  obtain ⟨a, a1, a2, a3⟩ := h _ _ _ hy
  obtain ⟨b, b1, b2, b3⟩ := r n cs (fun g hg => hf g (by simp [hg]))
  refine ⟨(a, b), ⟨a1, b1⟩, ?_, fun u hu => ?_⟩
  · have e1 : ((cs.drop off).take (m1 + m2)).take m1 = (cs.drop off).take m1 := by rw [List.take_take, Nat.min_eq_left (by omega)]
    have e2 : ((cs.drop off).take (m1 + m2)).drop m1 = (cs.drop (off + m1)).take m2 := by rw [List.drop_take, List.drop_drop, Nat.add_sub_cancel_left]
    exact AllU.app2 (k := m1) (by rw [e1]; exact a2) (by rw [e2]; exact b2)
  · rcases List.mem_append.1 hu with hu | hu
    · exact a3 u hu
    · exact b3 u hu
theorem Op.structN {t : TypeId} {fs : Array Field} {m : Nat} {α : Type} {enc : α → List UV} {good : α → Prop} (ht : P.underlying t = some (.struct fs)) (hm : P.cellsOf t = m) (h : OpFs henc P w sp held fs.toList 0 m enc good) : Op henc P w sp held t enc good := fun fuel cs x h0 => by
  obtain ⟨xs, n, _, _, hl, hlen, hf⟩ := DataW.trod_struct ht h0
  obtain ⟨a, a1, a2, a3⟩ := h n cs (fun f hf' => by
    obtain ⟨i, hi, rfl⟩ := List.getElem_of_mem hf'
    have := hf i fs.toList[i] (by simp)
    have hi' : i < xs.length := by simp at hi; omega
    rw [List.getElem?_eq_getElem hi'] at this
    exact ⟨_, this⟩)
  refine ⟨a, a1, ?_, a3⟩
  rw [List.drop_zero, List.take_of_length_le (by omega)] at a2
  exact a2
end
end Go.H
