/-
  A block of the call's own that nobody turns any more: pointers into it are read only.
-/
import Derived.Test.YtfmgpocbpbfalaaHMap
namespace Go.H
open Go Go.RowKit
open Go.G (Ext Gr Blk)
mutual
def IV.fp (k : Nat) (us : List UV) : IV → IV
  | .u y => .u y
  | .own j => .own j
  | .ref j o => match Nat.beq j k with | true => .u (.ptr (us.drop o)) | false => .ref j o
  | .el j s i o => .el j s i o
  | .osl j s i o => .osl j s i o
  | .agg l => .agg (IV.fpL k us l)
  | .tup l => .tup (IV.fpL k us l)
  | .clo fn f c => .clo fn (IV.fpL k us f) (IV.fpL k us c)
  | .junk => .junk
termination_by structural i => i
def IV.fpL (k : Nat) (us : List UV) : List IV → List IV
  | [] => []
  | i :: r => i.fp k us :: IV.fpL k us r
termination_by structural l => l
end
theorem IV.fpL_map (k : Nat) (x : List UV) : ∀ l : List IV, IV.fpL k x l = l.map (·.fp k x)
  | [] => rfl
  | i :: r => by rw [IV.fpL, IV.fpL_map k x r]; rfl
section
variable {c : Ctx} {P : Program} {Q : Exit → Act → World → Prop} {F : Frm} {S : Sto} {ops : Array Oper} {l : List Oper} {τ : Nat → Value} {a : Act} {w : World}
theorem RepI.fp {ok ok' : Nat → Prop} {k : Nat} {us : List UV} {i : IV} {v : Value} (h : RepI τ w ok i v) (hok : ∀ b, ok b → ok' b) (hx : RepU w ok' (.ptr us) (τ k)) : RepI τ w ok' (i.fp k us) v := by
  induction h with
  | u h => exact .u (h.mono (Nat.le_refl _) (fun b hb _ => ⟨hok b hb, rfl⟩))
  | own j h => exact .own j h
  | ref h =>
    rename_i j off g
    rw [IV.fp]
    split
    · rename_i e
      have e := Nat.eq_of_beq_eq_true e
      subst e
      rw [h] at hx
      have := ptr_drop hx off
      rw [Addr.add_lit, Nat.zero_add] at this
      exact .u this
    · exact .ref h
  | el h => exact .el h
  | osl h h1 h2 => exact .osl h h1 h2
  | agg hl _ ih =>
    rw [IV.fp, IV.fpL_map]
    refine .agg (by simpa using hl) fun i u v h1 h2 => ?_
    rw [List.getElem?_map, Option.map_eq_some_iff] at h1
    obtain ⟨y, h1, rfl⟩ := h1
    exact ih i y v h1 h2
  | tup hl _ ih =>
    rw [IV.fp, IV.fpL_map]
    refine .tup (by simpa using hl) fun i u v h1 h2 => ?_
    rw [List.getElem?_map, Option.map_eq_some_iff] at h1
    obtain ⟨y, h1, rfl⟩ := h1
    exact ih i y v h1 h2
  | clo hl _ hl' _ ih ih' =>
    rw [IV.fp, IV.fpL_map, IV.fpL_map]
    refine .clo (by simpa using hl) (fun i u v h1 h2 => ?_) (by simpa using hl') (fun i u v h1 h2 => ?_)
    · rw [List.getElem?_map, Option.map_eq_some_iff] at h1
      obtain ⟨y, h1, rfl⟩ := h1
      exact ih i y v h1 h2
    · rw [List.getElem?_map, Option.map_eq_some_iff] at h1
      obtain ⟨y, h1, rfl⟩ := h1
      exact ih' i y v h1 h2
  | junk v => exact .junk v
def FpF (k : Nat) (x : List UV) (F : Frm) : Frm → Prop
  | [] => True
  | (t, j) :: r => (∃ i, look t F = some i ∧ i.fp k x = j) ∧ FpF k x F r
theorem Sat.freezeP {F' : Frm} {t k : Nat} {us : List UV} (hS : lookS k S = some (.cells t (us.map .u))) (hF : FpF k us F F') (h : Sat c (mk F S) a w) : Sat c (mk (F' ++ F) ((k, .dead) :: S)) a w := by
  obtain ⟨τ, h⟩ := h
  have hok : ∀ b, okOf c τ (mk F S).sto b → b < w.heap.size → okOf c τ (mk (F' ++ F) ((k, .dead) :: S)).sto b ∧ w.heap[b]? = w.heap[b]? := fun b hb _ => ⟨okOf_dead hb, rfl⟩
  have hsto : ∀ j sb, (mk (F' ++ F) ((k, .dead) :: S)).sto j = some sb → j ≠ k ∧ lookS j S = some sb := fun j sb hj => by
    have hj' : lookS j ((k, .dead) :: S) = some sb := hj
    by_cases e : k = j
    · subst e; rw [lookS_dead] at hj'; cases hj'
    · rw [lookS_ne e] at hj'; exact ⟨Ne.symm e, hj'⟩
  have hx : RepU w (okOf c τ (mk (F' ++ F) ((k, .dead) :: S)).sto) (.ptr us) (τ k) := by
    obtain ⟨g, vs, h1, h2, h3, h4⟩ := h.sto k _ hS
    have hv : vblk (τ k) = some g := by rw [h1]; rfl
    rw [h1]
    refine .ptr (cv := fun j => (vs[j]?).getD undef) (fun u hu => ?_) h2.lt ⟨?_, fun j sb hj hjv => ?_⟩ (fun j u hj => ?_) (fun j u hj => ?_)
    · have := h4 (.u u) (List.mem_map_of_mem hu); exact this
    · rcases h.own k _ g hS hv with q | q
      · exact .inr (.inl q)
      · exact .inr (.inr q)
    · obtain ⟨q1, q2⟩ := hsto j sb hj
      exact q1 (h.inj j k sb _ g q2 hS hjv hv)
    · have hlt : j < vs.length := by
        have := (List.getElem?_eq_some_iff.1 hj).1
        rw [← h3.1]; simpa using this
      rw [List.getElem?_eq_getElem hlt, Addr.add_lit, Nat.zero_add]
      have h2' : w.heap[g]? = some (.cells vs.toArray t (0, 0)) := h2
      simp [World.cell?, h2', hlt]
    · have hlt : j < vs.length := by
        have := (List.getElem?_eq_some_iff.1 hj).1
        rw [← h3.1]; simpa using this
      rw [List.getElem?_eq_getElem hlt]
      have := h3.2 j (.u u) vs[j] (by rw [List.getElem?_map, hj]; rfl) (List.getElem?_eq_getElem hlt)
      cases this with
      | u q => exact q.mono (Nat.le_refl _) hok
  refine ⟨τ, h.size, h.defers, h.gr, fun s i hl => ?_, fun j sb hj => ?_, fun j j' s s' b h1 h2 => h.inj j j' s s' b (hsto j s h1).2 (hsto j' s' h2).2, fun j sb b h1 => h.own j sb b (hsto j sb h1).2, h.pin⟩
  · have key : ∀ {F' : Frm}, FpF k us F F' → ∀ {i}, look s (F' ++ F) = some i → (∃ i0, look s F = some i0 ∧ i0.fp k us = i) ∨ look s F = some i := by
      intro F'
      induction F' with
      | nil => intro _ i hi; exact .inr hi
      | cons y r ih =>
        intro hh i hi
        obtain ⟨q, j⟩ := y
        rw [List.cons_append] at hi
        by_cases e : q = s
        · subst e; rw [look_eq] at hi; cases hi; exact .inl hh.1
        · rw [look_ne e] at hi; exact ih hh.2 hi
    rcases key hF hl with ⟨i0, h1, rfl⟩ | h1
    · obtain ⟨u, q1, q2⟩ := h.slot s i0 h1
      exact ⟨u, q1, q2.fp (fun b hb => okOf_dead hb) hx⟩
    · obtain ⟨u, q1, q2⟩ := h.slot s i h1
      exact ⟨u, q1, q2.mono (Nat.le_refl _) hok (fun _ _ => rfl)⟩
  · exact (h.sto j sb (hsto j sb hj).2).mono (Nat.le_refl _) hok (fun _ _ => rfl) rfl (fun _ _ => rfl)
theorem W.freezeP {cd : Code} {F' : Frm} {t : Nat} (us : List UV) {is : List IV} (k : Nat) (hS : lookS k S = some (.cells t is)) (hi : is = us.map .u) (hF : FpF k us F F') (h : W c P cd Q (F' ++ F) ((k, .dead) :: S)) : W c P cd Q F S := fun a w ha => h a w (ha.freezeP (hi ▸ hS) hF)
theorem SL.freezeP {F' : Frm} {t : Nat} (us : List UV) {is : List IV} (k : Nat) (hS : lookS k S = some (.cells t is)) (hi : is = us.map .u) (hF : FpF k us F F') (h : SL c P ops Q l (F' ++ F) ((k, .dead) :: S)) : SL c P ops Q l F S := fun a w ha => h a w (ha.freezeP (hi ▸ hS) hF)
theorem E.freezeP {e : Exit} {F' : Frm} {t : Nat} (us : List UV) {is : List IV} (k : Nat) (hS : lookS k S = some (.cells t is)) (hi : is = us.map .u) (hF : FpF k us F F') (h : E c Q e (F' ++ F) ((k, .dead) :: S)) : E c Q e F S := fun a w ha => h a w (ha.freezeP (hi ▸ hS) hF)
end
end Go.H
