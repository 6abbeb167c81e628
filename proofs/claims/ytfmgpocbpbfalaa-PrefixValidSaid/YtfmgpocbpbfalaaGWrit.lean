/-
  A region that draws its order and writes: each operation has rows that it may turn; what is known of a slot outlives the others' rows, or is dead once a killer has run.
-/
import Derived.Test.YtfmgpocbpbfalaaGLast
namespace Go.G
open Go Go.RowKit

/-- As Ext, but for the blocks of S. -/
structure Gr (S : Nat → Prop) (w w' : World) : Prop where
  os : w'.os = w.os
  tape : w'.tape = w.tape
  output : w'.output = w.output
  size : w.heap.size ≤ w'.heap.size
  block : ∀ k, k < w.heap.size → ¬ S k → w'.heap[k]? = w.heap[k]?

section
variable {S T : Nat → Prop} {a b c w w' : World}
theorem Gr.of_ext (e : Ext w w') : Gr S w w' := ⟨e.os, e.tape, e.output, e.size, fun k hk _ => e.block k hk⟩
theorem Gr.refl (S : Nat → Prop) (w : World) : Gr S w w := .of_ext (Ext.rfl' w)
theorem Gr.trans (h : Gr S a b) (k : Gr S b c) : Gr S a c :=
  ⟨k.os.trans h.os, k.tape.trans h.tape, k.output.trans h.output, Nat.le_trans h.size k.size, fun i hi hn => (k.block i (Nat.lt_of_lt_of_le hi h.size) hn).trans (h.block i hi hn)⟩
theorem Gr.mono (h : Gr S a b) (hs : ∀ k, S k → T k) : Gr T a b := ⟨h.os, h.tape, h.output, h.size, fun k hk hn => h.block k hk (fun q => hn (hs k q))⟩
theorem Gr.to_ext (h : Gr S a b) (hs : ∀ k, S k → k < a.heap.size → False) : Ext a b := ⟨h.os, h.tape, h.output, h.size, fun k hk => h.block k hk (fun q => hs k q hk)⟩
theorem Gr.of_grown {row : Option Nat} (h : w.grownBy w' row) (hs : ∀ k, row = some k → S k) : Gr S w w' :=
  ⟨h.os, h.tape, h.output, h.size, fun k hk hn => h.block k hk (fun e => hn (hs k e.symm))⟩
theorem Ext.gr (h : Ext a b) (k : Gr S b c) (hs : ∀ k, S k → a.heap.size ≤ k) : Ext a c :=
  ⟨k.os.trans h.os, k.tape.trans h.tape, k.output.trans h.output, Nat.le_trans h.size k.size, fun i hi => (k.block i (Nat.lt_of_lt_of_le hi h.size) (fun q => by have := hs i q; omega)).trans (h.block i hi)⟩
end

section
variable {n : Nat} {P : Program} {ops : Array Oper}

def givesUponG (S : Nat → Prop) (P : Program) (w : World) (i : Info) (Θ : World → Prop) : Result Next → Prop
  | .ok (.value u) w' => Gr S w w' ∧ i.ok u w' ∧ Θ w'
  | .ok .skip w' => Gr S w w' ∧ i.ok undef w' ∧ Θ w'
  | .ok (.enter f args) w' => Gr S w w' ∧ Calls P f args w' (fun e w'' => ∃ v, e = .returned v ∧ Gr S w' w'' ∧ i.ok v w'' ∧ Θ w'')
  | _ => False
def GivesG (S : Nat → Prop) (P : Program) (ops : Array Oper) (o : Oper) (a : Act) (w : World) (i : Info) (Θ : World → Prop) : Prop :=
  if Region.wanted o (yielded ops a.tmps) then givesUponG S P w i Θ ((execOp a.eval o).run P w) else i.ok undef w ∧ Θ w

/-- Who writes what, and who ends what is known of whose slot. -/
structure Plan where
  rows : Nat → Nat → Prop
  dead : Nat → List Nat
  kd : List Nat
  /-- whose facts on the world it leans on -/
  needs : Nat → List Nat
  /-- whose facts on the world stand at the end -/
  fin : List Nat

/-- i is forced ahead of j. -/
def ahead (ms : List Nat) (i j : Nat) : Bool := (ms.getD j 0).testBit i
def Plan.seen (p : Plan) (ms : List Nat) (m b : Nat) : Prop := ∃ j, j ≠ m ∧ ahead ms m j = false ∧ p.rows j b
def Plan.later (p : Plan) (ms : List Nat) (m b : Nat) : Prop := ∃ j, j ≠ m ∧ ahead ms j m = false ∧ j ∉ p.dead m ∧ p.rows j b
def Plan.all (p : Plan) (b : Nat) : Prop := ∃ j, p.rows j b
def stabT (Θ : World → Prop) (S : Nat → Prop) : Prop := ∀ w w', Θ w → Gr S w w' → Θ w'
def stab (i : Info) (S : Nat → Prop) : Prop := ∀ u w w', i.ok u w → Gr S w w' → i.ok u w'
def removes : List Nat → Frm → Frm
  | [], F => F
  | t :: r, F => remove t (removes r F)
theorem look_remove_self (t : Nat) : ∀ F : Frm, look t (remove t F) = none
  | [] => rfl
  | (u, i) :: r => by
    by_cases e : u = t
    · subst e; simp only [remove, Nat.beq_refl]; exact look_remove_self u r
    · simp only [remove, beq_ne e]; rw [look_cons_ne e]; exact look_remove_self t r
theorem look_removes {F : Frm} {t : Nat} : ∀ (l : List Nat) (i : Info), look t (removes l F) = some i → t ∉ l ∧ look t F = some i
  | [], i, h => ⟨by simp, h⟩
  | s :: l, i, h => by
    by_cases e : s = t
    · subst e; rw [removes, look_remove_self] at h; cases h
    · rw [removes, look_remove (Ne.symm e)] at h
      have := look_removes l i h
      exact ⟨by simp [Ne.symm e, this.1], this.2⟩

abbrev Facts := List (World → Prop)
def Facts.at (th : Facts) (j : Nat) (w : World) : Prop := (th.getD j (fun _ => True)) w
def WG (n : Nat) (P : Program) (ops : Array Oper) (ms : List Nat) (p : Plan) (w0 : World) (Z : Frm → World → Prop) : Facts → List Oper → Frm → Prop
  | th, [], F => ∀ w, Gr p.all w0 w → (∀ j ∈ p.fin, th.at j w) → Z (removes p.kd F) w
  | th, o :: r, F => dstOk n o = true ∧ ∃ (i : Info) (Θ : World → Prop), stab i (p.later ms th.length) ∧ stabT Θ (p.later ms th.length) ∧
    (∀ a w, Gr (p.seen ms th.length) w0 w → (∀ j ∈ p.needs th.length, th.at j w) → FitsOn (o.looksAt ops) n a F w → GivesG (p.rows th.length) P ops o a w i Θ) ∧ WG n P ops ms p w0 Z (th ++ [Θ]) r (push o.dst i F)

theorem Facts.at_app {th : Facts} {l : Facts} {j : Nat} (h : j < th.length) (w : World) : Facts.at (th ++ l) j w = th.at j w := by
  unfold Facts.at
  rw [List.getD_eq_getElem?_getD, List.getD_eq_getElem?_getD, List.getElem?_append_left h]
theorem WG.infos {ms : List Nat} {p : Plan} {w0 : World} {Z : Frm → World → Prop} : ∀ (l : List Oper) (th : Facts) (F : Frm), WG n P ops ms p w0 Z th l F →
    ∃ (is : List Info) (tl : Facts), is.length = l.length ∧ tl.length = l.length ∧ (∀ (m : Nat) (o : Oper) (i : Info), l[m]? = some o → is[m]? = some i →
      dstOk n o = true ∧ stab i (p.later ms (th.length + m)) ∧ stabT (Facts.at (th ++ tl) (th.length + m)) (p.later ms (th.length + m)) ∧
      ∀ a w, Gr (p.seen ms (th.length + m)) w0 w → (∀ j ∈ p.needs (th.length + m), j < th.length + m ∧ Facts.at (th ++ tl) j w) → FitsOn (o.looksAt ops) n a (frL l is F m) w → GivesG (p.rows (th.length + m)) P ops o a w i (Facts.at (th ++ tl) (th.length + m))) ∧
      (∀ w, Gr p.all w0 w → (∀ j ∈ p.fin, Facts.at (th ++ tl) j w) → Z (removes p.kd (frL l is F l.length)) w)
  | [], th, F, h => ⟨[], [], rfl, rfl, fun m o i h1 => by simp at h1, by simpa [frL, WG] using h⟩
  | o :: l, th, F, h => by
    obtain ⟨hd, i, Θ, hs, hst, hg, hr⟩ := h
    obtain ⟨is, tl, h1, h1t, h2, h3⟩ := WG.infos l _ _ hr
    have eapp : th ++ [Θ] ++ tl = th ++ (Θ :: tl) := by simp
    rw [eapp] at h2 h3
    have eat : Facts.at (th ++ (Θ :: tl)) th.length = Θ := by
      funext w; unfold Facts.at; rw [List.getD_eq_getElem?_getD, List.getElem?_append_right (Nat.le_refl _)]; simp
    refine ⟨i :: is, Θ :: tl, by simp [h1], by simp [h1t], fun m o' i' hm hi => ?_, by simpa [frL] using h3⟩
    cases m with
    | zero =>
      simp only [List.getElem?_cons_zero, Option.some.injEq] at hm hi
      subst hm; subst hi
      simp only [Nat.add_zero, eat]
      refine ⟨hd, hs, hst, fun a w he hn hf => hg a w he (fun j hj => ?_) (by simpa [frL] using hf)⟩
      obtain ⟨q1, q2⟩ := hn j hj
      rwa [Facts.at_app q1] at q2
    | succ m =>
      simp only [List.getElem?_cons_succ] at hm hi
      have e : (th ++ [Θ]).length + m = th.length + (m + 1) := by simp; omega
      have := h2 m o' i' hm hi
      rw [e] at this
      exact this

/-- Whoever reads a slot that a killer ends is forced ahead of the killer; such slots leave the frame. -/
def killsOk (ops : Array Oper) (ms : List Nat) (h : Nat) (p : Plan) : Bool :=
  let dead := p.dead
  let kd := p.kd
  (p.fin.all fun m => Nat.blt m h && (dead m).isEmpty) && (List.range h).all fun m => match ops[m]? with
    | none => false
    | some o => ((p.needs m).all fun j => Nat.blt j m && ahead ms j m) && ((dead m).all fun j => (List.range h).all fun r => Nat.beq r j || !(p.needs r).contains m || ahead ms r j) && ((dead m).isEmpty || (match o.dst with
      | none => true
      | some t => kd.contains t && (dead m).all fun j => (List.range h).all fun r => Nat.beq r j || (match ops[r]? with
        | none => false
        | some q => !(q.looksAt ops).contains t || ahead ms r j)))

structure InvG (p : Plan) (n h : Nat) (ops : Array Oper) (w0 : World) (F : Frm) (is : List Info) (th : Facts) (listed : Array Bool) (a : Act) (w : World) : Prop where
  ext : Gr (fun b => ∃ j, listed.getD j false = true ∧ p.rows j b) w0 w
  size : a.tmps.size = n
  defers : a.defers = []
  head : HeadInv .any ops h listed
  slot : ∀ t i o, i < h → ops[i]? = some o → o.dst = some t → listed.getD i false = true →
    (∀ k o', k < h → ops[k]? = some o' → o'.dst = some t → listed.getD k false = true → k ≤ i) → (∀ j ∈ p.dead i, listed.getD j false = false) → ∀ inf, is[i]? = some inf → ∃ u, a.tmps[t]? = some u ∧ inf.ok u w
  base : ∀ t, (∀ k o', k < h → ops[k]? = some o' → o'.dst = some t → listed.getD k false = false) → ∀ v, look t F = some v → ∃ u, a.tmps[t]? = some u ∧ v.ok u w
  fact : ∀ i, i < h → listed.getD i false = true → (∀ j ∈ p.dead i, listed.getD j false = false) → th.at i w

theorem wg_any {h : Nat} {w0 : World} {F : Frm} {Q : Exit → Act → World → Prop} {is : List Info} {p : Plan} {th : Facts} (c : Chk ops h) (hF : vals F = true)
    (hk : killsOk ops (masks ops.toList []) h p = true)
    (hlen : is.length = h)
    (hob : ∀ (m : Nat) (o : Oper) (i : Info), m < h → ops[m]? = some o → is[m]? = some i → dstOk n o = true ∧ stab i (p.later (masks ops.toList []) m) ∧ stabT (th.at m) (p.later (masks ops.toList []) m) ∧
      ∀ a w, Gr (p.seen (masks ops.toList []) m) w0 w → (∀ j ∈ p.needs m, j < m ∧ th.at j w) → FitsOn (o.looksAt ops) n a (frL (ops.toList.take h) is F m) w → GivesG (p.rows m) P ops o a w i (th.at m))
    (hend : ∀ a w, Gr p.all w0 w → (∀ j ∈ p.fin, th.at j w) → Fits n a (removes p.kd (frL (ops.toList.take h) is F h)) w → wpList P ops Q (ops.toList.drop h) a w) :
    ∀ f listed a w, InvG p n h ops w0 F is th listed a w → cntU listed h = f → wpAny P .any ops Q (f + (ops.size - h)) listed a w := by
  have hth : (ops.toList.take h).length = h := by rw [List.length_take, Array.length_toList]; exact Nat.min_eq_left c.le
  have hget : ∀ m o, m < h → ((ops.toList.take h)[m]? = some o ↔ ops[m]? = some o) := fun m o hm => by rw [List.getElem?_take]; simp [hm]
  have hmk : MaskOk ops (masks ops.toList []) := masks_ok ops ops.toList [] (fun k => by simp) (fun _ _ j i hb => by simp at hb)
  have hkill : ∀ m o, m < h → ops[m]? = some o → ∀ j ∈ p.dead m, ∀ t, o.dst = some t → t ∈ p.kd ∧ ∀ r q, r < h → r ≠ j → ops[r]? = some q → t ∈ q.looksAt ops → ahead (masks ops.toList []) r j = true := by
    intro m o hm ho j hj t ht
    simp only [killsOk, Bool.and_eq_true] at hk
    have h1 := List.all_eq_true.1 hk.2 m (List.mem_range.2 hm)
    simp only [ho, ht, Bool.or_eq_true, Bool.and_eq_true] at h1
    rcases h1.2 with h1 | ⟨h1, h2⟩
    · rw [List.isEmpty_iff] at h1; rw [h1] at hj; cases hj
    · refine ⟨by simpa using h1, fun r q hr hne hq hl => ?_⟩
      have h3 := List.all_eq_true.1 (List.all_eq_true.1 h2 j hj) r (List.mem_range.2 hr)
      simp only [hq, Bool.or_eq_true, Bool.not_eq_true'] at h3
      rcases h3 with h3 | h3 | h3
      · exact absurd (Nat.eq_of_beq_eq_true h3) hne
      · rw [List.contains_iff_mem.2 hl] at h3; cases h3
      · exact h3
  have hneed : ∀ m o, m < h → ops[m]? = some o → ∀ j ∈ p.needs m, j < m ∧ ahead (masks ops.toList []) j m = true := by
    intro m o hm ho j hj
    simp only [killsOk, Bool.and_eq_true] at hk
    have h1 := List.all_eq_true.1 hk.2 m (List.mem_range.2 hm)
    simp only [ho, Bool.and_eq_true] at h1
    have h2 := List.all_eq_true.1 h1.1.1 j hj
    simp only [Bool.and_eq_true, Nat.blt_eq] at h2
    exact h2
  have hneedk : ∀ m o, m < h → ops[m]? = some o → ∀ j ∈ p.dead m, ∀ r, r < h → r ≠ j → m ∈ p.needs r → ahead (masks ops.toList []) r j = true := by
    intro m o hm ho j hj r hr hne hin
    simp only [killsOk, Bool.and_eq_true] at hk
    have h1 := List.all_eq_true.1 hk.2 m (List.mem_range.2 hm)
    simp only [ho, Bool.and_eq_true] at h1
    have h2 := List.all_eq_true.1 (List.all_eq_true.1 h1.1.2 j hj) r (List.mem_range.2 hr)
    simp only [Bool.or_eq_true, Bool.not_eq_true'] at h2
    rcases h2 with (h2 | h2) | h2
    · exact absurd (Nat.eq_of_beq_eq_true h2) hne
    · rw [List.contains_iff_mem.2 hin] at h2; cases h2
    · exact h2
  have hfin : ∀ m ∈ p.fin, m < h ∧ p.dead m = [] := by
    intro m hm
    simp only [killsOk, Bool.and_eq_true] at hk
    have h1 := List.all_eq_true.1 hk.1 m hm
    simp only [Bool.and_eq_true, Nat.blt_eq, List.isEmpty_iff] at h1
    exact h1
  intro f
  induction f with
  | zero =>
    intro listed a w hI hc
    have hall := cntU_zero h hc
    have hL : listed = (List.replicate h true ++ List.replicate (ops.size - h) false).toArray := by
      apply Array.ext
      · simp [hI.head.size]; have := c.le; omega
      · intro k hk hk'
        by_cases e : k < h
        · have h1 := hall k e
          rw [Array.getD_eq_getD_getElem?, Array.getElem?_eq_getElem hk] at h1
          simp only [Option.getD_some] at h1
          rw [h1]
          simp [e]
        · have h1 := hI.head.tail k (by omega) (by have := hI.head.size; omega)
          rw [Array.getD_eq_getD_getElem?, Array.getElem?_eq_getElem hk] at h1
          simp only [Option.getD_some] at h1
          rw [h1]
          simp [List.getElem_append, e]
    have hfit : Fits n a (removes p.kd (frL (ops.toList.take h) is F h)) w := by
      refine ⟨hI.size, hI.defers, fun t i hl0 => ?_⟩
      obtain ⟨hnk, hl⟩ := look_removes _ _ hl0
      rcases look_frL (ops.toList.take h) is F h t (by rw [hth]; exact hlen) (by rw [hth]; exact Nat.le_refl _) with ⟨j, o, h1, h2, h3, h4, h5⟩ | ⟨h1, h2⟩
      · rw [hl] at h5
        exact hI.slot t j o h1 ((hget j o h1).1 h2) h3 (hall j h1) (fun k o' hk ho hd _ => h4 k o' hk ((hget k o' hk).2 ho) hd)
          (fun q hq => absurd (hkill j o h1 ((hget j o h1).1 h2) q hq t h3).1 hnk) i h5.symm
      · rw [hl] at h2
        exact hI.base t (fun k o' hk ho hd => absurd hd (h1 k o' hk ((hget k o' hk).2 ho))) i h2.symm
    have := wpAny_of_seq (md := .any) (Q' := Q) (ops.toList.drop h) h listed a w (fun j => by simp [List.getElem?_drop]) (by
      rw [hL]; simpa using c.seq) (hend a w (hI.ext.mono fun k ⟨j, _, hj⟩ => ⟨j, hj⟩) (fun j hj => hI.fact j (hfin j hj).1 (hall j (hfin j hj).1) (by rw [(hfin j hj).2]; intro q hq; cases hq)) hfit)
    simpa using this
  | succ f ih =>
    intro listed a w hI hc
    rw [show f + 1 + (ops.size - h) = (f + (ops.size - h)) + 1 by omega]
    have hcl : Closed ops listed := fun j o ho hl e he hb => hI.head.closed j o ho hl e he hb
    obtain ⟨i0, hi0, hu0, hmin⟩ := cntU_pos h (by omega : 0 < cntU listed h)
    have hi0s : i0 < ops.size := Nat.lt_of_lt_of_le hi0 c.le
    have hr0 : i0 ∈ Region.ready .any ops listed := by
      refine mem_ready.2 ⟨getD_in (by rw [hI.head.size]; exact hi0s) hu0, ops[i0], Array.getElem?_eq_getElem hi0s, fun e he hb => ?_⟩
      exact hmin _ (c.back i0 _ (Array.getElem?_eq_getElem hi0s) e he hb)
    refine ⟨fun h0 => (by rw [h0] at hr0; cases hr0), fun i hi => ?_⟩
    have hih : i < h := by
      rcases Nat.lt_or_ge i h with hlt | hge
      · exact hlt
      · obtain ⟨hiu, oi, hoi, _⟩ := mem_ready.1 hi
        have his : i < ops.size := (Array.getElem?_eq_some_iff.1 hoi).1
        have hlt : h < ops.size := by omega
        exact absurd hi (tail_waits (c.tail hlt).1 (c.tail hlt).2 hlt hI.head _ i0 rfl hi0 (mem_ready.1 hr0).1 i hge)
    obtain ⟨hiu, o, ho, hall⟩ := mem_ready.1 hi
    have his : i < ops.size := Nat.lt_of_lt_of_le hih c.le
    have hiu' : listed.getD i false = false := getD_both hiu
    obtain ⟨inf, hinf⟩ : ∃ inf, is[i]? = some inf := ⟨is[i], List.getElem?_eq_getElem (by omega)⟩
    obtain ⟨hdst, hstab, hstabT, hg⟩ := hob i o inf hih ho hinf
    -- who is listed is not forced behind i
    have hnah : ∀ j, listed.getD j false = true → ahead (masks ops.toList []) i j = false := fun j hj => by
      cases hb : ahead (masks ops.toList []) i j with
      | false => rfl
      | true => have := hmk listed hcl j i hb hj; rw [hiu'] at this; cases this
    have hseen : Gr (p.seen (masks ops.toList []) i) w0 w := hI.ext.mono fun b ⟨j, hj, hb⟩ => ⟨j, (fun e => by subst e; rw [hiu'] at hj; cases hj), hnah j hj, hb⟩
    have hfit : FitsOn (o.looksAt ops) n a (frL (ops.toList.take h) is F i) w := by
      refine ⟨hI.size, hI.defers, fun t ht j hl => ?_⟩
      have hn := c.names i o hih ho t (List.mem_append_left _ ht)
      rcases look_frL (ops.toList.take h) is F i t (by rw [hth]; exact hlen) (by rw [hth]; omega) with ⟨m, om, h1, h2, h3, h4, h5⟩ | ⟨h1, h2⟩
      · rw [hl] at h5
        have hom := (hget m om (by omega)).1 h2
        have hlm : listed.getD m false = true := by
          have hcl' : Closed ops (listed.setIfInBounds i true) := fun j' o' ho' hl' e he hb => (hI.head.set hi hih).closed j' o' ho' hl' e he hb
          have h6 := (hn m om (by omega) hom h3 (by omega) _ hcl').1 h1 (by simp [hI.head.size, his])
          rw [getD_set_ne false (by omega)] at h6
          exact h6
        refine hI.slot t m om (by omega) hom h3 hlm (fun k o' hk ho' hd hlk => ?_) (fun q hq => ?_) j h5.symm
        · rcases Nat.lt_trichotomy k i with hki | hki | hki
          · exact h4 k o' hki ((hget k o' hk).2 ho') hd
          · subst hki; rw [hiu'] at hlk; cases hlk
          · have := (hn k o' hk ho' hd (by omega) listed hcl).2 hki hlk
            rw [hiu'] at this; cases this
        · cases hlq : listed.getD q false with
          | false => rfl
          | true =>
            by_cases e : i = q
            · subst e; rw [hiu'] at hlq; cases hlq
            · have h7 := (hkill m om (by omega) hom q hq t h3).2 i o hih e ho ht
              have := hnah q hlq
              rw [h7] at this; cases this
      · rw [hl] at h2
        refine hI.base t (fun k o' hk ho' hd => ?_) j h2.symm
        rcases Nat.lt_trichotomy k i with hki | hki | hki
        · exact absurd hd (h1 k o' hki ((hget k o' hk).2 ho'))
        · subst hki; exact hiu'
        · cases hlk : listed.getD k false with
          | false => rfl
          | true =>
            have := (hn k o' hk ho' hd (by omega) listed hcl).2 hki hlk
            rw [hiu'] at this; cases this
    have hthe : ∀ j ∈ p.needs i, j < i ∧ th.at j w := by
      intro j hj
      obtain ⟨q1, q2⟩ := hneed i o hih ho j hj
      have hcl' : Closed ops (listed.setIfInBounds i true) := fun j' o' ho' hl' e he hb => (hI.head.set hi hih).closed j' o' ho' hl' e he hb
      have h6 := hmk _ hcl' i j q2 (by simp [hI.head.size, his])
      rw [getD_set_ne false (by omega)] at h6
      refine ⟨q1, hI.fact j (by omega) h6 (fun q hq => ?_)⟩
      cases hlq : listed.getD q false with
      | false => rfl
      | true =>
        by_cases e : i = q
        · subst e; rw [hiu'] at hlq; cases hlq
        · have hjs : j < ops.size := by have := c.le; omega
          have h7 := hneedk j (ops[j]'hjs) (by omega) (Array.getElem?_eq_getElem hjs) q hq i hih e hj
          have := hnah q hlq
          rw [h7] at this; cases this
    have hgv := hg a w hseen hthe hfit
    have next : ∀ u w', Gr (p.rows i) w w' → inf.ok u w' ∧ th.at i w' → wpAny P .any ops Q (f + (ops.size - h)) (listed.setIfInBounds i true) (a.put o.dst u) w' := by
      intro u w' he ⟨hok, hth'⟩
      refine ih _ _ _ ⟨?_, ?_, ?_, hI.head.set hi hih, ?_, ?_, ?_⟩ ?_
      · refine Gr.trans (hI.ext.mono fun b ⟨j, hj, hb⟩ => ⟨j, ?_, hb⟩) (he.mono fun b hb => ⟨i, by simp [hI.head.size, his], hb⟩)
        by_cases e : i = j
        · subst e; rw [hiu'] at hj; cases hj
        · rw [getD_set_ne false e]; exact hj
      · cases o.dst <;> simp [Act.put, hI.size]
      · cases o.dst <;> simp [Act.put, hI.defers]
      · intro t k ok hk hok' hdk hlk hmax hdead infk hinfk
        by_cases e : k = i
        · subst e
          have : ok = o := Option.some.inj (hok'.symm.trans ho)
          subst this
          have : infk = inf := Option.some.inj (hinfk.symm.trans hinf)
          subst this
          refine ⟨u, ?_, hok⟩
          rw [hdk]
          have hlt : t < n := by simpa [dstOk, hdk, Nat.blt_eq] using hdst
          simp [Act.put, hI.size, hlt]
        · rw [getD_set_ne false (Ne.symm e)] at hlk
          have hne : o.dst ≠ some t := by
            intro hdo
            have h1 := hmax i o hih ho hdo (by simp [hI.head.size, his])
            have := (c.names i o hih ho t (List.mem_append_right _ (by simp [hdo])) k ok hk hok' hdk e listed hcl).2 (by omega) hlk
            rw [hiu'] at this; cases this
          have hnd : i ∉ p.dead k := fun hin => by have := hdead i hin; simp [hI.head.size, his] at this
          obtain ⟨u', h1, h2⟩ := hI.slot t k ok hk hok' hdk hlk (fun k' o' hk' ho' hd' hl' => hmax k' o' hk' ho' hd' (getD_set_true hl'))
            (fun q hq => by
              have h5 := hdead q hq
              by_cases e2 : i = q
              · subst e2; exact absurd hq hnd
              · rw [getD_set_ne false e2] at h5; exact h5) infk hinfk
          have hsk := (hob k ok infk hk hok' hinfk).2.1
          refine ⟨u', ?_, hsk u' w w' h2 (he.mono fun b hb => ⟨i, Ne.symm e, ?_, hnd, hb⟩)⟩
          · cases hdo : o.dst with
            | none => exact h1
            | some d =>
              have : d ≠ t := fun e' => hne (by rw [hdo, e'])
              simp [Act.put, Array.getElem?_setIfInBounds_ne this, h1]
          · cases hb' : ahead (masks ops.toList []) i k with
            | false => rfl
            | true => have := hmk listed hcl k i hb' hlk; rw [hiu'] at this; cases this
      · intro t hnone j hl
        have hne : o.dst ≠ some t := fun hdo => by
          have := hnone i o hih ho hdo
          simp [hI.head.size, his] at this
        obtain ⟨u', h1, h2⟩ := hI.base t (fun k o' hk ho' hd => by
          have h3 := hnone k o' hk ho' hd
          by_cases e : i = k
          · subst e; exact hiu'
          · rw [getD_set_ne false e] at h3; exact h3) j hl
        obtain ⟨v, rfl⟩ := look_vals hF hl
        refine ⟨u', ?_, h2⟩
        cases hdo : o.dst with
        | none => exact h1
        | some d =>
          have : d ≠ t := fun e' => hne (by rw [hdo, e'])
          simp [Act.put, Array.getElem?_setIfInBounds_ne this, h1]
      · intro k hk hlk hdead
        by_cases e : k = i
        · subst e; exact hth'
        · rw [getD_set_ne false (Ne.symm e)] at hlk
          have hnd : i ∉ p.dead k := fun hin => by have := hdead i hin; simp [hI.head.size, his] at this
          have h2 := hI.fact k hk hlk (fun q hq => by
            have h5 := hdead q hq
            by_cases e2 : i = q
            · subst e2; exact absurd hq hnd
            · rw [getD_set_ne false e2] at h5; exact h5)
          obtain ⟨infk, hinfk⟩ : ∃ x, is[k]? = some x := ⟨is[k], List.getElem?_eq_getElem (by omega)⟩
          have hks : k < ops.size := by have := c.le; omega
          have hsk := (hob k (ops[k]'hks) infk hk (Array.getElem?_eq_getElem hks) hinfk).2.2.1
          refine hsk w w' h2 (he.mono fun b hb => ⟨i, Ne.symm e, ?_, hnd, hb⟩)
          cases hb' : ahead (masks ops.toList []) i k with
          | false => rfl
          | true => have := hmk listed hcl k i hb' hlk; rw [hiu'] at this; cases this
      · have := cntU_set (listed := listed) (i := i) (by rw [hI.head.size]; exact his) hiu' h hih
        omega
    unfold wpOp
    simp only [ho]
    unfold GivesG at hgv
    split
    · rename_i hw
      rw [if_pos hw] at hgv
      refine .inl ?_
      unfold Oper.wp
      generalize (execOp a.eval o).run P w = r at hgv
      cases r with
      | ok nx w' =>
        cases nx <;> simp only [givesUponG] at hgv <;> simp only [Oper.upon]
        case value u => exact next u w' hgv.1 hgv.2
        case skip => exact next undef w' hgv.1 hgv.2
        case enter f' args =>
          refine hgv.2.mono fun e w'' ⟨v, he, h1, h2⟩ => ?_
          subst he
          exact next v w'' (Gr.trans hgv.1 h1) h2
      | halt x w' => simp only [givesUponG] at hgv
    · rename_i hw
      rw [if_neg hw] at hgv
      exact next undef w (Gr.refl _ w) hgv

theorem W.drawG {id : Nat} {l : List Oper} {Q : Exit → Act → World → Prop} {F : Frm} {w : World} (h : Nat) (p : Plan) (hm : P.follows .mixedOrders = true) (hB : drawOk l.toArray h = true)
    (hk : killsOk l.toArray (masks l []) h p = true) (hF : vals F = true)
    (H : ∀ w0, Ext w w0 → w0.heap = w.heap → WG n P l.toArray (masks l []) p w0 (fun F' w' => WL n P l.toArray Q (l.drop h) F' w') [] (l.take h) F) : W n P (.region id l.toArray true) Q F w := by
  intro a ha
  have c := Chk.of hB
  obtain ⟨is, tl, h1, _, h2, h3⟩ := (H _ (Ext.draw w) rfl).infos
  have hth : (l.take h).length = h := by have := c.le; rw [List.length_take]; exact Nat.min_eq_left (by simpa using this)
  rw [hth] at h1 h3
  refine wp_region_any hm ?_
  have := wg_any (n := n) (P := P) (Q := Q) (F := F) (is := is) (th := tl) (w0 := { w with drawn := w.drawn + 1 }) (p := p) c hF (by simpa using hk) h1
    (fun m o i hm' ho hi => by
      have := h2 m o i (by rw [List.getElem?_take]; simpa [hm'] using ho) hi
      simpa using this)
    (fun a' w' he hq hf => by simpa using h3 w' he (by simpa using hq) a' (by simpa using hf)) (cntU (Array.replicate l.toArray.size false) h) (Array.replicate l.toArray.size false) a _
    ⟨Gr.refl _ _, ha.size, ha.defers, ⟨by simp, fun j oj _ hl => (by rw [getD_replicate_false] at hl; cases hl), fun t _ ht => getD_in (by simpa using ht) (getD_replicate_false _ _)⟩,
      fun t i o _ _ _ hl => (by rw [getD_replicate_false] at hl; cases hl), fun t _ inf hl => let ⟨u, q1, q2⟩ := ha.get t inf hl; ⟨u, q1, Info.ok_ext q2 (Ext.draw w)⟩, fun i _ hl => (by rw [getD_replicate_false] at hl; cases hl)⟩ rfl
  rw [cntU_new] at this
  have e : h + (l.toArray.size - h) = l.toArray.size := by have := c.le; omega
  rw [e] at this
  exact this
end

/-! ### Rules -/
section
variable {n : Nat} {P : Program} {ops : Array Oper} {F : Frm} {w0 w1 : World} {r : List Oper} {Z : Frm → World → Prop} {ty : TypeId} {S T : Nat → Prop} {ms : List Nat} {p : Plan} {m : Nat}
def Taken (ops : Array Oper) (F : Frm) : Option (Nat × Bool) → Prop
  | none => True
  | some (j, want) => ∃ g b, (ops[j]?).bind (·.dst) = some g ∧ look g F = some (.val (.bool b)) ∧ b = want
theorem Taken.no : Taken ops F none := trivial
theorem Taken.yes {j g : Nat} {b want : Bool} (hj : (ops[j]?).bind (·.dst) = some g) (hg : look g F = some (.val (.bool b))) (hb : b = want) : Taken ops F (some (j, want)) := ⟨g, b, hj, hg, hb⟩
theorem wanted_of {d : Option Nat} {op : Op} {pos : String} {af : Array Edge} {gu : Option (Nat × Bool)} {a : Act} {w : World} (hg : Taken ops F gu) (hf : FitsOn ((⟨d, op, ty, pos, af, gu⟩ : Oper).looksAt ops) n a F w) :
    Region.wanted ⟨d, op, ty, pos, af, gu⟩ (yielded ops a.tmps) = true := by
  cases gu with
  | none => simp [Region.wanted]
  | some q =>
    obtain ⟨j, want⟩ := q
    obtain ⟨g, b, hj, hl, hb⟩ := hg
    have hy := yields_of hj hl (fun i hi => hf.get g (mem_looks (o := ⟨d, op, ty, pos, af, some (j, want)⟩) rfl hj) i hi)
    simp [Region.wanted, hy, hb]

def GivesAllG (S : Nat → Prop) (n : Nat) (P : Program) (ops : Array Oper) (o : Oper) (F : Frm) (w1 : World) (i : Info) (Θ : World → Prop) : Prop := ∀ a, FitsOn (o.looksAt ops) n a F w1 → GivesG S P ops o a w1 i Θ
def NoT : World → Prop := fun _ => True
theorem stab_no (S : Nat → Prop) : stabT NoT S := fun _ _ _ _ => trivial
theorem WG.go {o : Oper} {i : Info} {th : Facts} (hd : dstOk n o = true) (hs : stab i (p.later ms th.length)) (hg : ∀ w1, Gr (p.seen ms th.length) w0 w1 → GivesAllG (p.rows th.length) n P ops o F w1 i NoT) (h : WG n P ops ms p w0 Z (th ++ [NoT]) r (push o.dst i F)) : WG n P ops ms p w0 Z th (o :: r) F :=
  ⟨hd, i, NoT, hs, stab_no _, fun a w1 he _ hf => hg w1 he a hf, h⟩
/-- With facts on the world: those that are needed, and the one that is made. -/
theorem WG.goT {o : Oper} {i : Info} {th : Facts} {Θ : World → Prop} (hd : dstOk n o = true) (hs : stab i (p.later ms th.length)) (ht : stabT Θ (p.later ms th.length))
    (hg : ∀ w1, Gr (p.seen ms th.length) w0 w1 → (∀ j ∈ p.needs th.length, th.at j w1) → GivesAllG (p.rows th.length) n P ops o F w1 i Θ) (h : WG n P ops ms p w0 Z (th ++ [Θ]) r (push o.dst i F)) : WG n P ops ms p w0 Z th (o :: r) F :=
  ⟨hd, i, Θ, hs, ht, fun a w1 he hn hf => hg w1 he hn a hf, h⟩
theorem WG.nil {th : Facts} (h : ∀ w, Gr p.all w0 w → (∀ j ∈ p.fin, th.at j w) → Z (removes p.kd F) w) : WG n P ops ms p w0 Z th [] F := h
theorem GivesAllG.open {o : Oper} {i : Info} {Θ : World → Prop} {t : Nat} {φ : Value → World → Prop} (ht : look t F = some (.pred φ)) (hm : (o.looksAt ops).contains t = true) (h : ∀ u wq, Ext wq w1 → φ u wq → GivesAllG S n P ops o ((t, .val u) :: remove t F) w1 i Θ) : GivesAllG S n P ops o F w1 i Θ := by
  intro a ha
  obtain ⟨u, h1, wq, h2, h3⟩ := ha.get t (by simpa using hm) _ ht
  refine h u wq h2 h3 a ⟨ha.size, ha.defers, fun s hs i hl => ?_⟩
  by_cases e : t = s
  · subst e; rw [look_cons_eq] at hl; cases hl; exact ⟨u, h1, rfl⟩
  · rw [look_cons_ne e, look_remove (Ne.symm e)] at hl; exact ha.get s hs i hl
theorem stab_val (v : Value) (S : Nat → Prop) : stab (.val v) S := fun _ _ _ h _ => h
def grp (S : Nat → Prop) (φ : Value → World → Prop) (u : Value) (w : World) : Prop := ∃ w1, Gr S w1 w ∧ φ u w1
theorem stab_grp (φ : Value → World → Prop) (S : Nat → Prop) : stab (.pred (grp S φ)) S := fun _ _ w'' ⟨_, e1, w2, e2, h⟩ e => ⟨w'', Ext.rfl' _, w2, (e2.trans (.of_ext e1)).trans e, h⟩
theorem grp.of {φ : Value → World → Prop} {u : Value} {w : World} (h : φ u w) : grp S φ u w := ⟨w, Gr.refl _ _, h⟩
theorem GivesAllG.det {d : Nat} {op : Op} {pos : String} {af : Array Edge} {gu : Option (Nat × Bool)} {v : Value} (hg : Taken ops F gu) (hr : Runs P w1 F op ty v) : GivesAllG S n P ops ⟨some d, op, ty, pos, af, gu⟩ F w1 (.val v) NoT := by
  intro a hf
  have e := hr ⟨some d, op, ty, pos, af, gu⟩ a.eval rfl rfl (fun x hm u hx => hf.ev hm hx)
  unfold GivesG
  rw [if_pos (wanted_of hg hf), e]
  exact ⟨Gr.refl _ _, rfl, trivial⟩
theorem Makes.mono {op : Op} {R R' : Value → World → Prop} (h : Makes P w1 F op ty R) (hr : ∀ v w', R v w' → R' v w') : Makes P w1 F op ty R' := fun o ρ h1 h2 h3 => by
  obtain ⟨v, w', q1, q2⟩ := h o ρ h1 h2 h3
  exact ⟨v, w', q1, hr v w' q2⟩
theorem Does.mono {op : Op} {R R' : World → Prop} (h : Does P w1 F op ty R) (hr : ∀ w', R w' → R' w') : Does P w1 F op ty R' := fun o ρ h1 h2 h3 => by
  obtain ⟨w', q1, q2⟩ := h o ρ h1 h2 h3
  exact ⟨w', q1, hr w' q2⟩
theorem GivesAllG.mk {d : Nat} {op : Op} {pos : String} {af : Array Edge} {gu : Option (Nat × Bool)} {φ : Value → World → Prop} (hg : Taken ops F gu) (hr : Makes P w1 F op ty (fun v w' => Gr S w1 w' ∧ φ v w')) :
    GivesAllG S n P ops ⟨some d, op, ty, pos, af, gu⟩ F w1 (.pred (grp T φ)) NoT := by
  intro a hf
  obtain ⟨v, w', h1, h2, h3⟩ := hr ⟨some d, op, ty, pos, af, gu⟩ a.eval rfl rfl (fun x hm u hx => hf.ev hm hx)
  unfold GivesG
  rw [if_pos (wanted_of hg hf), h1]
  exact ⟨h2, ⟨w', Ext.rfl' _, grp.of h3⟩, trivial⟩
theorem GivesAllG.call {d : Nat} {fo : Operand} {args : List Operand} {at_ : Array TypeId} {pos : String} {af : Array Edge} {gu : Option (Nat × Bool)} {fv : Value} {f : FuncId} {vs all : List Value} {φ : Value → World → Prop}
    (hg : Taken ops F gu) (hf : ev F fo = some fv) (ha : evs F args = some vs) (hc : calls fv f vs all) (hok : callOk P f = true)
    (hC : CallsTo P f all w1 (fun v w' => φ v w' ∧ Ext w1 w')) :
    GivesAllG S n P ops ⟨some d, .call { callee := .value fo, args := args.toArray, argTypes := at_ }, ty, pos, af, gu⟩ F w1 (.pred (grp T φ)) NoT := by
  intro a hfit
  have hr := run_call (P := P) (w := w1) (o := ⟨some d, .call { callee := .value fo, args := args.toArray, argTypes := at_ }, ty, pos, af, gu⟩) (ρ := a.eval) rfl (fun x hm u hx => hfit.ev hm hx) hf ha hc hok
  unfold GivesG
  rw [if_pos (wanted_of hg hfit), hr]
  exact ⟨Gr.refl _ _, Calls.mono hC fun e w' ⟨v, h1, h2, h3⟩ => ⟨v, h1, .of_ext h3, ⟨w', Ext.rfl' _, grp.of h2⟩, trivial⟩⟩
theorem GivesAllG.callv {d : Nat} {fo : Operand} {args : List Operand} {at_ : Array TypeId} {pos : String} {af : Array Edge} {gu : Option (Nat × Bool)} {fv : Value} {f : FuncId} {vs all : List Value} {v : Value}
    (hg : Taken ops F gu) (hf : ev F fo = some fv) (ha : evs F args = some vs) (hc : calls fv f vs all) (hok : callOk P f = true)
    (hC : CallsTo P f all w1 (fun v' w' => v' = v ∧ Ext w1 w')) :
    GivesAllG S n P ops ⟨some d, .call { callee := .value fo, args := args.toArray, argTypes := at_ }, ty, pos, af, gu⟩ F w1 (.val v) NoT := by
  intro a hfit
  have hr := run_call (P := P) (w := w1) (o := ⟨some d, .call { callee := .value fo, args := args.toArray, argTypes := at_ }, ty, pos, af, gu⟩) (ρ := a.eval) rfl (fun x hm u hx => hfit.ev hm hx) hf ha hc hok
  unfold GivesG
  rw [if_pos (wanted_of hg hfit), hr]
  exact ⟨Gr.refl _ _, Calls.mono hC fun e w' ⟨v', h1, h2, h3⟩ => ⟨v', h1, .of_ext h3, h2, trivial⟩⟩
/-- A store. -/
def AnyI : Info := .pred (fun _ _ => True)
theorem stab_any (S : Nat → Prop) : stab AnyI S := fun _ _ _ _ _ => ⟨_, Ext.rfl' _, trivial⟩
theorem GivesAllG.do {op : Op} {pos : String} {af : Array Edge} {gu : Option (Nat × Bool)} {Θ : World → Prop} (hg : Taken ops F gu) (hr : Does P w1 F op ty (fun w' => Gr S w1 w' ∧ Θ w')) :
    GivesAllG S n P ops ⟨none, op, ty, pos, af, gu⟩ F w1 AnyI Θ := by
  intro a hf
  obtain ⟨w', h1, h2, h3⟩ := hr ⟨none, op, ty, pos, af, gu⟩ a.eval rfl rfl (fun x hm u hx => hf.ev hm hx)
  unfold GivesG
  rw [if_pos (wanted_of hg hf), h1]
  exact ⟨h2, ⟨w', Ext.rfl' _, trivial⟩, h3⟩
end

/-! ### Facts, over a world that has turned in rows -/
section
variable {α : Type} {E : Enc α} {w w' : World} {lo hi base g : Nat} {t : TypeId} {v : Value} {xs : List α} {cs : List Value} {S : Nat → Prop}
theorem Sl.gr (h : Sl E w lo hi v xs) (e : Gr S w w') (hs : ∀ k, S k → lo ≤ k → k < hi → False) : Sl E w' lo hi v xs := h.same fun b h1 h2 h3 => e.block b h3 (fun q => hs b q h1 h2)
theorem Blk.gr (h : Blk w g t cs) (e : Gr S w w') (hs : ¬ S g) : Blk w' g t cs := (e.block g h.lt hs).trans h
theorem Own.gr (h : Own E w base t v xs) (e : Gr S w w') (hs : ∀ k, v.ownBlock = some k → ¬ S k) : Own E w' base t v xs := by
  have hl := h.lt
  refine ⟨h.1, ?_⟩
  rcases h.2 with h2 | ⟨g, cap, cur, r1, r2, r3, r4⟩
  · exact .inl h2
  · have hk : v.ownBlock = some g := by rw [r1]; rfl
    exact .inr ⟨g, cap, cur, r1, r2, (e.block g (hl g hk).2 (hs g hk)).trans r3, r4⟩
theorem Own.gr_mono {b : Nat} (h : Own E w base t v xs) (e : Gr S w w') (hb : b ≤ base) (hs : ∀ k, S k → k < base) : Own E w' b t v xs :=
  (h.gr e (fun k hk q => by have := (h.lt k hk).1; have := hs k q; omega)).mono hb
end

/-! ### Own slices of own slices -/
section
variable {α β : Type} {E : Enc α} {E' : Enc β} {w w' : World} {base b' g : Nat} {t t' : TypeId} {v v' : Value} {xs : List α} {xs' : List β} {cs : List Value} {S : Nat → Prop}
theorem Own.tag (h : Own E w base t v xs) {k : Nat} (hk : v.ownBlock = some k) : ∃ cur, w.heap[k]? = some (.cells cur t (0, 0)) := by
  rcases h.2 with ⟨h1, _⟩ | ⟨g, cap, cur, r1, r2, r3, _⟩
  · rw [h1] at hk; cases hk
  · rw [r1] at hk
    simp only [Value.ownBlock, Option.some.injEq] at hk
    subst hk; exact ⟨cur, r3⟩
theorem Own.shape (h : Own E w base t v xs) : ∃ a l c, v = .slice a l c := by
  rcases h.2 with ⟨h1, _⟩ | ⟨g, cap, cur, r1, _⟩
  · exact ⟨_, _, _, h1⟩
  · exact ⟨_, _, _, r1⟩
theorem Own.ne_own (h : Own E w base t v xs) (h' : Own E' w b' t' v' xs') (ht : t ≠ t') {k : Nat} (hk : v.ownBlock = some k) (hk' : v'.ownBlock = some k) : False := by
  obtain ⟨c, e⟩ := h.tag hk
  obtain ⟨c', e'⟩ := h'.tag hk'
  rw [e] at e'
  cases e'
  exact ht rfl
theorem Own.ne_blk (h : Own E w base t v xs) (h' : Blk w g t' cs) (ht : t ≠ t') (hk : v.ownBlock = some g) : False := by
  obtain ⟨c, e⟩ := h.tag hk
  unfold Blk at h'
  rw [e] at h'
  cases h'
  exact ht rfl
structure OwnL (E : Enc α) (w : World) (base : Nat) (t : TypeId) (vs : List Value) (xs : List (List α)) : Prop where
  len : vs.length = xs.length
  get : ∀ {i : Nat}, i < xs.length → Own E w base t vs[i]! xs[i]!
theorem OwnL.nil : OwnL E w base t [] [] := ⟨rfl, fun h => by simp at h⟩
theorem OwnL.ext {vs : List Value} {xs : List (List α)} (h : OwnL E w base t vs xs) (e : Ext w w') : OwnL E w' base t vs xs := ⟨h.len, fun hi => (h.get hi).ext e⟩
theorem OwnL.mono {vs : List Value} {xs : List (List α)} {b : Nat} (h : OwnL E w base t vs xs) (hb : b ≤ base) : OwnL E w b t vs xs := ⟨h.len, fun hi => (h.get hi).mono hb⟩
/-- What is turned bears another type's tag. -/
theorem OwnL.gr {vs : List Value} {xs : List (List α)} (h : OwnL E w base t vs xs) (e : Gr S w w') (hs : ∀ k, S k → ∀ cur, w.heap[k]? ≠ some (.cells cur t (0, 0))) : OwnL E w' base t vs xs :=
  ⟨h.len, fun hi => (h.get hi).gr e fun k hk q => by obtain ⟨c, hc⟩ := (h.get hi).tag hk; exact hs k q c hc⟩
theorem OwnL.far {vs : List Value} {xs : List (List α)} (h : OwnL E w base t vs xs) {row : Option Nat} (e : w.grownBy w' row) (hs : ∀ k, row = some k → ∀ cur, w.heap[k]? ≠ some (.cells cur t (0, 0))) : OwnL E w' base t vs xs :=
  h.gr (S := fun k => row = some k) (.of_grown e fun _ h => h) hs
theorem OwnL.lt_all {vs : List Value} {xs : List (List α)} (h : OwnL E w base t vs xs) {i k : Nat} (hi : i < xs.length) (hk : vs[i]!.ownBlock = some k) : k < w.heap.size := ((h.get hi).lt k hk).2
theorem OwnL.far' {vs : List Value} {xs : List (List α)} (h : OwnL E w base t vs xs) {row : Option Nat} (e : w.grownBy w' row) (hs : ∀ {i k : Nat}, i < xs.length → vs[i]!.ownBlock = some k → row = some k → False) : OwnL E w' base t vs xs :=
  ⟨h.len, fun hi => (h.get hi).gr (S := fun k => row = some k) (.of_grown e fun _ h => h) fun _ hk q => hs hi hk q⟩
theorem OwnL.snoc {vs : List Value} {xs : List (List α)} {u : Value} {x : List α} (h : OwnL E w base t vs xs) (k : Own E w base t u x) : OwnL E w base t (vs ++ [u]) (xs ++ [x]) := by
  refine ⟨by simp [h.len], fun {i} hi => ?_⟩
  have hl := h.len
  rcases Nat.lt_or_ge i xs.length with h1 | h1
  · have e1 : (vs ++ [u])[i]! = vs[i]! := by rw [getElem!_pos _ i (by simp; omega), getElem!_pos vs i (by omega), List.getElem_append_left]
    have e2 : (xs ++ [x])[i]! = xs[i]! := by rw [getElem!_pos _ i (by simp; omega), getElem!_pos xs i h1, List.getElem_append_left]
    rw [e1, e2]; exact h.get h1
  · have : i = xs.length := by simp at hi; omega
    subst this
    have e1 : (vs ++ [u])[xs.length]! = u := by rw [← hl, getElem!_pos _ _ (by simp)]; simp
    have e2 : (xs ++ [x])[xs.length]! = x := by rw [getElem!_pos _ _ (by simp)]; simp
    rw [e1, e2]; exact k
theorem OwnL.sl {vs : List Value} {xs : List (List α)} (h : OwnL E w base t vs xs) : SlL E w base w.heap.size vs xs := ⟨h.len, fun hi => (h.get hi).sl⟩
theorem Blk.tag_ne {cs : List Value} (h : Blk w g t cs) (ht : t ≠ t') (cur : Array Value) : w.heap[g]? ≠ some (.cells cur t' (0, 0)) := by
  unfold Blk at h; rw [h]; intro e; cases e; exact ht rfl
theorem Own.tag_ne (h : Own E w base t v xs) (ht : t ≠ t') {k : Nat} (hk : v.ownBlock = some k) (cur : Array Value) : w.heap[k]? ≠ some (.cells cur t' (0, 0)) := by
  obtain ⟨c, e⟩ := h.tag hk
  rw [e]; intro q; cases q; exact ht rfl
theorem Own.far_own (h : Own E w base t v xs) (h' : Own E' w b' t' v' xs') (ht : t ≠ t') (hg : w.grownBy w' v'.ownBlock) : Own E w' base t v xs := by
  refine h.far hg ?_
  cases hv : v.ownBlock with
  | none => exact .inl rfl
  | some k => exact .inr fun e => h.ne_own h' ht hv e.symm
theorem OwnL.far_own {vs : List Value} {ys : List (List α)} (h : OwnL E w base t vs ys) (h' : Own E' w b' t' v' xs') (ht : t' ≠ t) (hg : w.grownBy w' v'.ownBlock) : OwnL E w' base t vs ys :=
  h.far hg fun _ hk cur => h'.tag_ne ht hk cur
end
end Go.G
