/-
  What the proof rests on: part 11 of 13.
-/
import Derived.Test.YtbkbeplddddgeaaOptimumBetweenP10
section
namespace Go.D33
open Go Go.RowKit Go.H
structure PartsN (E : Nat → Nat → Bool) (units : List Nat) (ps : List (List Nat)) : Prop where
  perm : ps.flatten.Perm units
  ne : ∀ p ∈ ps, p ≠ []
  conn : ∀ p ∈ ps, ∀ u ∈ p, ∀ v ∈ p, Cn (within E p) u v
  sep : ps.Pairwise fun p q => ∀ u ∈ p, ∀ v ∈ q, E u v = false
theorem partsN_ok {E : Nat → Nat → Bool} : ∀ (m : Nat) (l : List Nat), l.length = m → PartsN E l (partsL E l) := by
  intro m
  induction m using Nat.strongRecOn with
  | _ m ih =>
    intro l hm
    cases l with
    | nil => rw [parts_nil]; exact ⟨.refl _, fun p hp => (by cases hp), fun p hp => (by cases hp), List.Pairwise.nil⟩
    | cons u r =>
      obtain ⟨a1, a2, a3, a4, a5⟩ := grow1 (E := E) u r
      rw [List.length_cons] at hm
      have hl := a4.length_le
      have := ih _ (by omega) (grow E [u] r 0).2 rfl
      rw [parts_cons]
      refine ⟨?_, fun p hp => ?_, fun p hp x hx v hv => ?_, List.pairwise_cons.2 ⟨fun p hp x hx v hv => ?_, this.sep⟩⟩
      · rw [List.flatten_cons]
        exact (this.perm.append_left _).trans a1
      · rcases List.mem_cons.1 hp with rfl | hp
        · intro e
          rw [e] at a5
          obtain ⟨q, hq⟩ := a5
          cases hq
        · exact this.ne p hp
      · rcases List.mem_cons.1 hp with rfl | hp
        · exact (a2 x hx).symm.trans (a2 v hv)
        · exact this.conn p hp x hx v hv
      · exact a3 x hx v (this.perm.subset (List.mem_flatten.2 ⟨p, hp, hv⟩))
theorem foldl_min_mem : ∀ {r : List Nat} {u : Nat}, r.foldl min u ∈ u :: r ∧ ∀ v ∈ u :: r, r.foldl min u ≤ v
  | [], u => ⟨by simp, fun v hv => by rw [List.mem_singleton.1 hv]; exact Nat.le_refl _⟩
  | x :: r, u => by
    obtain ⟨h1, h2⟩ := foldl_min_mem (r := r) (u := min u x)
    rw [List.foldl_cons]
    refine ⟨?_, fun v hv => ?_⟩
    · rcases List.mem_cons.1 h1 with q | q
      · rcases Nat.le_total u x with z | z
        · rw [q, Nat.min_eq_left z]; simp
        · rw [q, Nat.min_eq_right z]; simp
      · simp [q]
    · have h3 := h2 (min u x) (by simp)
      rcases List.mem_cons.1 hv with rfl | hv
      · omega
      · rcases List.mem_cons.1 hv with rfl | hv
        · omega
        · exact h2 v (by simp [hv])
theorem minL_mem : ∀ {p : List Nat}, p ≠ [] → minL p ∈ p ∧ ∀ v ∈ p, minL p ≤ v
  | [], h => absurd rfl h
  | _ :: _, _ => foldl_min_mem
def thereL (m : List Nat) (t : Int) : List Nat := if t < 0 then [] else unitsL m t.toNat
def g0L (m atm : List Nat) (s : Stp) : List Nat := if s.u = true then unitsL m m[s.f.toNat]! ++ thereL m s.t else thereL m s.t ++ (unitsL m m[s.f.toNat]!).filter fun u => decide (atm[u]! = s.f.toNat)
def g1L (m atm : List Nat) (s : Stp) : List Nat := if s.u = true then [] else (unitsL m m[s.f.toNat]!).filter fun u => !decide (atm[u]! = s.f.toNat)
def gL (lk : Nat → Nat → Bool) (m atm : List Nat) (s : Stp) : List (List Nat) := partsL lk (g0L m atm s) ++ partsL lk (g1L m atm s)
def sumV (w : Nat → Nat → Int) (ps : List (List Nat)) : Int := ps.foldl (fun n p => n + valF w p) 0
def hitR (g : List Nat) (x : Ru) : Bool := decide (x.a.toNat ∈ g ∧ x.b.toNat ∈ g)
def rngF (n : Nat) (s : Stp) : Prop := 0 ≤ s.f ∧ s.f < (n : Int) ∧ s.t < (n : Int) ∧ -1 ≤ s.t ∧ (s.t < 0 → s.u = false)
instance (n : Nat) (s : Stp) : Decidable (rngF n s) := by unfold rngF; infer_instance
def preF (n : Nat) (atm m : List Nat) (s : Stp) : Prop :=
  rngF n s ∧ (0 ≤ s.t → m[s.t.toNat]! = s.t.toNat ∧ m[s.f.toNat]! ≠ s.t.toNat) ∧
  (s.u = true → m[s.f.toNat]! = s.f.toNat ∧ s.f < s.t) ∧ (s.u = false → atm[s.f.toNat]! = s.f.toNat ∧ (s.t < 0 → g1L m atm s ≠ []))
instance (n : Nat) (atm m : List Nat) (s : Stp) : Decidable (preF n atm m s) := by unfold preF; infer_instance
def posF (n : Nat) (bar : List Ru) (atm m : List Nat) (s : Stp) : Prop := preF n atm m s ∧ bar.any (hitR (g0L m atm s)) = false
instance (n : Nat) (bar : List Ru) (atm m : List Nat) (s : Stp) : Decidable (posF n bar atm m s) := by unfold posF; infer_instance
def nm0 (m atm : List Nat) (s : Stp) : List Int := setAll (m.map fun x : Nat => (x : Int)) (g0L m atm s) (-1)
def nmF (lk : Nat → Nat → Bool) (m atm : List Nat) (s : Stp) : List Int := nameF (fun x : Nat => (x : Int)) (nm0 m atm s) (gL lk m atm s)
def gnF (w : Nat → Nat → Int) (lk : Nat → Nat → Bool) (m atm : List Nat) (s : Stp) : Int := sumV w (gL lk m atm s) - (valF w (unitsL m m[s.f.toNat]!) + valF w (thereL m s.t))
def nmL (l : List Nat) : List Nat := (List.range l.length).map fun i => l.idxOf l[i]!
def mvL (n : Nat) (atm m : List Nat) (s : Stp) : List Nat := (List.range n).map fun i => if atm[i]! = s.f.toNat then (if s.t < 0 then n else s.t.toNat) else m[i]!
def labL (n : Nat) (atm m : List Nat) (s : Stp) : List Nat := if s.u = true then joinL m s.f.toNat s.t.toNat else nmL (mvL n atm m s)
def othR (k : Nat) (atm m : List Nat) (f : Nat) : Bool := (List.range k).any fun i => decide (m[i]! = m[f]! ∧ ¬ atm[i]! = f)
def preR (n : Nat) (atm m : List Nat) (s : Stp) : Prop :=
  rngF n s ∧ (0 ≤ s.t → m[s.t.toNat]! = s.t.toNat) ∧
  (s.u = true → m[s.f.toNat]! = s.f.toNat ∧ s.f < s.t) ∧ (s.u = false → atm[s.f.toNat]! = s.f.toNat ∧ (0 ≤ s.t → m[s.f.toNat]! ≠ s.t.toNat) ∧ (s.t < 0 → othR n atm m s.f.toNat = true))
instance (n : Nat) (atm m : List Nat) (s : Stp) : Decidable (preR n atm m s) := by unfold preR; infer_instance
def posR (n : Nat) (bar : List Ru) (atm m : List Nat) (s : Stp) : Prop := preR n atm m s ∧ clash bar (labL n atm m s) = false
instance (n : Nat) (bar : List Ru) (atm m : List Nat) (s : Stp) : Decidable (posR n bar atm m s) := by unfold posR; infer_instance
def resR (n : Nat) (ps : List Pr) (rs : List Ru) (m : List Nat) (s : Stp) : List Nat := connL n ps rs (labL n (atomsL n rs) m s)
def sumQ (q : Nat → Nat → Prop) [∀ a b, Decidable (q a b)] (ps : List Pr) : Int := ps.foldl (fun n x => if q x.a.toNat x.b.toNat then n + x.w else n) 0
theorem sumQ_s {q : Nat → Nat → Prop} [∀ a b, Decidable (q a b)] {ps : List Pr} (x : Pr) : sumQ q (ps ++ [x]) = sumQ q ps + if q x.a.toNat x.b.toNat then x.w else 0 := by
  unfold sumQ
  rw [List.foldl_append, List.foldl_cons, List.foldl_nil]
  by_cases e : q x.a.toNat x.b.toNat
  · rw [if_pos e, if_pos e]
  · rw [if_neg e, if_neg e]; omega
theorem valR_sum (m : List Nat) (ps : List Pr) : valR m ps = sumQ (fun a b => m[a]! = m[b]!) ps := rfl
theorem lin_eq {n : Nat} {ps : List Pr} {rs : List Ru} (hf : (Prob.mk (n : Int) ps rs).formed) {V : (Nat → Nat → Int) → Int} {q : Nat → Nat → Prop} [∀ a b, Decidable (q a b)] (ha : ∀ w d, V (fun i j => w i j + d i j) = V w + V d)
    (hp : ∀ a b x, a < n → b < n → a ≠ b → V (pairW a b x) = if q a b then x else 0) : V (wF ps) = sumQ q ps := by
  have key : ∀ k, k ≤ ps.length → V (wF (ps.take k)) = sumQ q (ps.take k) := by
    intro k
    induction k with
    | zero =>
      intro _
      have h1 := ha (fun _ _ => 0) (fun _ _ => 0)
      have e : (fun (_ _ : Nat) => (0 : Int) + 0) = fun _ _ => 0 := by funext i j; rfl
      rw [e] at h1
      rw [List.take_zero]
      show V (fun _ _ => 0) = 0
      omega
    | succ k ih =>
      intro hk
      have hk' : k < ps.length := hk
      have hp2 : prOk (n : Int) ps[k]! := (hf.2.2.2.1 k hk').1
      unfold prOk at hp2
      have hne : ps[k]!.a.toNat ≠ ps[k]!.b.toNat := by omega
      have h0 : wF (ps.take k) ps[k]!.a.toNat ps[k]!.b.toNat = 0 ∧ wF (ps.take k) ps[k]!.b.toNat ps[k]!.a.toNat = 0 := by
        have hd : ∀ x ∈ ps.take k, x.a.toNat < x.b.toNat ∧ ¬ (x.a.toNat = ps[k]!.a.toNat ∧ x.b.toNat = ps[k]!.b.toNat) := fun x hx => by
          obtain ⟨i, hi, rfl⟩ := List.getElem_of_mem hx
          rw [List.length_take] at hi
          have hi2 : i < ps.length := by omega
          have e1 : (ps.take k)[i]'(by rw [List.length_take]; omega) = ps[i]! := by rw [List.getElem_take, getElem!_pos ps i hi2]
          rw [e1]
          have ha := asc_lt hf (show i < k by omega) hk'
          have hpi : prOk (n : Int) ps[i]! := (hf.2.2.2.1 i hi2).1
          have ha' : prAsc ps[i]! ps[k]! := ha
          unfold prAsc at ha'
          unfold prOk at hpi
          omega
        exact ⟨wF_0 rfl fun x hx q => by have := hd x hx; omega, wF_0 rfl fun x hx q => by have := hd x hx; omega⟩
      have ew : wF (ps.take (k + 1)) = fun i j => wF (ps.take k) i j + pairW ps[k]!.a.toNat ps[k]!.b.toNat ps[k]!.w i j := by
        rw [wF_s hk']
        funext i j
        unfold addW upd2 pairW
        by_cases q : (i = ps[k]!.a.toNat ∧ j = ps[k]!.b.toNat) ∨ (i = ps[k]!.b.toNat ∧ j = ps[k]!.a.toNat)
        · rw [if_pos q, if_pos q]
          rcases q with ⟨q1, q2⟩ | ⟨q1, q2⟩
          · rw [q1, q2, h0.1]; omega
          · rw [q1, q2, h0.2]; omega
        · rw [if_neg q, if_neg q]; omega
      rw [ew, ha, ih (by omega), hp _ _ _ (by omega) (by omega) hne, snocP hk', sumQ_s]
  have := key ps.length (Nat.le_refl _)
  rwa [List.take_length] at this
theorem sumV_c (w : Nat → Nat → Int) (p : List Nat) (L : List (List Nat)) : sumV w (p :: L) = valF w p + sumV w L := by
  have key : ∀ (L : List (List Nat)) (n : Int), L.foldl (fun n p => n + valF w p) n = n + L.foldl (fun n p => n + valF w p) 0 := by
    intro L
    induction L with
    | nil => intro n; simp
    | cons v r ih => intro n; rw [List.foldl_cons, List.foldl_cons, ih, ih (0 + valF w v)]; omega
  unfold sumV
  rw [List.foldl_cons, key]; omega
theorem sumV_s (w : Nat → Nat → Int) {L : List (List Nat)} {k : Nat} (h : k < L.length) : sumV w (L.take (k + 1)) = sumV w (L.take k) + valF w L[k]! := by rw [snocP h, sumV, List.foldl_append]; rfl
theorem sumV_add (w d : Nat → Nat → Int) : ∀ L : List (List Nat), sumV (fun i j => w i j + d i j) L = sumV w L + sumV d L
  | [] => rfl
  | p :: L => by rw [sumV_c, sumV_c, sumV_c, sumV_add w d L, valF_add]; omega
theorem sumV_pair {a b : Nat} (hne : a ≠ b) (x : Int) : ∀ L : List (List Nat), L.flatten.Nodup → sumV (pairW a b x) L = if ∃ p ∈ L, a ∈ p ∧ b ∈ p then x else 0
  | [], _ => by rw [if_neg (by simp)]; rfl
  | p :: L, h => by
    rw [List.flatten_cons, List.nodup_append] at h
    obtain ⟨h1, h2, h3⟩ := h
    rw [sumV_c, sumV_pair hne x L h2, valF_pair hne x p h1]
    by_cases e : a ∈ p ∧ b ∈ p
    · rw [if_pos e, if_neg (fun ⟨q, hq, qa, _⟩ => h3 a e.1 a (List.mem_flatten.2 ⟨q, hq, qa⟩) rfl), if_pos ⟨p, by simp, e⟩]; omega
    · rw [if_neg e]
      by_cases e2 : ∃ p ∈ L, a ∈ p ∧ b ∈ p
      · obtain ⟨q, hq, qq⟩ := e2
        rw [if_pos ⟨q, hq, qq⟩, if_pos ⟨q, by simp [hq], qq⟩]; omega
      · rw [if_neg e2, if_neg (fun ⟨q, hq, qq⟩ => (List.mem_cons.1 hq).elim (fun z => e (z ▸ qq)) fun z => e2 ⟨q, z, qq⟩)]; omega
theorem sumQ_four {q1 q2 q3 q4 : Nat → Nat → Prop} [∀ a b, Decidable (q1 a b)] [∀ a b, Decidable (q2 a b)] [∀ a b, Decidable (q3 a b)] [∀ a b, Decidable (q4 a b)] : ∀ {ps : List Pr},
    (∀ x ∈ ps, ((q1 x.a.toNat x.b.toNat ↔ q3 x.a.toNat x.b.toNat) ∧ (q2 x.a.toNat x.b.toNat ↔ q4 x.a.toNat x.b.toNat)) ∨ ((q1 x.a.toNat x.b.toNat ↔ q2 x.a.toNat x.b.toNat) ∧ (q3 x.a.toNat x.b.toNat ↔ q4 x.a.toNat x.b.toNat))) → sumQ q1 ps - sumQ q2 ps = sumQ q3 ps - sumQ q4 ps := by
  intro ps
  have key : ∀ k, k ≤ ps.length → (∀ x ∈ ps, ((q1 x.a.toNat x.b.toNat ↔ q3 x.a.toNat x.b.toNat) ∧ (q2 x.a.toNat x.b.toNat ↔ q4 x.a.toNat x.b.toNat)) ∨ ((q1 x.a.toNat x.b.toNat ↔ q2 x.a.toNat x.b.toNat) ∧ (q3 x.a.toNat x.b.toNat ↔ q4 x.a.toNat x.b.toNat))) → sumQ q1 (ps.take k) - sumQ q2 (ps.take k) = sumQ q3 (ps.take k) - sumQ q4 (ps.take k) := by
    intro k
    induction k with
    | zero => intro _ _; rfl
    | succ k ih =>
      intro hk h
      have ih' := ih (by omega) h
      rw [snocP (show k < ps.length from hk), sumQ_s, sumQ_s, sumQ_s, sumQ_s]
      rcases h ps[k]! (mem_at hk) with ⟨e1, e2⟩ | ⟨e1, e2⟩
      · simp only [e1, e2]; omega
      · simp only [e1, e2]; omega
  intro h
  have := key ps.length (Nat.le_refl _) h
  rwa [List.take_length] at this
section
variable {n : Nat} {ps : List Pr} {rs : List Ru} {m : List Nat}
theorem Cn.inside {R R' : Nat → Nat → Prop} {O : Nat → Prop} (hO : ∀ i j, R i j → (O i ↔ O j)) (hR : ∀ i j, R i j → O i → R' i j) {i j : Nat} (g : Cn R i j) : (O i ↔ O j) ∧ (O i → Cn R' i j) := by
  induction g with
  | base h => exact ⟨hO _ _ h, fun o => .base (hR _ _ h o)⟩
  | refl i => exact ⟨Iff.rfl, fun _ => .refl i⟩
  | symm _ ih => exact ⟨ih.1.symm, fun o => (ih.2 (ih.1.2 o)).symm⟩
  | trans _ _ ih ih' => exact ⟨ih.1.trans ih'.1, fun o => (ih.2 o).trans (ih'.2 (ih.1.1 o))⟩
theorem perm_comp (hf : (Prob.mk (n : Int) ps rs).formed) (h : permR n ps rs m) : Comp n (inC n ps rs m) m := by
  have := conn_in hf m
  rwa [h.2.2] at this
structure Grp (n : Nat) (m g0 g1 lab : List Nat) : Prop where
  nd : (g0 ++ g1).Nodup
  lt : ∀ u ∈ g0 ++ g1, u < n
  cl : ∀ i j, i < n → j < n → m[i]! = m[j]! → i ∈ g0 ++ g1 → j ∈ g0 ++ g1
  g1 : ∀ i j, i ∈ g1 → j ∈ g1 → m[i]! = m[j]!
  lab : ∀ i j, i < n → j < n → (lab[i]! = lab[j]! ↔ (i ∈ g0 ∧ j ∈ g0) ∨ (i ∉ g0 ∧ j ∉ g0 ∧ m[i]! = m[j]!))
namespace Grp
variable {g0 g1 lab : List Nat} {lk : Nat → Nat → Bool}
theorem parts_nd (h : Grp n m g0 g1 lab) : (partsL lk g0 ++ partsL lk g1).flatten.Nodup := by
  rw [List.flatten_append]
  have p0 := partsN_ok (E := lk) _ g0 rfl
  have p1 := partsN_ok (E := lk) _ g1 rfl
  exact ((p0.perm.append p1.perm).nodup_iff).2 h.nd
theorem mem (_ : Grp n m g0 g1 lab) {i : Nat} (hi : i ∈ g0 ++ g1) : ∃ p ∈ partsL lk g0 ++ partsL lk g1, i ∈ p := by
  have p0 := partsN_ok (E := lk) _ g0 rfl
  have p1 := partsN_ok (E := lk) _ g1 rfl
  have := ((p0.perm.append p1.perm).mem_iff).2 hi
  rw [← List.flatten_append, List.mem_flatten] at this
  exact this
theorem mem_of (_ : Grp n m g0 g1 lab) {i : Nat} {p : List Nat} (hp : p ∈ partsL lk g0 ++ partsL lk g1) (hi : i ∈ p) : i ∈ g0 ++ g1 := by
  have p0 := partsN_ok (E := lk) _ g0 rfl
  have p1 := partsN_ok (E := lk) _ g1 rfl
  apply ((p0.perm.append p1.perm).mem_iff).1
  rw [← List.flatten_append, List.mem_flatten]
  exact ⟨p, hp, hi⟩
theorem ne (_ : Grp n m g0 g1 lab) {p : List Nat} (hp : p ∈ partsL lk g0 ++ partsL lk g1) : p ≠ [] := by
  rcases List.mem_append.1 hp with q | q
  · exact (partsN_ok (E := lk) _ g0 rfl).ne p q
  · exact (partsN_ok (E := lk) _ g1 rfl).ne p q
theorem same (h : Grp n m g0 g1 lab) {p q : List Nat} {i : Nat} (hp : p ∈ partsL lk g0 ++ partsL lk g1) (hq : q ∈ partsL lk g0 ++ partsL lk g1) (hi : i ∈ p) (hj : i ∈ q) : p = q := by
  have := h.parts_nd (lk := lk)
  revert this hp hq
  generalize partsL lk g0 ++ partsL lk g1 = L
  intro hp hq hn
  induction L with
  | nil => cases hp
  | cons a L ih =>
    rw [List.flatten_cons, List.nodup_append] at hn
    rcases List.mem_cons.1 hp with ep | hp1
    · rcases List.mem_cons.1 hq with eq | hq1
      · rw [ep, eq]
      · rw [← ep] at hn; exact absurd rfl (hn.2.2 i hi i (List.mem_flatten.2 ⟨q, hq1, hj⟩))
    · rcases List.mem_cons.1 hq with eq | hq1
      · rw [← eq] at hn; exact absurd rfl (hn.2.2 i hj i (List.mem_flatten.2 ⟨p, hp1, hi⟩))
      · exact ih hp1 hq1 hn.2.1
theorem get_in (h : Grp n m g0 g1 lab) {α : Type} [Inhabited α] {f : Nat → α} {o : List α} (ho : o.length = n) {p : List Nat} (hp : p ∈ partsL lk g0 ++ partsL lk g1) {i : Nat} (hi : i ∈ p) : (nameF f o (partsL lk g0 ++ partsL lk g1))[i]! = f (minL p) :=
  nameF_in (by rw [ho]; exact h.lt i (h.mem_of hp hi)) h.parts_nd hp hi
theorem get_out (h : Grp n m g0 g1 lab) {α : Type} [Inhabited α] {f : Nat → α} {o : List α} (ho : o.length = n) {i : Nat} (hin : i < n) (hi : i ∉ g0 ++ g1) : (nameF f o (partsL lk g0 ++ partsL lk g1))[i]! = o[i]! :=
  nameF_out (by rw [ho]; exact hin) fun p hp hip => hi (h.mem_of hp hip)
theorem cast (h : Grp n m g0 g1 lab) (hm : m.length = n) : nameF (fun x : Nat => (x : Int)) (setAll (m.map fun x : Nat => (x : Int)) g0 (-1)) (partsL lk g0 ++ partsL lk g1) = (nameF id m (partsL lk g0 ++ partsL lk g1)).map fun x : Nat => (x : Int) := by
  have hl : (setAll (m.map fun x : Nat => (x : Int)) g0 (-1)).length = n := by rw [setAll_len, List.length_map]; exact hm
  apply ext_g
  · rw [nameF_len, hl, List.length_map, nameF_len, hm]
  intro i hi
  rw [nameF_len, hl] at hi
  rw [get_map (by rw [nameF_len, hm]; exact hi)]
  by_cases hg : i ∈ g0 ++ g1
  · obtain ⟨p, hp, hip⟩ := h.mem (lk := lk) hg
    rw [h.get_in hl hp hip, h.get_in hm hp hip]; rfl
  · rw [h.get_out hl hi hg, h.get_out hm hi hg, setAll_get (by rw [List.length_map]; omega), if_neg (fun q => hg (List.mem_append_left _ q)), get_map (by omega)]
theorem comp (_ : (Prob.mk (n : Int) ps rs).formed) (h : Grp n m g0 g1 lab) (hm : isP n m) (hc : Comp n (inC n ps rs m) m) :
    Comp n (inC n ps rs lab) (nameF id m (partsL (mF (lF ps) rs) g0 ++ partsL (mF (lF ps) rs) g1)) := by
  have hml := hm.1
  have hE : ∀ i j, mF (lF ps) rs i j = mF (lF ps) rs j i := lk_sym ps rs
  have p0 := partsN_ok (E := mF (lF ps) rs) _ g0 rfl
  have p1 := partsN_ok (E := mF (lF ps) rs) _ g1 rfl
  have hdis : ∀ i, i ∈ g0 → i ∉ g1 := fun i a b => (List.nodup_append.1 h.nd).2.2 i a i b rfl
  refine ⟨by rw [nameF_len]; exact hml, fun i j q => ⟨q.2.2.1, q.2.2.2⟩, fun i hi => ?_, fun i j q => ?_, fun i hi => ?_⟩
  · by_cases hg : i ∈ g0 ++ g1
    · obtain ⟨p, hp, hip⟩ := h.mem (lk := mF (lF ps) rs) hg
      rw [h.get_in hml hp hip]
      exact (minL_mem (h.ne hp)).2 i hip
    · rw [h.get_out hml hi hg]
      exact (hm.2 i hi).1
  · obtain ⟨q1, q2, q3, q4⟩ := q
    rcases (h.lab i j q3 q4).1 q2 with ⟨a, b⟩ | ⟨a, b, c⟩
    · obtain ⟨p, hp, hip⟩ := h.mem (lk := mF (lF ps) rs) (List.mem_append_left g1 a)
      obtain ⟨q, hq, hjq⟩ := h.mem (lk := mF (lF ps) rs) (List.mem_append_left g1 b)
      have hp' : p ∈ partsL (mF (lF ps) rs) g0 := (List.mem_append.1 hp).elim id fun z => absurd (p1.perm.subset (List.mem_flatten.2 ⟨p, z, hip⟩)) (hdis i a)
      have hq' : q ∈ partsL (mF (lF ps) rs) g0 := (List.mem_append.1 hq).elim id fun z => absurd (p1.perm.subset (List.mem_flatten.2 ⟨q, z, hjq⟩)) (hdis j b)
      have := sep_same hE p0.sep hp' hq' hip hjq q1
      subst this
      rw [h.get_in hml hp hip, h.get_in hml hp hjq]
    · by_cases hg : i ∈ g1
      · have hj : j ∈ g1 := (List.mem_append.1 (h.cl i j q3 q4 c (List.mem_append_right _ hg))).elim (fun z => absurd z b) id
        obtain ⟨p, hp, hip⟩ := h.mem (lk := mF (lF ps) rs) (List.mem_append_right g0 hg)
        obtain ⟨q, hq, hjq⟩ := h.mem (lk := mF (lF ps) rs) (List.mem_append_right g0 hj)
        have hp' : p ∈ partsL (mF (lF ps) rs) g1 := (List.mem_append.1 hp).elim (fun z => absurd (p0.perm.subset (List.mem_flatten.2 ⟨p, z, hip⟩)) a) id
        have hq' : q ∈ partsL (mF (lF ps) rs) g1 := (List.mem_append.1 hq).elim (fun z => absurd (p0.perm.subset (List.mem_flatten.2 ⟨q, z, hjq⟩)) b) id
        have := sep_same hE p1.sep hp' hq' hip hjq q1
        subst this
        rw [h.get_in hml hp hip, h.get_in hml hp hjq]
      · have hi : i ∉ g0 ++ g1 := fun z => (List.mem_append.1 z).elim a hg
        have hj : j ∉ g0 ++ g1 := fun z => hi (h.cl j i q4 q3 c.symm z)
        rw [h.get_out hml q3 hi, h.get_out hml q4 hj]
        exact c
  · by_cases hg : i ∈ g0 ++ g1
    · obtain ⟨p, hp, hip⟩ := h.mem (lk := mF (lF ps) rs) hg
      rw [h.get_in hml hp hip]
      show Cn _ i (minL p)
      rcases List.mem_append.1 hp with z | z
      · have hin : ∀ x, x ∈ p → x ∈ g0 := fun x hx => p0.perm.subset (List.mem_flatten.2 ⟨p, z, hx⟩)
        refine (p0.conn p z i hip _ (minL_mem (h.ne hp)).1).mono fun x y r => ?_
        have hx := h.lt x (List.mem_append_left _ (hin x r.2.1))
        have hy := h.lt y (List.mem_append_left _ (hin y r.2.2))
        exact ⟨r.1, (h.lab x y hx hy).2 (.inl ⟨hin x r.2.1, hin y r.2.2⟩), hx, hy⟩
      · have hin : ∀ x, x ∈ p → x ∈ g1 := fun x hx => p1.perm.subset (List.mem_flatten.2 ⟨p, z, hx⟩)
        refine (p1.conn p z i hip _ (minL_mem (h.ne hp)).1).mono fun x y r => ?_
        have hx := h.lt x (List.mem_append_right _ (hin x r.2.1))
        have hy := h.lt y (List.mem_append_right _ (hin y r.2.2))
        exact ⟨r.1, (h.lab x y hx hy).2 (.inr ⟨fun w => hdis x w (hin x r.2.1), fun w => hdis y w (hin y r.2.2), h.g1 x y (hin x r.2.1) (hin y r.2.2)⟩), hx, hy⟩
    · rw [h.get_out hml hi hg]
      refine ((hc.cn i hi).inside (O := fun x => x ∉ g0 ++ g1) (fun x y r => ?_) (fun x y r o => ?_)).2 hg
      · exact ⟨fun a b => a (h.cl y x r.2.2.2 r.2.2.1 r.2.1.symm b), fun a b => a (h.cl x y r.2.2.1 r.2.2.2 r.2.1 b)⟩
      · have o2 : y ∉ g0 ++ g1 := fun b => o (h.cl y x r.2.2.2 r.2.2.1 r.2.1.symm b)
        exact ⟨r.1, (h.lab x y r.2.2.1 r.2.2.2).2 (.inr ⟨fun w => o (List.mem_append_left _ w), fun w => o2 (List.mem_append_left _ w), r.2.1⟩), r.2.2.1, r.2.2.2⟩
theorem val (hf : (Prob.mk (n : Int) ps rs).formed) (h : Grp n m g0 g1 lab) (hm : isP n m) {here there : List Nat} (hp : (g0 ++ g1).Perm (here ++ there)) (h1 : ∀ i j, i < n → j < n → i ∈ here → (m[i]! = m[j]! ↔ j ∈ here)) (h2 : ∀ i j, i < n → j < n → i ∈ there → (m[i]! = m[j]! ↔ j ∈ there)) :
    sumV (wF ps) (partsL lk g0 ++ partsL lk g1) - (valF (wF ps) here + valF (wF ps) there) = valR (nameF id m (partsL lk g0 ++ partsL lk g1)) ps - valR m ps := by
  have hml := hm.1
  have hnd2 : (here ++ there).Nodup := hp.nodup_iff.1 h.nd
  have e1 : sumV (wF ps) (partsL lk g0 ++ partsL lk g1) = sumQ (fun a b => ∃ p ∈ partsL lk g0 ++ partsL lk g1, a ∈ p ∧ b ∈ p) ps :=
    lin_eq hf (V := fun w => sumV w (partsL lk g0 ++ partsL lk g1)) (fun w d => sumV_add w d _) fun a b x _ _ hne => sumV_pair hne x _ h.parts_nd
  have e2 : valF (wF ps) here + valF (wF ps) there = sumQ (fun a b => ∃ p ∈ [here, there], a ∈ p ∧ b ∈ p) ps := by
    have := lin_eq hf (V := fun w => sumV w [here, there]) (fun w d => sumV_add w d _) (q := fun a b => ∃ p ∈ [here, there], a ∈ p ∧ b ∈ p) fun a b x _ _ hne => sumV_pair hne x _ (by simpa using hnd2)
    rw [← this]
    show _ = sumV (wF ps) [here, there]
    rw [sumV_c, sumV_c]
    show _ = _ + (_ + 0)
    omega
  rw [e1, e2, valR_sum, valR_sum]
  refine sumQ_four fun x hx => ?_
  obtain ⟨ha, hb⟩ := pr_lt hf hx
  generalize x.a.toNat = a at *
  generalize x.b.toNat = b at *
  have hmem : ∀ {i}, i ∈ g0 ++ g1 ↔ i ∈ here ∨ i ∈ there := fun {i} => by rw [hp.mem_iff, List.mem_append]
  have hH : a ∈ g0 ++ g1 → ((∃ p ∈ [here, there], a ∈ p ∧ b ∈ p) ↔ m[a]! = m[b]!) := fun q => by
    constructor
    · rintro ⟨p, hp, pa, pb⟩
      rcases List.mem_cons.1 hp with rfl | hp
      · exact (h1 a b ha hb pa).2 pb
      · rw [List.mem_singleton.1 hp] at pa pb
        exact (h2 a b ha hb pa).2 pb
    · intro e
      rcases hmem.1 q with z | z
      · exact ⟨here, by simp, z, (h1 a b ha hb z).1 e⟩
      · exact ⟨there, by simp, z, (h2 a b ha hb z).1 e⟩
  by_cases qa : a ∈ g0 ++ g1
  · obtain ⟨p, hpp, hap⟩ := h.mem (lk := lk) qa
    refine .inl ⟨?_, hH qa⟩
    show _ ↔ (nameF id m _)[a]! = (nameF id m _)[b]!
    rw [h.get_in hml hpp hap]
    by_cases qb : b ∈ g0 ++ g1
    · obtain ⟨q, hqp, hbq⟩ := h.mem (lk := lk) qb
      rw [h.get_in hml hqp hbq]
      constructor
      · rintro ⟨r, hr, ra, rb⟩
        rw [h.same hpp hr hap ra, h.same hqp hr hbq rb]
      · intro e
        have e' : minL p = minL q := e
        have m1 := (minL_mem (h.ne hpp)).1
        have m2 := (minL_mem (h.ne hqp)).1
        rw [← e'] at m2
        have := h.same hpp hqp m1 m2
        subst this
        exact ⟨p, hpp, hap, hbq⟩
    · rw [h.get_out hml hb qb]
      constructor
      · rintro ⟨r, hr, _, rb⟩
        exact absurd (h.mem_of hr rb) qb
      · intro e
        have m1 := h.mem_of hpp (minL_mem (h.ne hpp)).1
        have e' : minL p = m[b]! := e
        rw [e'] at m1
        have hb2 := hm.2 b hb
        exact absurd (h.cl m[b]! b (by omega) hb hb2.2 m1) qb
  · refine .inr ?_
    have nP : ¬ ∃ p ∈ partsL lk g0 ++ partsL lk g1, a ∈ p ∧ b ∈ p := fun ⟨p, hpp, hap, _⟩ => qa (h.mem_of hpp hap)
    have nH : ¬ ∃ p ∈ [here, there], a ∈ p ∧ b ∈ p := fun ⟨p, hpp, hap, _⟩ => by
      rcases List.mem_cons.1 hpp with rfl | hpp
      · exact qa (hmem.2 (.inl hap))
      · rw [List.mem_singleton.1 hpp] at hap
        exact qa (hmem.2 (.inr hap))
    refine ⟨⟨fun q => absurd q nP, fun q => absurd q nH⟩, ?_⟩
    show (nameF id m _)[a]! = (nameF id m _)[b]! ↔ _
    rw [h.get_out hml ha qa]
    by_cases qb : b ∈ g0 ++ g1
    · obtain ⟨q, hqp, hbq⟩ := h.mem (lk := lk) qb
      rw [h.get_in hml hqp hbq]
      constructor
      · intro e
        have m1 := h.mem_of hqp (minL_mem (h.ne hqp)).1
        have e' : m[a]! = minL q := e
        rw [← e'] at m1
        have ha2 := hm.2 a ha
        exact absurd (h.cl m[a]! a (by omega) ha ha2.2 m1) qa
      · intro e
        exact absurd (h.cl b a hb ha e.symm qb) qa
    · rw [h.get_out hml hb qb]
end Grp
end
end Go.D33
end
section
namespace Go.D33
open Go Go.RowKit Go.H
section
variable {n : Nat} {ps : List Pr} {rs : List Ru} {m atm : List Nat} {s : Stp}
theorem nmL_iff {l : List Nat} {i j : Nat} (hi : i < l.length) (hj : j < l.length) : (nmL l)[i]! = (nmL l)[j]! ↔ l[i]! = l[j]! := by
  have hg : ∀ {i}, i < l.length → (nmL l)[i]! = l.idxOf l[i]! ∧ l[l.idxOf l[i]!]! = l[i]! := fun {i} hi => by
    refine ⟨by rw [nmL, get_map (by rw [List.length_range]; exact hi), range_get hi], ?_⟩
    have hlt : l.idxOf l[i]! < l.length := List.idxOf_lt_length_of_mem (mem_at hi)
    rw [getElem!_pos l _ hlt, List.getElem_idxOf hlt]
  rw [(hg hi).1, (hg hj).1]
  constructor
  · intro e
    rw [← (hg hi).2, ← (hg hj).2, e]
  · intro e
    rw [e]
theorem mem_here (hm : m.length = n) {c i : Nat} : i ∈ unitsL m c ↔ i < n ∧ m[i]! = c := by rw [mem_units, hm]
theorem mem_there (hm : m.length = n) {t : Int} {i : Nat} : i ∈ thereL m t ↔ 0 ≤ t ∧ i < n ∧ m[i]! = t.toNat := by
  unfold thereL
  by_cases h : t < 0
  · rw [if_pos h]
    exact ⟨fun q => (by cases q), fun q => by omega⟩
  · rw [if_neg h, mem_here hm]
    exact ⟨fun q => ⟨by omega, q⟩, fun q => q.2⟩
theorem there_nodup (m : List Nat) (t : Int) : (thereL m t).Nodup := by
  unfold thereL
  split
  · exact List.nodup_nil
  · exact units_nodup _ _
theorem mem_g0u (hm : m.length = n) (hu : s.u = true) {i : Nat} : i ∈ g0L m atm s ↔ i < n ∧ (m[i]! = m[s.f.toNat]! ∨ (0 ≤ s.t ∧ m[i]! = s.t.toNat)) := by
  unfold g0L
  rw [if_pos hu, List.mem_append, mem_here hm, mem_there hm]
  constructor
  · rintro (q | q)
    · exact ⟨q.1, .inl q.2⟩
    · exact ⟨q.2.1, .inr ⟨q.1, q.2.2⟩⟩
  · rintro ⟨q1, q | q⟩
    · exact .inl ⟨q1, q⟩
    · exact .inr ⟨q.1, q1, q.2⟩
theorem mem_g0m (hm : m.length = n) (hu : s.u = false) {i : Nat} : i ∈ g0L m atm s ↔ i < n ∧ ((0 ≤ s.t ∧ m[i]! = s.t.toNat) ∨ (m[i]! = m[s.f.toNat]! ∧ atm[i]! = s.f.toNat)) := by
  unfold g0L
  rw [if_neg (by rw [hu]; decide), List.mem_append, List.mem_filter, mem_here hm, mem_there hm, decide_eq_true_eq]
  constructor
  · rintro (q | q)
    · exact ⟨q.2.1, .inl ⟨q.1, q.2.2⟩⟩
    · exact ⟨q.1.1, .inr ⟨q.1.2, q.2⟩⟩
  · rintro ⟨q1, q | q⟩
    · exact .inl ⟨q.1, q1, q.2⟩
    · exact .inr ⟨⟨q1, q.1⟩, q.2⟩
theorem mem_g1m (hm : m.length = n) (hu : s.u = false) {i : Nat} : i ∈ g1L m atm s ↔ i < n ∧ m[i]! = m[s.f.toNat]! ∧ ¬ atm[i]! = s.f.toNat := by
  unfold g1L
  rw [if_neg (by rw [hu]; decide), List.mem_filter, mem_here hm]
  simp only [Bool.not_eq_true', decide_eq_false_iff_not, and_assoc]
theorem g1u (hu : s.u = true) : g1L m atm s = [] := if_pos hu
theorem grp_perm (m atm : List Nat) (s : Stp) : (g0L m atm s ++ g1L m atm s).Perm (unitsL m m[s.f.toNat]! ++ thereL m s.t) := by
  by_cases hu : s.u = true
  · rw [g1u hu, List.append_nil, g0L, if_pos hu]
  · rw [g0L, g1L, if_neg hu, if_neg hu, List.append_assoc]
    refine List.perm_append_comm.trans ?_
    exact (perm_filt _ _).append_right _
theorem g0_at (hm : m.length = n) {i j : Nat} (hi : i < n) (hj : j < n) (h1 : m[i]! = m[j]!) (h2 : atm[i]! = atm[j]!) : i ∈ g0L m atm s ↔ j ∈ g0L m atm s := by
  cases hu : s.u with
  | true => rw [mem_g0u hm hu, mem_g0u hm hu, h1]; exact ⟨fun q => ⟨hj, q.2⟩, fun q => ⟨hi, q.2⟩⟩
  | false => rw [mem_g0m hm hu, mem_g0m hm hu, h1, h2]; exact ⟨fun q => ⟨hj, q.2⟩, fun q => ⟨hi, q.2⟩⟩
theorem mvL_get {i : Nat} (hi : i < n) : (mvL n atm m s)[i]! = if atm[i]! = s.f.toNat then (if s.t < 0 then n else s.t.toNat) else m[i]! := by
  rw [mvL, get_map (by rw [List.length_range]; exact hi), range_get hi]
theorem grp_of (hm : isP n m) (hat : ∀ i, i < n → m[i]! = m[atm[i]!]!) (h : preF n atm m s) : Grp n m (g0L m atm s) (g1L m atm s) (labL n atm m s) := by
  obtain ⟨⟨r1, r2, r3, r4, r5⟩, h2, h3, h4⟩ := h
  have hml := hm.1
  have hp := grp_perm m atm s
  have hmem : ∀ {i}, i ∈ g0L m atm s ++ g1L m atm s ↔ i < n ∧ (m[i]! = m[s.f.toNat]! ∨ (0 ≤ s.t ∧ m[i]! = s.t.toNat)) := fun {i} => by
    rw [hp.mem_iff, List.mem_append, mem_here hml, mem_there hml]
    exact ⟨fun q => q.elim (fun q => ⟨q.1, .inl q.2⟩) fun q => ⟨q.2.1, .inr ⟨q.1, q.2.2⟩⟩, fun ⟨q1, q2⟩ => q2.elim (fun q => .inl ⟨q1, q⟩) fun q => .inr ⟨q.1, q1, q.2⟩⟩
  refine ⟨hp.nodup_iff.2 (List.nodup_append.2 ⟨units_nodup _ _, there_nodup _ _, fun a ha b hb e => ?_⟩), fun u hu => (hmem.1 hu).1, fun i j hi hj e q => ?_, fun i j hi hj => ?_, fun i j hi hj => ?_⟩
  · subst e
    have q1 := (mem_here hml).1 ha
    have q2 := (mem_there hml).1 hb
    exact (h2 q2.1).2 (by omega)
  · rw [hmem] at q ⊢
    exact ⟨hj, by rw [← e]; exact q.2⟩
  · cases hu : s.u with
    | true => rw [g1u hu] at hi; cases hi
    | false =>
      have q1 := (mem_g1m hml hu).1 hi
      have q2 := (mem_g1m hml hu).1 hj
      omega
  · cases hu : s.u with
    | true =>
      have q3 := h3 hu
      have ht0 : 0 ≤ s.t := by omega
      have q2 := h2 ht0
      unfold labL
      rw [if_pos hu, join_get (by omega), join_get (by omega), mem_g0u hml hu, mem_g0u hml hu]
      have hlt : s.f.toNat < s.t.toNat := by omega
      rw [q3.1, q2.1, Nat.max_eq_right (Nat.le_of_lt hlt), Nat.min_eq_left (Nat.le_of_lt hlt)]
      split <;> split <;> omega
    | false =>
      have q4 := h4 hu
      have hfn : s.f.toNat < n := by omega
      unfold labL
      have hll : (mvL n atm m s).length = n := by rw [mvL, List.length_map, List.length_range]
      rw [if_neg (by rw [hu]; decide), nmL_iff (by omega) (by omega), mvL_get hi, mvL_get hj, mem_g0m hml hu, mem_g0m hml hu]
      have ai : atm[i]! = s.f.toNat → m[i]! = m[s.f.toNat]! := fun e => by rw [hat i hi, e]
      have aj : atm[j]! = s.f.toNat → m[j]! = m[s.f.toNat]! := fun e => by rw [hat j hj, e]
      have li := (hm.2 i hi).1
      have lj := (hm.2 j hj).1
      by_cases ht : s.t < 0
      · rw [if_pos ht]
        split <;> split <;> omega
      · rw [if_neg ht]
        have q2 := h2 (by omega)
        split <;> split <;> omega
theorem pre_iff (hm : isP n m) (_ : ∀ i, i < n → m[i]! = m[atm[i]!]!) : preF n atm m s ↔ preR n atm m s := by
  have hml := hm.1
  have hoth : s.u = false → (g1L m atm s ≠ [] ↔ othR n atm m s.f.toNat = true) := fun hu => by
    constructor
    · intro h
      obtain ⟨i, hi⟩ := List.exists_mem_of_ne_nil _ h
      have q := (mem_g1m hml hu).1 hi
      exact List.any_eq_true.2 ⟨i, List.mem_range.2 q.1, decide_eq_true ⟨q.2.1, q.2.2⟩⟩
    · intro h e
      obtain ⟨i, hi, q⟩ := List.any_eq_true.1 h
      have q := of_decide_eq_true q
      have : i ∈ g1L m atm s := (mem_g1m hml hu).2 ⟨List.mem_range.1 hi, q.1, q.2⟩
      rw [e] at this
      cases this
  constructor
  · rintro ⟨h1, h2, h3, h4⟩
    exact ⟨h1, fun q => (h2 q).1, h3, fun hu => ⟨(h4 hu).1, fun q => (h2 q).2, fun q => (hoth hu).1 ((h4 hu).2 q)⟩⟩
  · rintro ⟨h1, h2, h3, h4⟩
    refine ⟨h1, fun q => ⟨h2 q, ?_⟩, h3, fun hu => ⟨(h4 hu).1, fun q => (hoth hu).2 ((h4 hu).2.2 q)⟩⟩
    cases hu : s.u with
    | true => have := h3 hu; have := h1.1; omega
    | false => exact (h4 hu).2.1 q
theorem clash_lab {bar : List Ru} {g0 g1 lab : List Nat} (g : Grp n m g0 g1 lab) (hc : clash bar m = false) (hb : ∀ x ∈ bar, 0 ≤ x.a ∧ x.a < (n : Int) ∧ 0 ≤ x.b ∧ x.b < (n : Int)) : clash bar lab = bar.any (hitR g0) := by
  rw [Bool.eq_iff_iff]
  unfold clash at hc ⊢
  rw [List.any_eq_true, List.any_eq_true]
  have hno : ∀ x ∈ bar, ¬ m[x.a.toNat]! = m[x.b.toNat]! := fun x hx e => by
    have := List.any_eq_false.1 hc x hx
    exact this (decide_eq_true e)
  constructor
  · rintro ⟨x, hx, e⟩
    have hxb := hb x hx
    rcases (g.lab _ _ (by omega) (by omega)).1 (of_decide_eq_true e) with q | q
    · exact ⟨x, hx, decide_eq_true q⟩
    · exact absurd q.2.2 (hno x hx)
  · rintro ⟨x, hx, e⟩
    have hxb := hb x hx
    exact ⟨x, hx, decide_eq_true ((g.lab _ _ (by omega) (by omega)).2 (.inl (of_decide_eq_true e)))⟩
theorem atoms_comp (hf : (Prob.mk (n : Int) ps rs).formed) : Comp n (fun i j => (i, j) ∈ muE rs) (atomsL n rs) :=
  Comp.joins0 fun e he => by
    obtain ⟨r, hr, _, rfl⟩ := mem_muE.1 he
    exact ⟨(ru_lt hf hr).1, (ru_lt hf hr).2.1⟩
theorem pos_iff (hf : (Prob.mk (n : Int) ps rs).formed) (hm : isP n m) (hp : permR n ps rs m) : posF n (barL rs) (atomsL n rs) m s ↔ posR n (barL rs) (atomsL n rs) m s := by
  have e := pre_iff (atm := atomsL n rs) (s := s) hm hp.2.1
  constructor
  · rintro ⟨h1, h2⟩
    exact ⟨e.1 h1, by rw [clash_lab (grp_of hm hp.2.1 h1) hp.1 (bar_rng hf)]; exact h2⟩
  · rintro ⟨h1, h2⟩
    have h3 := e.2 h1
    exact ⟨h3, by rw [← clash_lab (grp_of hm hp.2.1 h3) hp.1 (bar_rng hf)]; exact h2⟩
theorem res_comp (hf : (Prob.mk (n : Int) ps rs).formed) (m : List Nat) (s : Stp) : Comp n (inC n ps rs (labL n (atomsL n rs) m s)) (resR n ps rs m s) := conn_in hf _
theorem apply_eq (hf : (Prob.mk (n : Int) ps rs).formed) (hm : isP n m) (hp : permR n ps rs m) (h : preF n (atomsL n rs) m s) :
    nmF (mF (lF ps) rs) m (atomsL n rs) s = (resR n ps rs m s).map (fun x : Nat => (x : Int)) ∧ gnF (wF ps) (mF (lF ps) rs) m (atomsL n rs) s = valR (resR n ps rs m s) ps - valR m ps := by
  have hml := hm.1
  have g := grp_of hm hp.2.1 h
  have e : resR n ps rs m s = nameF id m (gL (mF (lF ps) rs) m (atomsL n rs) s) := (res_comp hf m s).uniq (g.comp hf hm (perm_comp hf hp))
  refine ⟨?_, ?_⟩
  · rw [e]; exact g.cast hml
  · rw [e]
    have hfn : s.f.toNat < n := by have h1 := h.1.1; have h2 := h.1.2.1; omega
    refine g.val hf hm (grp_perm m _ s) (fun i j hi hj q => ?_) fun i j hi hj q => ?_
    · rw [mem_here hml] at q ⊢
      omega
    · rw [mem_there hml] at q ⊢
      omega
theorem lab_at (_ : (Prob.mk (n : Int) ps rs).formed) (hm : isP n m) (hp : permR n ps rs m) (h : preF n (atomsL n rs) m s) {i j : Nat} (hi : i < n) (hj : j < n) (e : (atomsL n rs)[i]! = (atomsL n rs)[j]!) : (labL n (atomsL n rs) m s)[i]! = (labL n (atomsL n rs) m s)[j]! := by
  have g := grp_of hm hp.2.1 h
  have hml := hm.1
  have e2 : m[i]! = m[j]! := by rw [hp.2.1 i hi, hp.2.1 j hj, e]
  have e3 := g0_at (s := s) hml hi hj e2 e
  refine (g.lab i j hi hj).2 ?_
  by_cases q : i ∈ g0L m (atomsL n rs) s
  · exact .inl ⟨q, e3.1 q⟩
  · exact .inr ⟨q, fun z => q (e3.2 z), e2⟩
theorem conn_perm (hf : (Prob.mk (n : Int) ps rs).formed) {lab : List Nat} (hat : ∀ i j, i < n → j < n → (atomsL n rs)[i]! = (atomsL n rs)[j]! → lab[i]! = lab[j]!) (hc : clash (barL rs) lab = false) : isP n (connL n ps rs lab) ∧ permR n ps rs (connL n ps rs lab) := by
  have hr := conn_in hf lab
  have ha := atoms_comp hf
  have hlab : ∀ i j, Cn (inC n ps rs lab) i j → lab[i]! = lab[j]! := fun i j g => Cn.keep (f := fun i => lab[i]!) (fun i j q => q.2.1) g
  refine ⟨⟨hr.len, fun i hi => ⟨hr.le i hi, hr.idem hi⟩⟩, ?_, fun i hi => ?_, ?_⟩
  · unfold clash at hc ⊢
    rw [List.any_eq_false] at hc ⊢
    intro x hx e
    have hxb := bar_rng hf x hx
    exact hc x hx (decide_eq_true (hlab _ _ ((hr.iff (by omega) (by omega)).1 (of_decide_eq_true e))))
  · refine (hr.iff hi (ha.lt hi)).2 ((ha.cn i hi).lift fun x y q => .base ?_)
    obtain ⟨hx, hy⟩ := ha.bnd x y q
    obtain ⟨r, hrr, hk, e⟩ := mem_muE.1 q
    cases e
    exact ⟨(mF_iff rs).2 (.inr ⟨r, hrr, (ru_lt hf hrr).2.2.2 hk, .inl ⟨rfl, rfl⟩⟩), hat _ _ hx hy (ha.rel _ _ q), hx, hy⟩
  · refine (conn_in hf _).uniq (hr.congr (fun i j q => ⟨q.2.2.1, q.2.2.2⟩) (fun i j q => ?_) fun i j q => ?_)
    · exact .base ⟨q.1, hlab _ _ ((hr.iff q.2.2.1 q.2.2.2).1 q.2.1), q.2.2.1, q.2.2.2⟩
    · exact .base ⟨q.1, hr.rel i j q, q.2.2.1, q.2.2.2⟩
theorem res_perm (hf : (Prob.mk (n : Int) ps rs).formed) (hm : isP n m) (hp : permR n ps rs m) (h : posR n (barL rs) (atomsL n rs) m s) : isP n (resR n ps rs m s) ∧ permR n ps rs (resR n ps rs m s) :=
  conn_perm hf (fun _ _ hi hj e => lab_at hf hm hp ((pre_iff hm hp.2.1).2 h.1) hi hj e) h.2
end
end Go.D33
end
section
namespace Go.D33
open Go Go.RowKit Go.H
def pick (ok : Stp → Prop) [DecidablePred ok] (g : Stp → Int) (b : Stp × Int) (s : Stp) : Stp × Int := if ok s ∧ b.2 < g s then (s, g s) else b
def bestF (ok : Stp → Prop) [DecidablePred ok] (g : Stp → Int) (l : List Stp) : Stp × Int := l.foldl (pick ok g) (⟨false, 0, 0⟩, 0)
section
variable {ok : Stp → Prop} [DecidablePred ok] {g : Stp → Int}
theorem pick_y {b : Stp × Int} {s : Stp} (h : ok s) (h2 : b.2 < g s) : pick ok g b s = (s, g s) := if_pos ⟨h, h2⟩
theorem pick_n {b : Stp × Int} {s : Stp} (h : ¬ (ok s ∧ b.2 < g s)) : pick ok g b s = b := if_neg h
theorem best_app (l k : List Stp) : bestF ok g (l ++ k) = k.foldl (pick ok g) (bestF ok g l) := List.foldl_append
theorem best_snoc (l : List Stp) (s : Stp) : bestF ok g (l ++ [s]) = pick ok g (bestF ok g l) s := by rw [best_app]; rfl
theorem best_s {l : List Stp} {k : Nat} (h : k < l.length) : bestF ok g (l.take (k + 1)) = pick ok g (bestF ok g (l.take k)) l[k]! := by rw [snocP h, best_snoc]
theorem best_spec' (l : List Stp) : ∀ k, k ≤ l.length → 0 ≤ (bestF ok g (l.take k)).2 ∧ (0 < (bestF ok g (l.take k)).2 → (bestF ok g (l.take k)).1 ∈ l ∧ ok (bestF ok g (l.take k)).1 ∧ g (bestF ok g (l.take k)).1 = (bestF ok g (l.take k)).2) ∧
    (∀ s ∈ l.take k, ok s → g s ≤ (bestF ok g (l.take k)).2) ∧ ((bestF ok g (l.take k)).2 = 0 → (bestF ok g (l.take k)).1 = ⟨false, 0, 0⟩) := by
  intro k
  induction k with
  | zero =>
    intro _
    refine ⟨Int.le_refl _, fun h => absurd h (by rw [List.take_zero]; show ¬ (0 : Int) < 0; omega), fun s hs => ?_, fun _ => rfl⟩
    rw [List.take_zero] at hs; cases hs
  | succ k ih =>
    intro hk
    obtain ⟨h1, h2, h3, h4⟩ := ih (by omega)
    rw [best_s (show k < l.length from hk)]
    by_cases hp : ok l[k]! ∧ (bestF ok g (l.take k)).2 < g l[k]!
    · rw [pick_y hp.1 hp.2]
      refine ⟨by show 0 ≤ g l[k]!; omega, fun _ => ⟨mem_at hk, hp.1, rfl⟩, fun s hs hok => ?_, fun e => ?_⟩
      · rw [snocP (show k < l.length from hk)] at hs
        rcases List.mem_append.1 hs with q | q
        · have := h3 s q hok
          show g s ≤ g l[k]!
          omega
        · rw [List.mem_singleton.1 q]; exact Int.le_refl _
      · have e' : g l[k]! = 0 := e
        omega
    · rw [pick_n hp]
      refine ⟨h1, h2, fun s hs hok => ?_, h4⟩
      rw [snocP (show k < l.length from hk)] at hs
      rcases List.mem_append.1 hs with q | q
      · exact h3 s q hok
      · rw [List.mem_singleton.1 q] at hok ⊢
        rcases Int.lt_or_le (bestF ok g (l.take k)).2 (g l[k]!) with z | z
        · exact absurd ⟨hok, z⟩ hp
        · exact z
theorem best_spec (l : List Stp) : 0 ≤ (bestF ok g l).2 ∧ (0 < (bestF ok g l).2 → (bestF ok g l).1 ∈ l ∧ ok (bestF ok g l).1 ∧ g (bestF ok g l).1 = (bestF ok g l).2) ∧
    (∀ s ∈ l, ok s → g s ≤ (bestF ok g l).2) ∧ ((bestF ok g l).2 = 0 → (bestF ok g l).1 = ⟨false, 0, 0⟩) := by
  have := best_spec' (ok := ok) (g := g) l l.length (Nat.le_refl _)
  rwa [List.take_length] at this
theorem best_filter {q : Stp → Bool} (hq : ∀ s, ok s → q s = true) (l : List Stp) : bestF ok g (l.filter q) = bestF ok g l := by
  unfold bestF
  generalize ((⟨false, 0, 0⟩, 0) : Stp × Int) = b
  induction l generalizing b with
  | nil => rfl
  | cons s l ih =>
    rw [List.foldl_cons]
    cases e : q s with
    | true => rw [List.filter_cons, if_pos e, List.foldl_cons]; exact ih _
    | false =>
      rw [List.filter_cons, if_neg (by rw [e]; decide), pick_n (fun z => by rw [hq s z.1] at e; cases e)]; exact ih _
theorem best_congr {ok' : Stp → Prop} [DecidablePred ok'] {g' : Stp → Int} {l : List Stp} (h : ∀ s ∈ l, (ok s ↔ ok' s) ∧ (ok s → g s = g' s)) : bestF ok g l = bestF ok' g' l := by
  unfold bestF
  generalize ((⟨false, 0, 0⟩, 0) : Stp × Int) = b
  induction l generalizing b with
  | nil => rfl
  | cons s l ih =>
    rw [List.foldl_cons, List.foldl_cons]
    have hs := h s (by simp)
    have e : pick ok g b s = pick ok' g' b s := by
      unfold pick
      by_cases q : ok s
      · rw [hs.2 q]
        by_cases z : b.2 < g' s
        · rw [if_pos ⟨q, z⟩, if_pos ⟨hs.1.1 q, z⟩]
        · rw [if_neg (fun w => z w.2), if_neg (fun w => z w.2)]
      · rw [if_neg (fun w => q w.1), if_neg (fun w => q (hs.1.2 w.1))]
    rw [e]
    exact ih (fun s hs => h s (by simp [hs])) _
end
def rowS (n : Nat) (u : Bool) (f : Nat) : List Stp := (places (List.range n)).map fun t => ⟨u, (f : Int), t⟩
def kindS (n : Nat) (u : Bool) (k : Nat) : List Stp := ((List.range k).map (rowS n u)).flatten
def allS (n : Nat) : List Stp := kindS n false n ++ kindS n true n
theorem kindS_s (n : Nat) (u : Bool) (k : Nat) : kindS n u (k + 1) = kindS n u k ++ rowS n u k := by
  rw [kindS, List.range_succ, List.map_append, List.flatten_append]; simp [kindS]
theorem mem_allS {n : Nat} {s : Stp} : s ∈ allS n ↔ 0 ≤ s.f ∧ s.f < (n : Int) ∧ -1 ≤ s.t ∧ s.t < (n : Int) := by
  have hr : ∀ {u : Bool}, s ∈ kindS n u n ↔ s.u = u ∧ 0 ≤ s.f ∧ s.f < (n : Int) ∧ -1 ≤ s.t ∧ s.t < (n : Int) := fun {u} => by
    unfold kindS
    rw [List.mem_flatten]
    constructor
    · rintro ⟨l, hl, hs⟩
      obtain ⟨f, hf, rfl⟩ := List.mem_map.1 hl
      obtain ⟨t, ht, rfl⟩ := List.mem_map.1 hs
      have hf := List.mem_range.1 hf
      rcases List.mem_cons.1 ht with rfl | ht
      · exact ⟨rfl, by show (0 : Int) ≤ f; omega, by show (f : Int) < n; omega, by show (-1 : Int) ≤ -1; omega, by show (-1 : Int) < n; omega⟩
      · obtain ⟨t, ht', rfl⟩ := List.mem_map.1 ht
        have ht := List.mem_range.1 ht'
        exact ⟨rfl, by show (0 : Int) ≤ f; omega, by show (f : Int) < n; omega, by show (-1 : Int) ≤ t; omega, by show (t : Int) < n; omega⟩
    · rintro ⟨e, h1, h2, h3, h4⟩
      refine ⟨rowS n u s.f.toNat, List.mem_map.2 ⟨s.f.toNat, List.mem_range.2 (by omega), rfl⟩, List.mem_map.2 ⟨s.t, ?_, ?_⟩⟩
      · by_cases ht : s.t = -1
        · rw [ht]; simp [places]
        · refine List.mem_cons_of_mem _ (List.mem_map.2 ⟨s.t.toNat, List.mem_range.2 (by omega), by omega⟩)
      · obtain ⟨a, b, c⟩ := s
        have h1' : (0 : Int) ≤ b := h1
        have e' : a = u := e
        show Stp.mk u ((b.toNat : Nat) : Int) c = ⟨a, b, c⟩
        rw [e', Int.toNat_of_nonneg h1']
  unfold allS
  rw [List.mem_append, hr, hr]
  constructor
  · rintro (q | q) <;> exact q.2
  · intro q
    cases hu : s.u with
    | true => exact .inr ⟨rfl, q⟩
    | false => exact .inl ⟨rfl, q⟩
def lookQ (m atm : List Nat) (s : Stp) : Bool := if s.u = true then decide (m[s.f.toNat]! = s.f.toNat ∧ 0 ≤ s.t ∧ m[s.t.toNat]! = s.t.toNat ∧ s.f < s.t) else decide (atm[s.f.toNat]! = s.f.toNat ∧ (s.t < 0 ∨ m[s.t.toNat]! = s.t.toNat))
theorem flat_if {α : Type} (p : Nat → Bool) (k : Nat → List α) : ∀ l : List Nat, (l.map fun f => if p f = true then k f else []).flatten = ((l.filter p).map k).flatten
  | [] => rfl
  | a :: l => by
    rw [List.map_cons, List.flatten_cons, flat_if p k l, List.filter_cons]
    cases h : p a <;> simp
theorem filter_flat {α : Type} (q : α → Bool) : ∀ L : List (List α), L.flatten.filter q = (L.map fun l => l.filter q).flatten
  | [] => rfl
  | l :: L => by rw [List.flatten_cons, List.filter_append, filter_flat q L, List.map_cons, List.flatten_cons]
theorem row_false {n f : Nat} {m atm : List Nat} : (rowS n false f).filter (lookQ m atm) = if (decide (atm[f]! = f)) = true then moves (selfs n m) f else [] := by
  unfold rowS
  rw [List.filter_map]
  by_cases h : atm[f]! = f
  · rw [if_pos (decide_eq_true h)]
    unfold moves places selfs
    congr 1
    rw [List.filter_cons, if_pos (by simp [lookQ, h])]
    congr 1
    rw [List.filter_map]
    congr 1
    apply List.filter_congr
    intro t _
    show lookQ m atm ⟨false, (f : Int), (t : Int)⟩ = _
    unfold lookQ
    rw [if_neg (by show ¬ (false = true); decide)]
    refine dec_iff ?_
    show (atm[((f : Int)).toNat]! = ((f : Int)).toNat ∧ ((t : Int) < 0 ∨ m[((t : Int)).toNat]! = ((t : Int)).toNat)) ↔ m[t]! = t
    rw [Int.toNat_natCast, Int.toNat_natCast]
    exact ⟨fun q => q.2.elim (fun z => by omega) id, fun q => ⟨h, .inr q⟩⟩
  · rw [if_neg (by simpa using h)]
    rw [List.filter_eq_nil_iff.2, List.map_nil]
    intro t _ e
    have e : lookQ m atm ⟨false, (f : Int), t⟩ = true := e
    unfold lookQ at e
    rw [if_neg (by show ¬ (false = true); decide)] at e
    exact h (of_decide_eq_true e).1
theorem selfs_asc (n : Nat) (m : List Nat) : (selfs n m).Pairwise (· < ·) := (List.pairwise_lt_range (n := n)).filter _
theorem row_true {n f : Nat} {m atm : List Nat} : (rowS n true f).filter (lookQ m atm) = if (decide (m[f]! = f)) = true then ((selfs n m).filter fun t => decide (f < t)).map (fun t : Nat => ⟨true, (f : Int), (t : Int)⟩) else [] := by
  unfold rowS
  rw [List.filter_map]
  by_cases h : m[f]! = f
  · rw [if_pos (decide_eq_true h)]
    unfold places selfs
    rw [List.filter_cons, if_neg (by simp [lookQ])]
    rw [List.filter_map, List.map_map, List.filter_filter]
    have : ((List.range n).filter ((lookQ m atm ∘ fun t => Stp.mk true (f : Int) t) ∘ fun x : Nat => (x : Int))) = (List.range n).filter fun t => decide (f < t) && decide (m[t]! = t) := by
      apply List.filter_congr
      intro t _
      show lookQ m atm ⟨true, (f : Int), (t : Int)⟩ = _
      unfold lookQ
      rw [if_pos rfl, ← Bool.decide_and]
      refine dec_iff ?_
      show (m[((f : Int)).toNat]! = ((f : Int)).toNat ∧ 0 ≤ (t : Int) ∧ m[((t : Int)).toNat]! = ((t : Int)).toNat ∧ (f : Int) < t) ↔ (f < t ∧ m[t]! = t)
      rw [Int.toNat_natCast, Int.toNat_natCast]
      exact ⟨fun q => ⟨by omega, q.2.2.1⟩, fun q => ⟨h, by omega, q.2, by omega⟩⟩
    rw [this]
    rfl
  · rw [if_neg (by simpa using h)]
    rw [List.filter_eq_nil_iff.2, List.map_nil]
    intro t _ e
    have e : lookQ m atm ⟨true, (f : Int), t⟩ = true := e
    unfold lookQ at e
    rw [if_pos rfl] at e
    exact h (of_decide_eq_true e).1
theorem asc_drop : ∀ {l : List Nat}, l.Pairwise (· < ·) → ∀ {k : Nat}, k < l.length → (l.filter fun t => decide (l[k]! < t)) = l.drop (k + 1)
  | [], _, k, hk => absurd hk (by simp)
  | a :: l, h, 0, _ => by
    obtain ⟨h1, _⟩ := List.pairwise_cons.1 h
    show List.filter (fun t => decide (a < t)) (a :: l) = l
    rw [List.filter_cons, if_neg (by simp), List.filter_eq_self]
    exact fun t ht => decide_eq_true (h1 t ht)
  | a :: l, h, k + 1, hk => by
    obtain ⟨h1, h2⟩ := List.pairwise_cons.1 h
    rw [List.length_cons] at hk
    have hk' : k < l.length := by omega
    have := h1 l[k]! (mem_at hk')
    rw [List.getElem!_cons_succ, List.filter_cons, if_neg (by rw [decide_eq_true_eq]; omega), List.drop_succ_cons]
    exact asc_drop h2 hk'
theorem unions_eq (cl : List Nat) : ∀ k, unions cl k = ((List.range k).map fun k => (cl.drop (k + 1)).map fun b : Nat => Stp.mk true (cl[k]! : Nat) b).flatten
  | 0 => rfl
  | k + 1 => by rw [unions, unions_eq cl k, List.range_succ, List.map_append, List.flatten_append]; simp
theorem map_range {α : Type} (l : List Nat) (h : Nat → α) : l.map h = (List.range l.length).map fun k => h l[k]! := by
  apply List.ext_getElem
  · simp
  · intro i h1 h2
    rw [List.getElem_map, List.getElem_map, List.getElem_range, getElem!_pos l i (by simpa using h1)]
theorem steps_filter (n : Nat) (m atm : List Nat) : (allS n).filter (lookQ m atm) = stepsL (selfs n m) (selfs n atm) := by
  have e1 : (kindS n false n).filter (lookQ m atm) = ((selfs n atm).map (moves (selfs n m))).flatten := by
    unfold kindS
    rw [filter_flat, List.map_map]
    have : ((fun l => List.filter (lookQ m atm) l) ∘ rowS n false) = fun f => if (decide (atm[f]! = f)) = true then moves (selfs n m) f else [] := funext fun f => row_false
    rw [this]
    exact flat_if (fun f => decide (atm[f]! = f)) (moves (selfs n m)) (List.range n)
  have e2 : (kindS n true n).filter (lookQ m atm) = unions (selfs n m) (selfs n m).length := by
    unfold kindS
    rw [filter_flat, List.map_map]
    have : ((fun l => List.filter (lookQ m atm) l) ∘ rowS n true) = fun f => if (decide (m[f]! = f)) = true then ((selfs n m).filter fun t => decide (f < t)).map (fun t : Nat => Stp.mk true (f : Int) (t : Int)) else [] := funext fun f => row_true
    rw [this, flat_if (fun f => decide (m[f]! = f)), unions_eq]
    show ((selfs n m).map _).flatten = _
    rw [map_range]
    congr 1
    apply List.map_congr_left
    intro k hk
    rw [asc_drop (selfs_asc n m) (List.mem_range.1 hk)]
  unfold allS stepsL
  rw [List.filter_append, e1, e2]
section
variable {n : Nat} {ps : List Pr} {rs : List Ru} {m : List Nat} {s : Stp}
def gnR (n : Nat) (ps : List Pr) (rs : List Ru) (m : List Nat) (s : Stp) : Int := valR (resR n ps rs m s) ps - valR m ps
def nextR (n : Nat) (ps : List Pr) (rs : List Ru) (m : List Nat) : Stp × Int := bestF (posR n (barL rs) (atomsL n rs) m) (gnR n ps rs m) (allS n)
def nextF (n : Nat) (ps : List Pr) (rs : List Ru) (m : List Nat) (l : List Stp) : Stp × Int := bestF (posF n (barL rs) (atomsL n rs) m) (gnF (wF ps) (mF (lF ps) rs) m (atomsL n rs)) l
theorem next_eq (hf : (Prob.mk (n : Int) ps rs).formed) (hm : isP n m) (hp : permR n ps rs m) : nextF n ps rs m (stepsL (selfs n m) (selfs n (atomsL n rs))) = nextR n ps rs m := by
  unfold nextF nextR
  rw [← steps_filter, best_filter]
  · exact best_congr fun s _ => ⟨pos_iff hf hm hp, fun h => (apply_eq hf hm hp h.1).2⟩
  · rintro s ⟨⟨h1, h2, h3, h4⟩, _⟩
    unfold lookQ
    cases hu : s.u with
    | true =>
      rw [if_pos rfl]
      have q := h3 hu
      have h10 := h1.1
      have q2 := h2 (by omega)
      exact decide_eq_true ⟨q.1, by omega, q2.1, q.2⟩
    | false =>
      rw [if_neg (by decide)]
      refine decide_eq_true ⟨(h4 hu).1, ?_⟩
      rcases Int.lt_or_le s.t 0 with z | z
      · exact .inl z
      · exact .inr (h2 z).1
theorem next_spec (n : Nat) (ps : List Pr) (rs : List Ru) (m : List Nat) : 0 ≤ (nextR n ps rs m).2 ∧ (0 < (nextR n ps rs m).2 → (nextR n ps rs m).1 ∈ allS n ∧ posR n (barL rs) (atomsL n rs) m (nextR n ps rs m).1 ∧ gnR n ps rs m (nextR n ps rs m).1 = (nextR n ps rs m).2) ∧
    (∀ s ∈ allS n, posR n (barL rs) (atomsL n rs) m s → gnR n ps rs m s ≤ (nextR n ps rs m).2) ∧ ((nextR n ps rs m).2 = 0 → (nextR n ps rs m).1 = ⟨false, 0, 0⟩) := best_spec _
def solveN (n : Nat) (ps : List Pr) (rs : List Ru) : Nat → List Nat → List Nat
  | 0, m => m
  | k + 1, m => if (nextR n ps rs m).2 = 0 then m else solveN n ps rs k (resR n ps rs m (nextR n ps rs m).1)
def muS (ps : List Pr) (m : List Nat) : Nat := (1000 * (ps.length : Int) - valR m ps).toNat
def solveR (n : Nat) (ps : List Pr) (rs : List Ru) : List Nat := solveN n ps rs (muS ps (atomsL n rs) + 1) (atomsL n rs)
theorem valR_le (hf : (Prob.mk (n : Int) ps rs).formed) (m : List Nat) : -1000 * (ps.length : Int) ≤ valR m ps ∧ valR m ps ≤ 1000 * (ps.length : Int) := by
  have := valR_b (m := m) (ps := ps) (fun x hx => ⟨(formed_pr hf hx).2.2.2.1, (formed_pr hf hx).2.2.2.2⟩) ps.length (Nat.le_refl _)
  rwa [List.take_length] at this
theorem next_step (hf : (Prob.mk (n : Int) ps rs).formed) (hm : isP n m) (hp : permR n ps rs m) (h : ¬ (nextR n ps rs m).2 = 0) : isP n (resR n ps rs m (nextR n ps rs m).1) ∧ permR n ps rs (resR n ps rs m (nextR n ps rs m).1) ∧
    valR (resR n ps rs m (nextR n ps rs m).1) ps = valR m ps + (nextR n ps rs m).2 ∧ muS ps (resR n ps rs m (nextR n ps rs m).1) < muS ps m := by
  obtain ⟨h1, h2, _, _⟩ := next_spec n ps rs m
  obtain ⟨_, q2, q3⟩ := h2 (by omega)
  have := res_perm hf hm hp q2
  have l1 := valR_le hf (resR n ps rs m (nextR n ps rs m).1)
  unfold gnR at q3
  exact ⟨this.1, this.2, by omega, by unfold muS; omega⟩
theorem solve_ge (hf : (Prob.mk (n : Int) ps rs).formed) : ∀ {k j : Nat} {m : List Nat}, isP n m → permR n ps rs m → muS ps m < k → muS ps m < j → solveN n ps rs k m = solveN n ps rs j m
  | 0, _, _, _, _, h, _ => absurd h (by omega)
  | _ + 1, 0, _, _, _, _, h => absurd h (by omega)
  | k + 1, j + 1, m, hm, hp, h1, h2 => by
    rw [solveN, solveN]
    split
    · rfl
    · rename_i h
      have := next_step hf hm hp h
      exact solve_ge hf this.1 this.2.1 (by omega) (by omega)
theorem solve_step (hf : (Prob.mk (n : Int) ps rs).formed) (hm : isP n m) (hp : permR n ps rs m) (h : ¬ (nextR n ps rs m).2 = 0) : solveN n ps rs (muS ps (resR n ps rs m (nextR n ps rs m).1) + 1) (resR n ps rs m (nextR n ps rs m).1) = solveN n ps rs (muS ps m + 1) m := by
  have := next_step hf hm hp h
  conv => rhs; rw [solveN, if_neg h]
  exact solve_ge hf this.1 this.2.1 (by omega) (by omega)
theorem solve_end (h : (nextR n ps rs m).2 = 0) (k : Nat) : solveN n ps rs k m = m := by
  cases k with
  | zero => rfl
  | succ k => rw [solveN, if_pos h]
theorem atoms_perm (hok : (Prob.mk (n : Int) ps rs).ok) : isP n (atomsL n rs) ∧ permR n ps rs (atomsL n rs) := by
  have hf := hok.1
  have ha := atoms_comp hf
  refine ⟨⟨ha.len, fun i hi => ⟨ha.le i hi, ha.idem hi⟩⟩, ?_, fun i hi => (ha.idem hi).symm, ?_⟩
  · rw [← bad_eq hf]; exact hok.2
  · refine (conn_in hf _).uniq ⟨ha.len, fun i j q => ⟨q.2.2.1, q.2.2.2⟩, ha.le, fun i j q => q.2.1, fun i hi => (ha.cn i hi).lift fun x y q => .base ?_⟩
    obtain ⟨hx, hy⟩ := ha.bnd x y q
    obtain ⟨r, hrr, hk, e⟩ := mem_muE.1 q
    cases e
    exact ⟨(mF_iff rs).2 (.inr ⟨r, hrr, (ru_lt hf hrr).2.2.2 hk, .inl ⟨rfl, rfl⟩⟩), ha.rel _ _ q, hx, hy⟩
theorem solve_spec (hf : (Prob.mk (n : Int) ps rs).formed) : ∀ {k : Nat} {m : List Nat}, isP n m → permR n ps rs m → muS ps m < k → isP n (solveN n ps rs k m) ∧ permR n ps rs (solveN n ps rs k m) ∧ (nextR n ps rs (solveN n ps rs k m)).2 = 0 ∧ valR m ps ≤ valR (solveN n ps rs k m) ps
  | 0, _, _, _, h => absurd h (by omega)
  | k + 1, m, hm, hp, h => by
    rw [solveN]
    split
    · rename_i e
      exact ⟨hm, hp, e, Int.le_refl _⟩
    · rename_i e
      have := next_step hf hm hp e
      have ih := solve_spec hf (k := k) this.1 this.2.1 (by omega)
      have h1 := (next_spec n ps rs m).1
      exact ⟨ih.1, ih.2.1, ih.2.2.1, by have := ih.2.2.2; omega⟩
theorem solveR_spec (hok : (Prob.mk (n : Int) ps rs).ok) : isP n (solveR n ps rs) ∧ permR n ps rs (solveR n ps rs) ∧ (nextR n ps rs (solveR n ps rs)).2 = 0 ∧ valR (atomsL n rs) ps ≤ valR (solveR n ps rs) ps :=
  solve_spec hok.1 (atoms_perm hok).1 (atoms_perm hok).2 (by omega)
end
end Go.D33
end
section
namespace Go.D33
open Go Go.RowKit Go.H
section
variable {n : Nat} {m atm : List Nat} {s : Stp}
theorem posF_iff {bar : List Ru} {u : Bool} {f t : Int} : posF n bar atm m ⟨u, f, t⟩ ↔ ((0 ≤ f ∧ f < (n : Int) ∧ t < (n : Int) ∧ -1 ≤ t ∧ (t < 0 → u = false)) ∧ (0 ≤ t → m[t.toNat]! = t.toNat ∧ m[f.toNat]! ≠ t.toNat) ∧
    (u = true → m[f.toNat]! = f.toNat ∧ f < t) ∧ (u = false → atm[f.toNat]! = f.toNat ∧ (t < 0 → g1L m atm ⟨u, f, t⟩ ≠ []))) ∧ bar.any (hitR (g0L m atm ⟨u, f, t⟩)) = false := Iff.rfl
def apN (n : Nat) (lk : Nat → Nat → Bool) (bar : List Ru) (atm m : List Nat) (s : Stp) : List Int := if posF n bar atm m s then nmF lk m atm s else []
def apG (n : Nat) (w : Nat → Nat → Int) (lk : Nat → Nat → Bool) (bar : List Ru) (atm m : List Nat) (s : Stp) : Int := if posF n bar atm m s then gnF w lk m atm s else 0
theorem apN_y {lk : Nat → Nat → Bool} {bar : List Ru} (h : posF n bar atm m s) : apN n lk bar atm m s = nmF lk m atm s := if_pos h
theorem apN_n {lk : Nat → Nat → Bool} {bar : List Ru} (h : ¬ posF n bar atm m s) : apN n lk bar atm m s = [] := if_neg h
theorem apG_y {w : Nat → Nat → Int} {lk : Nat → Nat → Bool} {bar : List Ru} (h : posF n bar atm m s) : apG n w lk bar atm m s = gnF w lk m atm s := if_pos h
theorem apG_n {w : Nat → Nat → Int} {lk : Nat → Nat → Bool} {bar : List Ru} (h : ¬ posF n bar atm m s) : apG n w lk bar atm m s = 0 := if_neg h
theorem there_nat (m : List Nat) (t : Nat) : thereL m (t : Int) = unitsL m t := if_neg (by omega)
theorem there_neg (m : List Nat) : thereL m (-1) = [] := rfl
theorem there_len (m : List Nat) (t : Int) : (thereL m t).length ≤ m.length := by
  unfold thereL
  split
  · exact Nat.zero_le _
  · exact units_len _ _
theorem setAll_sG {α : Type} {o : List α} {us : List Nat} {k : Nat} {x : α} (h : k < us.length) : setAll o (us.take (k + 1)) x = (setAll o (us.take k) x).set us[k]! x := by rw [snocP h, setAll_snoc]
theorem g_b (hm : m.length = n) : (g0L m atm s).length + (g1L m atm s).length ≤ 2 * n ∧ (∀ u ∈ g0L m atm s, u < n) ∧ ∀ u ∈ g1L m atm s, u < n := by
  have hp := grp_perm m atm s
  have hl := hp.length_eq
  rw [List.length_append, List.length_append] at hl
  have h1 := units_len m m[s.f.toNat]!
  have h2 := there_len m s.t
  have hmem : ∀ u, u ∈ g0L m atm s ++ g1L m atm s → u < n := fun u hu => by
    rcases List.mem_append.1 (hp.subset hu) with q | q
    · exact ((mem_here hm).1 q).1
    · exact ((mem_there hm).1 q).2.1
  exact ⟨by omega, fun u hu => hmem u (List.mem_append_left _ hu), fun u hu => hmem u (List.mem_append_right _ hu)⟩
theorem partsN_units {E : Nat → Nat → Bool} {g : List Nat} {p : List Nat} (hp : p ∈ partsL E g) : 0 < p.length ∧ p.length ≤ g.length ∧ ∀ u ∈ p, u ∈ g := by
  have h := partsN_ok (E := E) _ g rfl
  refine ⟨List.length_pos_iff.2 (h.ne p hp), ?_, fun u hu => h.perm.subset (List.mem_flatten.2 ⟨p, hp, hu⟩)⟩
  rw [← h.perm.length_eq]
  exact (List.sublist_flatten_of_mem hp).length_le
theorem partsN_len {E : Nat → Nat → Bool} {g : List Nat} : (partsL E g).length ≤ g.length := by
  have h := partsN_ok (E := E) _ g rfl
  rw [← h.perm.length_eq]
  have h2 := h.ne
  revert h2
  generalize partsL E g = L
  intro h2
  induction L with
  | nil => simp
  | cons p L ih =>
    have h3 := List.length_pos_iff.2 (h2 p (by simp))
    have := ih (fun q hq => h2 q (by simp [hq]))
    rw [List.flatten_cons, List.length_append, List.length_cons]; omega
theorem sumV_b {w : Nat → Nat → Int} (hw : ∀ i j, -1000 ≤ w i j ∧ w i j ≤ 1000) {L : List (List Nat)} (hL : ∀ p ∈ L, p.length ≤ 1000) : ∀ k : Nat, k ≤ L.length → -1000000000 * (k : Int) ≤ sumV w (L.take k) ∧ sumV w (L.take k) ≤ 1000000000 * (k : Int)
  | 0, _ => by simp [sumV]
  | k + 1, h => by
    have ih := sumV_b hw hL k (by omega)
    have := valF_b hw (hL L[k]! (mem_at (by omega)))
    rw [sumV_s w (by omega)]; omega
theorem sumV_b2 {w : Nat → Nat → Int} (hw : ∀ i j, -1000 ≤ w i j ∧ w i j ≤ 1000) {L : List (List Nat)} (hL : ∀ p ∈ L, p.length ≤ 1000) : -1000000000 * (L.length : Int) ≤ sumV w L ∧ sumV w L ≤ 1000000000 * (L.length : Int) := by
  have := sumV_b hw hL L.length (Nat.le_refl _)
  rwa [List.take_length] at this
theorem sumV_snoc (w : Nat → Nat → Int) (L : List (List Nat)) (p : List Nat) : sumV w (L ++ [p]) = sumV w L + valF w p := by rw [sumV, List.foldl_append]; rfl
def nmHit (nm : List Int) (x : Ru) : Bool := decide (nm[x.a.toNat]! = -1 ∧ nm[x.b.toNat]! = -1)
theorem nm0_len : (nm0 m atm s).length = m.length := by rw [nm0, setAll_len, List.length_map]
theorem nm0_get (hm : m.length = n) {i : Nat} (hi : i < n) : (nm0 m atm s)[i]! = -1 ↔ i ∈ g0L m atm s := by
  rw [nm0, setAll_get (by rw [List.length_map]; omega)]
  by_cases q : i ∈ g0L m atm s
  · rw [if_pos q]; exact ⟨fun _ => q, fun _ => rfl⟩
  · rw [if_neg q, get_map (by omega)]; exact ⟨fun e => by omega, fun e => absurd e q⟩
theorem hit_eq {bar : List Ru} (hm : m.length = n) (hb : ∀ x ∈ bar, 0 ≤ x.a ∧ x.a < (n : Int) ∧ 0 ≤ x.b ∧ x.b < (n : Int)) : bar.any (nmHit (nm0 m atm s)) = bar.any (hitR (g0L m atm s)) := by
  rw [Bool.eq_iff_iff, List.any_eq_true, List.any_eq_true]
  have key : ∀ x ∈ bar, nmHit (nm0 m atm s) x = hitR (g0L m atm s) x := fun x hx => by
    have := hb x hx
    exact dec_iff (by rw [nm0_get hm (by omega), nm0_get hm (by omega)])
  exact ⟨fun ⟨x, hx, e⟩ => ⟨x, hx, by rw [← key x hx]; exact e⟩, fun ⟨x, hx, e⟩ => ⟨x, hx, by rw [key x hx]; exact e⟩⟩
def outF (lk : Nat → Nat → Bool) (m atm : List Nat) (b : Stp × Int) : List Int := if b.2 = 0 then [] else nmF lk m atm b.1
theorem outF_y {lk : Nat → Nat → Bool} {b : Int} {s : Stp} {g : Int} (h0 : 0 ≤ b) (h : b < g) : outF lk m atm (s, g) = nmF lk m atm s := if_neg (show ¬ g = 0 by omega)
theorem best_ge {ok : Stp → Prop} [DecidablePred ok] {g : Stp → Int} (l : List Stp) {k : Nat} (h : k ≤ l.length) : 0 ≤ (bestF ok g (l.take k)).2 := (best_spec' l k h).1
theorem steps_b (n : Nat) (hn : n ≤ 200) (m atm : List Nat) : (stepsL (selfs n m) (selfs n atm)).length ≤ 1000000 := by
  have h1 := selfs_len n m
  have h2 := selfs_len n atm
  have a := moves_b (cl := selfs n m) (by omega) (l := selfs n atm) _ (Nat.le_refl _)
  rw [List.take_length] at a
  have b := unions_b (cl := selfs n m) (by omega) _ (Nat.le_refl _)
  rw [stepsL, List.length_append]; omega
end
end Go.D33
end
section
namespace Go.Proofs.Ytbkbeplddddgeaa
open Go Go.RowKit Go.H Go.D33

theorem hcallOk86 : G.callOk Try.prog 86 = true := by kernel_rfl

set_option maxRecDepth 8000 in
theorem apply1_h {nm : List Int} {x : Ru} (hx : 0 ≤ x.a ∧ x.a < (nm.length : Int) ∧ 0 ≤ x.b ∧ x.b < (nm.length : Int)) :
    Con Try.prog 86 [vA (eRu x), .ref 0 0] [(0, .cells 32 [.own 1]), (1, .data 3 1 (nm.map eI))] (vB (nmHit nm x)) [(0, .cells 32 [.own 1]), (1, .data 3 1 (nm.map eI))] := by
 obtain ⟨i3, hi3, hz3, hs3, hb3⟩ := hinf3
 refine Con.enterL (n := 18) Try.func86 rfl rfl rfl (fun τ w ok vs hin => ?_)
 clear hin
 refine W.rg ?_
 refine SL.memS (O.box (is := [_, _, _]) 101 rfl rfl (by simp) rfl rfl Taken.no) rfl rfl (S' := (101, _) :: _) rfl ?_
 refine SL.an rfl rfl (E.fo (W.rg ?_))
 refine SL.val (O.ld1 (PtI.ref rfl rfl) rfl Try.underlying32 rfl rfl Taken.no) ?_
 refine SL.val (O.fld_ref (o' := 1) rfl Try.underlying51 rfl (m := 0) (by kernel_rfl) rfl rfl Taken.no) ?_
 refine SL.val (O.ld1 (PtI.ref rfl rfl) rfl Try.underlying3 rfl rfl Taken.no) ?_
 refine SL.val (O.idx_own (i := x.a.toNat) rfl rfl rfl (by omega) (by rw [List.length_map]; omega) Try.underlying32 hi3 hs3 rfl Taken.no) ?_
 refine SL.val (O.ld1 (PtI.ofU (PtU.el rfl rfl (row_get (by omega)))) rfl Try.underlying3 rfl rfl Taken.no) ?_
 refine SL.val (O.det (fun _ => G.R.eql rfl rfl) rfl Taken.no) ?_
 refine SL.mv rfl rfl ?_
 refine SL.case (j := 6) (g := 10) (want := true) rfl rfl (fun hg1 => ?_) (fun hg1 => ?_)
 ·skip
  first | have hg1p := G.gA1 hg1 | have hg1p := G.gA2 hg1 | have hg1p := hg1
  refine SL.val (O.ld1 (PtI.ref rfl rfl) rfl Try.underlying32 rfl rfl (Taken.yes rfl rfl hg1)) ?_
  refine SL.val (O.fld_ref (o' := 2) rfl Try.underlying51 rfl (m := 0) (by kernel_rfl) rfl rfl (Taken.yes rfl rfl hg1)) ?_
  refine SL.val (O.ld1 (PtI.ref rfl rfl) rfl Try.underlying3 rfl rfl (Taken.yes rfl rfl hg1)) ?_
  refine SL.val (O.idx_own (i := x.b.toNat) rfl rfl rfl (by omega) (by rw [List.length_map]; omega) Try.underlying32 hi3 hs3 rfl (Taken.yes rfl rfl hg1)) ?_
  refine SL.val (O.ld1 (PtI.ofU (PtU.el rfl rfl (row_get (by omega)))) rfl Try.underlying3 rfl rfl (Taken.yes rfl rfl hg1)) ?_
  refine SL.val (O.det (fun _ => G.R.eql rfl rfl) rfl (Taken.yes rfl rfl hg1)) ?_
  refine SL.val (O.pick_t rfl hg1 rfl rfl Taken.no) ?_
  refine SL.an rfl rfl (E.fo (W.ret ?_))
  refine E.fin (rs := [_]) (rn []) (.inl rfl) rfl (.cons (ResOne.tmp rfl) .nil) ?_ ?_ rfl (fixL_spec rfl)
  ·skip
   first | exact iv_bool (dec_iff (by omega)) | exact iv_bool (dec_f (by omega)) | exact iv_bool (dec_t (by omega))
  · exact (SubS.cons rfl (SubS.cons rfl SubS.nil))
 first | have hg1p := G.gA5 hg1 | have hg1p := G.gA6 hg1 | have hg1p := hg1
 refine SL.sk rfl rfl rfl hg1 (SL.sk rfl rfl rfl hg1 (SL.sk rfl rfl rfl hg1 (SL.sk rfl rfl rfl hg1 (SL.sk rfl rfl rfl hg1 (SL.sk rfl rfl rfl hg1 ?_)))))
 refine SL.val (O.pick_f rfl (G.ne_t hg1) rfl rfl Taken.no) ?_
 refine SL.an rfl rfl (E.fo (W.ret ?_))
 refine E.fin (rs := [_]) (rn []) (.inl rfl) rfl (.cons (ResOne.tmp rfl) .nil) ?_ ?_ rfl (fixL_spec rfl)
 ·skip
  first | exact iv_bool (dec_iff (by omega)) | exact iv_bool (dec_f (by omega)) | exact iv_bool (dec_t (by omega))
 · exact (SubS.cons rfl (SubS.cons rfl SubS.nil))

set_option maxRecDepth 8000 in
theorem indexFuncN {nm : List Int} {q : List Ru} (hq : ∀ x ∈ q, 0 ≤ x.a ∧ x.a < (nm.length : Int) ∧ 0 ≤ x.b ∧ x.b < (nm.length : Int)) :
    Con Try.prog 78 [vL 3 (q.map eRu), .clo (.func 86) [] [.ref 0 0]] [(0, .cells 32 [.own 1]), (1, .data 3 1 (nm.map eI))] (vI (idxF (nmHit nm) q)) [(0, .cells 32 [.own 1]), (1, .data 3 1 (nm.map eI))] := by
 obtain ⟨i51, hi51, hz51, hs51, hb51⟩ := hinf51
 refine Con.enterL (n := 19) Try.func78 rfl rfl rfl (fun τ w ok vs hin => ?_)
 have hl0 := hin.len (i := 0) rfl
 try rw [List.length_map] at hl0
 clear hin
 refine W.rg (SL.an rfl rfl (E.fo (W.seq (W.rg (SL.mv rfl rfl ?_)))))
 refine SL.val (O.lenE (SlOf.fz rfl (by decide)) (by first | exact List.length_map _ | rfl) Try.underlying23 rfl Taken.no) ?_
 refine SL.mv rfl rfl (E.fo (W.block ?_))
 refine W.loopx1 (fun (k : Nat) => [(8, vI (k : Int))]) (fun (k : Nat) => []) (fun (k : Nat) => k ≤ q.length ∧ ∀ j, j < k → (nmHit nm) q[j]! = false) (fun (k : Nat) => q.length - k) (0) (rn []) (.cons (t := 0) rfl (.cons (t := 1) rfl (.cons (t := 7) rfl .nil))) (.cons (t := 0) rfl (.cons (t := 1) rfl .nil)) rfl ?_ ?_ rfl rfl ?_ ?_
 · exact (SubF.cons rfl SubF.nil)
 · exact SubS.nil
 ·skip
  exact ⟨by omega, fun j h => by omega⟩
 intro k hinv
 obtain ⟨hk, hp⟩ := hinv
 refine W.rg ?_
 refine SL.val (O.det (fun _ => G.R.lss rfl rfl) rfl Taken.no) ?_
 refine E.fo (W.seq ?_)
 first | refine W.cond_d rfl (fun hc1 => ?_) (fun hc1 => ?_) | refine W.cond_nd rfl (fun hc1 => ?_) (fun hc1 => ?_) | refine W.cond rfl (fun hc1 => ?_) (fun hc1 => ?_)
 ·skip
  refine W.skip (E.to (W.seq (W.block (W.rg (SL.mv rfl rfl (SL.an rfl rfl (E.fo (W.rg (SL.mv rfl rfl (SL.mv rfl rfl (SL.mv rfl rfl ?_)))))))))))
  refine SL.val (O.idx_fz rfl rfl (rfl) (row_get (by omega)) Try.underlying23 hi51 hs51 rfl Taken.no) ?_
  refine SL.val (O.ldU (m := 3) (PtU.fz rfl) rfl Try.underlying51 rfl (by kernel_rfl) rfl Taken.no) ?_
  refine SL.memS (O.call (rn [(0, 0), (1, 1)]) [] rfl rfl rfl (apply1_h (x := q[k]!) (hq _ (mem_at (by omega)))) (.cons (ArgOk.same rfl) (.cons (ArgOk.same rfl) .nil)) (SubS.cons rfl (SubS.cons rfl SubS.nil)) rfl rfl rfl rfl rfl (.inl rfl) hcallOk86 (r' := .u _) rfl rfl Taken.no) rfl rfl (S' := (0, .cells _ [.own 1]) :: (1, .data _ _ _) :: _) rfl ?_
  refine E.fo ?_
  first | refine W.cond_d rfl (fun hc2 => ?_) (fun hc2 => ?_) | refine W.cond_nd rfl (fun hc2 => ?_) (fun hc2 => ?_) | refine W.cond rfl (fun hc2 => ?_) (fun hc2 => ?_)
  ·skip
   refine W.rg (SL.mv rfl rfl (SL.an rfl rfl (E.fo (W.ret ?_))))
   refine E.inr ?_
   refine E.thr (E.thr ?_)
   refine E.inr ?_
   refine E.thr ?_
   refine E.fin (rs := [_]) (rn []) (.inl rfl) rfl (.cons (ResOne.tmp rfl) .nil) ?_ ?_ rfl (fixL_spec rfl)
   ·skip
    exact iv_int (idxF_here (p := nmHit nm) (by omega) hp (by first | assumption | exact decide_eq_true (by assumption)))
   · exact (SubS.cons rfl (SubS.cons rfl SubS.nil))
  refine W.skip (E.inn (E.to (W.region ?_)))
  refine SL.val (O.det (fun _ => by first | exact G.R.add64 rfl rfl (by omega) | exact G.R.add rfl rfl) rfl Taken.no) ?_
  refine SL.mv rfl rfl (SL.nil ?_)
  refine E.again ((k + 1)) (rn []) ?_ ?_ rfl (fixL_spec rfl) ?_ ?_
  · exact (SubF.cons rfl (SubF.cons rfl (SubF.cons rfl (SubF.cons rfl SubF.nil))))
  · exact (SubS.cons rfl (SubS.cons rfl SubS.nil))
  ·try dsimp only
   exact ⟨by omega, fun j hj => by rcases Nat.lt_succ_iff_lt_or_eq.1 hj with h | h; exact hp j h; subst h; first | assumption | exact decide_eq_false (by assumption)⟩
  · (try dsimp only); omega
 refine W.exit (E.th (E.th (E.hit (E.to (W.rg (SL.an rfl rfl (E.fo (W.ret ?_))))))))
 refine E.fin (rs := [_]) (rn []) (.inl rfl) rfl (.cons (ResOne.tmp rfl) .nil) ?_ ?_ rfl (fixL_spec rfl)
 ·skip
  exact iv_int (idxF_none (p := nmHit nm) (by omega) hp)
 · exact (SubS.cons rfl (SubS.cons rfl SubS.nil))

set_option maxRecDepth 8000 in
theorem containsFuncN {nm : List Int} {q : List Ru} (hq : ∀ x ∈ q, 0 ≤ x.a ∧ x.a < (nm.length : Int) ∧ 0 ≤ x.b ∧ x.b < (nm.length : Int)) :
    Con Try.prog 65 [vL 3 (q.map eRu), .clo (.func 86) [] [.ref 0 0]] [(0, .cells 32 [.own 1]), (1, .data 3 1 (nm.map eI))] (vB (q.any (nmHit nm))) [(0, .cells 32 [.own 1]), (1, .data 3 1 (nm.map eI))] := by
 refine Con.enterL (n := 9) Try.func65 rfl rfl rfl (fun τ w ok vs hin => ?_)
 have hl0 := hin.len (i := 0) rfl
 try rw [List.length_map] at hl0
 clear hin
 refine W.rg (SL.an rfl rfl (E.fo (W.rg (SL.mv rfl rfl (SL.mv rfl rfl ?_)))))
 refine SL.memS (O.call (rn [(0, 0), (1, 1)]) [] rfl rfl rfl (indexFuncN hq) (.cons (ArgOk.same rfl) (.cons (ArgOk.same rfl) .nil)) (SubS.cons rfl (SubS.cons rfl SubS.nil)) rfl rfl rfl rfl rfl (.inl rfl) hcallOk78 (r' := .u _) rfl rfl Taken.no) rfl rfl (S' := (0, .cells _ [.own 1]) :: (1, .data _ _ _) :: _) rfl ?_
 refine SL.val (O.det (fun _ => G.R.geq rfl rfl) rfl Taken.no) ?_
 refine SL.an rfl rfl (E.fo (W.ret ?_))
 refine E.fin (rs := [_]) (rn []) (.inl rfl) rfl (.cons (ResOne.tmp rfl) .nil) ?_ ?_ rfl (fixL_spec rfl)
 ·skip
  exact iv_bool any_any.symm
 · exact (SubS.cons rfl (SubS.cons rfl SubS.nil))

end Go.Proofs.Ytbkbeplddddgeaa
end
section
namespace Go.Proofs.Ytbkbeplddddgeaa
open Go Go.RowKit Go.H Go.D33



set_option maxRecDepth 8000 in
set_option maxHeartbeats 6400000 in
theorem apply_h {n : Nat} {wt : Nat → Nat → Int} {lk : Nat → Nat → Bool} {bar : List Ru} {atm : List Nat} {m : List Nat} {u : Bool} {f t : Int} (hn : n ≤ 200) (hw : ∀ i j, -1000 ≤ wt i j ∧ wt i j ≤ 1000) (ha : atm.length = n ∧ ∀ i, i < n → atm[i]! < n) (hb : ∀ x ∈ bar, 0 ≤ x.a ∧ x.a < (n : Int) ∧ 0 ≤ x.b ∧ x.b < (n : Int)) (hml : m.length = n) :
    Con Try.prog 75 [.u (.ptr [uI (n : Int), .sl 1 (gridU (gridF n fun i j => uI (wt i j))), .sl 1 (gridU (gridF n fun i j => uB (lk i j))), .sl 3 (bar.map eRu), .sl 1 (atm.map eN), .sl 1 ((List.range n).map eN)]), vL 1 (m.map eN), vA [uB u, uI f, uI t]] [] (.tup [vL 1 ((apN n lk bar atm m ⟨u, f, t⟩).map eI), vI (apG n wt lk bar atm m ⟨u, f, t⟩), vB (decide (posF n bar atm m ⟨u, f, t⟩))]) [] := by
 have hal := ha.1
 obtain ⟨i3, hi3, hz3, hs3, hb3⟩ := hinf3
 obtain ⟨i32, hi32, hz32, hs32, hb32⟩ := hinf32
 refine Con.enterL (n := 225) Try.func75 rfl rfl rfl (fun τ w ok vs hin => ?_)
 have hl1 := hin.len (i := 1) rfl
 try rw [List.length_map] at hl1
 clear hin
 refine W.rg ?_
 refine SL.memS (O.box (is := [_, _, _]) 101 rfl rfl (by simp) rfl rfl Taken.no) rfl rfl (S' := (101, _) :: _) rfl ?_
 refine SL.an rfl rfl (SL.an rfl rfl (SL.an rfl rfl (E.fo (W.seq (W.seq ?_)))))
 refine W.draw [⟨[], [], [], [101]⟩, ⟨[101], [], [], []⟩, ⟨[], [], [], []⟩, ⟨[], [], [], []⟩, ⟨[], [], [], [101]⟩, ⟨[101], [], [], []⟩, ⟨[], [], [], []⟩, ⟨[], [], [], []⟩, ⟨[], [], [], []⟩, ⟨[], [], [], []⟩, ⟨[], [], [], []⟩, ⟨[], [], [], []⟩, ⟨[], [], [], []⟩, ⟨[], [], [], [101]⟩, ⟨[101], [], [], []⟩, ⟨[], [], [], []⟩, ⟨[], [], [], []⟩, ⟨[], [], [], []⟩, ⟨[], [], [], []⟩, ⟨[], [], [], []⟩, ⟨[], [], [], []⟩, ⟨[], [], [], []⟩, ⟨[], [], [], [101]⟩, ⟨[101], [], [], []⟩, ⟨[], [], [], []⟩, ⟨[], [], [], []⟩, ⟨[], [], [], [101]⟩, ⟨[101], [], [], []⟩, ⟨[], [], [], []⟩, ⟨[], [], [], [101]⟩, ⟨[101], [], [], []⟩, ⟨[], [], [], []⟩, ⟨[], [], [], []⟩, ⟨[], [], [], []⟩, ⟨[], [], [], []⟩] rfl (by kernel_rfl) (by kernel_rfl) rfl rfl ?_
 refine WH.val (O.fld_ref (o' := 1) rfl Try.underlying57 rfl (m := 0) (by kernel_rfl) rfl rfl Taken.no) rfl rfl ?_
 refine WH.val (O.ld1 (PtI.ref rfl rfl) rfl Try.underlying3 rfl rfl Taken.no) rfl rfl ?_
 refine WH.val (O.det (fun _ => G.R.lss rfl rfl) rfl Taken.no) rfl rfl ?_
 refine WH.mv rfl rfl rfl ?_
 refine WH.case (j := 3) (g := 29) (want := false) rfl rfl (fun hg1 => ?_) (fun hg1 => ?_)
 ·skip
  first | have hg1p := G.gA3 hg1 | have hg1p := G.gA4 hg1 | have hg1p := hg1
  refine WH.val (O.fld_ref (o' := 1) rfl Try.underlying57 rfl (m := 0) (by kernel_rfl) rfl rfl (Taken.yes rfl rfl hg1)) rfl rfl ?_
  refine WH.val (O.ld1 (PtI.ref rfl rfl) rfl Try.underlying3 rfl rfl (Taken.yes rfl rfl hg1)) rfl rfl ?_
  refine WH.val (O.move rfl rfl (Taken.yes rfl rfl hg1)) rfl rfl ?_
  refine WH.val (O.nilCheck rfl rfl rfl (Taken.yes rfl rfl hg1)) rfl rfl ?_
  refine WH.val (O.fld_fz rfl Try.underlying90 rfl (m := 0) (by kernel_rfl) rfl rfl (Taken.yes rfl rfl hg1)) rfl rfl ?_
  refine WH.val (O.ld1 (PtI.ofU (PtU.fz rfl)) rfl Try.underlying3 rfl rfl (Taken.yes rfl rfl hg1)) rfl rfl ?_
  refine WH.val (O.det (fun _ => G.R.geq rfl rfl) rfl (Taken.yes rfl rfl hg1)) rfl rfl ?_
  refine WH.val (O.pick_f rfl hg1 rfl rfl Taken.no) rfl rfl ?_
  refine WH.mv rfl rfl rfl ?_
  refine WH.case (j := 12) (g := 38) (want := false) rfl rfl (fun hg2 => ?_) (fun hg2 => ?_)
  ·skip
   first | have hg2p := G.gA3 hg2 | have hg2p := G.gA4 hg2 | have hg2p := hg2
   refine WH.val (O.fld_ref (o' := 2) rfl Try.underlying57 rfl (m := 0) (by kernel_rfl) rfl rfl (Taken.yes rfl rfl hg2)) rfl rfl ?_
   refine WH.val (O.ld1 (PtI.ref rfl rfl) rfl Try.underlying3 rfl rfl (Taken.yes rfl rfl hg2)) rfl rfl ?_
   refine WH.val (O.move rfl rfl (Taken.yes rfl rfl hg2)) rfl rfl ?_
   refine WH.val (O.nilCheck rfl rfl rfl (Taken.yes rfl rfl hg2)) rfl rfl ?_
   refine WH.val (O.fld_fz rfl Try.underlying90 rfl (m := 0) (by kernel_rfl) rfl rfl (Taken.yes rfl rfl hg2)) rfl rfl ?_
   refine WH.val (O.ld1 (PtI.ofU (PtU.fz rfl)) rfl Try.underlying3 rfl rfl (Taken.yes rfl rfl hg2)) rfl rfl ?_
   refine WH.val (O.det (fun _ => G.R.geq rfl rfl) rfl (Taken.yes rfl rfl hg2)) rfl rfl ?_
   refine WH.val (O.pick_f rfl hg2 rfl rfl Taken.no) rfl rfl ?_
   refine WH.mv rfl rfl rfl ?_
   refine WH.case (j := 21) (g := 47) (want := false) rfl rfl (fun hg3 => ?_) (fun hg3 => ?_)
   ·skip
    first | have hg3p := G.gA3 hg3 | have hg3p := G.gA4 hg3 | have hg3p := hg3
    refine WH.val (O.fld_ref (o' := 2) rfl Try.underlying57 rfl (m := 0) (by kernel_rfl) rfl rfl (Taken.yes rfl rfl hg3)) rfl rfl ?_
    refine WH.val (O.ld1 (PtI.ref rfl rfl) rfl Try.underlying3 rfl rfl (Taken.yes rfl rfl hg3)) rfl rfl ?_
    refine WH.val (O.det (fun _ => G.R.lss rfl rfl) rfl (Taken.yes rfl rfl hg3)) rfl rfl ?_
    refine WH.val (O.move rfl rfl (Taken.yes rfl rfl hg3)) rfl rfl ?_
    refine WH.case (j := 25) (g := 51) (want := true) rfl rfl (fun hg4 => ?_) (fun hg4 => ?_)
    ·skip
     first | have hg4p := G.gA1 hg4 | have hg4p := G.gA2 hg4 | have hg4p := hg4
     refine WH.val (O.fld_ref (o' := 0) rfl Try.underlying57 rfl (m := 0) (by kernel_rfl) rfl rfl (Taken.yes rfl rfl hg4)) rfl rfl ?_
     refine WH.val (O.ld1 (PtI.ref rfl rfl) rfl Try.underlying4 rfl rfl (Taken.yes rfl rfl hg4)) rfl rfl ?_
     refine WH.val (O.move rfl rfl (Taken.yes rfl rfl hg4)) rfl rfl ?_
     refine WH.case (j := 28) (g := 54) (want := false) rfl rfl (fun hg5 => ?_) (fun hg5 => ?_)
     ·skip
      first | have hg5p := G.gA3 hg5 | have hg5p := G.gA4 hg5 | have hg5p := hg5
      refine WH.val (O.fld_ref (o' := 2) rfl Try.underlying57 rfl (m := 0) (by kernel_rfl) rfl rfl (Taken.yes rfl rfl hg5)) rfl rfl ?_
      refine WH.val (O.ld1 (PtI.ref rfl rfl) rfl Try.underlying3 rfl rfl (Taken.yes rfl rfl hg5)) rfl rfl ?_
      refine WH.val (O.det (fun _ => G.R.neq rfl rfl) rfl (Taken.yes rfl rfl hg5)) rfl rfl ?_
      refine WH.val (O.pick_f rfl hg5 rfl rfl (Taken.yes rfl rfl hg4)) rfl rfl ?_
      refine WH.val (O.pick_t rfl hg4 rfl rfl (Taken.yes rfl rfl hg3)) rfl rfl ?_
      refine WH.val (O.pick_f rfl hg3 rfl rfl Taken.no) rfl rfl ?_
      refine WH.nil (E.to ?_)
      refine W.pick (K:=[(0,_),(1,_),(5,_),(6,_),(7,_),(8,_),(60,_)]) (Z:=[(101,_)]) ⟨rfl,rfl,rfl,rfl,rfl,rfl,rfl,trivial⟩ ⟨rfl,trivial⟩ ?_
      first | refine W.cond_d rfl (fun hc6 => ?_) (fun hc6 => ?_) | refine W.cond_nd rfl (fun hc6 => ?_) (fun hc6 => ?_) | refine W.cond rfl (fun hc6 => ?_) (fun hc6 => ?_)
      ·skip
       refine W.rg (SL.an rfl rfl (SL.an rfl rfl (SL.an rfl rfl (E.fo (W.ret (E.thr ?_))))))
       refine E.nilsl 6 1 rfl ?_
       refine E.fin (rs := [_, _, _]) (rn []) (.inl rfl) rfl (.cons (ResOne.tmp rfl) (.cons (ResOne.tmp rfl) (.cons (ResOne.tmp rfl) .nil))) ?_ ?_ rfl (fixL_spec rfl)
       ·skip
        first | ((have hno : ¬ posF n bar atm m ⟨u, f, t⟩ := fun q => by ((obtain ⟨⟨⟨q1, q2, q3, q4, q5⟩, q6, q7, q8⟩, q9⟩ := posF_iff.1 q); (try simp only [Int.toNat_natCast] at q6 q7 q8); (first | omega | (have q5 := q5 (by omega); simp_all)))); rw [apN_n hno, apG_n hno, dec_f hno]; rfl)
       · exact SubS.nil
      refine W.skip (E.to (W.rg ?_))
      obtain rfl : t = -1 := by omega
      obtain rfl : u = false := by simp_all
      have hvb2 := valF_b hw (l := []) (by simp)
      obtain ⟨f, rfl⟩ : ∃ k : Nat, f = (k : Int) := ⟨f.toNat, by omega⟩
      have hul := units_len m m[f]!
      have hvb1 := valF_b hw (l := (unitsL m m[f]!)) (by omega)
      have hHn : ∀ u ∈ (unitsL m m[f]!), u < n := fun u hu => ((mem_here hml).1 hu).1
      refine SL.mv rfl rfl (SL.mv rfl rfl ?_)
      refine SL.val (O.fld_ref (o' := 1) rfl Try.underlying57 rfl (m := 0) (by kernel_rfl) rfl rfl Taken.no) ?_
      refine SL.val (O.ld1 (PtI.ref rfl rfl) rfl Try.underlying3 rfl rfl Taken.no) ?_
      refine SL.val (O.idx_fz (i := f) rfl rfl (rfl) (row_get (by omega)) Try.underlying32 hi3 hs3 rfl Taken.no) ?_
      refine SL.val (O.ld1 (PtI.ofU (PtU.fz rfl)) rfl Try.underlying3 rfl rfl Taken.no) ?_
      refine SL.memS (O.call (rn [(0, 102)]) [] rfl rfl rfl (units_h (l := m) (c := m[f]!) (by omega)) (.cons (ArgOk.same rfl) (.cons (ArgOk.same rfl) .nil)) SubS.nil rfl rfl rfl rfl rfl (.inl rfl) hcallOk58 (r' := .own 102) rfl rfl Taken.no) rfl rfl (S' := (102, .data _ _ _) :: _) rfl ?_
      refine SL.an rfl rfl (E.fo (W.rg (SL.an rfl rfl (E.fo (W.seq (W.rg ?_))))))
      refine SL.val (O.fld_ref (o' := 2) rfl Try.underlying57 rfl (m := 0) (by kernel_rfl) rfl rfl Taken.no) ?_
      refine SL.val (O.ld1 (PtI.ref rfl rfl) rfl Try.underlying3 rfl rfl Taken.no) ?_
      refine SL.val (O.det (fun _ => G.R.geq rfl rfl) rfl Taken.no) ?_
      refine E.fo ?_
      first | refine W.cond_d rfl (fun hc7 => ?_) (fun hc7 => ?_) | refine W.cond_nd rfl (fun hc7 => ?_) (fun hc7 => ?_) | refine W.cond rfl (fun hc7 => ?_) (fun hc7 => ?_)
      ·skip
       omega
      refine W.skip (E.to (W.rg (SL.mv rfl rfl (SL.mv rfl rfl ?_))))
      refine SL.memS (O.call (rn []) [102] rfl rfl rfl (value_h (l := (unitsL m m[f]!)) hw (by omega) hHn) (.cons (ArgOk.same rfl) (.cons (ArgOk.own rfl rfl) .nil)) SubS.nil rfl rfl rfl rfl rfl (.inr ⟨rfl, fun x hx => by simp at hx⟩) hcallOk57 (r' := .u _) rfl rfl Taken.no) rfl rfl (S' := _) rfl ?_
      refine SL.mv rfl rfl (SL.mv rfl rfl ?_)
      refine SL.val (O.callp rfl rfl rfl (value_h (l := []) hw (by simp) (fun u hu => by cases hu)) (.cons (ArgOk.same rfl) (.cons ArgOk.nil .nil)) hcallOk57 rfl Taken.no) ?_
      refine SL.val (O.det (fun _ => by first | exact G.R.add64 rfl rfl (by omega) | exact G.R.add rfl rfl) rfl Taken.no) ?_
      refine SL.an rfl rfl (E.fo ?_)
      refine W.pick (K:=[(0,_),(1,_),(5,_),(6,_),(7,_),(8,_),(9,_),(10,_),(11,_)]) (Z:=[(101,_),(102,_)]) ⟨rfl,rfl,rfl,rfl,rfl,rfl,rfl,rfl,rfl,trivial⟩ ⟨rfl,rfl,trivial⟩ ?_
      refine W.rg ?_
      refine SL.memS (O.alloc (z := .agg #[.slice none 0 0, .slice none 0 0]) (is := [.u (.sc (.slice none 0 0)), .u (.sc (.slice none 0 0))]) 103 (by kernel_rfl) rfl rfl rfl Taken.no) rfl rfl (S' := (103, _) :: _) rfl ?_
      refine E.fo (W.seq (W.rg ?_))
      refine SL.val (O.fld_ref (o' := 0) rfl Try.underlying57 rfl (m := 0) (by kernel_rfl) rfl rfl Taken.no) ?_
      refine SL.val (O.ld1 (PtI.ref rfl rfl) rfl Try.underlying4 rfl rfl Taken.no) ?_
      refine E.fo ?_
      refine W.cond_f rfl ?_
      refine W.seq (W.seq ?_)
      refine W.draw [⟨[], [], [], []⟩, ⟨[], [], [], []⟩, ⟨[], [], [], []⟩, ⟨[], [], [], []⟩, ⟨[], [], [], [101]⟩, ⟨[101], [], [], []⟩, ⟨[], [], [], []⟩, ⟨[], [], [], []⟩, ⟨[], [], [], [101]⟩, ⟨[101], [], [], []⟩, ⟨[], [], [], []⟩] rfl (by kernel_rfl) (by kernel_rfl) rfl rfl ?_
      refine WH.mv rfl rfl rfl ?_
      refine WH.val (O.nilCheck rfl rfl rfl Taken.no) rfl rfl ?_
      refine WH.val (O.fld_fz rfl Try.underlying90 rfl (m := 0) (by kernel_rfl) rfl rfl Taken.no) rfl rfl ?_
      refine WH.val (O.ld1 (PtI.ofU (PtU.fz rfl)) rfl Try.underlying32 rfl rfl Taken.no) rfl rfl ?_
      refine WH.val (O.fld_ref (o' := 1) rfl Try.underlying57 rfl (m := 0) (by kernel_rfl) rfl rfl Taken.no) rfl rfl ?_
      refine WH.val (O.ld1 (PtI.ref rfl rfl) rfl Try.underlying3 rfl rfl Taken.no) rfl rfl ?_
      refine WH.val (O.idx_fz (i := f) rfl rfl (rfl) (row_get (by omega)) Try.underlying32 hi3 hs3 rfl Taken.no) rfl rfl ?_
      refine WH.val (O.ld1 (PtI.ofU (PtU.fz rfl)) rfl Try.underlying3 rfl rfl Taken.no) rfl rfl ?_
      refine WH.val (O.fld_ref (o' := 1) rfl Try.underlying57 rfl (m := 0) (by kernel_rfl) rfl rfl Taken.no) rfl rfl ?_
      refine WH.val (O.ld1 (PtI.ref rfl rfl) rfl Try.underlying3 rfl rfl Taken.no) rfl rfl ?_
      refine WH.val (O.det (fun _ => G.R.neq rfl rfl) rfl Taken.no) rfl rfl ?_
      refine WH.nil (E.to ?_)
      first | refine W.cond_d rfl (fun hc8 => ?_) (fun hc8 => ?_) | refine W.cond_nd rfl (fun hc8 => ?_) (fun hc8 => ?_) | refine W.cond rfl (fun hc8 => ?_) (fun hc8 => ?_)
      ·skip
       refine W.rg (SL.an rfl rfl (SL.an rfl rfl (SL.an rfl rfl (E.fo ?_))))
       refine W.pick (K:=[(0,_),(1,_),(5,_),(6,_),(7,_),(8,_),(9,_),(10,_),(11,_),(12,_)]) (Z:=[(101,_),(102,_),(103,_)]) ⟨rfl,rfl,rfl,rfl,rfl,rfl,rfl,rfl,rfl,rfl,trivial⟩ ⟨rfl,rfl,rfl,trivial⟩ ?_
       refine W.ret (E.thr (E.thr ?_))
       refine E.nilsl 6 1 rfl ?_
       refine E.fin (rs := [_, _, _]) (rn []) (.inl rfl) rfl (.cons (ResOne.tmp rfl) (.cons (ResOne.tmp rfl) (.cons (ResOne.tmp rfl) .nil))) ?_ ?_ rfl (fixL_spec rfl)
       ·skip
        first | ((have hno : ¬ posF n bar atm m ⟨false, (f : Int), (t : Int)⟩ := fun q => by ((obtain ⟨⟨⟨q1, q2, q3, q4, q5⟩, q6, q7, q8⟩, q9⟩ := posF_iff.1 q); (try simp only [Int.toNat_natCast] at q6 q7 q8); (have q8 := (q8 (by trivial)).1; omega))); rw [apN_n hno, apG_n hno, dec_f hno]; rfl) | ((have hno : ¬ posF n bar atm m ⟨false, (f : Int), -1⟩ := fun q => by ((obtain ⟨⟨⟨q1, q2, q3, q4, q5⟩, q6, q7, q8⟩, q9⟩ := posF_iff.1 q); (try simp only [Int.toNat_natCast] at q6 q7 q8); (have q8 := (q8 (by trivial)).1; omega))); rw [apN_n hno, apG_n hno, dec_f hno]; rfl)
       · exact SubS.nil
      refine W.skip (E.to (W.rg (SL.mv rfl rfl ?_)))
      refine SL.val (O.idx_ref (i := 0) (m := 1) rfl rfl (rfl) (by decide) Try.underlying116 (by kernel_rfl) rfl rfl Taken.no) ?_
      refine SL.effS (O.st_ref (m := 1) rfl rfl rfl (js := [_]) rfl rfl (by kernel_rfl) (by simp) (Nat.le_of_ble_eq_true rfl) rfl (is' := [_, _]) rfl Taken.no) (S' := (103, _) :: _) rfl ?_
      refine E.fo ?_
      refine W.pick (K:=[(0,_),(1,_),(5,_),(6,_),(7,_),(8,_),(9,_),(11,_),(12,_)]) (Z:=[(101,_),(102,_),(103,_)]) ⟨rfl,rfl,rfl,rfl,rfl,rfl,rfl,rfl,rfl,trivial⟩ ⟨rfl,rfl,rfl,trivial⟩ ?_
      refine W.seq (W.rg (SL.mv rfl rfl ?_))
      refine SL.val (O.lenE (SlOf.own rfl rfl) (by first | exact List.length_map _ | rfl) Try.underlying32 rfl Taken.no) ?_
      refine SL.mv rfl rfl (E.fo (W.block ?_))
      refine W.adoptC 103 0 106 3 1 (is' := [_, _]) (by decide) rfl rfl rfl rfl rfl ?_
      refine W.adoptC 103 1 107 3 1 (is' := [_, _]) (by decide) rfl rfl rfl rfl rfl ?_
      refine W.loopx1 (fun (k : Nat) => [(136, vI (k : Int))]) (fun (k : Nat) => [(104, .data 3 1 (((thereL m (-1)) ++ ((unitsL m m[f]!).take k).filter (fun u => decide (atm[u]! = f))).map eN)), (105, .data 3 1 ((((unitsL m m[f]!).take k).filter (fun u => !decide (atm[u]! = f))).map eN)), (103, .cells 116 [.own 104, .own 105])]) (fun (k : Nat) => k ≤ (unitsL m m[f]!).length) (fun (k : Nat) => (unitsL m m[f]!).length - k) (0) (rn [(104, 106), (105, 107)]) (.cons (t := 0) rfl (.cons (t := 1) rfl (.cons (t := 5) rfl (.cons (t := 6) rfl (.cons (t := 7) rfl (.cons (t := 8) rfl (.cons (t := 11) rfl (.cons (t := 12) rfl (.cons (t := 134) rfl (.cons (t := 135) rfl .nil)))))))))) (.cons (t := 101) rfl (.cons (t := 102) rfl .nil)) rfl ?_ ?_ rfl rfl ?_ ?_
      · exact (SubF.cons rfl SubF.nil)
      · exact (SubS.val rfl (by exact sb_data (by rw [List.take_zero, List.filter_nil, List.append_nil]; rfl)) (SubS.val rfl (by exact sb_data (by rw [List.take_zero, List.filter_nil]; rfl)) (SubS.cons rfl SubS.nil)))
      ·skip
       omega
      intro k hinv
      have hk := hinv
      have hf0 := List.length_filter_le (fun u => decide (atm[u]! = f)) ((unitsL m m[f]!).take k)
      have hf1 := List.length_filter_le (fun u => !decide (atm[u]! = f)) ((unitsL m m[f]!).take k)
      rw [List.length_take] at hf0 hf1
      have hthl := there_len m (-1)
      refine W.rg ?_
      refine SL.val (O.det (fun _ => G.R.lss rfl rfl) rfl Taken.no) ?_
      refine E.fo (W.seq ?_)
      first | refine W.cond_d rfl (fun hc9 => ?_) (fun hc9 => ?_) | refine W.cond_nd rfl (fun hc9 => ?_) (fun hc9 => ?_) | refine W.cond rfl (fun hc9 => ?_) (fun hc9 => ?_)
      ·skip
       have hHk := hHn (unitsL m m[f]!)[k]! (mem_at (by omega))
       refine W.skip (E.to (W.seq (W.block (W.rg ?_))))
       refine SL.val (O.idx_own (i := k) rfl rfl rfl (rfl) (by rw [List.length_map]; omega) Try.underlying32 hi3 hs3 rfl Taken.no) ?_
       refine SL.val (O.ld1 (PtI.ofU (PtU.el rfl rfl (row_get (by omega)))) rfl Try.underlying3 rfl rfl Taken.no) ?_
       refine SL.an rfl rfl (E.fo (W.rg (SL.an rfl rfl (E.fo (W.seq (W.seq ?_))))))
       refine W.draw [⟨[], [], [], []⟩, ⟨[], [], [], []⟩, ⟨[], [], [], []⟩, ⟨[], [], [], []⟩, ⟨[], [], [], []⟩, ⟨[], [], [], []⟩, ⟨[], [], [], []⟩, ⟨[], [], [], [101]⟩, ⟨[101], [], [], []⟩, ⟨[], [], [], []⟩] rfl (by kernel_rfl) (by kernel_rfl) rfl rfl ?_
       refine WH.mv rfl rfl rfl ?_
       refine WH.val (O.nilCheck rfl rfl rfl Taken.no) rfl rfl ?_
       refine WH.val (O.fld_fz rfl Try.underlying90 rfl (m := 0) (by kernel_rfl) rfl rfl Taken.no) rfl rfl ?_
       refine WH.val (O.ld1 (PtI.ofU (PtU.fz rfl)) rfl Try.underlying32 rfl rfl Taken.no) rfl rfl ?_
       refine WH.mv rfl rfl rfl ?_
       refine WH.val (O.idx_fz (i := ((unitsL m m[f]!)[k]!)) rfl rfl (rfl) (row_get (by omega)) Try.underlying32 hi3 hs3 rfl Taken.no) rfl rfl ?_
       refine WH.val (O.ld1 (PtI.ofU (PtU.fz rfl)) rfl Try.underlying3 rfl rfl Taken.no) rfl rfl ?_
       refine WH.val (O.fld_ref (o' := 1) rfl Try.underlying57 rfl (m := 0) (by kernel_rfl) rfl rfl Taken.no) rfl rfl ?_
       refine WH.val (O.ld1 (PtI.ref rfl rfl) rfl Try.underlying3 rfl rfl Taken.no) rfl rfl ?_
       refine WH.val (O.det (fun _ => G.R.eql rfl rfl) rfl Taken.no) rfl rfl ?_
       refine WH.nil (E.to ?_)
       refine W.pick (K:=[(0,_),(1,_),(5,_),(6,_),(7,_),(8,_),(11,_),(12,_),(14,_),(15,_),(134,_),(135,_),(136,_),(149,_)]) (Z:=[(101,_),(102,_),(103,_),(104,_),(105,_)]) ⟨rfl,rfl,rfl,rfl,rfl,rfl,rfl,rfl,rfl,rfl,rfl,rfl,rfl,rfl,trivial⟩ ⟨rfl,rfl,rfl,rfl,rfl,trivial⟩ ?_
       first | refine W.cond_d rfl (fun hc10 => ?_) (fun hc10 => ?_) | refine W.cond_nd rfl (fun hc10 => ?_) (fun hc10 => ?_) | refine W.cond rfl (fun hc10 => ?_) (fun hc10 => ?_)
       ·skip
        have hp0 : (fun u => decide (atm[u]! = f)) (unitsL m m[f]!)[k]! = true := decide_eq_true (by omega)
        have hp1 : (fun u => !decide (atm[u]! = f)) (unitsL m m[f]!)[k]! = false := by show (!decide _) = false; rw [decide_eq_true (by omega)]; rfl
        refine W.region (SL.an rfl rfl (E.fo (W.region (SL.mv rfl rfl (SL.mv rfl rfl ?_)))))
        refine SL.val (O.idx_ref (i := 0) (m := 1) rfl rfl (rfl) (by decide) Try.underlying116 (by kernel_rfl) rfl rfl Taken.no) ?_
        refine SL.val (O.ld1 (PtI.ref rfl rfl) rfl Try.underlying32 rfl rfl Taken.no) ?_
        refine SL.mv rfl rfl ?_
        refine SL.memS (O.buildSlice 108 (rows := [(unitsL m m[f]!)[k]!].map eN) rfl rfl Try.underlying32 hi3 hz3 hs3 (by decide) rfl (by decide) rfl rfl rfl Taken.no) rfl rfl (S' := (108, .data 3 1 ([(unitsL m m[f]!)[k]!].map eN)) :: _) rfl ?_
        refine SL.memS (O.app (k' := 109) rfl rfl (SlOf.own rfl rfl) Try.underlying32 hi3 hz3 hs3 rfl rfl (by exact app_map) (by rw [hb3]; (simp only [List.length_map, List.length_singleton, List.length_append]; omega)) (by (simp only [List.length_map, List.length_singleton, List.length_append]; omega)) rfl Taken.no) rfl rfl (S' := (109, _) :: (104, .dead) :: _) rfl ?_
        refine SL.val (O.idx_ref (i := 0) (m := 1) rfl rfl (rfl) (by decide) Try.underlying116 (by kernel_rfl) rfl rfl Taken.no) ?_
        refine SL.effS (O.st_ref (m := 1) rfl rfl rfl (js := [_]) rfl rfl (by kernel_rfl) (by simp) (Nat.le_of_ble_eq_true rfl) rfl (is' := [_, _]) rfl Taken.no) (S' := (103, _) :: _) rfl ?_
        refine SL.nil (E.inn (E.to (W.region ?_)))
        refine SL.val (O.det (fun _ => by first | exact G.R.add64 rfl rfl (by omega) | exact G.R.add rfl rfl) rfl Taken.no) ?_
        refine SL.mv rfl rfl (SL.nil ?_)
        refine E.again ((k + 1)) (rn [(104, 109)]) ?_ ?_ rfl (fixL_spec rfl) ?_ ?_
        · exact (SubF.cons rfl (SubF.cons rfl (SubF.cons rfl (SubF.cons rfl (SubF.cons rfl (SubF.cons rfl (SubF.cons rfl (SubF.cons rfl (SubF.cons rfl (SubF.cons rfl (SubF.cons rfl SubF.nil)))))))))))
        · exact (SubS.val rfl (by (try dsimp only); first | exact sb_data (by rw [filt_y (by omega) hp0, ← List.append_assoc]) | exact sb_data (by rw [filt_n (by omega) hp0])) (SubS.val rfl (by (try dsimp only); first | exact sb_data (by rw [filt_n (by omega) hp1]) | exact sb_data (by rw [filt_y (by omega) hp1])) (SubS.cons rfl (SubS.cons rfl (SubS.cons rfl SubS.nil)))))
        ·try dsimp only
         omega
        · (try dsimp only); omega
       have hp0 : (fun u => decide (atm[u]! = f)) (unitsL m m[f]!)[k]! = false := decide_eq_false (by omega)
       have hp1 : (fun u => !decide (atm[u]! = f)) (unitsL m m[f]!)[k]! = true := by show (!decide _) = true; rw [decide_eq_false (by omega)]; rfl
       refine W.skip (E.to (W.region (SL.mv rfl rfl (SL.mv rfl rfl ?_))))
       refine SL.val (O.idx_ref (i := 1) (m := 1) rfl rfl (rfl) (by decide) Try.underlying116 (by kernel_rfl) rfl rfl Taken.no) ?_
       refine SL.val (O.ld1 (PtI.ref rfl rfl) rfl Try.underlying32 rfl rfl Taken.no) ?_
       refine SL.mv rfl rfl ?_
       refine SL.memS (O.buildSlice 110 (rows := [(unitsL m m[f]!)[k]!].map eN) rfl rfl Try.underlying32 hi3 hz3 hs3 (by decide) rfl (by decide) rfl rfl rfl Taken.no) rfl rfl (S' := (110, .data 3 1 ([(unitsL m m[f]!)[k]!].map eN)) :: _) rfl ?_
       refine SL.memS (O.app (k' := 111) rfl rfl (SlOf.own rfl rfl) Try.underlying32 hi3 hz3 hs3 rfl rfl (by exact app_map) (by rw [hb3]; (simp only [List.length_map, List.length_singleton]; omega)) (by (simp only [List.length_map, List.length_singleton]; omega)) rfl Taken.no) rfl rfl (S' := (111, _) :: (105, .dead) :: _) rfl ?_
       refine SL.val (O.idx_ref (i := 1) (m := 1) rfl rfl (rfl) (by decide) Try.underlying116 (by kernel_rfl) rfl rfl Taken.no) ?_
       refine SL.effS (O.st_ref (m := 1) rfl rfl rfl (js := [_]) rfl rfl (by kernel_rfl) (by simp) (Nat.le_of_ble_eq_true rfl) rfl (is' := [_, _]) rfl Taken.no) (S' := (103, _) :: _) rfl ?_
       refine SL.nil (E.inn (E.to (W.region ?_)))
       refine SL.val (O.det (fun _ => by first | exact G.R.add64 rfl rfl (by omega) | exact G.R.add rfl rfl) rfl Taken.no) ?_
       refine SL.mv rfl rfl (SL.nil ?_)
       refine E.again ((k + 1)) (rn [(105, 111)]) ?_ ?_ rfl (fixL_spec rfl) ?_ ?_
       · exact (SubF.cons rfl (SubF.cons rfl (SubF.cons rfl (SubF.cons rfl (SubF.cons rfl (SubF.cons rfl (SubF.cons rfl (SubF.cons rfl (SubF.cons rfl (SubF.cons rfl (SubF.cons rfl SubF.nil)))))))))))
       · exact (SubS.val rfl (by (try dsimp only); first | exact sb_data (by rw [filt_y (by omega) hp0, ← List.append_assoc]) | exact sb_data (by rw [filt_n (by omega) hp0])) (SubS.val rfl (by (try dsimp only); first | exact sb_data (by rw [filt_n (by omega) hp1]) | exact sb_data (by rw [filt_y (by omega) hp1])) (SubS.cons rfl (SubS.cons rfl (SubS.cons rfl SubS.nil)))))
       ·try dsimp only
        omega
       · (try dsimp only); omega
      refine W.exit (E.th (E.th (E.hit (E.to (W.rg ?_)))))
      refine SL.val (O.fld_ref (o' := 2) rfl Try.underlying57 rfl (m := 0) (by kernel_rfl) rfl rfl Taken.no) ?_
      refine SL.val (O.ld1 (PtI.ref rfl rfl) rfl Try.underlying3 rfl rfl Taken.no) ?_
      refine SL.val (O.det (fun _ => G.R.mv (G.R.eql rfl rfl) (congrArg Value.bool (decide_eq_true (by rfl)))) rfl Taken.no) ?_
      refine SL.mv rfl rfl ?_
      have hg11 : true = true := by decide
      refine SL.val (O.idx_ref (i := 1) (m := 1) rfl rfl (rfl) (by decide) Try.underlying116 (by kernel_rfl) rfl rfl (Taken.yes rfl rfl hg11)) ?_
      refine SL.val (O.ld1 (PtI.ref rfl rfl) rfl Try.underlying32 rfl rfl (Taken.yes rfl rfl hg11)) ?_
      refine SL.val (O.lenE (SlOf.own rfl rfl) (by first | exact List.length_map _ | rfl) Try.underlying32 rfl (Taken.yes rfl rfl hg11)) ?_
      refine SL.val (O.det (fun _ => G.R.eql rfl rfl) rfl (Taken.yes rfl rfl hg11)) ?_
      refine SL.val (O.pick_t rfl rfl rfl rfl Taken.no) ?_
      refine E.fo ?_
      first | refine W.cond_d rfl (fun hc12 => ?_) (fun hc12 => ?_) | refine W.cond_nd rfl (fun hc12 => ?_) (fun hc12 => ?_) | refine W.cond rfl (fun hc12 => ?_) (fun hc12 => ?_)
      ·skip
       refine W.rg (SL.an rfl rfl (SL.an rfl rfl (SL.an rfl rfl (E.fo (W.ret (E.thr ?_))))))
       refine E.nilsl 6 1 rfl ?_
       refine E.fin (rs := [_, _, _]) (rn []) (.inl rfl) rfl (.cons (ResOne.tmp rfl) (.cons (ResOne.tmp rfl) (.cons (ResOne.tmp rfl) .nil))) ?_ ?_ rfl (fixL_spec rfl)
       ·skip
        first | ((have hno : ¬ posF n bar atm m ⟨false, (f : Int), -1⟩ := fun q => by ((obtain ⟨⟨⟨q1, q2, q3, q4, q5⟩, q6, q7, q8⟩, q9⟩ := posF_iff.1 q); (try simp only [Int.toNat_natCast] at q6 q7 q8); (refine (q8 (by trivial)).2 (by omega) ?_; show (unitsL m m[f]!).filter (fun u => !decide (atm[u]! = f)) = []; rw [← List.take_length (l := unitsL m m[f]!), show (unitsL m m[f]!).length = k by omega]; exact List.eq_nil_of_length_eq_zero (by omega)))); rw [apN_n hno, apG_n hno, dec_f hno]; rfl)
       · exact SubS.nil
      refine W.skip (E.to (W.seq ?_))
      refine W.freezeC 103 0 104 (is' := [_, _]) rfl rfl rfl rfl ?_
      refine W.freezeC 103 1 105 (is' := [_, _]) rfl rfl rfl rfl ?_
      refine W.region ?_
      have hkH : k = (unitsL m m[f]!).length := by omega
      obtain ⟨s, hs⟩ : ∃ s : Stp, s = ⟨false, (f : Int), -1⟩ := ⟨_, rfl⟩
      have hfe : s.f.toNat = f := by rw [hs]; rfl
      have hth : thereL m s.t = [] := by rw [hs]; exact there_neg m
      have hg0 : ((thereL m (-1)) ++ ((unitsL m m[f]!).take k).filter (fun u => decide (atm[u]! = f))) = g0L m atm s := by rw [hkH, List.take_length, hs]; rfl
      have hg1 : (((unitsL m m[f]!).take k).filter (fun u => !decide (atm[u]! = f))) = g1L m atm s := by rw [hkH, List.take_length, hs]; rfl
      have hpre : preF n atm m s := by rw [hs]; exact ⟨⟨by show (0 : Int) ≤ f; omega, by show (f : Int) < n; omega, by show (-1 : Int) < (n : Int); omega, by show -1 ≤ (-1 : Int); omega, fun h => rfl⟩, fun h => ⟨by exfalso; have h2 : (0 : Int) ≤ -1 := h; omega, by exfalso; have h2 : (0 : Int) ≤ -1 := h; omega⟩, fun h => (by cases h), fun h => ⟨by show atm[f]! = f; omega, fun _ e => by have e2 := congrArg List.length e; rw [← hs, ← hg1] at e2; rw [List.length_nil] at e2; omega⟩⟩
      have hgb := g_b (atm := atm) (s := s) hml
      have hl0 : (partsL lk (g0L m atm s)).length ≤ (g0L m atm s).length := partsN_len
      have hl1 : (partsL lk (g1L m atm s)).length ≤ (g1L m atm s).length := partsN_len
      rw [hg0]
      refine SL.mv rfl rfl ?_
      refine SL.memS (O.call (rn [(0, 112)]) [] rfl rfl rfl (clone_h (rows := m.map eN) (by rw [List.length_map]; omega)) (.cons (ArgOk.same rfl) .nil) SubS.nil rfl rfl rfl rfl rfl (.inl rfl) hcallOk54 (r' := .own 112) rfl rfl Taken.no) rfl rfl (S' := (112, .data _ _ _) :: _) rfl ?_
      refine SL.memS (O.alloc (z := .slice none 0 0) (is := [.u (.sc (.slice none 0 0))]) 113 (by kernel_rfl) rfl rfl rfl Taken.no) rfl rfl (S' := (113, _) :: _) rfl ?_
      refine SL.effS (O.st_ref (m := 1) rfl rfl rfl (js := [_]) rfl rfl (by kernel_rfl) (by simp) (Nat.le_of_ble_eq_true rfl) rfl (is' := [_]) rfl Taken.no) (S' := (113, _) :: _) rfl ?_
      refine E.fo (W.seq (W.rg ?_))
      refine SL.val (O.idx_ref (i := 0) (m := 1) rfl rfl (rfl) (by decide) Try.underlying116 (by kernel_rfl) rfl rfl Taken.no) ?_
      refine SL.val (O.ld1 (PtI.ref rfl rfl) rfl Try.underlying32 rfl rfl Taken.no) ?_
      refine SL.val (O.lenE (SlOf.fz rfl (by decide)) (by first | exact List.length_map _ | rfl) Try.underlying32 rfl Taken.no) ?_
      refine SL.mv rfl rfl (E.fo ?_)
      refine W.pick (K:=[(0,_),(6,_),(7,_),(8,_),(11,_),(12,_),(16,_),(171,_),(172,_),(173,_)]) (Z:=[(101,_),(102,_),(103,_),(112,_),(113,_)]) ⟨rfl,rfl,rfl,rfl,rfl,rfl,rfl,rfl,rfl,rfl,trivial⟩ ⟨rfl,rfl,rfl,rfl,rfl,trivial⟩ ?_
      refine W.block ?_
      refine W.loopx1 (fun (j : Nat) => [(173, vI (j : Int))]) (fun (j : Nat) => [(114, .data 3 1 ((setAll (m.map (fun x : Nat => (x : Int))) ((g0L m atm s).take j) (-1)).map eI)), (113, .cells 32 [.own 114])]) (fun (j : Nat) => j ≤ (g0L m atm s).length) (fun (j : Nat) => (g0L m atm s).length - j) (0) (rn [(114, 112)]) (.cons (t := 0) rfl (.cons (t := 6) rfl (.cons (t := 7) rfl (.cons (t := 8) rfl (.cons (t := 11) rfl (.cons (t := 12) rfl (.cons (t := 16) rfl (.cons (t := 171) rfl (.cons (t := 172) rfl .nil))))))))) (.cons (t := 101) rfl (.cons (t := 102) rfl (.cons (t := 103) rfl .nil))) rfl ?_ ?_ rfl rfl ?_ ?_
      · exact (SubF.cons rfl SubF.nil)
      · exact (SubS.val rfl (by exact sb_data (by rw [List.take_zero]; exact (eI_eN m).symm)) (SubS.cons rfl SubS.nil))
      ·skip
       omega
      intro j hinv
      have hj := hinv
      have hnl : (setAll (m.map (fun x : Nat => (x : Int))) ((g0L m atm s).take j) (-1)).length = n := by rw [setAll_len, List.length_map]; exact hml
      refine W.rg ?_
      refine SL.val (O.det (fun _ => G.R.lss rfl rfl) rfl Taken.no) ?_
      refine E.fo (W.seq ?_)
      first | refine W.cond_d rfl (fun hc13 => ?_) (fun hc13 => ?_) | refine W.cond_nd rfl (fun hc13 => ?_) (fun hc13 => ?_) | refine W.cond rfl (fun hc13 => ?_) (fun hc13 => ?_)
      ·skip
       have hGj := hgb.2.1 (g0L m atm s)[j]! (mem_at (by omega))
       refine W.skip (E.to (W.seq (W.block (W.rg ?_))))
       refine SL.val (O.idx_fz (i := j) rfl rfl (rfl) (row_get (by omega)) Try.underlying32 hi3 hs3 rfl Taken.no) ?_
       refine SL.val (O.ld1 (PtI.ofU (PtU.fz rfl)) rfl Try.underlying3 rfl rfl Taken.no) ?_
       refine SL.an rfl rfl (E.fo (W.region ?_))
       refine SL.val (O.ld1 (PtI.ref rfl rfl) rfl Try.underlying32 rfl rfl Taken.no) ?_
       refine SL.mv rfl rfl ?_
       refine SL.val (O.idx_own (i := ((g0L m atm s)[j]!)) rfl rfl rfl (rfl) (by rw [List.length_map]; omega) Try.underlying32 hi3 hs3 rfl Taken.no) ?_
       refine SL.effS (O.st_els (m := 1) rfl rfl rfl (us := [_]) rfl rfl (by kernel_rfl) (by simp) (row_get (by omega)) (by exact Nat.le_of_ble_eq_true rfl) rfl rfl (rows' := ((setAll (m.map (fun x : Nat => (x : Int))) ((g0L m atm s).take j) (-1)).set ((g0L m atm s)[j]!) (-1)).map eI) (by exact set_map rfl) Taken.no) (S' := (114, _) :: _) rfl ?_
       refine SL.nil (E.inn (E.to (W.region ?_)))
       refine SL.val (O.det (fun _ => by first | exact G.R.add64 rfl rfl (by omega) | exact G.R.add rfl rfl) rfl Taken.no) ?_
       refine SL.mv rfl rfl (SL.nil ?_)
       refine E.again ((j + 1)) (rn []) ?_ ?_ rfl (fixL_spec rfl) ?_ ?_
       · exact (SubF.cons rfl (SubF.cons rfl (SubF.cons rfl (SubF.cons rfl (SubF.cons rfl (SubF.cons rfl (SubF.cons rfl (SubF.cons rfl (SubF.cons rfl (SubF.cons rfl SubF.nil))))))))))
       · exact (SubS.val rfl (by (try dsimp only); exact sb_data (by rw [setAll_sG (by omega)])) (SubS.cons rfl (SubS.cons rfl (SubS.cons rfl (SubS.cons rfl SubS.nil)))))
       ·try dsimp only
        omega
       · (try dsimp only); omega
      refine W.exit (E.th (E.th (E.hit (E.to (W.seq (W.seq ?_))))))
      have hjG : j = (g0L m atm s).length := by omega
      rw [hjG, List.take_length]
      refine W.region (SL.mv rfl rfl ?_)
      refine SL.val (O.nilCheck rfl rfl rfl Taken.no) ?_
      refine SL.val (O.fld_fz rfl Try.underlying90 rfl (m := 0) (by kernel_rfl) rfl rfl Taken.no) ?_
      refine SL.val (O.ld1 (PtI.ofU (PtU.fz rfl)) rfl Try.underlying23 rfl rfl Taken.no) ?_
      refine SL.val (O.makeFunc rfl rfl rfl Taken.no) ?_
      refine SL.memS (O.call (rn [(0, 113), (1, 114)]) [] rfl rfl rfl (containsFuncN (nm := (nm0 m atm s)) (q := bar) (by rw [nm0_len, hml]; exact hb)) (.cons (ArgOk.same rfl) (.cons (ArgOk.same rfl) .nil)) (SubS.cons rfl (SubS.cons rfl SubS.nil)) rfl rfl rfl rfl rfl (.inl rfl) hcallOk65 (r' := .u _) rfl rfl Taken.no) rfl rfl (S' := (113, .cells _ [.own 114]) :: (114, .data _ _ _) :: _) rfl ?_
      refine E.fo ?_
      first | refine W.cond_d rfl (fun hc14 => ?_) (fun hc14 => ?_) | refine W.cond_nd rfl (fun hc14 => ?_) (fun hc14 => ?_) | refine W.cond rfl (fun hc14 => ?_) (fun hc14 => ?_)
      ·skip
       refine W.rg (SL.an rfl rfl (SL.an rfl rfl (SL.an rfl rfl (E.fo (W.ret (E.thr ?_))))))
       refine E.nilsl 6 1 rfl ?_
       refine E.fin (rs := [_, _, _]) (rn []) (.inl rfl) rfl (.cons (ResOne.tmp rfl) (.cons (ResOne.tmp rfl) (.cons (ResOne.tmp rfl) .nil))) ?_ ?_ rfl (fixL_spec rfl)
       ·skip
        have hcl : bar.any (nmHit (nm0 m atm s)) = true := by assumption
        have hno : ¬ posF n bar atm m s := fun q => by rw [hit_eq hml hb, q.2] at hcl; cases hcl
        rw [← hs, apN_n hno, apG_n hno, dec_f hno]; rfl
       · exact SubS.nil
      refine W.skip (E.to (W.rg (SL.an rfl rfl (E.fo (W.seq (W.rg ?_))))))
      have hcl : bar.any (nmHit (nm0 m atm s)) = false := by first | assumption | simp_all
      have hL : ∀ p ∈ gL lk m atm s, p.length ≤ 1000 := fun p hp => by rcases List.mem_append.1 hp with z | z <;> (have := (partsN_units z).2.1; omega)
      refine SL.val (O.ldN (m := 2) (PtI.ref rfl rfl) (js := [_, _]) rfl (Nat.le_of_ble_eq_true rfl) Try.underlying116 rfl (by kernel_rfl) rfl Taken.no) ?_
      refine SL.mv rfl rfl (E.fo (W.block ?_))
      refine W.unroll ?_
      refine W.rg ?_
      refine SL.val (O.det (fun _ => G.R.mv (G.R.lss rfl rfl) (congrArg Value.bool (decide_eq_true (by decide)))) rfl Taken.no) ?_
      refine E.fo (W.seq ?_)
      refine W.cond_t rfl ?_
      refine W.skip (E.to (W.seq (W.block (W.rg ?_))))
      refine SL.val (O.idxval (i := 0) rfl rfl (by rfl) (by decide) (by rfl) Try.underlying116 (by kernel_rfl) Try.underlying32 rfl rfl Taken.no) ?_
      refine SL.an rfl rfl (E.fo (W.rg (SL.mv rfl rfl (SL.mv rfl rfl ?_))))
      refine SL.val (O.nilCheck rfl rfl rfl Taken.no) ?_
      refine SL.val (O.fld_fz rfl Try.underlying90 rfl (m := 0) (by kernel_rfl) rfl rfl Taken.no) ?_
      refine SL.val (O.ld1 (PtI.ofU (PtU.fz rfl)) rfl Try.underlying88 rfl rfl Taken.no) ?_
      refine SL.val (O.callp rfl rfl rfl (parts_h (n := n) (us := (g0L m atm s)) (by omega) hgb.2.1) (.cons (ArgOk.same rfl) (.cons (ArgOk.same rfl) .nil)) hcallOk76 rfl Taken.no) ?_
      refine SL.val (O.lenE (SlOf.fz rfl (by decide)) (by first | exact List.length_map _ | rfl) Try.underlying68 rfl Taken.no) ?_
      refine SL.mv rfl rfl (E.fo ?_)
      refine W.pick (K:=[(0,_),(6,_),(7,_),(8,_),(11,_),(16,_),(19,_),(21,_),(187,_),(188,_),(189,_),(190,_),(191,_),(192,_),(193,_),(194,_),(195,_),(196,_),(197,_),(198,_)]) (Z:=[(101,_),(102,_),(103,_),(113,_),(114,_)]) ⟨rfl,rfl,rfl,rfl,rfl,rfl,rfl,rfl,rfl,rfl,rfl,rfl,rfl,rfl,rfl,rfl,rfl,rfl,rfl,rfl,trivial⟩ ⟨rfl,rfl,rfl,rfl,rfl,trivial⟩ ?_
      refine W.block ?_
      refine W.loopx1 (fun (p : Nat) => [(198, vI (p : Int)), (19, vI (sumV wt ((partsL lk (g0L m atm s)).take p)))]) (fun (p : Nat) => [(115, .data 3 1 ((nameF (fun x : Nat => (x : Int)) (nm0 m atm s) ((partsL lk (g0L m atm s)).take p)).map eI)), (113, .cells 32 [.own 115])]) (fun (p : Nat) => p ≤ (partsL lk (g0L m atm s)).length) (fun (p : Nat) => (partsL lk (g0L m atm s)).length - p) (0) (rn [(115, 114)]) (.cons (t := 0) rfl (.cons (t := 6) rfl (.cons (t := 7) rfl (.cons (t := 8) rfl (.cons (t := 11) rfl (.cons (t := 16) rfl (.cons (t := 21) rfl (.cons (t := 187) rfl (.cons (t := 188) rfl (.cons (t := 189) rfl (.cons (t := 190) rfl (.cons (t := 191) rfl (.cons (t := 192) rfl (.cons (t := 193) rfl (.cons (t := 194) rfl (.cons (t := 195) rfl (.cons (t := 196) rfl (.cons (t := 197) rfl .nil)))))))))))))))))) (.cons (t := 101) rfl (.cons (t := 102) rfl (.cons (t := 103) rfl .nil))) rfl ?_ ?_ rfl rfl ?_ ?_
      · exact (SubF.cons rfl (SubF.val rfl (by exact iv_int rfl) SubF.nil))
      · exact (SubS.val rfl (by exact sb_data (by rw [List.take_zero]; rfl)) (SubS.cons rfl SubS.nil))
      ·skip
       omega
      intro p hinv
      have hp := hinv
      have hpl : ((partsL lk (g0L m atm s)).take p).length ≤ 400 := by (try rw [List.length_append]); rw [List.length_take]; omega
      have hvb := sumV_b2 hw (L := ((partsL lk (g0L m atm s)).take p)) (fun p hp => hL p (List.mem_append_left _ (List.mem_of_mem_take hp)))
      refine W.rg ?_
      refine SL.val (O.det (fun _ => G.R.lss rfl rfl) rfl Taken.no) ?_
      refine E.fo (W.seq ?_)
      first | refine W.cond_d rfl (fun hc15 => ?_) (fun hc15 => ?_) | refine W.cond_nd rfl (fun hc15 => ?_) (fun hc15 => ?_) | refine W.cond rfl (fun hc15 => ?_) (fun hc15 => ?_)
      ·skip
       have hpu := partsN_units (mem_at (l := (partsL lk (g0L m atm s))) (i := p) (by omega))
       have hvp := valF_b hw (l := ((partsL lk (g0L m atm s))[p]!)) (by omega)
       refine W.skip (E.to (W.seq (W.block (W.rg ?_))))
       refine SL.val (O.idx_fz (i := p) rfl rfl (rfl) (row_get (by omega)) Try.underlying68 hi32 hs32 rfl Taken.no) ?_
       refine SL.val (O.ld1 (PtI.ofU (PtU.fz rfl)) rfl Try.underlying32 rfl rfl Taken.no) ?_
       refine SL.an rfl rfl (E.fo (W.rg (SL.mv rfl rfl (SL.mv rfl rfl (SL.mv rfl rfl ?_)))))
       refine SL.val (O.callp rfl rfl rfl (value_h (l := ((partsL lk (g0L m atm s))[p]!)) hw (by omega) (fun u hu => hgb.2.1 u (hpu.2.2 u hu))) (.cons (ArgOk.same rfl) (.cons (ArgOk.same rfl) .nil)) hcallOk57 rfl Taken.no) ?_
       refine SL.val (O.det (fun _ => by first | exact G.R.add64 rfl rfl (by omega) | exact G.R.add rfl rfl) rfl Taken.no) ?_
       refine SL.an rfl rfl (E.fo ?_)
       refine W.pick (K:=[(0,_),(6,_),(7,_),(8,_),(11,_),(16,_),(19,_),(21,_),(23,_),(187,_),(188,_),(189,_),(190,_),(191,_),(192,_),(193,_),(194,_),(195,_),(196,_),(197,_),(198,_),(199,_),(200,_),(201,_),(202,_),(203,_),(204,_),(205,_),(206,_)]) (Z:=[(101,_),(102,_),(103,_),(113,_),(115,_)]) ⟨rfl,rfl,rfl,rfl,rfl,rfl,rfl,rfl,rfl,rfl,rfl,rfl,rfl,rfl,rfl,rfl,rfl,rfl,rfl,rfl,rfl,rfl,rfl,rfl,rfl,rfl,rfl,rfl,rfl,trivial⟩ ⟨rfl,rfl,rfl,rfl,rfl,trivial⟩ ?_
       refine W.rg (SL.mv rfl rfl ?_)
       refine SL.val (O.lenE (SlOf.fz rfl (by decide)) (by first | exact List.length_map _ | rfl) Try.underlying32 rfl Taken.no) ?_
       refine SL.mv rfl rfl (E.fo ?_)
       refine W.pick (K:=[(0,_),(6,_),(7,_),(8,_),(11,_),(16,_),(19,_),(21,_),(23,_),(187,_),(188,_),(189,_),(190,_),(191,_),(192,_),(193,_),(194,_),(195,_),(196,_),(197,_),(198,_),(199,_),(200,_),(201,_),(202,_),(203,_),(204,_),(205,_),(206,_),(207,_),(208,_),(209,_)]) (Z:=[(101,_),(102,_),(103,_),(113,_),(115,_)]) ⟨rfl,rfl,rfl,rfl,rfl,rfl,rfl,rfl,rfl,rfl,rfl,rfl,rfl,rfl,rfl,rfl,rfl,rfl,rfl,rfl,rfl,rfl,rfl,rfl,rfl,rfl,rfl,rfl,rfl,rfl,rfl,rfl,trivial⟩ ⟨rfl,rfl,rfl,rfl,rfl,trivial⟩ ?_
       refine W.block ?_
       refine W.loopx1 (fun (j : Nat) => [(209, vI (j : Int))]) (fun (j : Nat) => [(116, .data 3 1 ((setAll (nameF (fun x : Nat => (x : Int)) (nm0 m atm s) ((partsL lk (g0L m atm s)).take p)) (((partsL lk (g0L m atm s))[p]!).take j) ((minL ((partsL lk (g0L m atm s))[p]!) : Nat) : Int)).map eI)), (113, .cells 32 [.own 116])]) (fun (j : Nat) => j ≤ ((partsL lk (g0L m atm s))[p]!).length) (fun (j : Nat) => ((partsL lk (g0L m atm s))[p]!).length - j) (0) (rn [(116, 115)]) (.cons (t := 0) rfl (.cons (t := 6) rfl (.cons (t := 7) rfl (.cons (t := 8) rfl (.cons (t := 11) rfl (.cons (t := 16) rfl (.cons (t := 19) rfl (.cons (t := 21) rfl (.cons (t := 23) rfl (.cons (t := 187) rfl (.cons (t := 188) rfl (.cons (t := 189) rfl (.cons (t := 190) rfl (.cons (t := 191) rfl (.cons (t := 192) rfl (.cons (t := 193) rfl (.cons (t := 194) rfl (.cons (t := 195) rfl (.cons (t := 196) rfl (.cons (t := 197) rfl (.cons (t := 198) rfl (.cons (t := 199) rfl (.cons (t := 200) rfl (.cons (t := 201) rfl (.cons (t := 202) rfl (.cons (t := 203) rfl (.cons (t := 204) rfl (.cons (t := 205) rfl (.cons (t := 206) rfl (.cons (t := 207) rfl (.cons (t := 208) rfl .nil))))))))))))))))))))))))))))))) (.cons (t := 101) rfl (.cons (t := 102) rfl (.cons (t := 103) rfl .nil))) rfl ?_ ?_ rfl rfl ?_ ?_
       · exact (SubF.cons rfl SubF.nil)
       · exact (SubS.val rfl (by exact sb_data (by rw [List.take_zero]; rfl)) (SubS.cons rfl SubS.nil))
       ·skip
        omega
       intro j hinv
       have hj := hinv
       have hnl : (setAll (nameF (fun x : Nat => (x : Int)) (nm0 m atm s) ((partsL lk (g0L m atm s)).take p)) (((partsL lk (g0L m atm s))[p]!).take j) ((minL ((partsL lk (g0L m atm s))[p]!) : Nat) : Int)).length = n := by rw [setAll_len, nameF_len, nm0_len]; exact hml
       refine W.rg ?_
       refine SL.val (O.det (fun _ => G.R.lss rfl rfl) rfl Taken.no) ?_
       refine E.fo ?_
       refine W.pick (K:=[(0,_),(6,_),(7,_),(8,_),(11,_),(16,_),(19,_),(21,_),(23,_),(187,_),(188,_),(189,_),(190,_),(191,_),(192,_),(193,_),(194,_),(195,_),(196,_),(197,_),(198,_),(199,_),(200,_),(201,_),(202,_),(203,_),(204,_),(205,_),(206,_),(207,_),(208,_),(209,_),(210,_)]) (Z:=[(101,_),(102,_),(103,_),(113,_),(116,_)]) ⟨rfl,rfl,rfl,rfl,rfl,rfl,rfl,rfl,rfl,rfl,rfl,rfl,rfl,rfl,rfl,rfl,rfl,rfl,rfl,rfl,rfl,rfl,rfl,rfl,rfl,rfl,rfl,rfl,rfl,rfl,rfl,rfl,rfl,trivial⟩ ⟨rfl,rfl,rfl,rfl,rfl,trivial⟩ ?_
       refine W.seq ?_
       first | refine W.cond_d rfl (fun hc16 => ?_) (fun hc16 => ?_) | refine W.cond_nd rfl (fun hc16 => ?_) (fun hc16 => ?_) | refine W.cond rfl (fun hc16 => ?_) (fun hc16 => ?_)
       ·skip
        have hun := hgb.2.1 _ (hpu.2.2 ((partsL lk (g0L m atm s))[p]!)[j]! (mem_at (by omega)))
        refine W.skip (E.to ?_)
        refine W.pick (K:=[(0,_),(6,_),(7,_),(8,_),(11,_),(16,_),(19,_),(21,_),(23,_),(187,_),(188,_),(189,_),(190,_),(191,_),(192,_),(193,_),(194,_),(195,_),(196,_),(197,_),(198,_),(199,_),(200,_),(201,_),(202,_),(203,_),(204,_),(205,_),(206,_),(207,_),(208,_),(209,_),(210,_)]) (Z:=[(101,_),(102,_),(103,_),(113,_),(116,_)]) ⟨rfl,rfl,rfl,rfl,rfl,rfl,rfl,rfl,rfl,rfl,rfl,rfl,rfl,rfl,rfl,rfl,rfl,rfl,rfl,rfl,rfl,rfl,rfl,rfl,rfl,rfl,rfl,rfl,rfl,rfl,rfl,rfl,rfl,trivial⟩ ⟨rfl,rfl,rfl,rfl,rfl,trivial⟩ ?_
        refine W.seq (W.block (W.rg ?_))
        refine SL.val (O.idx_fz (i := j) rfl rfl (rfl) (row_get (by omega)) Try.underlying32 hi3 hs3 rfl Taken.no) ?_
        refine SL.val (O.ld1 (PtI.ofU (PtU.fz rfl)) rfl Try.underlying3 rfl rfl Taken.no) ?_
        refine SL.an rfl rfl (E.fo ?_)
        refine W.pick (K:=[(0,_),(6,_),(7,_),(8,_),(11,_),(16,_),(19,_),(21,_),(23,_),(25,_),(187,_),(188,_),(189,_),(190,_),(191,_),(192,_),(193,_),(194,_),(195,_),(196,_),(197,_),(198,_),(199,_),(200,_),(201,_),(202,_),(203,_),(204,_),(205,_),(206,_),(207,_),(208,_),(209,_),(210,_),(211,_),(212,_)]) (Z:=[(101,_),(102,_),(103,_),(113,_),(116,_)]) ⟨rfl,rfl,rfl,rfl,rfl,rfl,rfl,rfl,rfl,rfl,rfl,rfl,rfl,rfl,rfl,rfl,rfl,rfl,rfl,rfl,rfl,rfl,rfl,rfl,rfl,rfl,rfl,rfl,rfl,rfl,rfl,rfl,rfl,rfl,rfl,rfl,trivial⟩ ⟨rfl,rfl,rfl,rfl,rfl,trivial⟩ ?_
        refine W.draw [⟨[113], [], [], [116]⟩, ⟨[], [], [], []⟩, ⟨[], [], [], []⟩, ⟨[], [], [], []⟩, ⟨[116], [], [], []⟩, ⟨[116], [116], [], []⟩] rfl (by kernel_rfl) (by kernel_rfl) rfl rfl ?_
        refine WH.val (O.ld1 (PtI.ref rfl rfl) rfl Try.underlying32 rfl rfl Taken.no) rfl rfl ?_
        refine WH.mv rfl rfl rfl (WH.mv rfl rfl rfl ?_)
        refine WH.val (O.callp rfl rfl rfl (min_h (l := ((partsL lk (g0L m atm s))[p]!)) (by omega)) (.cons (ArgOk.same rfl) .nil) hcallOk87 rfl Taken.no) rfl rfl ?_
        refine WH.val (O.idx_own (i := (((partsL lk (g0L m atm s))[p]!)[j]!)) rfl rfl rfl (rfl) (by rw [List.length_map]; omega) Try.underlying32 hi3 hs3 rfl Taken.no) rfl rfl ?_
        refine WH.effS (O.st_els (m := 1) rfl rfl rfl (us := [_]) rfl rfl (by kernel_rfl) (by simp) (row_get (by omega)) (by exact Nat.le_of_ble_eq_true rfl) rfl rfl (rows' := ((setAll (nameF (fun x : Nat => (x : Int)) (nm0 m atm s) ((partsL lk (g0L m atm s)).take p)) (((partsL lk (g0L m atm s))[p]!).take j) ((minL ((partsL lk (g0L m atm s))[p]!) : Nat) : Int)).set (((partsL lk (g0L m atm s))[p]!)[j]!) ((minL ((partsL lk (g0L m atm s))[p]!) : Nat) : Int)).map eI) (by exact set_map rfl) Taken.no) rfl rfl rfl (S' := (116, _) :: _) rfl ?_
        refine WH.nil (E.inn (E.to ?_))
        refine W.pick (K:=[(0,_),(6,_),(7,_),(8,_),(11,_),(16,_),(19,_),(21,_),(23,_),(25,_),(187,_),(188,_),(189,_),(190,_),(191,_),(192,_),(193,_),(194,_),(195,_),(196,_),(197,_),(198,_),(199,_),(200,_),(201,_),(202,_),(203,_),(204,_),(205,_),(206,_),(207,_),(208,_),(209,_),(210,_),(211,_),(212,_),(213,_),(214,_),(215,_),(216,_),(217,_)]) (Z:=[(101,_),(102,_),(103,_),(113,_),(116,_)]) ⟨rfl,rfl,rfl,rfl,rfl,rfl,rfl,rfl,rfl,rfl,rfl,rfl,rfl,rfl,rfl,rfl,rfl,rfl,rfl,rfl,rfl,rfl,rfl,rfl,rfl,rfl,rfl,rfl,rfl,rfl,rfl,rfl,rfl,rfl,rfl,rfl,rfl,rfl,rfl,rfl,rfl,trivial⟩ ⟨rfl,rfl,rfl,rfl,rfl,trivial⟩ ?_
        refine W.region ?_
        refine SL.val (O.det (fun _ => by first | exact G.R.add64 rfl rfl (by omega) | exact G.R.add rfl rfl) rfl Taken.no) ?_
        refine SL.mv rfl rfl (SL.nil ?_)
        refine E.again ((j + 1)) (rn []) ?_ ?_ rfl (fixL_spec rfl) ?_ ?_
        · exact (SubF.cons rfl (SubF.cons rfl (SubF.cons rfl (SubF.cons rfl (SubF.cons rfl (SubF.cons rfl (SubF.cons rfl (SubF.cons rfl (SubF.cons rfl (SubF.cons rfl (SubF.cons rfl (SubF.cons rfl (SubF.cons rfl (SubF.cons rfl (SubF.cons rfl (SubF.cons rfl (SubF.cons rfl (SubF.cons rfl (SubF.cons rfl (SubF.cons rfl (SubF.cons rfl (SubF.cons rfl (SubF.cons rfl (SubF.cons rfl (SubF.cons rfl (SubF.cons rfl (SubF.cons rfl (SubF.cons rfl (SubF.cons rfl (SubF.cons rfl (SubF.cons rfl (SubF.cons rfl SubF.nil))))))))))))))))))))))))))))))))
        · exact (SubS.val rfl (by (try dsimp only); exact sb_data (by rw [setAll_sG (by omega)])) (SubS.cons rfl (SubS.cons rfl (SubS.cons rfl (SubS.cons rfl SubS.nil)))))
        ·try dsimp only
         omega
        · (try dsimp only); omega
       refine W.exit (E.th (E.th (E.hit (E.inn (E.to ?_)))))
       refine W.pick (K:=[(0,_),(6,_),(7,_),(8,_),(11,_),(16,_),(19,_),(21,_),(23,_),(187,_),(188,_),(189,_),(190,_),(191,_),(192,_),(193,_),(194,_),(195,_),(196,_),(197,_),(198,_),(199,_),(200,_),(201,_),(202,_),(203,_),(204,_),(205,_),(206,_),(207,_),(208,_),(209,_),(210,_)]) (Z:=[(101,_),(102,_),(103,_),(113,_),(116,_)]) ⟨rfl,rfl,rfl,rfl,rfl,rfl,rfl,rfl,rfl,rfl,rfl,rfl,rfl,rfl,rfl,rfl,rfl,rfl,rfl,rfl,rfl,rfl,rfl,rfl,rfl,rfl,rfl,rfl,rfl,rfl,rfl,rfl,rfl,trivial⟩ ⟨rfl,rfl,rfl,rfl,rfl,trivial⟩ ?_
       refine W.region ?_
       refine SL.val (O.det (fun _ => by first | exact G.R.add64 rfl rfl (by omega) | exact G.R.add rfl rfl) rfl Taken.no) ?_
       refine SL.mv rfl rfl (SL.nil ?_)
       refine E.again ((p + 1)) (rn [(115, 116)]) ?_ ?_ rfl (fixL_spec rfl) ?_ ?_
       · exact (SubF.cons rfl (SubF.val rfl (by (try dsimp only); exact iv_int (by rw [snocP (l := (partsL lk (g0L m atm s))) (by omega), sumV_snoc])) (SubF.cons rfl (SubF.cons rfl (SubF.cons rfl (SubF.cons rfl (SubF.cons rfl (SubF.cons rfl (SubF.cons rfl (SubF.cons rfl (SubF.cons rfl (SubF.cons rfl (SubF.cons rfl (SubF.cons rfl (SubF.cons rfl (SubF.cons rfl (SubF.cons rfl (SubF.cons rfl (SubF.cons rfl (SubF.cons rfl SubF.nil))))))))))))))))))))
       · exact (SubS.val rfl (by (try dsimp only); exact sb_data (by rw [snocP (l := (partsL lk (g0L m atm s))) (by omega), nameF_snoc, show j = ((partsL lk (g0L m atm s))[p]!).length by omega, List.take_length])) (SubS.cons rfl (SubS.cons rfl (SubS.cons rfl (SubS.cons rfl SubS.nil)))))
       ·try dsimp only
        omega
       · (try dsimp only); omega
      refine W.exit (E.th (E.th (E.hit (E.inn (E.to (W.region ?_))))))
      refine SL.val (O.det (fun _ => by first | exact G.R.add64 rfl rfl (by omega) | exact G.R.add rfl rfl) rfl Taken.no) ?_
      refine SL.mv rfl rfl (SL.nil ?_)
      refine E.reround ?_
      refine W.pick (K:=[(0,_),(6,_),(7,_),(8,_),(11,_),(16,_),(19,_),(21,_),(187,_),(188,_),(189,_),(190,_),(191,_),(192,_),(193,_),(194,_),(195,_),(196,_),(197,_),(198,_),(199,_),(220,_)]) (Z:=[(101,_),(102,_),(103,_),(113,_),(115,_)]) ⟨rfl,rfl,rfl,rfl,rfl,rfl,rfl,rfl,rfl,rfl,rfl,rfl,rfl,rfl,rfl,rfl,rfl,rfl,rfl,rfl,rfl,rfl,trivial⟩ ⟨rfl,rfl,rfl,rfl,rfl,trivial⟩ ?_
      refine W.rg ?_
      refine SL.val (O.det (fun _ => G.R.mv (G.R.lss rfl rfl) (congrArg Value.bool (decide_eq_true (by decide)))) rfl Taken.no) ?_
      refine E.fo (W.seq ?_)
      refine W.cond_t rfl ?_
      refine W.skip (E.to (W.seq (W.block (W.rg ?_))))
      refine SL.val (O.idxval (i := 1) rfl rfl (by rfl) (by decide) (by rfl) Try.underlying116 (by kernel_rfl) Try.underlying32 rfl rfl Taken.no) ?_
      refine SL.an rfl rfl ?_
      refine SL.as (i' := vL 1 ((g1L m atm s).map eN)) 21 rfl (by (rw [← hg1]; try rfl)) ?_
      refine E.fo ?_
      refine W.pick (K:=[(0,_),(6,_),(7,_),(8,_),(11,_),(16,_),(19,_),(21,_),(187,_),(188,_),(189,_),(190,_),(191,_),(192,_),(193,_),(194,_),(195,_),(196,_),(197,_),(198,_),(199,_),(220,_)]) (Z:=[(101,_),(102,_),(103,_),(113,_),(115,_)]) ⟨rfl,rfl,rfl,rfl,rfl,rfl,rfl,rfl,rfl,rfl,rfl,rfl,rfl,rfl,rfl,rfl,rfl,rfl,rfl,rfl,rfl,rfl,trivial⟩ ⟨rfl,rfl,rfl,rfl,rfl,trivial⟩ ?_
      refine W.rg (SL.mv rfl rfl (SL.mv rfl rfl ?_))
      refine SL.val (O.nilCheck rfl rfl rfl Taken.no) ?_
      refine SL.val (O.fld_fz rfl Try.underlying90 rfl (m := 0) (by kernel_rfl) rfl rfl Taken.no) ?_
      refine SL.val (O.ld1 (PtI.ofU (PtU.fz rfl)) rfl Try.underlying88 rfl rfl Taken.no) ?_
      refine SL.val (O.callp rfl rfl rfl (parts_h (n := n) (us := (g1L m atm s)) (by omega) hgb.2.2) (.cons (ArgOk.same rfl) (.cons (ArgOk.same rfl) .nil)) hcallOk76 rfl Taken.no) ?_
      refine SL.val (O.lenE (SlOf.fz rfl (by decide)) (by first | exact List.length_map _ | rfl) Try.underlying68 rfl Taken.no) ?_
      refine SL.mv rfl rfl (E.fo ?_)
      refine W.pick (K:=[(0,_),(6,_),(7,_),(8,_),(11,_),(16,_),(19,_),(21,_),(187,_),(188,_),(189,_),(190,_),(191,_),(192,_),(193,_),(194,_),(195,_),(196,_),(197,_),(198,_),(199,_),(220,_)]) (Z:=[(101,_),(102,_),(103,_),(113,_),(115,_)]) ⟨rfl,rfl,rfl,rfl,rfl,rfl,rfl,rfl,rfl,rfl,rfl,rfl,rfl,rfl,rfl,rfl,rfl,rfl,rfl,rfl,rfl,rfl,trivial⟩ ⟨rfl,rfl,rfl,rfl,rfl,trivial⟩ ?_
      refine W.block ?_
      refine W.loopx1 (fun (q : Nat) => [(198, vI (q : Int)), (19, vI (sumV wt ((partsL lk (g0L m atm s)) ++ (partsL lk (g1L m atm s)).take q)))]) (fun (q : Nat) => [(117, .data 3 1 ((nameF (fun x : Nat => (x : Int)) (nm0 m atm s) ((partsL lk (g0L m atm s)) ++ (partsL lk (g1L m atm s)).take q)).map eI)), (113, .cells 32 [.own 117])]) (fun (q : Nat) => q ≤ (partsL lk (g1L m atm s)).length) (fun (q : Nat) => (partsL lk (g1L m atm s)).length - q) (0) (rn [(117, 115)]) (.cons (t := 0) rfl (.cons (t := 6) rfl (.cons (t := 7) rfl (.cons (t := 8) rfl (.cons (t := 11) rfl (.cons (t := 16) rfl (.cons (t := 21) rfl (.cons (t := 187) rfl (.cons (t := 188) rfl (.cons (t := 189) rfl (.cons (t := 190) rfl (.cons (t := 191) rfl (.cons (t := 192) rfl (.cons (t := 193) rfl (.cons (t := 194) rfl (.cons (t := 195) rfl (.cons (t := 196) rfl (.cons (t := 197) rfl (.cons (t := 220) rfl .nil))))))))))))))))))) (.cons (t := 101) rfl (.cons (t := 102) rfl (.cons (t := 103) rfl .nil))) rfl ?_ ?_ rfl rfl ?_ ?_
      · exact (SubF.cons rfl (SubF.val rfl (by exact iv_int (by rw [List.take_zero, List.append_nil, show p = (partsL lk (g0L m atm s)).length by omega, List.take_length])) SubF.nil))
      · exact (SubS.val rfl (by exact sb_data (by rw [List.take_zero, List.append_nil, show p = (partsL lk (g0L m atm s)).length by omega, List.take_length])) (SubS.cons rfl SubS.nil))
      ·skip
       omega
      intro q hinv
      have hq := hinv
      have hpl : ((partsL lk (g0L m atm s)) ++ (partsL lk (g1L m atm s)).take q).length ≤ 400 := by (try rw [List.length_append]); rw [List.length_take]; omega
      have hvb := sumV_b2 hw (L := ((partsL lk (g0L m atm s)) ++ (partsL lk (g1L m atm s)).take q)) (fun p hp => hL p ((List.mem_append.1 hp).elim (fun z => List.mem_append_left _ z) fun z => List.mem_append_right _ (List.mem_of_mem_take z)))
      refine W.rg ?_
      refine SL.val (O.det (fun _ => G.R.lss rfl rfl) rfl Taken.no) ?_
      refine E.fo (W.seq ?_)
      first | refine W.cond_d rfl (fun hc17 => ?_) (fun hc17 => ?_) | refine W.cond_nd rfl (fun hc17 => ?_) (fun hc17 => ?_) | refine W.cond rfl (fun hc17 => ?_) (fun hc17 => ?_)
      ·skip
       have hpu := partsN_units (mem_at (l := (partsL lk (g1L m atm s))) (i := q) (by omega))
       have hvp := valF_b hw (l := ((partsL lk (g1L m atm s))[q]!)) (by omega)
       refine W.skip (E.to (W.seq (W.block (W.rg ?_))))
       refine SL.val (O.idx_fz (i := q) rfl rfl (rfl) (row_get (by omega)) Try.underlying68 hi32 hs32 rfl Taken.no) ?_
       refine SL.val (O.ld1 (PtI.ofU (PtU.fz rfl)) rfl Try.underlying32 rfl rfl Taken.no) ?_
       refine SL.an rfl rfl (E.fo ?_)
       refine W.pick (K:=[(0,_),(6,_),(7,_),(8,_),(11,_),(16,_),(19,_),(21,_),(23,_),(187,_),(188,_),(189,_),(190,_),(191,_),(192,_),(193,_),(194,_),(195,_),(196,_),(197,_),(198,_),(199,_),(200,_),(201,_),(220,_)]) (Z:=[(101,_),(102,_),(103,_),(113,_),(117,_)]) ⟨rfl,rfl,rfl,rfl,rfl,rfl,rfl,rfl,rfl,rfl,rfl,rfl,rfl,rfl,rfl,rfl,rfl,rfl,rfl,rfl,rfl,rfl,rfl,rfl,rfl,trivial⟩ ⟨rfl,rfl,rfl,rfl,rfl,trivial⟩ ?_
       refine W.rg (SL.mv rfl rfl (SL.mv rfl rfl (SL.mv rfl rfl ?_)))
       refine SL.val (O.callp rfl rfl rfl (value_h (l := ((partsL lk (g1L m atm s))[q]!)) hw (by omega) (fun u hu => hgb.2.2 u (hpu.2.2 u hu))) (.cons (ArgOk.same rfl) (.cons (ArgOk.same rfl) .nil)) hcallOk57 rfl Taken.no) ?_
       refine SL.val (O.det (fun _ => by first | exact G.R.add64 rfl rfl (by omega) | exact G.R.add rfl rfl) rfl Taken.no) ?_
       refine SL.an rfl rfl (E.fo ?_)
       refine W.pick (K:=[(0,_),(6,_),(7,_),(8,_),(11,_),(16,_),(19,_),(21,_),(23,_),(187,_),(188,_),(189,_),(190,_),(191,_),(192,_),(193,_),(194,_),(195,_),(196,_),(197,_),(198,_),(199,_),(200,_),(201,_),(202,_),(203,_),(204,_),(205,_),(206,_),(220,_)]) (Z:=[(101,_),(102,_),(103,_),(113,_),(117,_)]) ⟨rfl,rfl,rfl,rfl,rfl,rfl,rfl,rfl,rfl,rfl,rfl,rfl,rfl,rfl,rfl,rfl,rfl,rfl,rfl,rfl,rfl,rfl,rfl,rfl,rfl,rfl,rfl,rfl,rfl,rfl,trivial⟩ ⟨rfl,rfl,rfl,rfl,rfl,trivial⟩ ?_
       refine W.rg (SL.mv rfl rfl ?_)
       refine SL.val (O.lenE (SlOf.fz rfl (by decide)) (by first | exact List.length_map _ | rfl) Try.underlying32 rfl Taken.no) ?_
       refine SL.mv rfl rfl (E.fo ?_)
       refine W.pick (K:=[(0,_),(6,_),(7,_),(8,_),(11,_),(16,_),(19,_),(21,_),(23,_),(187,_),(188,_),(189,_),(190,_),(191,_),(192,_),(193,_),(194,_),(195,_),(196,_),(197,_),(198,_),(199,_),(200,_),(201,_),(202,_),(203,_),(204,_),(205,_),(206,_),(207,_),(208,_),(209,_),(220,_)]) (Z:=[(101,_),(102,_),(103,_),(113,_),(117,_)]) ⟨rfl,rfl,rfl,rfl,rfl,rfl,rfl,rfl,rfl,rfl,rfl,rfl,rfl,rfl,rfl,rfl,rfl,rfl,rfl,rfl,rfl,rfl,rfl,rfl,rfl,rfl,rfl,rfl,rfl,rfl,rfl,rfl,rfl,trivial⟩ ⟨rfl,rfl,rfl,rfl,rfl,trivial⟩ ?_
       refine W.block ?_
       refine W.loopx1 (fun (j : Nat) => [(209, vI (j : Int))]) (fun (j : Nat) => [(118, .data 3 1 ((setAll (nameF (fun x : Nat => (x : Int)) (nm0 m atm s) ((partsL lk (g0L m atm s)) ++ (partsL lk (g1L m atm s)).take q)) (((partsL lk (g1L m atm s))[q]!).take j) ((minL ((partsL lk (g1L m atm s))[q]!) : Nat) : Int)).map eI)), (113, .cells 32 [.own 118])]) (fun (j : Nat) => j ≤ ((partsL lk (g1L m atm s))[q]!).length) (fun (j : Nat) => ((partsL lk (g1L m atm s))[q]!).length - j) (0) (rn [(118, 117)]) (.cons (t := 0) rfl (.cons (t := 6) rfl (.cons (t := 7) rfl (.cons (t := 8) rfl (.cons (t := 11) rfl (.cons (t := 16) rfl (.cons (t := 19) rfl (.cons (t := 21) rfl (.cons (t := 23) rfl (.cons (t := 187) rfl (.cons (t := 188) rfl (.cons (t := 189) rfl (.cons (t := 190) rfl (.cons (t := 191) rfl (.cons (t := 192) rfl (.cons (t := 193) rfl (.cons (t := 194) rfl (.cons (t := 195) rfl (.cons (t := 196) rfl (.cons (t := 197) rfl (.cons (t := 198) rfl (.cons (t := 199) rfl (.cons (t := 200) rfl (.cons (t := 201) rfl (.cons (t := 202) rfl (.cons (t := 203) rfl (.cons (t := 204) rfl (.cons (t := 205) rfl (.cons (t := 206) rfl (.cons (t := 207) rfl (.cons (t := 208) rfl (.cons (t := 220) rfl .nil)))))))))))))))))))))))))))))))) (.cons (t := 101) rfl (.cons (t := 102) rfl (.cons (t := 103) rfl .nil))) rfl ?_ ?_ rfl rfl ?_ ?_
       · exact (SubF.cons rfl SubF.nil)
       · exact (SubS.val rfl (by exact sb_data (by rw [List.take_zero]; rfl)) (SubS.cons rfl SubS.nil))
       ·skip
        omega
       intro j hinv
       have hj := hinv
       have hnl : (setAll (nameF (fun x : Nat => (x : Int)) (nm0 m atm s) ((partsL lk (g0L m atm s)) ++ (partsL lk (g1L m atm s)).take q)) (((partsL lk (g1L m atm s))[q]!).take j) ((minL ((partsL lk (g1L m atm s))[q]!) : Nat) : Int)).length = n := by rw [setAll_len, nameF_len, nm0_len]; exact hml
       refine W.rg ?_
       refine SL.val (O.det (fun _ => G.R.lss rfl rfl) rfl Taken.no) ?_
       refine E.fo ?_
       refine W.pick (K:=[(0,_),(6,_),(7,_),(8,_),(11,_),(16,_),(19,_),(21,_),(23,_),(187,_),(188,_),(189,_),(190,_),(191,_),(192,_),(193,_),(194,_),(195,_),(196,_),(197,_),(198,_),(199,_),(200,_),(201,_),(202,_),(203,_),(204,_),(205,_),(206,_),(207,_),(208,_),(209,_),(210,_),(220,_)]) (Z:=[(101,_),(102,_),(103,_),(113,_),(118,_)]) ⟨rfl,rfl,rfl,rfl,rfl,rfl,rfl,rfl,rfl,rfl,rfl,rfl,rfl,rfl,rfl,rfl,rfl,rfl,rfl,rfl,rfl,rfl,rfl,rfl,rfl,rfl,rfl,rfl,rfl,rfl,rfl,rfl,rfl,rfl,trivial⟩ ⟨rfl,rfl,rfl,rfl,rfl,trivial⟩ ?_
       refine W.seq ?_
       first | refine W.cond_d rfl (fun hc18 => ?_) (fun hc18 => ?_) | refine W.cond_nd rfl (fun hc18 => ?_) (fun hc18 => ?_) | refine W.cond rfl (fun hc18 => ?_) (fun hc18 => ?_)
       ·skip
        have hun := hgb.2.2 _ (hpu.2.2 ((partsL lk (g1L m atm s))[q]!)[j]! (mem_at (by omega)))
        refine W.skip (E.to ?_)
        refine W.pick (K:=[(0,_),(6,_),(7,_),(8,_),(11,_),(16,_),(19,_),(21,_),(23,_),(187,_),(188,_),(189,_),(190,_),(191,_),(192,_),(193,_),(194,_),(195,_),(196,_),(197,_),(198,_),(199,_),(200,_),(201,_),(202,_),(203,_),(204,_),(205,_),(206,_),(207,_),(208,_),(209,_),(210,_),(220,_)]) (Z:=[(101,_),(102,_),(103,_),(113,_),(118,_)]) ⟨rfl,rfl,rfl,rfl,rfl,rfl,rfl,rfl,rfl,rfl,rfl,rfl,rfl,rfl,rfl,rfl,rfl,rfl,rfl,rfl,rfl,rfl,rfl,rfl,rfl,rfl,rfl,rfl,rfl,rfl,rfl,rfl,rfl,rfl,trivial⟩ ⟨rfl,rfl,rfl,rfl,rfl,trivial⟩ ?_
        refine W.seq (W.block (W.rg ?_))
        refine SL.val (O.idx_fz (i := j) rfl rfl (rfl) (row_get (by omega)) Try.underlying32 hi3 hs3 rfl Taken.no) ?_
        refine SL.val (O.ld1 (PtI.ofU (PtU.fz rfl)) rfl Try.underlying3 rfl rfl Taken.no) ?_
        refine SL.an rfl rfl (E.fo ?_)
        refine W.pick (K:=[(0,_),(6,_),(7,_),(8,_),(11,_),(16,_),(19,_),(21,_),(23,_),(25,_),(187,_),(188,_),(189,_),(190,_),(191,_),(192,_),(193,_),(194,_),(195,_),(196,_),(197,_),(198,_),(199,_),(200,_),(201,_),(202,_),(203,_),(204,_),(205,_),(206,_),(207,_),(208,_),(209,_),(210,_),(211,_),(212,_),(220,_)]) (Z:=[(101,_),(102,_),(103,_),(113,_),(118,_)]) ⟨rfl,rfl,rfl,rfl,rfl,rfl,rfl,rfl,rfl,rfl,rfl,rfl,rfl,rfl,rfl,rfl,rfl,rfl,rfl,rfl,rfl,rfl,rfl,rfl,rfl,rfl,rfl,rfl,rfl,rfl,rfl,rfl,rfl,rfl,rfl,rfl,rfl,trivial⟩ ⟨rfl,rfl,rfl,rfl,rfl,trivial⟩ ?_
        refine W.draw [⟨[113], [], [], [118]⟩, ⟨[], [], [], []⟩, ⟨[], [], [], []⟩, ⟨[], [], [], []⟩, ⟨[118], [], [], []⟩, ⟨[118], [118], [], []⟩] rfl (by kernel_rfl) (by kernel_rfl) rfl rfl ?_
        refine WH.val (O.ld1 (PtI.ref rfl rfl) rfl Try.underlying32 rfl rfl Taken.no) rfl rfl ?_
        refine WH.mv rfl rfl rfl (WH.mv rfl rfl rfl ?_)
        refine WH.val (O.callp rfl rfl rfl (min_h (l := ((partsL lk (g1L m atm s))[q]!)) (by omega)) (.cons (ArgOk.same rfl) .nil) hcallOk87 rfl Taken.no) rfl rfl ?_
        refine WH.val (O.idx_own (i := (((partsL lk (g1L m atm s))[q]!)[j]!)) rfl rfl rfl (rfl) (by rw [List.length_map]; omega) Try.underlying32 hi3 hs3 rfl Taken.no) rfl rfl ?_
        refine WH.effS (O.st_els (m := 1) rfl rfl rfl (us := [_]) rfl rfl (by kernel_rfl) (by simp) (row_get (by omega)) (by exact Nat.le_of_ble_eq_true rfl) rfl rfl (rows' := ((setAll (nameF (fun x : Nat => (x : Int)) (nm0 m atm s) ((partsL lk (g0L m atm s)) ++ (partsL lk (g1L m atm s)).take q)) (((partsL lk (g1L m atm s))[q]!).take j) ((minL ((partsL lk (g1L m atm s))[q]!) : Nat) : Int)).set (((partsL lk (g1L m atm s))[q]!)[j]!) ((minL ((partsL lk (g1L m atm s))[q]!) : Nat) : Int)).map eI) (by exact set_map rfl) Taken.no) rfl rfl rfl (S' := (118, _) :: _) rfl ?_
        refine WH.nil (E.inn (E.to ?_))
        refine W.pick (K:=[(0,_),(6,_),(7,_),(8,_),(11,_),(16,_),(19,_),(21,_),(23,_),(25,_),(187,_),(188,_),(189,_),(190,_),(191,_),(192,_),(193,_),(194,_),(195,_),(196,_),(197,_),(198,_),(199,_),(200,_),(201,_),(202,_),(203,_),(204,_),(205,_),(206,_),(207,_),(208,_),(209,_),(210,_),(211,_),(212,_),(213,_),(214,_),(215,_),(216,_),(217,_),(220,_)]) (Z:=[(101,_),(102,_),(103,_),(113,_),(118,_)]) ⟨rfl,rfl,rfl,rfl,rfl,rfl,rfl,rfl,rfl,rfl,rfl,rfl,rfl,rfl,rfl,rfl,rfl,rfl,rfl,rfl,rfl,rfl,rfl,rfl,rfl,rfl,rfl,rfl,rfl,rfl,rfl,rfl,rfl,rfl,rfl,rfl,rfl,rfl,rfl,rfl,rfl,rfl,trivial⟩ ⟨rfl,rfl,rfl,rfl,rfl,trivial⟩ ?_
        refine W.region ?_
        refine SL.val (O.det (fun _ => by first | exact G.R.add64 rfl rfl (by omega) | exact G.R.add rfl rfl) rfl Taken.no) ?_
        refine SL.mv rfl rfl (SL.nil ?_)
        refine E.again ((j + 1)) (rn []) ?_ ?_ rfl (fixL_spec rfl) ?_ ?_
        · exact (SubF.cons rfl (SubF.cons rfl (SubF.cons rfl (SubF.cons rfl (SubF.cons rfl (SubF.cons rfl (SubF.cons rfl (SubF.cons rfl (SubF.cons rfl (SubF.cons rfl (SubF.cons rfl (SubF.cons rfl (SubF.cons rfl (SubF.cons rfl (SubF.cons rfl (SubF.cons rfl (SubF.cons rfl (SubF.cons rfl (SubF.cons rfl (SubF.cons rfl (SubF.cons rfl (SubF.cons rfl (SubF.cons rfl (SubF.cons rfl (SubF.cons rfl (SubF.cons rfl (SubF.cons rfl (SubF.cons rfl (SubF.cons rfl (SubF.cons rfl (SubF.cons rfl (SubF.cons rfl (SubF.cons rfl SubF.nil)))))))))))))))))))))))))))))))))
        · exact (SubS.val rfl (by (try dsimp only); exact sb_data (by rw [setAll_sG (by omega)])) (SubS.cons rfl (SubS.cons rfl (SubS.cons rfl (SubS.cons rfl SubS.nil)))))
        ·try dsimp only
         omega
        · (try dsimp only); omega
       refine W.exit (E.th (E.th (E.hit (E.inn (E.to ?_)))))
       refine W.pick (K:=[(0,_),(6,_),(7,_),(8,_),(11,_),(16,_),(19,_),(21,_),(23,_),(187,_),(188,_),(189,_),(190,_),(191,_),(192,_),(193,_),(194,_),(195,_),(196,_),(197,_),(198,_),(199,_),(200,_),(201,_),(202,_),(203,_),(204,_),(205,_),(206,_),(207,_),(208,_),(209,_),(210,_),(220,_)]) (Z:=[(101,_),(102,_),(103,_),(113,_),(118,_)]) ⟨rfl,rfl,rfl,rfl,rfl,rfl,rfl,rfl,rfl,rfl,rfl,rfl,rfl,rfl,rfl,rfl,rfl,rfl,rfl,rfl,rfl,rfl,rfl,rfl,rfl,rfl,rfl,rfl,rfl,rfl,rfl,rfl,rfl,rfl,trivial⟩ ⟨rfl,rfl,rfl,rfl,rfl,trivial⟩ ?_
       refine W.region ?_
       refine SL.val (O.det (fun _ => by first | exact G.R.add64 rfl rfl (by omega) | exact G.R.add rfl rfl) rfl Taken.no) ?_
       refine SL.mv rfl rfl (SL.nil ?_)
       refine E.again ((q + 1)) (rn [(117, 118)]) ?_ ?_ rfl (fixL_spec rfl) ?_ ?_
       · exact (SubF.cons rfl (SubF.val rfl (by (try dsimp only); exact iv_int (by rw [snocP (l := (partsL lk (g1L m atm s))) (by omega), ← List.append_assoc, sumV_snoc])) (SubF.cons rfl (SubF.cons rfl (SubF.cons rfl (SubF.cons rfl (SubF.cons rfl (SubF.cons rfl (SubF.cons rfl (SubF.cons rfl (SubF.cons rfl (SubF.cons rfl (SubF.cons rfl (SubF.cons rfl (SubF.cons rfl (SubF.cons rfl (SubF.cons rfl (SubF.cons rfl (SubF.cons rfl (SubF.cons rfl (SubF.cons rfl SubF.nil)))))))))))))))))))))
       · exact (SubS.val rfl (by (try dsimp only); exact sb_data (by rw [snocP (l := (partsL lk (g1L m atm s))) (by omega), ← List.append_assoc, nameF_snoc, show j = ((partsL lk (g1L m atm s))[q]!).length by omega, List.take_length])) (SubS.cons rfl (SubS.cons rfl (SubS.cons rfl (SubS.cons rfl SubS.nil)))))
       ·try dsimp only
        omega
       · (try dsimp only); omega
      refine W.exit (E.th (E.th (E.hit (E.inn (E.to (W.region ?_))))))
      refine SL.val (O.det (fun _ => by first | exact G.R.add64 rfl rfl (by omega) | exact G.R.add rfl rfl) rfl Taken.no) ?_
      refine SL.mv rfl rfl (SL.nil ?_)
      refine E.reround ?_
      refine W.pick (K:=[(0,_),(6,_),(7,_),(8,_),(11,_),(16,_),(19,_),(21,_),(187,_),(188,_),(189,_),(190,_),(191,_),(192,_),(193,_),(194,_),(195,_),(196,_),(197,_),(198,_),(199,_),(220,_)]) (Z:=[(101,_),(102,_),(103,_),(113,_),(117,_)]) ⟨rfl,rfl,rfl,rfl,rfl,rfl,rfl,rfl,rfl,rfl,rfl,rfl,rfl,rfl,rfl,rfl,rfl,rfl,rfl,rfl,rfl,rfl,trivial⟩ ⟨rfl,rfl,rfl,rfl,rfl,trivial⟩ ?_
      refine W.rg ?_
      refine SL.val (O.det (fun _ => G.R.mv (G.R.lss rfl rfl) (congrArg Value.bool (decide_eq_false (by decide)))) rfl Taken.no) ?_
      refine E.fo (W.seq ?_)
      refine W.cond_f rfl ?_
      refine W.exit (E.th (E.th (E.hit (E.to (W.rg ?_)))))
      refine SL.val (O.ld1 (PtI.ref rfl rfl) rfl Try.underlying32 rfl rfl Taken.no) ?_
      refine SL.mv rfl rfl (SL.mv rfl rfl ?_)
      refine SL.val (O.det (fun _ => by first | exact G.R.sub64 rfl rfl (by omega) | exact G.R.sub rfl rfl) rfl Taken.no) ?_
      refine SL.an rfl rfl (SL.an rfl rfl (SL.an rfl rfl (E.fo ?_)))
      refine W.pick (K:=[(6,_),(7,_),(8,_)]) (Z:=[(101,_),(102,_),(103,_),(113,_),(117,_)]) ⟨rfl,rfl,rfl,trivial⟩ ⟨rfl,rfl,rfl,rfl,rfl,trivial⟩ ?_
      refine W.ret ?_
      refine E.freeze 117 rfl (F' := [(6, _)]) (⟨⟨_, rfl, rfl⟩, trivial⟩) ?_
      refine E.fin (rs := [_, _, _]) (rn []) (.inl rfl) rfl (.cons (ResOne.tmp rfl) (.cons (ResOne.tmp rfl) (.cons (ResOne.tmp rfl) .nil))) ?_ ?_ rfl (fixL_spec rfl)
      ·skip
       have hyes : posF n bar atm m s := ⟨hpre, by rw [← hit_eq hml hb]; exact hcl⟩
       rw [← hs, apN_y hyes, apG_y hyes, dec_t hyes, gnF, hfe, hth, show q = (partsL lk (g1L m atm s)).length by omega, List.take_length]; rfl
      · exact SubS.nil
     first | have hg5p := G.gA7 hg5 | have hg5p := G.gA8 hg5 | have hg5p := hg5
     refine WH.sk rfl rfl rfl hg5 (WH.sk rfl rfl rfl hg5 (WH.sk rfl rfl rfl hg5 ?_))
     refine WH.val (O.pick_t rfl (G.ne_f hg5) rfl rfl (Taken.yes rfl rfl hg4)) rfl rfl ?_
     refine WH.val (O.pick_t rfl hg4 rfl rfl (Taken.yes rfl rfl hg3)) rfl rfl ?_
     refine WH.val (O.pick_f rfl hg3 rfl rfl Taken.no) rfl rfl ?_
     refine WH.nil (E.to ?_)
     refine W.pick (K:=[(0,_),(1,_),(5,_),(6,_),(7,_),(8,_),(60,_)]) (Z:=[(101,_)]) ⟨rfl,rfl,rfl,rfl,rfl,rfl,rfl,trivial⟩ ⟨rfl,trivial⟩ ?_
     refine W.cond_t rfl ?_
     refine W.rg (SL.an rfl rfl (SL.an rfl rfl (SL.an rfl rfl (E.fo (W.ret (E.thr ?_))))))
     refine E.nilsl 6 1 rfl ?_
     refine E.fin (rs := [_, _, _]) (rn []) (.inl rfl) rfl (.cons (ResOne.tmp rfl) (.cons (ResOne.tmp rfl) (.cons (ResOne.tmp rfl) .nil))) ?_ ?_ rfl (fixL_spec rfl)
     ·skip
      first | ((have hno : ¬ posF n bar atm m ⟨u, f, t⟩ := fun q => by ((obtain ⟨⟨⟨q1, q2, q3, q4, q5⟩, q6, q7, q8⟩, q9⟩ := posF_iff.1 q); (try simp only [Int.toNat_natCast] at q6 q7 q8); (first | omega | (have q5 := q5 (by omega); simp_all)))); rw [apN_n hno, apG_n hno, dec_f hno]; rfl)
     · exact SubS.nil
    first | have hg4p := G.gA5 hg4 | have hg4p := G.gA6 hg4 | have hg4p := hg4
    refine WH.sk rfl rfl rfl hg4 (WH.sk rfl rfl rfl hg4 (WH.sk rfl rfl rfl hg4 ?_))
    refine WH.skip (OpOk.not2 rfl rfl rfl) ?_
    refine WH.skip (OpOk.not2 rfl rfl rfl) ?_
    refine WH.skip (OpOk.not2 rfl rfl rfl) ?_
    refine WH.sk rfl rfl rfl hg4 ?_
    refine WH.val (O.pick_f rfl (G.ne_t hg4) rfl rfl (Taken.yes rfl rfl hg3)) rfl rfl ?_
    refine WH.val (O.pick_f rfl hg3 rfl rfl Taken.no) rfl rfl ?_
    refine WH.nil (E.to ?_)
    refine W.pick (K:=[(0,_),(1,_),(5,_),(6,_),(7,_),(8,_),(60,_)]) (Z:=[(101,_)]) ⟨rfl,rfl,rfl,rfl,rfl,rfl,rfl,trivial⟩ ⟨rfl,trivial⟩ ?_
    refine W.cond_f rfl ?_
    refine W.skip (E.to (W.rg ?_))
    obtain ⟨t, rfl⟩ : ∃ k : Nat, t = (k : Int) := ⟨t.toNat, by omega⟩
    have hul2 := units_len m t
    have hvb2 := valF_b hw (l := unitsL m t) (by omega)
    have hTn : ∀ u ∈ unitsL m t, u < n := fun u hu => ((mem_here hml).1 hu).1
    obtain ⟨f, rfl⟩ : ∃ k : Nat, f = (k : Int) := ⟨f.toNat, by omega⟩
    have hul := units_len m m[f]!
    have hvb1 := valF_b hw (l := (unitsL m m[f]!)) (by omega)
    have hHn : ∀ u ∈ (unitsL m m[f]!), u < n := fun u hu => ((mem_here hml).1 hu).1
    refine SL.mv rfl rfl (SL.mv rfl rfl ?_)
    refine SL.val (O.fld_ref (o' := 1) rfl Try.underlying57 rfl (m := 0) (by kernel_rfl) rfl rfl Taken.no) ?_
    refine SL.val (O.ld1 (PtI.ref rfl rfl) rfl Try.underlying3 rfl rfl Taken.no) ?_
    refine SL.val (O.idx_fz (i := f) rfl rfl (rfl) (row_get (by omega)) Try.underlying32 hi3 hs3 rfl Taken.no) ?_
    refine SL.val (O.ld1 (PtI.ofU (PtU.fz rfl)) rfl Try.underlying3 rfl rfl Taken.no) ?_
    refine SL.memS (O.call (rn [(0, 119)]) [] rfl rfl rfl (units_h (l := m) (c := m[f]!) (by omega)) (.cons (ArgOk.same rfl) (.cons (ArgOk.same rfl) .nil)) SubS.nil rfl rfl rfl rfl rfl (.inl rfl) hcallOk58 (r' := .own 119) rfl rfl Taken.no) rfl rfl (S' := (119, .data _ _ _) :: _) rfl ?_
    refine SL.an rfl rfl (E.fo (W.rg (SL.an rfl rfl (E.fo (W.seq (W.rg ?_))))))
    refine SL.val (O.fld_ref (o' := 2) rfl Try.underlying57 rfl (m := 0) (by kernel_rfl) rfl rfl Taken.no) ?_
    refine SL.val (O.ld1 (PtI.ref rfl rfl) rfl Try.underlying3 rfl rfl Taken.no) ?_
    refine SL.val (O.det (fun _ => G.R.geq rfl rfl) rfl Taken.no) ?_
    refine E.fo ?_
    first | refine W.cond_d rfl (fun hc19 => ?_) (fun hc19 => ?_) | refine W.cond_nd rfl (fun hc19 => ?_) (fun hc19 => ?_) | refine W.cond rfl (fun hc19 => ?_) (fun hc19 => ?_)
    ·skip
     refine W.seq (W.seq ?_)
     refine W.draw [⟨[], [], [], []⟩, ⟨[], [], [], [101]⟩, ⟨[101], [], [], []⟩, ⟨[], [], [], []⟩, ⟨[], [], [], []⟩, ⟨[], [], [], [101]⟩, ⟨[101], [], [], []⟩, ⟨[], [], [], []⟩, ⟨[], [], [], []⟩, ⟨[], [], [], []⟩, ⟨[], [], [], [101]⟩, ⟨[101], [], [], []⟩, ⟨[], [], [], []⟩, ⟨[], [], [], []⟩, ⟨[], [], [], [101]⟩, ⟨[101], [], [], []⟩, ⟨[], [], [], []⟩, ⟨[], [], [], []⟩] rfl (by kernel_rfl) (by kernel_rfl) rfl rfl ?_
     refine WH.mv rfl rfl rfl ?_
     refine WH.val (O.fld_ref (o' := 2) rfl Try.underlying57 rfl (m := 0) (by kernel_rfl) rfl rfl Taken.no) rfl rfl ?_
     refine WH.val (O.ld1 (PtI.ref rfl rfl) rfl Try.underlying3 rfl rfl Taken.no) rfl rfl ?_
     refine WH.val (O.idx_fz (i := t) rfl rfl (rfl) (row_get (by omega)) Try.underlying32 hi3 hs3 rfl Taken.no) rfl rfl ?_
     refine WH.val (O.ld1 (PtI.ofU (PtU.fz rfl)) rfl Try.underlying3 rfl rfl Taken.no) rfl rfl ?_
     refine WH.val (O.fld_ref (o' := 2) rfl Try.underlying57 rfl (m := 0) (by kernel_rfl) rfl rfl Taken.no) rfl rfl ?_
     refine WH.val (O.ld1 (PtI.ref rfl rfl) rfl Try.underlying3 rfl rfl Taken.no) rfl rfl ?_
     refine WH.val (O.det (fun _ => G.R.neq rfl rfl) rfl Taken.no) rfl rfl ?_
     refine WH.mv rfl rfl rfl ?_
     refine WH.case (j := 8) (g := 79) (want := false) rfl rfl (fun hg20 => ?_) (fun hg20 => ?_)
     ·skip
      first | have hg20p := G.gA3 hg20 | have hg20p := G.gA4 hg20 | have hg20p := hg20
      refine WH.val (O.move rfl rfl (Taken.yes rfl rfl hg20)) rfl rfl ?_
      refine WH.val (O.fld_ref (o' := 1) rfl Try.underlying57 rfl (m := 0) (by kernel_rfl) rfl rfl (Taken.yes rfl rfl hg20)) rfl rfl ?_
      refine WH.val (O.ld1 (PtI.ref rfl rfl) rfl Try.underlying3 rfl rfl (Taken.yes rfl rfl hg20)) rfl rfl ?_
      refine WH.val (O.idx_fz (i := f) rfl rfl (rfl) (row_get (by omega)) Try.underlying32 hi3 hs3 rfl (Taken.yes rfl rfl hg20)) rfl rfl ?_
      refine WH.val (O.ld1 (PtI.ofU (PtU.fz rfl)) rfl Try.underlying3 rfl rfl (Taken.yes rfl rfl hg20)) rfl rfl ?_
      refine WH.val (O.fld_ref (o' := 2) rfl Try.underlying57 rfl (m := 0) (by kernel_rfl) rfl rfl (Taken.yes rfl rfl hg20)) rfl rfl ?_
      refine WH.val (O.ld1 (PtI.ref rfl rfl) rfl Try.underlying3 rfl rfl (Taken.yes rfl rfl hg20)) rfl rfl ?_
      refine WH.val (O.det (fun _ => G.R.eql rfl rfl) rfl (Taken.yes rfl rfl hg20)) rfl rfl ?_
      refine WH.val (O.pick_f rfl hg20 rfl rfl Taken.no) rfl rfl ?_
      refine WH.nil (E.to ?_)
      refine W.pick (K:=[(0,_),(1,_),(5,_),(6,_),(7,_),(8,_),(9,_),(10,_),(88,_)]) (Z:=[(101,_),(119,_)]) ⟨rfl,rfl,rfl,rfl,rfl,rfl,rfl,rfl,rfl,trivial⟩ ⟨rfl,rfl,trivial⟩ ?_
      first | refine W.cond_d rfl (fun hc21 => ?_) (fun hc21 => ?_) | refine W.cond_nd rfl (fun hc21 => ?_) (fun hc21 => ?_) | refine W.cond rfl (fun hc21 => ?_) (fun hc21 => ?_)
      ·skip
       refine W.rg (SL.an rfl rfl (SL.an rfl rfl (SL.an rfl rfl (E.fo (W.ret (E.thr (E.thr ?_)))))))
       refine E.nilsl 6 1 rfl ?_
       refine E.fin (rs := [_, _, _]) (rn []) (.inl rfl) rfl (.cons (ResOne.tmp rfl) (.cons (ResOne.tmp rfl) (.cons (ResOne.tmp rfl) .nil))) ?_ ?_ rfl (fixL_spec rfl)
       ·skip
        first | ((have hno : ¬ posF n bar atm m ⟨u, (f : Int), (t : Int)⟩ := fun q => by ((obtain ⟨⟨⟨q1, q2, q3, q4, q5⟩, q6, q7, q8⟩, q9⟩ := posF_iff.1 q); (try simp only [Int.toNat_natCast] at q6 q7 q8); (have q6 := q6 (by omega); omega))); rw [apN_n hno, apG_n hno, dec_f hno]; rfl)
       · exact SubS.nil
      refine W.skip (E.to (W.region (SL.mv rfl rfl ?_)))
      refine SL.val (O.fld_ref (o' := 2) rfl Try.underlying57 rfl (m := 0) (by kernel_rfl) rfl rfl Taken.no) ?_
      refine SL.val (O.ld1 (PtI.ref rfl rfl) rfl Try.underlying3 rfl rfl Taken.no) ?_
      refine SL.memS (O.call (rn [(0, 120)]) [] rfl rfl rfl (units_h (l := m) (c := t) (by omega)) (.cons (ArgOk.same rfl) (.cons (ArgOk.same rfl) .nil)) SubS.nil rfl rfl rfl rfl rfl (.inl rfl) hcallOk58 (r' := .own 120) rfl rfl Taken.no) rfl rfl (S' := (120, .data _ _ _) :: _) rfl ?_
      refine SL.an rfl rfl (E.fo (W.rg (SL.mv rfl rfl (SL.mv rfl rfl ?_))))
      refine SL.memS (O.call (rn []) [119] rfl rfl rfl (value_h (l := (unitsL m m[f]!)) hw (by omega) hHn) (.cons (ArgOk.same rfl) (.cons (ArgOk.own rfl rfl) .nil)) SubS.nil rfl rfl rfl rfl rfl (.inr ⟨rfl, fun x hx => by simp at hx⟩) hcallOk57 (r' := .u _) rfl rfl Taken.no) rfl rfl (S' := _) rfl ?_
      refine SL.mv rfl rfl (SL.mv rfl rfl ?_)
      refine SL.memS (O.call (rn []) [120] rfl rfl rfl (value_h (l := unitsL m t) hw (by omega) hTn) (.cons (ArgOk.same rfl) (.cons (ArgOk.own rfl rfl) .nil)) SubS.nil rfl rfl rfl rfl rfl (.inr ⟨rfl, fun x hx => by simp at hx⟩) hcallOk57 (r' := .u _) rfl rfl Taken.no) rfl rfl (S' := _) rfl ?_
      refine SL.val (O.det (fun _ => by first | exact G.R.add64 rfl rfl (by omega) | exact G.R.add rfl rfl) rfl Taken.no) ?_
      refine SL.an rfl rfl (E.fo (W.rg ?_))
      refine SL.memS (O.alloc (z := .agg #[.slice none 0 0, .slice none 0 0]) (is := [.u (.sc (.slice none 0 0)), .u (.sc (.slice none 0 0))]) 121 (by kernel_rfl) rfl rfl rfl Taken.no) rfl rfl (S' := (121, _) :: _) rfl ?_
      refine E.fo (W.seq (W.rg ?_))
      refine SL.val (O.fld_ref (o' := 0) rfl Try.underlying57 rfl (m := 0) (by kernel_rfl) rfl rfl Taken.no) ?_
      refine SL.val (O.ld1 (PtI.ref rfl rfl) rfl Try.underlying4 rfl rfl Taken.no) ?_
      refine E.fo ?_
      refine W.pick (K:=[(0,_),(1,_),(5,_),(6,_),(7,_),(8,_),(9,_),(10,_),(11,_),(12,_),(101,_)]) (Z:=[(101,_),(119,_),(120,_),(121,_)]) ⟨rfl,rfl,rfl,rfl,rfl,rfl,rfl,rfl,rfl,rfl,rfl,trivial⟩ ⟨rfl,rfl,rfl,rfl,trivial⟩ ?_
      first | refine W.cond_d rfl (fun hc22 => ?_) (fun hc22 => ?_) | refine W.cond_nd rfl (fun hc22 => ?_) (fun hc22 => ?_) | refine W.cond rfl (fun hc22 => ?_) (fun hc22 => ?_)
      ·skip
       obtain rfl : u = true := by simp_all
       refine W.seq (W.seq ?_)
       refine W.draw [⟨[], [], [], []⟩, ⟨[], [], [], [101]⟩, ⟨[101], [], [], []⟩, ⟨[], [], [], []⟩, ⟨[], [], [], []⟩, ⟨[], [], [], [101]⟩, ⟨[101], [], [], []⟩, ⟨[], [], [], []⟩, ⟨[], [], [], []⟩, ⟨[], [], [], [101]⟩, ⟨[101], [], [], []⟩, ⟨[], [], [], [101]⟩, ⟨[101], [], [], []⟩, ⟨[], [], [], []⟩, ⟨[], [], [], []⟩] rfl (by kernel_rfl) (by kernel_rfl) rfl rfl ?_
       refine WH.mv rfl rfl rfl ?_
       refine WH.val (O.fld_ref (o' := 1) rfl Try.underlying57 rfl (m := 0) (by kernel_rfl) rfl rfl Taken.no) rfl rfl ?_
       refine WH.val (O.ld1 (PtI.ref rfl rfl) rfl Try.underlying3 rfl rfl Taken.no) rfl rfl ?_
       refine WH.val (O.idx_fz (i := f) rfl rfl (rfl) (row_get (by omega)) Try.underlying32 hi3 hs3 rfl Taken.no) rfl rfl ?_
       refine WH.val (O.ld1 (PtI.ofU (PtU.fz rfl)) rfl Try.underlying3 rfl rfl Taken.no) rfl rfl ?_
       refine WH.val (O.fld_ref (o' := 1) rfl Try.underlying57 rfl (m := 0) (by kernel_rfl) rfl rfl Taken.no) rfl rfl ?_
       refine WH.val (O.ld1 (PtI.ref rfl rfl) rfl Try.underlying3 rfl rfl Taken.no) rfl rfl ?_
       refine WH.val (O.det (fun _ => G.R.neq rfl rfl) rfl Taken.no) rfl rfl ?_
       refine WH.mv rfl rfl rfl ?_
       refine WH.case (j := 8) (g := 110) (want := false) rfl rfl (fun hg23 => ?_) (fun hg23 => ?_)
       ·skip
        first | have hg23p := G.gA3 hg23 | have hg23p := G.gA4 hg23 | have hg23p := hg23
        refine WH.val (O.fld_ref (o' := 1) rfl Try.underlying57 rfl (m := 0) (by kernel_rfl) rfl rfl (Taken.yes rfl rfl hg23)) rfl rfl ?_
        refine WH.val (O.ld1 (PtI.ref rfl rfl) rfl Try.underlying3 rfl rfl (Taken.yes rfl rfl hg23)) rfl rfl ?_
        refine WH.val (O.fld_ref (o' := 2) rfl Try.underlying57 rfl (m := 0) (by kernel_rfl) rfl rfl (Taken.yes rfl rfl hg23)) rfl rfl ?_
        refine WH.val (O.ld1 (PtI.ref rfl rfl) rfl Try.underlying3 rfl rfl (Taken.yes rfl rfl hg23)) rfl rfl ?_
        refine WH.val (O.det (fun _ => G.R.geq rfl rfl) rfl (Taken.yes rfl rfl hg23)) rfl rfl ?_
        refine WH.val (O.pick_f rfl hg23 rfl rfl Taken.no) rfl rfl ?_
        refine WH.nil (E.to ?_)
        refine W.pick (K:=[(0,_),(1,_),(6,_),(7,_),(8,_),(9,_),(10,_),(11,_),(12,_),(116,_)]) (Z:=[(101,_),(119,_),(120,_),(121,_)]) ⟨rfl,rfl,rfl,rfl,rfl,rfl,rfl,rfl,rfl,rfl,trivial⟩ ⟨rfl,rfl,rfl,rfl,trivial⟩ ?_
        first | refine W.cond_d rfl (fun hc24 => ?_) (fun hc24 => ?_) | refine W.cond_nd rfl (fun hc24 => ?_) (fun hc24 => ?_) | refine W.cond rfl (fun hc24 => ?_) (fun hc24 => ?_)
        ·skip
         refine W.rg (SL.an rfl rfl (SL.an rfl rfl (SL.an rfl rfl (E.fo (W.ret (E.thr (E.thr ?_)))))))
         refine E.nilsl 6 1 rfl ?_
         refine E.fin (rs := [_, _, _]) (rn []) (.inl rfl) rfl (.cons (ResOne.tmp rfl) (.cons (ResOne.tmp rfl) (.cons (ResOne.tmp rfl) .nil))) ?_ ?_ rfl (fixL_spec rfl)
         ·skip
          first | ((have hno : ¬ posF n bar atm m ⟨true, (f : Int), (t : Int)⟩ := fun q => by ((obtain ⟨⟨⟨q1, q2, q3, q4, q5⟩, q6, q7, q8⟩, q9⟩ := posF_iff.1 q); (try simp only [Int.toNat_natCast] at q6 q7 q8); (have q7 := q7 (by trivial); omega))); rw [apN_n hno, apG_n hno, dec_f hno]; rfl)
         · exact SubS.nil
        refine W.skip (E.to (W.region (SL.mv rfl rfl (SL.mv rfl rfl ?_))))
        refine SL.memS (O.app (k' := 122) rfl rfl (SlOf.own rfl rfl) Try.underlying32 hi3 hz3 hs3 rfl rfl (by exact app_map) (by rw [hb3]; (simp only [List.length_map]; omega)) (by (simp only [List.length_map]; omega)) rfl Taken.no) rfl rfl (S' := (122, _) :: (119, .dead) :: _) rfl ?_
        refine SL.val (O.idx_ref (i := 0) (m := 1) rfl rfl (rfl) (by decide) Try.underlying116 (by kernel_rfl) rfl rfl Taken.no) ?_
        refine SL.effS (O.st_ref (m := 1) rfl rfl rfl (js := [_]) rfl rfl (by kernel_rfl) (by simp) (Nat.le_of_ble_eq_true rfl) rfl (is' := [_, _]) rfl Taken.no) (S' := (121, _) :: _) rfl ?_
        refine E.fo (W.seq ?_)
        refine W.freezeC 121 0 122 (is' := [_, _]) rfl rfl rfl rfl ?_
        refine W.nilslC 121 1 1 (is' := [_, _]) rfl rfl rfl ?_
        refine W.region ?_
        obtain ⟨s, hs⟩ : ∃ s : Stp, s = ⟨true, (f : Int), (t : Int)⟩ := ⟨_, rfl⟩
        have hfe : s.f.toNat = f := by rw [hs]; rfl
        have hth : thereL m s.t = unitsL m t := by rw [hs]; exact there_nat m t
        have hg0 : ((unitsL m m[f]!) ++ unitsL m t) = g0L m atm s := by rw [hs]; show _ = unitsL m m[f]! ++ thereL m (t : Int); rw [there_nat]
        have hg1 : ([] : List Nat) = g1L m atm s := by rw [hs]; rfl
        have hpre : preF n atm m s := by rw [hs]; exact ⟨⟨by show (0 : Int) ≤ f; omega, by show (f : Int) < n; omega, by show (t : Int) < (n : Int); omega, by show -1 ≤ (t : Int); omega, fun h => by exfalso; have h2 : (t : Int) < 0 := h; omega⟩, fun h => ⟨by show m[t]! = t; omega, by show m[f]! ≠ t; omega⟩, fun h => ⟨by show m[f]! = f; omega, by show (f : Int) < t; omega⟩, fun h => by cases h⟩
        have hgb := g_b (atm := atm) (s := s) hml
        have hl0 : (partsL lk (g0L m atm s)).length ≤ (g0L m atm s).length := partsN_len
        have hl1 : (partsL lk (g1L m atm s)).length ≤ (g1L m atm s).length := partsN_len
        rw [hg0]
        refine SL.mv rfl rfl ?_
        refine SL.memS (O.call (rn [(0, 123)]) [] rfl rfl rfl (clone_h (rows := m.map eN) (by rw [List.length_map]; omega)) (.cons (ArgOk.same rfl) .nil) SubS.nil rfl rfl rfl rfl rfl (.inl rfl) hcallOk54 (r' := .own 123) rfl rfl Taken.no) rfl rfl (S' := (123, .data _ _ _) :: _) rfl ?_
        refine SL.memS (O.alloc (z := .slice none 0 0) (is := [.u (.sc (.slice none 0 0))]) 124 (by kernel_rfl) rfl rfl rfl Taken.no) rfl rfl (S' := (124, _) :: _) rfl ?_
        refine SL.effS (O.st_ref (m := 1) rfl rfl rfl (js := [_]) rfl rfl (by kernel_rfl) (by simp) (Nat.le_of_ble_eq_true rfl) rfl (is' := [_]) rfl Taken.no) (S' := (124, _) :: _) rfl ?_
        refine E.fo (W.seq (W.rg ?_))
        refine SL.val (O.idx_ref (i := 0) (m := 1) rfl rfl (rfl) (by decide) Try.underlying116 (by kernel_rfl) rfl rfl Taken.no) ?_
        refine SL.val (O.ld1 (PtI.ref rfl rfl) rfl Try.underlying32 rfl rfl Taken.no) ?_
        refine SL.val (O.lenE (SlOf.fz rfl (by decide)) (by first | exact List.length_map _ | rfl) Try.underlying32 rfl Taken.no) ?_
        refine SL.mv rfl rfl (E.fo (W.block ?_))
        refine W.loopx1 (fun (j : Nat) => [(173, vI (j : Int))]) (fun (j : Nat) => [(125, .data 3 1 ((setAll (m.map (fun x : Nat => (x : Int))) ((g0L m atm s).take j) (-1)).map eI)), (124, .cells 32 [.own 125])]) (fun (j : Nat) => j ≤ (g0L m atm s).length) (fun (j : Nat) => (g0L m atm s).length - j) (0) (rn [(125, 123)]) (.cons (t := 0) rfl (.cons (t := 6) rfl (.cons (t := 7) rfl (.cons (t := 8) rfl (.cons (t := 11) rfl (.cons (t := 12) rfl (.cons (t := 16) rfl (.cons (t := 171) rfl (.cons (t := 172) rfl .nil))))))))) (.cons (t := 101) rfl (.cons (t := 120) rfl (.cons (t := 121) rfl .nil))) rfl ?_ ?_ rfl rfl ?_ ?_
        · exact (SubF.cons rfl SubF.nil)
        · exact (SubS.val rfl (by exact sb_data (by rw [List.take_zero]; exact (eI_eN m).symm)) (SubS.cons rfl SubS.nil))
        ·skip
         omega
        intro j hinv
        have hj := hinv
        have hnl : (setAll (m.map (fun x : Nat => (x : Int))) ((g0L m atm s).take j) (-1)).length = n := by rw [setAll_len, List.length_map]; exact hml
        refine W.rg ?_
        refine SL.val (O.det (fun _ => G.R.lss rfl rfl) rfl Taken.no) ?_
        refine E.fo (W.seq ?_)
        first | refine W.cond_d rfl (fun hc25 => ?_) (fun hc25 => ?_) | refine W.cond_nd rfl (fun hc25 => ?_) (fun hc25 => ?_) | refine W.cond rfl (fun hc25 => ?_) (fun hc25 => ?_)
        ·skip
         have hGj := hgb.2.1 (g0L m atm s)[j]! (mem_at (by omega))
         refine W.skip (E.to (W.seq (W.block (W.rg ?_))))
         refine SL.val (O.idx_fz (i := j) rfl rfl (rfl) (row_get (by omega)) Try.underlying32 hi3 hs3 rfl Taken.no) ?_
         refine SL.val (O.ld1 (PtI.ofU (PtU.fz rfl)) rfl Try.underlying3 rfl rfl Taken.no) ?_
         refine SL.an rfl rfl (E.fo (W.region ?_))
         refine SL.val (O.ld1 (PtI.ref rfl rfl) rfl Try.underlying32 rfl rfl Taken.no) ?_
         refine SL.mv rfl rfl ?_
         refine SL.val (O.idx_own (i := ((g0L m atm s)[j]!)) rfl rfl rfl (rfl) (by rw [List.length_map]; omega) Try.underlying32 hi3 hs3 rfl Taken.no) ?_
         refine SL.effS (O.st_els (m := 1) rfl rfl rfl (us := [_]) rfl rfl (by kernel_rfl) (by simp) (row_get (by omega)) (by exact Nat.le_of_ble_eq_true rfl) rfl rfl (rows' := ((setAll (m.map (fun x : Nat => (x : Int))) ((g0L m atm s).take j) (-1)).set ((g0L m atm s)[j]!) (-1)).map eI) (by exact set_map rfl) Taken.no) (S' := (125, _) :: _) rfl ?_
         refine SL.nil (E.inn (E.to (W.region ?_)))
         refine SL.val (O.det (fun _ => by first | exact G.R.add64 rfl rfl (by omega) | exact G.R.add rfl rfl) rfl Taken.no) ?_
         refine SL.mv rfl rfl (SL.nil ?_)
         refine E.again ((j + 1)) (rn []) ?_ ?_ rfl (fixL_spec rfl) ?_ ?_
         · exact (SubF.cons rfl (SubF.cons rfl (SubF.cons rfl (SubF.cons rfl (SubF.cons rfl (SubF.cons rfl (SubF.cons rfl (SubF.cons rfl (SubF.cons rfl (SubF.cons rfl SubF.nil))))))))))
         · exact (SubS.val rfl (by (try dsimp only); exact sb_data (by rw [setAll_sG (by omega)])) (SubS.cons rfl (SubS.cons rfl (SubS.cons rfl (SubS.cons rfl SubS.nil)))))
         ·try dsimp only
          omega
         · (try dsimp only); omega
        refine W.exit (E.th (E.th (E.hit (E.to (W.seq (W.seq ?_))))))
        have hjG : j = (g0L m atm s).length := by omega
        rw [hjG, List.take_length]
        refine W.region (SL.mv rfl rfl ?_)
        refine SL.val (O.nilCheck rfl rfl rfl Taken.no) ?_
        refine SL.val (O.fld_fz rfl Try.underlying90 rfl (m := 0) (by kernel_rfl) rfl rfl Taken.no) ?_
        refine SL.val (O.ld1 (PtI.ofU (PtU.fz rfl)) rfl Try.underlying23 rfl rfl Taken.no) ?_
        refine SL.val (O.makeFunc rfl rfl rfl Taken.no) ?_
        refine SL.memS (O.call (rn [(0, 124), (1, 125)]) [] rfl rfl rfl (containsFuncN (nm := (nm0 m atm s)) (q := bar) (by rw [nm0_len, hml]; exact hb)) (.cons (ArgOk.same rfl) (.cons (ArgOk.same rfl) .nil)) (SubS.cons rfl (SubS.cons rfl SubS.nil)) rfl rfl rfl rfl rfl (.inl rfl) hcallOk65 (r' := .u _) rfl rfl Taken.no) rfl rfl (S' := (124, .cells _ [.own 125]) :: (125, .data _ _ _) :: _) rfl ?_
        refine E.fo ?_
        first | refine W.cond_d rfl (fun hc26 => ?_) (fun hc26 => ?_) | refine W.cond_nd rfl (fun hc26 => ?_) (fun hc26 => ?_) | refine W.cond rfl (fun hc26 => ?_) (fun hc26 => ?_)
        ·skip
         refine W.rg (SL.an rfl rfl (SL.an rfl rfl (SL.an rfl rfl (E.fo (W.ret (E.thr ?_))))))
         refine E.nilsl 6 1 rfl ?_
         refine E.fin (rs := [_, _, _]) (rn []) (.inl rfl) rfl (.cons (ResOne.tmp rfl) (.cons (ResOne.tmp rfl) (.cons (ResOne.tmp rfl) .nil))) ?_ ?_ rfl (fixL_spec rfl)
         ·skip
          have hcl : bar.any (nmHit (nm0 m atm s)) = true := by assumption
          have hno : ¬ posF n bar atm m s := fun q => by rw [hit_eq hml hb, q.2] at hcl; cases hcl
          rw [← hs, apN_n hno, apG_n hno, dec_f hno]; rfl
         · exact SubS.nil
        refine W.skip (E.to (W.rg (SL.an rfl rfl (E.fo (W.seq (W.rg ?_))))))
        have hcl : bar.any (nmHit (nm0 m atm s)) = false := by first | assumption | simp_all
        have hL : ∀ p ∈ gL lk m atm s, p.length ≤ 1000 := fun p hp => by rcases List.mem_append.1 hp with z | z <;> (have := (partsN_units z).2.1; omega)
        refine SL.val (O.ldN (m := 2) (PtI.ref rfl rfl) (js := [_, _]) rfl (Nat.le_of_ble_eq_true rfl) Try.underlying116 rfl (by kernel_rfl) rfl Taken.no) ?_
        refine SL.mv rfl rfl (E.fo (W.block ?_))
        refine W.unroll ?_
        refine W.rg ?_
        refine SL.val (O.det (fun _ => G.R.mv (G.R.lss rfl rfl) (congrArg Value.bool (decide_eq_true (by decide)))) rfl Taken.no) ?_
        refine E.fo (W.seq ?_)
        refine W.cond_t rfl ?_
        refine W.skip (E.to (W.seq (W.block (W.rg ?_))))
        refine SL.val (O.idxval (i := 0) rfl rfl (by rfl) (by decide) (by rfl) Try.underlying116 (by kernel_rfl) Try.underlying32 rfl rfl Taken.no) ?_
        refine SL.an rfl rfl (E.fo (W.rg (SL.mv rfl rfl (SL.mv rfl rfl ?_))))
        refine SL.val (O.nilCheck rfl rfl rfl Taken.no) ?_
        refine SL.val (O.fld_fz rfl Try.underlying90 rfl (m := 0) (by kernel_rfl) rfl rfl Taken.no) ?_
        refine SL.val (O.ld1 (PtI.ofU (PtU.fz rfl)) rfl Try.underlying88 rfl rfl Taken.no) ?_
        refine SL.val (O.callp rfl rfl rfl (parts_h (n := n) (us := (g0L m atm s)) (by omega) hgb.2.1) (.cons (ArgOk.same rfl) (.cons (ArgOk.same rfl) .nil)) hcallOk76 rfl Taken.no) ?_
        refine SL.val (O.lenE (SlOf.fz rfl (by decide)) (by first | exact List.length_map _ | rfl) Try.underlying68 rfl Taken.no) ?_
        refine SL.mv rfl rfl (E.fo ?_)
        refine W.pick (K:=[(0,_),(6,_),(7,_),(8,_),(11,_),(16,_),(19,_),(21,_),(187,_),(188,_),(189,_),(190,_),(191,_),(192,_),(193,_),(194,_),(195,_),(196,_),(197,_),(198,_)]) (Z:=[(101,_),(120,_),(121,_),(124,_),(125,_)]) ⟨rfl,rfl,rfl,rfl,rfl,rfl,rfl,rfl,rfl,rfl,rfl,rfl,rfl,rfl,rfl,rfl,rfl,rfl,rfl,rfl,trivial⟩ ⟨rfl,rfl,rfl,rfl,rfl,trivial⟩ ?_
        refine W.block ?_
        refine W.loopx1 (fun (p : Nat) => [(198, vI (p : Int)), (19, vI (sumV wt ((partsL lk (g0L m atm s)).take p)))]) (fun (p : Nat) => [(126, .data 3 1 ((nameF (fun x : Nat => (x : Int)) (nm0 m atm s) ((partsL lk (g0L m atm s)).take p)).map eI)), (124, .cells 32 [.own 126])]) (fun (p : Nat) => p ≤ (partsL lk (g0L m atm s)).length) (fun (p : Nat) => (partsL lk (g0L m atm s)).length - p) (0) (rn [(126, 125)]) (.cons (t := 0) rfl (.cons (t := 6) rfl (.cons (t := 7) rfl (.cons (t := 8) rfl (.cons (t := 11) rfl (.cons (t := 16) rfl (.cons (t := 21) rfl (.cons (t := 187) rfl (.cons (t := 188) rfl (.cons (t := 189) rfl (.cons (t := 190) rfl (.cons (t := 191) rfl (.cons (t := 192) rfl (.cons (t := 193) rfl (.cons (t := 194) rfl (.cons (t := 195) rfl (.cons (t := 196) rfl (.cons (t := 197) rfl .nil)))))))))))))))))) (.cons (t := 101) rfl (.cons (t := 120) rfl (.cons (t := 121) rfl .nil))) rfl ?_ ?_ rfl rfl ?_ ?_
        · exact (SubF.cons rfl (SubF.val rfl (by exact iv_int rfl) SubF.nil))
        · exact (SubS.val rfl (by exact sb_data (by rw [List.take_zero]; rfl)) (SubS.cons rfl SubS.nil))
        ·skip
         omega
        intro p hinv
        have hp := hinv
        have hpl : ((partsL lk (g0L m atm s)).take p).length ≤ 400 := by (try rw [List.length_append]); rw [List.length_take]; omega
        have hvb := sumV_b2 hw (L := ((partsL lk (g0L m atm s)).take p)) (fun p hp => hL p (List.mem_append_left _ (List.mem_of_mem_take hp)))
        refine W.rg ?_
        refine SL.val (O.det (fun _ => G.R.lss rfl rfl) rfl Taken.no) ?_
        refine E.fo (W.seq ?_)
        first | refine W.cond_d rfl (fun hc27 => ?_) (fun hc27 => ?_) | refine W.cond_nd rfl (fun hc27 => ?_) (fun hc27 => ?_) | refine W.cond rfl (fun hc27 => ?_) (fun hc27 => ?_)
        ·skip
         have hpu := partsN_units (mem_at (l := (partsL lk (g0L m atm s))) (i := p) (by omega))
         have hvp := valF_b hw (l := ((partsL lk (g0L m atm s))[p]!)) (by omega)
         refine W.skip (E.to (W.seq (W.block (W.rg ?_))))
         refine SL.val (O.idx_fz (i := p) rfl rfl (rfl) (row_get (by omega)) Try.underlying68 hi32 hs32 rfl Taken.no) ?_
         refine SL.val (O.ld1 (PtI.ofU (PtU.fz rfl)) rfl Try.underlying32 rfl rfl Taken.no) ?_
         refine SL.an rfl rfl (E.fo (W.rg (SL.mv rfl rfl (SL.mv rfl rfl (SL.mv rfl rfl ?_)))))
         refine SL.val (O.callp rfl rfl rfl (value_h (l := ((partsL lk (g0L m atm s))[p]!)) hw (by omega) (fun u hu => hgb.2.1 u (hpu.2.2 u hu))) (.cons (ArgOk.same rfl) (.cons (ArgOk.same rfl) .nil)) hcallOk57 rfl Taken.no) ?_
         refine SL.val (O.det (fun _ => by first | exact G.R.add64 rfl rfl (by omega) | exact G.R.add rfl rfl) rfl Taken.no) ?_
         refine SL.an rfl rfl (E.fo ?_)
         refine W.pick (K:=[(0,_),(6,_),(7,_),(8,_),(11,_),(16,_),(19,_),(21,_),(23,_),(187,_),(188,_),(189,_),(190,_),(191,_),(192,_),(193,_),(194,_),(195,_),(196,_),(197,_),(198,_),(199,_),(200,_),(201,_),(202,_),(203,_),(204,_),(205,_),(206,_)]) (Z:=[(101,_),(120,_),(121,_),(124,_),(126,_)]) ⟨rfl,rfl,rfl,rfl,rfl,rfl,rfl,rfl,rfl,rfl,rfl,rfl,rfl,rfl,rfl,rfl,rfl,rfl,rfl,rfl,rfl,rfl,rfl,rfl,rfl,rfl,rfl,rfl,rfl,trivial⟩ ⟨rfl,rfl,rfl,rfl,rfl,trivial⟩ ?_
         refine W.rg (SL.mv rfl rfl ?_)
         refine SL.val (O.lenE (SlOf.fz rfl (by decide)) (by first | exact List.length_map _ | rfl) Try.underlying32 rfl Taken.no) ?_
         refine SL.mv rfl rfl (E.fo ?_)
         refine W.pick (K:=[(0,_),(6,_),(7,_),(8,_),(11,_),(16,_),(19,_),(21,_),(23,_),(187,_),(188,_),(189,_),(190,_),(191,_),(192,_),(193,_),(194,_),(195,_),(196,_),(197,_),(198,_),(199,_),(200,_),(201,_),(202,_),(203,_),(204,_),(205,_),(206,_),(207,_),(208,_),(209,_)]) (Z:=[(101,_),(120,_),(121,_),(124,_),(126,_)]) ⟨rfl,rfl,rfl,rfl,rfl,rfl,rfl,rfl,rfl,rfl,rfl,rfl,rfl,rfl,rfl,rfl,rfl,rfl,rfl,rfl,rfl,rfl,rfl,rfl,rfl,rfl,rfl,rfl,rfl,rfl,rfl,rfl,trivial⟩ ⟨rfl,rfl,rfl,rfl,rfl,trivial⟩ ?_
         refine W.block ?_
         refine W.loopx1 (fun (j : Nat) => [(209, vI (j : Int))]) (fun (j : Nat) => [(127, .data 3 1 ((setAll (nameF (fun x : Nat => (x : Int)) (nm0 m atm s) ((partsL lk (g0L m atm s)).take p)) (((partsL lk (g0L m atm s))[p]!).take j) ((minL ((partsL lk (g0L m atm s))[p]!) : Nat) : Int)).map eI)), (124, .cells 32 [.own 127])]) (fun (j : Nat) => j ≤ ((partsL lk (g0L m atm s))[p]!).length) (fun (j : Nat) => ((partsL lk (g0L m atm s))[p]!).length - j) (0) (rn [(127, 126)]) (.cons (t := 0) rfl (.cons (t := 6) rfl (.cons (t := 7) rfl (.cons (t := 8) rfl (.cons (t := 11) rfl (.cons (t := 16) rfl (.cons (t := 19) rfl (.cons (t := 21) rfl (.cons (t := 23) rfl (.cons (t := 187) rfl (.cons (t := 188) rfl (.cons (t := 189) rfl (.cons (t := 190) rfl (.cons (t := 191) rfl (.cons (t := 192) rfl (.cons (t := 193) rfl (.cons (t := 194) rfl (.cons (t := 195) rfl (.cons (t := 196) rfl (.cons (t := 197) rfl (.cons (t := 198) rfl (.cons (t := 199) rfl (.cons (t := 200) rfl (.cons (t := 201) rfl (.cons (t := 202) rfl (.cons (t := 203) rfl (.cons (t := 204) rfl (.cons (t := 205) rfl (.cons (t := 206) rfl (.cons (t := 207) rfl (.cons (t := 208) rfl .nil))))))))))))))))))))))))))))))) (.cons (t := 101) rfl (.cons (t := 120) rfl (.cons (t := 121) rfl .nil))) rfl ?_ ?_ rfl rfl ?_ ?_
         · exact (SubF.cons rfl SubF.nil)
         · exact (SubS.val rfl (by exact sb_data (by rw [List.take_zero]; rfl)) (SubS.cons rfl SubS.nil))
         ·skip
          omega
         intro j hinv
         have hj := hinv
         have hnl : (setAll (nameF (fun x : Nat => (x : Int)) (nm0 m atm s) ((partsL lk (g0L m atm s)).take p)) (((partsL lk (g0L m atm s))[p]!).take j) ((minL ((partsL lk (g0L m atm s))[p]!) : Nat) : Int)).length = n := by rw [setAll_len, nameF_len, nm0_len]; exact hml
         refine W.rg ?_
         refine SL.val (O.det (fun _ => G.R.lss rfl rfl) rfl Taken.no) ?_
         refine E.fo ?_
         refine W.pick (K:=[(0,_),(6,_),(7,_),(8,_),(11,_),(16,_),(19,_),(21,_),(23,_),(187,_),(188,_),(189,_),(190,_),(191,_),(192,_),(193,_),(194,_),(195,_),(196,_),(197,_),(198,_),(199,_),(200,_),(201,_),(202,_),(203,_),(204,_),(205,_),(206,_),(207,_),(208,_),(209,_),(210,_)]) (Z:=[(101,_),(120,_),(121,_),(124,_),(127,_)]) ⟨rfl,rfl,rfl,rfl,rfl,rfl,rfl,rfl,rfl,rfl,rfl,rfl,rfl,rfl,rfl,rfl,rfl,rfl,rfl,rfl,rfl,rfl,rfl,rfl,rfl,rfl,rfl,rfl,rfl,rfl,rfl,rfl,rfl,trivial⟩ ⟨rfl,rfl,rfl,rfl,rfl,trivial⟩ ?_
         refine W.seq ?_
         first | refine W.cond_d rfl (fun hc28 => ?_) (fun hc28 => ?_) | refine W.cond_nd rfl (fun hc28 => ?_) (fun hc28 => ?_) | refine W.cond rfl (fun hc28 => ?_) (fun hc28 => ?_)
         ·skip
          have hun := hgb.2.1 _ (hpu.2.2 ((partsL lk (g0L m atm s))[p]!)[j]! (mem_at (by omega)))
          refine W.skip (E.to ?_)
          refine W.pick (K:=[(0,_),(6,_),(7,_),(8,_),(11,_),(16,_),(19,_),(21,_),(23,_),(187,_),(188,_),(189,_),(190,_),(191,_),(192,_),(193,_),(194,_),(195,_),(196,_),(197,_),(198,_),(199,_),(200,_),(201,_),(202,_),(203,_),(204,_),(205,_),(206,_),(207,_),(208,_),(209,_),(210,_)]) (Z:=[(101,_),(120,_),(121,_),(124,_),(127,_)]) ⟨rfl,rfl,rfl,rfl,rfl,rfl,rfl,rfl,rfl,rfl,rfl,rfl,rfl,rfl,rfl,rfl,rfl,rfl,rfl,rfl,rfl,rfl,rfl,rfl,rfl,rfl,rfl,rfl,rfl,rfl,rfl,rfl,rfl,trivial⟩ ⟨rfl,rfl,rfl,rfl,rfl,trivial⟩ ?_
          refine W.seq (W.block (W.rg ?_))
          refine SL.val (O.idx_fz (i := j) rfl rfl (rfl) (row_get (by omega)) Try.underlying32 hi3 hs3 rfl Taken.no) ?_
          refine SL.val (O.ld1 (PtI.ofU (PtU.fz rfl)) rfl Try.underlying3 rfl rfl Taken.no) ?_
          refine SL.an rfl rfl (E.fo ?_)
          refine W.pick (K:=[(0,_),(6,_),(7,_),(8,_),(11,_),(16,_),(19,_),(21,_),(23,_),(25,_),(187,_),(188,_),(189,_),(190,_),(191,_),(192,_),(193,_),(194,_),(195,_),(196,_),(197,_),(198,_),(199,_),(200,_),(201,_),(202,_),(203,_),(204,_),(205,_),(206,_),(207,_),(208,_),(209,_),(210,_),(211,_),(212,_)]) (Z:=[(101,_),(120,_),(121,_),(124,_),(127,_)]) ⟨rfl,rfl,rfl,rfl,rfl,rfl,rfl,rfl,rfl,rfl,rfl,rfl,rfl,rfl,rfl,rfl,rfl,rfl,rfl,rfl,rfl,rfl,rfl,rfl,rfl,rfl,rfl,rfl,rfl,rfl,rfl,rfl,rfl,rfl,rfl,rfl,trivial⟩ ⟨rfl,rfl,rfl,rfl,rfl,trivial⟩ ?_
          refine W.draw [⟨[124], [], [], [127]⟩, ⟨[], [], [], []⟩, ⟨[], [], [], []⟩, ⟨[], [], [], []⟩, ⟨[127], [], [], []⟩, ⟨[127], [127], [], []⟩] rfl (by kernel_rfl) (by kernel_rfl) rfl rfl ?_
          refine WH.val (O.ld1 (PtI.ref rfl rfl) rfl Try.underlying32 rfl rfl Taken.no) rfl rfl ?_
          refine WH.mv rfl rfl rfl (WH.mv rfl rfl rfl ?_)
          refine WH.val (O.callp rfl rfl rfl (min_h (l := ((partsL lk (g0L m atm s))[p]!)) (by omega)) (.cons (ArgOk.same rfl) .nil) hcallOk87 rfl Taken.no) rfl rfl ?_
          refine WH.val (O.idx_own (i := (((partsL lk (g0L m atm s))[p]!)[j]!)) rfl rfl rfl (rfl) (by rw [List.length_map]; omega) Try.underlying32 hi3 hs3 rfl Taken.no) rfl rfl ?_
          refine WH.effS (O.st_els (m := 1) rfl rfl rfl (us := [_]) rfl rfl (by kernel_rfl) (by simp) (row_get (by omega)) (by exact Nat.le_of_ble_eq_true rfl) rfl rfl (rows' := ((setAll (nameF (fun x : Nat => (x : Int)) (nm0 m atm s) ((partsL lk (g0L m atm s)).take p)) (((partsL lk (g0L m atm s))[p]!).take j) ((minL ((partsL lk (g0L m atm s))[p]!) : Nat) : Int)).set (((partsL lk (g0L m atm s))[p]!)[j]!) ((minL ((partsL lk (g0L m atm s))[p]!) : Nat) : Int)).map eI) (by exact set_map rfl) Taken.no) rfl rfl rfl (S' := (127, _) :: _) rfl ?_
          refine WH.nil (E.inn (E.to ?_))
          refine W.pick (K:=[(0,_),(6,_),(7,_),(8,_),(11,_),(16,_),(19,_),(21,_),(23,_),(25,_),(187,_),(188,_),(189,_),(190,_),(191,_),(192,_),(193,_),(194,_),(195,_),(196,_),(197,_),(198,_),(199,_),(200,_),(201,_),(202,_),(203,_),(204,_),(205,_),(206,_),(207,_),(208,_),(209,_),(210,_),(211,_),(212,_),(213,_),(214,_),(215,_),(216,_),(217,_)]) (Z:=[(101,_),(120,_),(121,_),(124,_),(127,_)]) ⟨rfl,rfl,rfl,rfl,rfl,rfl,rfl,rfl,rfl,rfl,rfl,rfl,rfl,rfl,rfl,rfl,rfl,rfl,rfl,rfl,rfl,rfl,rfl,rfl,rfl,rfl,rfl,rfl,rfl,rfl,rfl,rfl,rfl,rfl,rfl,rfl,rfl,rfl,rfl,rfl,rfl,trivial⟩ ⟨rfl,rfl,rfl,rfl,rfl,trivial⟩ ?_
          refine W.region ?_
          refine SL.val (O.det (fun _ => by first | exact G.R.add64 rfl rfl (by omega) | exact G.R.add rfl rfl) rfl Taken.no) ?_
          refine SL.mv rfl rfl (SL.nil ?_)
          refine E.again ((j + 1)) (rn []) ?_ ?_ rfl (fixL_spec rfl) ?_ ?_
          · exact (SubF.cons rfl (SubF.cons rfl (SubF.cons rfl (SubF.cons rfl (SubF.cons rfl (SubF.cons rfl (SubF.cons rfl (SubF.cons rfl (SubF.cons rfl (SubF.cons rfl (SubF.cons rfl (SubF.cons rfl (SubF.cons rfl (SubF.cons rfl (SubF.cons rfl (SubF.cons rfl (SubF.cons rfl (SubF.cons rfl (SubF.cons rfl (SubF.cons rfl (SubF.cons rfl (SubF.cons rfl (SubF.cons rfl (SubF.cons rfl (SubF.cons rfl (SubF.cons rfl (SubF.cons rfl (SubF.cons rfl (SubF.cons rfl (SubF.cons rfl (SubF.cons rfl (SubF.cons rfl SubF.nil))))))))))))))))))))))))))))))))
          · exact (SubS.val rfl (by (try dsimp only); exact sb_data (by rw [setAll_sG (by omega)])) (SubS.cons rfl (SubS.cons rfl (SubS.cons rfl (SubS.cons rfl SubS.nil)))))
          ·try dsimp only
           omega
          · (try dsimp only); omega
         refine W.exit (E.th (E.th (E.hit (E.inn (E.to ?_)))))
         refine W.pick (K:=[(0,_),(6,_),(7,_),(8,_),(11,_),(16,_),(19,_),(21,_),(23,_),(187,_),(188,_),(189,_),(190,_),(191,_),(192,_),(193,_),(194,_),(195,_),(196,_),(197,_),(198,_),(199,_),(200,_),(201,_),(202,_),(203,_),(204,_),(205,_),(206,_),(207,_),(208,_),(209,_),(210,_)]) (Z:=[(101,_),(120,_),(121,_),(124,_),(127,_)]) ⟨rfl,rfl,rfl,rfl,rfl,rfl,rfl,rfl,rfl,rfl,rfl,rfl,rfl,rfl,rfl,rfl,rfl,rfl,rfl,rfl,rfl,rfl,rfl,rfl,rfl,rfl,rfl,rfl,rfl,rfl,rfl,rfl,rfl,trivial⟩ ⟨rfl,rfl,rfl,rfl,rfl,trivial⟩ ?_
         refine W.region ?_
         refine SL.val (O.det (fun _ => by first | exact G.R.add64 rfl rfl (by omega) | exact G.R.add rfl rfl) rfl Taken.no) ?_
         refine SL.mv rfl rfl (SL.nil ?_)
         refine E.again ((p + 1)) (rn [(126, 127)]) ?_ ?_ rfl (fixL_spec rfl) ?_ ?_
         · exact (SubF.cons rfl (SubF.val rfl (by (try dsimp only); exact iv_int (by rw [snocP (l := (partsL lk (g0L m atm s))) (by omega), sumV_snoc])) (SubF.cons rfl (SubF.cons rfl (SubF.cons rfl (SubF.cons rfl (SubF.cons rfl (SubF.cons rfl (SubF.cons rfl (SubF.cons rfl (SubF.cons rfl (SubF.cons rfl (SubF.cons rfl (SubF.cons rfl (SubF.cons rfl (SubF.cons rfl (SubF.cons rfl (SubF.cons rfl (SubF.cons rfl (SubF.cons rfl SubF.nil))))))))))))))))))))
         · exact (SubS.val rfl (by (try dsimp only); exact sb_data (by rw [snocP (l := (partsL lk (g0L m atm s))) (by omega), nameF_snoc, show j = ((partsL lk (g0L m atm s))[p]!).length by omega, List.take_length])) (SubS.cons rfl (SubS.cons rfl (SubS.cons rfl (SubS.cons rfl SubS.nil)))))
         ·try dsimp only
          omega
         · (try dsimp only); omega
        refine W.exit (E.th (E.th (E.hit (E.inn (E.to (W.region ?_))))))
        refine SL.val (O.det (fun _ => by first | exact G.R.add64 rfl rfl (by omega) | exact G.R.add rfl rfl) rfl Taken.no) ?_
        refine SL.mv rfl rfl (SL.nil ?_)
        refine E.reround ?_
        refine W.pick (K:=[(0,_),(6,_),(7,_),(8,_),(11,_),(16,_),(19,_),(21,_),(187,_),(188,_),(189,_),(190,_),(191,_),(192,_),(193,_),(194,_),(195,_),(196,_),(197,_),(198,_),(199,_),(220,_)]) (Z:=[(101,_),(120,_),(121,_),(124,_),(126,_)]) ⟨rfl,rfl,rfl,rfl,rfl,rfl,rfl,rfl,rfl,rfl,rfl,rfl,rfl,rfl,rfl,rfl,rfl,rfl,rfl,rfl,rfl,rfl,trivial⟩ ⟨rfl,rfl,rfl,rfl,rfl,trivial⟩ ?_
        refine W.rg ?_
        refine SL.val (O.det (fun _ => G.R.mv (G.R.lss rfl rfl) (congrArg Value.bool (decide_eq_true (by decide)))) rfl Taken.no) ?_
        refine E.fo (W.seq ?_)
        refine W.cond_t rfl ?_
        refine W.skip (E.to (W.seq (W.block (W.rg ?_))))
        refine SL.val (O.idxval (i := 1) rfl rfl (by rfl) (by decide) (by rfl) Try.underlying116 (by kernel_rfl) Try.underlying32 rfl rfl Taken.no) ?_
        refine SL.an rfl rfl ?_
        refine SL.as (i' := vL 1 ((g1L m atm s).map eN)) 21 rfl (by (rw [← hg1]; try rfl)) ?_
        refine E.fo ?_
        refine W.pick (K:=[(0,_),(6,_),(7,_),(8,_),(11,_),(16,_),(19,_),(21,_),(187,_),(188,_),(189,_),(190,_),(191,_),(192,_),(193,_),(194,_),(195,_),(196,_),(197,_),(198,_),(199,_),(220,_)]) (Z:=[(101,_),(120,_),(121,_),(124,_),(126,_)]) ⟨rfl,rfl,rfl,rfl,rfl,rfl,rfl,rfl,rfl,rfl,rfl,rfl,rfl,rfl,rfl,rfl,rfl,rfl,rfl,rfl,rfl,rfl,trivial⟩ ⟨rfl,rfl,rfl,rfl,rfl,trivial⟩ ?_
        refine W.rg (SL.mv rfl rfl (SL.mv rfl rfl ?_))
        refine SL.val (O.nilCheck rfl rfl rfl Taken.no) ?_
        refine SL.val (O.fld_fz rfl Try.underlying90 rfl (m := 0) (by kernel_rfl) rfl rfl Taken.no) ?_
        refine SL.val (O.ld1 (PtI.ofU (PtU.fz rfl)) rfl Try.underlying88 rfl rfl Taken.no) ?_
        refine SL.val (O.callp rfl rfl rfl (parts_h (n := n) (us := (g1L m atm s)) (by omega) hgb.2.2) (.cons (ArgOk.same rfl) (.cons (ArgOk.same rfl) .nil)) hcallOk76 rfl Taken.no) ?_
        refine SL.val (O.lenE (SlOf.fz rfl (by decide)) (by first | exact List.length_map _ | rfl) Try.underlying68 rfl Taken.no) ?_
        refine SL.mv rfl rfl (E.fo ?_)
        refine W.pick (K:=[(0,_),(6,_),(7,_),(8,_),(11,_),(16,_),(19,_),(21,_),(187,_),(188,_),(189,_),(190,_),(191,_),(192,_),(193,_),(194,_),(195,_),(196,_),(197,_),(198,_),(199,_),(220,_)]) (Z:=[(101,_),(120,_),(121,_),(124,_),(126,_)]) ⟨rfl,rfl,rfl,rfl,rfl,rfl,rfl,rfl,rfl,rfl,rfl,rfl,rfl,rfl,rfl,rfl,rfl,rfl,rfl,rfl,rfl,rfl,trivial⟩ ⟨rfl,rfl,rfl,rfl,rfl,trivial⟩ ?_
        refine W.block ?_
        refine W.loopx1 (fun (q : Nat) => [(198, vI (q : Int)), (19, vI (sumV wt ((partsL lk (g0L m atm s)) ++ (partsL lk (g1L m atm s)).take q)))]) (fun (q : Nat) => [(128, .data 3 1 ((nameF (fun x : Nat => (x : Int)) (nm0 m atm s) ((partsL lk (g0L m atm s)) ++ (partsL lk (g1L m atm s)).take q)).map eI)), (124, .cells 32 [.own 128])]) (fun (q : Nat) => q ≤ (partsL lk (g1L m atm s)).length) (fun (q : Nat) => (partsL lk (g1L m atm s)).length - q) (0) (rn [(128, 126)]) (.cons (t := 0) rfl (.cons (t := 6) rfl (.cons (t := 7) rfl (.cons (t := 8) rfl (.cons (t := 11) rfl (.cons (t := 16) rfl (.cons (t := 21) rfl (.cons (t := 187) rfl (.cons (t := 188) rfl (.cons (t := 189) rfl (.cons (t := 190) rfl (.cons (t := 191) rfl (.cons (t := 192) rfl (.cons (t := 193) rfl (.cons (t := 194) rfl (.cons (t := 195) rfl (.cons (t := 196) rfl (.cons (t := 197) rfl (.cons (t := 220) rfl .nil))))))))))))))))))) (.cons (t := 101) rfl (.cons (t := 120) rfl (.cons (t := 121) rfl .nil))) rfl ?_ ?_ rfl rfl ?_ ?_
        · exact (SubF.cons rfl (SubF.val rfl (by exact iv_int (by rw [List.take_zero, List.append_nil, show p = (partsL lk (g0L m atm s)).length by omega, List.take_length])) SubF.nil))
        · exact (SubS.val rfl (by exact sb_data (by rw [List.take_zero, List.append_nil, show p = (partsL lk (g0L m atm s)).length by omega, List.take_length])) (SubS.cons rfl SubS.nil))
        ·skip
         omega
        intro q hinv
        have hq := hinv
        have hpl : ((partsL lk (g0L m atm s)) ++ (partsL lk (g1L m atm s)).take q).length ≤ 400 := by (try rw [List.length_append]); rw [List.length_take]; omega
        have hvb := sumV_b2 hw (L := ((partsL lk (g0L m atm s)) ++ (partsL lk (g1L m atm s)).take q)) (fun p hp => hL p ((List.mem_append.1 hp).elim (fun z => List.mem_append_left _ z) fun z => List.mem_append_right _ (List.mem_of_mem_take z)))
        refine W.rg ?_
        refine SL.val (O.det (fun _ => G.R.lss rfl rfl) rfl Taken.no) ?_
        refine E.fo (W.seq ?_)
        first | refine W.cond_d rfl (fun hc29 => ?_) (fun hc29 => ?_) | refine W.cond_nd rfl (fun hc29 => ?_) (fun hc29 => ?_) | refine W.cond rfl (fun hc29 => ?_) (fun hc29 => ?_)
        ·skip
         have hpu := partsN_units (mem_at (l := (partsL lk (g1L m atm s))) (i := q) (by omega))
         have hvp := valF_b hw (l := ((partsL lk (g1L m atm s))[q]!)) (by omega)
         refine W.skip (E.to (W.seq (W.block (W.rg ?_))))
         refine SL.val (O.idx_fz (i := q) rfl rfl (rfl) (row_get (by omega)) Try.underlying68 hi32 hs32 rfl Taken.no) ?_
         refine SL.val (O.ld1 (PtI.ofU (PtU.fz rfl)) rfl Try.underlying32 rfl rfl Taken.no) ?_
         refine SL.an rfl rfl (E.fo ?_)
         refine W.pick (K:=[(0,_),(6,_),(7,_),(8,_),(11,_),(16,_),(19,_),(21,_),(23,_),(187,_),(188,_),(189,_),(190,_),(191,_),(192,_),(193,_),(194,_),(195,_),(196,_),(197,_),(198,_),(199,_),(200,_),(201,_),(220,_)]) (Z:=[(101,_),(120,_),(121,_),(124,_),(128,_)]) ⟨rfl,rfl,rfl,rfl,rfl,rfl,rfl,rfl,rfl,rfl,rfl,rfl,rfl,rfl,rfl,rfl,rfl,rfl,rfl,rfl,rfl,rfl,rfl,rfl,rfl,trivial⟩ ⟨rfl,rfl,rfl,rfl,rfl,trivial⟩ ?_
         refine W.rg (SL.mv rfl rfl (SL.mv rfl rfl (SL.mv rfl rfl ?_)))
         refine SL.val (O.callp rfl rfl rfl (value_h (l := ((partsL lk (g1L m atm s))[q]!)) hw (by omega) (fun u hu => hgb.2.2 u (hpu.2.2 u hu))) (.cons (ArgOk.same rfl) (.cons (ArgOk.same rfl) .nil)) hcallOk57 rfl Taken.no) ?_
         refine SL.val (O.det (fun _ => by first | exact G.R.add64 rfl rfl (by omega) | exact G.R.add rfl rfl) rfl Taken.no) ?_
         refine SL.an rfl rfl (E.fo ?_)
         refine W.pick (K:=[(0,_),(6,_),(7,_),(8,_),(11,_),(16,_),(19,_),(21,_),(23,_),(187,_),(188,_),(189,_),(190,_),(191,_),(192,_),(193,_),(194,_),(195,_),(196,_),(197,_),(198,_),(199,_),(200,_),(201,_),(202,_),(203,_),(204,_),(205,_),(206,_),(220,_)]) (Z:=[(101,_),(120,_),(121,_),(124,_),(128,_)]) ⟨rfl,rfl,rfl,rfl,rfl,rfl,rfl,rfl,rfl,rfl,rfl,rfl,rfl,rfl,rfl,rfl,rfl,rfl,rfl,rfl,rfl,rfl,rfl,rfl,rfl,rfl,rfl,rfl,rfl,rfl,trivial⟩ ⟨rfl,rfl,rfl,rfl,rfl,trivial⟩ ?_
         refine W.rg (SL.mv rfl rfl ?_)
         refine SL.val (O.lenE (SlOf.fz rfl (by decide)) (by first | exact List.length_map _ | rfl) Try.underlying32 rfl Taken.no) ?_
         refine SL.mv rfl rfl (E.fo ?_)
         refine W.pick (K:=[(0,_),(6,_),(7,_),(8,_),(11,_),(16,_),(19,_),(21,_),(23,_),(187,_),(188,_),(189,_),(190,_),(191,_),(192,_),(193,_),(194,_),(195,_),(196,_),(197,_),(198,_),(199,_),(200,_),(201,_),(202,_),(203,_),(204,_),(205,_),(206,_),(207,_),(208,_),(209,_),(220,_)]) (Z:=[(101,_),(120,_),(121,_),(124,_),(128,_)]) ⟨rfl,rfl,rfl,rfl,rfl,rfl,rfl,rfl,rfl,rfl,rfl,rfl,rfl,rfl,rfl,rfl,rfl,rfl,rfl,rfl,rfl,rfl,rfl,rfl,rfl,rfl,rfl,rfl,rfl,rfl,rfl,rfl,rfl,trivial⟩ ⟨rfl,rfl,rfl,rfl,rfl,trivial⟩ ?_
         refine W.block ?_
         refine W.loopx1 (fun (j : Nat) => [(209, vI (j : Int))]) (fun (j : Nat) => [(129, .data 3 1 ((setAll (nameF (fun x : Nat => (x : Int)) (nm0 m atm s) ((partsL lk (g0L m atm s)) ++ (partsL lk (g1L m atm s)).take q)) (((partsL lk (g1L m atm s))[q]!).take j) ((minL ((partsL lk (g1L m atm s))[q]!) : Nat) : Int)).map eI)), (124, .cells 32 [.own 129])]) (fun (j : Nat) => j ≤ ((partsL lk (g1L m atm s))[q]!).length) (fun (j : Nat) => ((partsL lk (g1L m atm s))[q]!).length - j) (0) (rn [(129, 128)]) (.cons (t := 0) rfl (.cons (t := 6) rfl (.cons (t := 7) rfl (.cons (t := 8) rfl (.cons (t := 11) rfl (.cons (t := 16) rfl (.cons (t := 19) rfl (.cons (t := 21) rfl (.cons (t := 23) rfl (.cons (t := 187) rfl (.cons (t := 188) rfl (.cons (t := 189) rfl (.cons (t := 190) rfl (.cons (t := 191) rfl (.cons (t := 192) rfl (.cons (t := 193) rfl (.cons (t := 194) rfl (.cons (t := 195) rfl (.cons (t := 196) rfl (.cons (t := 197) rfl (.cons (t := 198) rfl (.cons (t := 199) rfl (.cons (t := 200) rfl (.cons (t := 201) rfl (.cons (t := 202) rfl (.cons (t := 203) rfl (.cons (t := 204) rfl (.cons (t := 205) rfl (.cons (t := 206) rfl (.cons (t := 207) rfl (.cons (t := 208) rfl (.cons (t := 220) rfl .nil)))))))))))))))))))))))))))))))) (.cons (t := 101) rfl (.cons (t := 120) rfl (.cons (t := 121) rfl .nil))) rfl ?_ ?_ rfl rfl ?_ ?_
         · exact (SubF.cons rfl SubF.nil)
         · exact (SubS.val rfl (by exact sb_data (by rw [List.take_zero]; rfl)) (SubS.cons rfl SubS.nil))
         ·skip
          omega
         intro j hinv
         have hj := hinv
         have hnl : (setAll (nameF (fun x : Nat => (x : Int)) (nm0 m atm s) ((partsL lk (g0L m atm s)) ++ (partsL lk (g1L m atm s)).take q)) (((partsL lk (g1L m atm s))[q]!).take j) ((minL ((partsL lk (g1L m atm s))[q]!) : Nat) : Int)).length = n := by rw [setAll_len, nameF_len, nm0_len]; exact hml
         refine W.rg ?_
         refine SL.val (O.det (fun _ => G.R.lss rfl rfl) rfl Taken.no) ?_
         refine E.fo ?_
         refine W.pick (K:=[(0,_),(6,_),(7,_),(8,_),(11,_),(16,_),(19,_),(21,_),(23,_),(187,_),(188,_),(189,_),(190,_),(191,_),(192,_),(193,_),(194,_),(195,_),(196,_),(197,_),(198,_),(199,_),(200,_),(201,_),(202,_),(203,_),(204,_),(205,_),(206,_),(207,_),(208,_),(209,_),(210,_),(220,_)]) (Z:=[(101,_),(120,_),(121,_),(124,_),(129,_)]) ⟨rfl,rfl,rfl,rfl,rfl,rfl,rfl,rfl,rfl,rfl,rfl,rfl,rfl,rfl,rfl,rfl,rfl,rfl,rfl,rfl,rfl,rfl,rfl,rfl,rfl,rfl,rfl,rfl,rfl,rfl,rfl,rfl,rfl,rfl,trivial⟩ ⟨rfl,rfl,rfl,rfl,rfl,trivial⟩ ?_
         refine W.seq ?_
         first | refine W.cond_d rfl (fun hc30 => ?_) (fun hc30 => ?_) | refine W.cond_nd rfl (fun hc30 => ?_) (fun hc30 => ?_) | refine W.cond rfl (fun hc30 => ?_) (fun hc30 => ?_)
         ·skip
          have hun := hgb.2.2 _ (hpu.2.2 ((partsL lk (g1L m atm s))[q]!)[j]! (mem_at (by omega)))
          refine W.skip (E.to ?_)
          refine W.pick (K:=[(0,_),(6,_),(7,_),(8,_),(11,_),(16,_),(19,_),(21,_),(23,_),(187,_),(188,_),(189,_),(190,_),(191,_),(192,_),(193,_),(194,_),(195,_),(196,_),(197,_),(198,_),(199,_),(200,_),(201,_),(202,_),(203,_),(204,_),(205,_),(206,_),(207,_),(208,_),(209,_),(210,_),(220,_)]) (Z:=[(101,_),(120,_),(121,_),(124,_),(129,_)]) ⟨rfl,rfl,rfl,rfl,rfl,rfl,rfl,rfl,rfl,rfl,rfl,rfl,rfl,rfl,rfl,rfl,rfl,rfl,rfl,rfl,rfl,rfl,rfl,rfl,rfl,rfl,rfl,rfl,rfl,rfl,rfl,rfl,rfl,rfl,trivial⟩ ⟨rfl,rfl,rfl,rfl,rfl,trivial⟩ ?_
          refine W.seq (W.block (W.rg ?_))
          refine SL.val (O.idx_fz (i := j) rfl rfl (rfl) (row_get (by omega)) Try.underlying32 hi3 hs3 rfl Taken.no) ?_
          refine SL.val (O.ld1 (PtI.ofU (PtU.fz rfl)) rfl Try.underlying3 rfl rfl Taken.no) ?_
          refine SL.an rfl rfl (E.fo ?_)
          refine W.pick (K:=[(0,_),(6,_),(7,_),(8,_),(11,_),(16,_),(19,_),(21,_),(23,_),(25,_),(187,_),(188,_),(189,_),(190,_),(191,_),(192,_),(193,_),(194,_),(195,_),(196,_),(197,_),(198,_),(199,_),(200,_),(201,_),(202,_),(203,_),(204,_),(205,_),(206,_),(207,_),(208,_),(209,_),(210,_),(211,_),(212,_),(220,_)]) (Z:=[(101,_),(120,_),(121,_),(124,_),(129,_)]) ⟨rfl,rfl,rfl,rfl,rfl,rfl,rfl,rfl,rfl,rfl,rfl,rfl,rfl,rfl,rfl,rfl,rfl,rfl,rfl,rfl,rfl,rfl,rfl,rfl,rfl,rfl,rfl,rfl,rfl,rfl,rfl,rfl,rfl,rfl,rfl,rfl,rfl,trivial⟩ ⟨rfl,rfl,rfl,rfl,rfl,trivial⟩ ?_
          refine W.draw [⟨[124], [], [], [129]⟩, ⟨[], [], [], []⟩, ⟨[], [], [], []⟩, ⟨[], [], [], []⟩, ⟨[129], [], [], []⟩, ⟨[129], [129], [], []⟩] rfl (by kernel_rfl) (by kernel_rfl) rfl rfl ?_
          refine WH.val (O.ld1 (PtI.ref rfl rfl) rfl Try.underlying32 rfl rfl Taken.no) rfl rfl ?_
          refine WH.mv rfl rfl rfl (WH.mv rfl rfl rfl ?_)
          refine WH.val (O.callp rfl rfl rfl (min_h (l := ((partsL lk (g1L m atm s))[q]!)) (by omega)) (.cons (ArgOk.same rfl) .nil) hcallOk87 rfl Taken.no) rfl rfl ?_
          refine WH.val (O.idx_own (i := (((partsL lk (g1L m atm s))[q]!)[j]!)) rfl rfl rfl (rfl) (by rw [List.length_map]; omega) Try.underlying32 hi3 hs3 rfl Taken.no) rfl rfl ?_
          refine WH.effS (O.st_els (m := 1) rfl rfl rfl (us := [_]) rfl rfl (by kernel_rfl) (by simp) (row_get (by omega)) (by exact Nat.le_of_ble_eq_true rfl) rfl rfl (rows' := ((setAll (nameF (fun x : Nat => (x : Int)) (nm0 m atm s) ((partsL lk (g0L m atm s)) ++ (partsL lk (g1L m atm s)).take q)) (((partsL lk (g1L m atm s))[q]!).take j) ((minL ((partsL lk (g1L m atm s))[q]!) : Nat) : Int)).set (((partsL lk (g1L m atm s))[q]!)[j]!) ((minL ((partsL lk (g1L m atm s))[q]!) : Nat) : Int)).map eI) (by exact set_map rfl) Taken.no) rfl rfl rfl (S' := (129, _) :: _) rfl ?_
          refine WH.nil (E.inn (E.to ?_))
          refine W.pick (K:=[(0,_),(6,_),(7,_),(8,_),(11,_),(16,_),(19,_),(21,_),(23,_),(25,_),(187,_),(188,_),(189,_),(190,_),(191,_),(192,_),(193,_),(194,_),(195,_),(196,_),(197,_),(198,_),(199,_),(200,_),(201,_),(202,_),(203,_),(204,_),(205,_),(206,_),(207,_),(208,_),(209,_),(210,_),(211,_),(212,_),(213,_),(214,_),(215,_),(216,_),(217,_),(220,_)]) (Z:=[(101,_),(120,_),(121,_),(124,_),(129,_)]) ⟨rfl,rfl,rfl,rfl,rfl,rfl,rfl,rfl,rfl,rfl,rfl,rfl,rfl,rfl,rfl,rfl,rfl,rfl,rfl,rfl,rfl,rfl,rfl,rfl,rfl,rfl,rfl,rfl,rfl,rfl,rfl,rfl,rfl,rfl,rfl,rfl,rfl,rfl,rfl,rfl,rfl,rfl,trivial⟩ ⟨rfl,rfl,rfl,rfl,rfl,trivial⟩ ?_
          refine W.region ?_
          refine SL.val (O.det (fun _ => by first | exact G.R.add64 rfl rfl (by omega) | exact G.R.add rfl rfl) rfl Taken.no) ?_
          refine SL.mv rfl rfl (SL.nil ?_)
          refine E.again ((j + 1)) (rn []) ?_ ?_ rfl (fixL_spec rfl) ?_ ?_
          · exact (SubF.cons rfl (SubF.cons rfl (SubF.cons rfl (SubF.cons rfl (SubF.cons rfl (SubF.cons rfl (SubF.cons rfl (SubF.cons rfl (SubF.cons rfl (SubF.cons rfl (SubF.cons rfl (SubF.cons rfl (SubF.cons rfl (SubF.cons rfl (SubF.cons rfl (SubF.cons rfl (SubF.cons rfl (SubF.cons rfl (SubF.cons rfl (SubF.cons rfl (SubF.cons rfl (SubF.cons rfl (SubF.cons rfl (SubF.cons rfl (SubF.cons rfl (SubF.cons rfl (SubF.cons rfl (SubF.cons rfl (SubF.cons rfl (SubF.cons rfl (SubF.cons rfl (SubF.cons rfl (SubF.cons rfl SubF.nil)))))))))))))))))))))))))))))))))
          · exact (SubS.val rfl (by (try dsimp only); exact sb_data (by rw [setAll_sG (by omega)])) (SubS.cons rfl (SubS.cons rfl (SubS.cons rfl (SubS.cons rfl SubS.nil)))))
          ·try dsimp only
           omega
          · (try dsimp only); omega
         refine W.exit (E.th (E.th (E.hit (E.inn (E.to ?_)))))
         refine W.pick (K:=[(0,_),(6,_),(7,_),(8,_),(11,_),(16,_),(19,_),(21,_),(23,_),(187,_),(188,_),(189,_),(190,_),(191,_),(192,_),(193,_),(194,_),(195,_),(196,_),(197,_),(198,_),(199,_),(200,_),(201,_),(202,_),(203,_),(204,_),(205,_),(206,_),(207,_),(208,_),(209,_),(210,_),(220,_)]) (Z:=[(101,_),(120,_),(121,_),(124,_),(129,_)]) ⟨rfl,rfl,rfl,rfl,rfl,rfl,rfl,rfl,rfl,rfl,rfl,rfl,rfl,rfl,rfl,rfl,rfl,rfl,rfl,rfl,rfl,rfl,rfl,rfl,rfl,rfl,rfl,rfl,rfl,rfl,rfl,rfl,rfl,rfl,trivial⟩ ⟨rfl,rfl,rfl,rfl,rfl,trivial⟩ ?_
         refine W.region ?_
         refine SL.val (O.det (fun _ => by first | exact G.R.add64 rfl rfl (by omega) | exact G.R.add rfl rfl) rfl Taken.no) ?_
         refine SL.mv rfl rfl (SL.nil ?_)
         refine E.again ((q + 1)) (rn [(128, 129)]) ?_ ?_ rfl (fixL_spec rfl) ?_ ?_
         · exact (SubF.cons rfl (SubF.val rfl (by (try dsimp only); exact iv_int (by rw [snocP (l := (partsL lk (g1L m atm s))) (by omega), ← List.append_assoc, sumV_snoc])) (SubF.cons rfl (SubF.cons rfl (SubF.cons rfl (SubF.cons rfl (SubF.cons rfl (SubF.cons rfl (SubF.cons rfl (SubF.cons rfl (SubF.cons rfl (SubF.cons rfl (SubF.cons rfl (SubF.cons rfl (SubF.cons rfl (SubF.cons rfl (SubF.cons rfl (SubF.cons rfl (SubF.cons rfl (SubF.cons rfl (SubF.cons rfl SubF.nil)))))))))))))))))))))
         · exact (SubS.val rfl (by (try dsimp only); exact sb_data (by rw [snocP (l := (partsL lk (g1L m atm s))) (by omega), ← List.append_assoc, nameF_snoc, show j = ((partsL lk (g1L m atm s))[q]!).length by omega, List.take_length])) (SubS.cons rfl (SubS.cons rfl (SubS.cons rfl (SubS.cons rfl SubS.nil)))))
         ·try dsimp only
          omega
         · (try dsimp only); omega
        refine W.exit (E.th (E.th (E.hit (E.inn (E.to (W.region ?_))))))
        refine SL.val (O.det (fun _ => by first | exact G.R.add64 rfl rfl (by omega) | exact G.R.add rfl rfl) rfl Taken.no) ?_
        refine SL.mv rfl rfl (SL.nil ?_)
        refine E.reround ?_
        refine W.pick (K:=[(0,_),(6,_),(7,_),(8,_),(11,_),(16,_),(19,_),(21,_),(187,_),(188,_),(189,_),(190,_),(191,_),(192,_),(193,_),(194,_),(195,_),(196,_),(197,_),(198,_),(199,_),(220,_)]) (Z:=[(101,_),(120,_),(121,_),(124,_),(128,_)]) ⟨rfl,rfl,rfl,rfl,rfl,rfl,rfl,rfl,rfl,rfl,rfl,rfl,rfl,rfl,rfl,rfl,rfl,rfl,rfl,rfl,rfl,rfl,trivial⟩ ⟨rfl,rfl,rfl,rfl,rfl,trivial⟩ ?_
        refine W.rg ?_
        refine SL.val (O.det (fun _ => G.R.mv (G.R.lss rfl rfl) (congrArg Value.bool (decide_eq_false (by decide)))) rfl Taken.no) ?_
        refine E.fo (W.seq ?_)
        refine W.cond_f rfl ?_
        refine W.exit (E.th (E.th (E.hit (E.to (W.rg ?_)))))
        refine SL.val (O.ld1 (PtI.ref rfl rfl) rfl Try.underlying32 rfl rfl Taken.no) ?_
        refine SL.mv rfl rfl (SL.mv rfl rfl ?_)
        refine SL.val (O.det (fun _ => by first | exact G.R.sub64 rfl rfl (by omega) | exact G.R.sub rfl rfl) rfl Taken.no) ?_
        refine SL.an rfl rfl (SL.an rfl rfl (SL.an rfl rfl (E.fo ?_)))
        refine W.pick (K:=[(6,_),(7,_),(8,_)]) (Z:=[(101,_),(120,_),(121,_),(124,_),(128,_)]) ⟨rfl,rfl,rfl,trivial⟩ ⟨rfl,rfl,rfl,rfl,rfl,trivial⟩ ?_
        refine W.ret ?_
        refine E.freeze 128 rfl (F' := [(6, _)]) (⟨⟨_, rfl, rfl⟩, trivial⟩) ?_
        refine E.fin (rs := [_, _, _]) (rn []) (.inl rfl) rfl (.cons (ResOne.tmp rfl) (.cons (ResOne.tmp rfl) (.cons (ResOne.tmp rfl) .nil))) ?_ ?_ rfl (fixL_spec rfl)
        ·skip
         have hyes : posF n bar atm m s := ⟨hpre, by rw [← hit_eq hml hb]; exact hcl⟩
         rw [← hs, apN_y hyes, apG_y hyes, dec_t hyes, gnF, hfe, hth, show q = (partsL lk (g1L m atm s)).length by omega, List.take_length]; rfl
        · exact SubS.nil
       first | have hg23p := G.gA7 hg23 | have hg23p := G.gA8 hg23 | have hg23p := hg23
       refine WH.sk rfl rfl rfl hg23 (WH.sk rfl rfl rfl hg23 (WH.sk rfl rfl rfl hg23 (WH.sk rfl rfl rfl hg23 (WH.sk rfl rfl rfl hg23 ?_))))
       refine WH.val (O.pick_t rfl (G.ne_f hg23) rfl rfl Taken.no) rfl rfl ?_
       refine WH.nil (E.to ?_)
       refine W.pick (K:=[(0,_),(1,_),(6,_),(7,_),(8,_),(9,_),(10,_),(11,_),(12,_),(116,_)]) (Z:=[(101,_),(119,_),(120,_),(121,_)]) ⟨rfl,rfl,rfl,rfl,rfl,rfl,rfl,rfl,rfl,rfl,trivial⟩ ⟨rfl,rfl,rfl,rfl,trivial⟩ ?_
       refine W.cond_t rfl ?_
       refine W.rg (SL.an rfl rfl (SL.an rfl rfl (SL.an rfl rfl (E.fo (W.ret (E.thr (E.thr ?_)))))))
       refine E.nilsl 6 1 rfl ?_
       refine E.fin (rs := [_, _, _]) (rn []) (.inl rfl) rfl (.cons (ResOne.tmp rfl) (.cons (ResOne.tmp rfl) (.cons (ResOne.tmp rfl) .nil))) ?_ ?_ rfl (fixL_spec rfl)
       ·skip
        first | ((have hno : ¬ posF n bar atm m ⟨true, (f : Int), (t : Int)⟩ := fun q => by ((obtain ⟨⟨⟨q1, q2, q3, q4, q5⟩, q6, q7, q8⟩, q9⟩ := posF_iff.1 q); (try simp only [Int.toNat_natCast] at q6 q7 q8); (have q7 := q7 (by trivial); omega))); rw [apN_n hno, apG_n hno, dec_f hno]; rfl)
       · exact SubS.nil
      obtain rfl : u = false := by simp_all
      refine W.seq (W.seq ?_)
      refine W.draw [⟨[], [], [], []⟩, ⟨[], [], [], []⟩, ⟨[], [], [], []⟩, ⟨[], [], [], []⟩, ⟨[], [], [], [101]⟩, ⟨[101], [], [], []⟩, ⟨[], [], [], []⟩, ⟨[], [], [], []⟩, ⟨[], [], [], [101]⟩, ⟨[101], [], [], []⟩, ⟨[], [], [], []⟩] rfl (by kernel_rfl) (by kernel_rfl) rfl rfl ?_
      refine WH.mv rfl rfl rfl ?_
      refine WH.val (O.nilCheck rfl rfl rfl Taken.no) rfl rfl ?_
      refine WH.val (O.fld_fz rfl Try.underlying90 rfl (m := 0) (by kernel_rfl) rfl rfl Taken.no) rfl rfl ?_
      refine WH.val (O.ld1 (PtI.ofU (PtU.fz rfl)) rfl Try.underlying32 rfl rfl Taken.no) rfl rfl ?_
      refine WH.val (O.fld_ref (o' := 1) rfl Try.underlying57 rfl (m := 0) (by kernel_rfl) rfl rfl Taken.no) rfl rfl ?_
      refine WH.val (O.ld1 (PtI.ref rfl rfl) rfl Try.underlying3 rfl rfl Taken.no) rfl rfl ?_
      refine WH.val (O.idx_fz (i := f) rfl rfl (rfl) (row_get (by omega)) Try.underlying32 hi3 hs3 rfl Taken.no) rfl rfl ?_
      refine WH.val (O.ld1 (PtI.ofU (PtU.fz rfl)) rfl Try.underlying3 rfl rfl Taken.no) rfl rfl ?_
      refine WH.val (O.fld_ref (o' := 1) rfl Try.underlying57 rfl (m := 0) (by kernel_rfl) rfl rfl Taken.no) rfl rfl ?_
      refine WH.val (O.ld1 (PtI.ref rfl rfl) rfl Try.underlying3 rfl rfl Taken.no) rfl rfl ?_
      refine WH.val (O.det (fun _ => G.R.neq rfl rfl) rfl Taken.no) rfl rfl ?_
      refine WH.nil (E.to ?_)
      first | refine W.cond_d rfl (fun hc31 => ?_) (fun hc31 => ?_) | refine W.cond_nd rfl (fun hc31 => ?_) (fun hc31 => ?_) | refine W.cond rfl (fun hc31 => ?_) (fun hc31 => ?_)
      ·skip
       refine W.rg (SL.an rfl rfl (SL.an rfl rfl (SL.an rfl rfl (E.fo ?_))))
       refine W.pick (K:=[(0,_),(1,_),(5,_),(6,_),(7,_),(8,_),(9,_),(10,_),(11,_),(12,_)]) (Z:=[(101,_),(119,_),(120,_),(121,_)]) ⟨rfl,rfl,rfl,rfl,rfl,rfl,rfl,rfl,rfl,rfl,trivial⟩ ⟨rfl,rfl,rfl,rfl,trivial⟩ ?_
       refine W.ret (E.thr (E.thr ?_))
       refine E.nilsl 6 1 rfl ?_
       refine E.fin (rs := [_, _, _]) (rn []) (.inl rfl) rfl (.cons (ResOne.tmp rfl) (.cons (ResOne.tmp rfl) (.cons (ResOne.tmp rfl) .nil))) ?_ ?_ rfl (fixL_spec rfl)
       ·skip
        first | ((have hno : ¬ posF n bar atm m ⟨false, (f : Int), (t : Int)⟩ := fun q => by ((obtain ⟨⟨⟨q1, q2, q3, q4, q5⟩, q6, q7, q8⟩, q9⟩ := posF_iff.1 q); (try simp only [Int.toNat_natCast] at q6 q7 q8); (have q8 := (q8 (by trivial)).1; omega))); rw [apN_n hno, apG_n hno, dec_f hno]; rfl) | ((have hno : ¬ posF n bar atm m ⟨false, (f : Int), -1⟩ := fun q => by ((obtain ⟨⟨⟨q1, q2, q3, q4, q5⟩, q6, q7, q8⟩, q9⟩ := posF_iff.1 q); (try simp only [Int.toNat_natCast] at q6 q7 q8); (have q8 := (q8 (by trivial)).1; omega))); rw [apN_n hno, apG_n hno, dec_f hno]; rfl)
       · exact SubS.nil
      refine W.skip (E.to (W.rg (SL.mv rfl rfl ?_)))
      refine SL.val (O.idx_ref (i := 0) (m := 1) rfl rfl (rfl) (by decide) Try.underlying116 (by kernel_rfl) rfl rfl Taken.no) ?_
      refine SL.effS (O.st_ref (m := 1) rfl rfl rfl (js := [_]) rfl rfl (by kernel_rfl) (by simp) (Nat.le_of_ble_eq_true rfl) rfl (is' := [_, _]) rfl Taken.no) (S' := (121, _) :: _) rfl ?_
      refine E.fo (W.seq (W.rg (SL.mv rfl rfl ?_)))
      refine SL.val (O.lenE (SlOf.own rfl rfl) (by first | exact List.length_map _ | rfl) Try.underlying32 rfl Taken.no) ?_
      refine SL.mv rfl rfl (E.fo ?_)
      refine W.pick (K:=[(0,_),(1,_),(5,_),(6,_),(7,_),(8,_),(11,_),(12,_),(134,_),(135,_),(136,_)]) (Z:=[(101,_),(119,_),(120,_),(121,_)]) ⟨rfl,rfl,rfl,rfl,rfl,rfl,rfl,rfl,rfl,rfl,rfl,trivial⟩ ⟨rfl,rfl,rfl,rfl,trivial⟩ ?_
      refine W.block ?_
      refine W.adoptC 121 1 132 3 1 (is' := [_, _]) (by decide) rfl rfl rfl rfl rfl ?_
      refine W.loopx1 (fun (k : Nat) => [(136, vI (k : Int))]) (fun (k : Nat) => [(130, .data 3 1 (((thereL m (t : Int)) ++ ((unitsL m m[f]!).take k).filter (fun u => decide (atm[u]! = f))).map eN)), (131, .data 3 1 ((((unitsL m m[f]!).take k).filter (fun u => !decide (atm[u]! = f))).map eN)), (121, .cells 116 [.own 130, .own 131])]) (fun (k : Nat) => k ≤ (unitsL m m[f]!).length) (fun (k : Nat) => (unitsL m m[f]!).length - k) (0) (rn [(130, 120), (131, 132)]) (.cons (t := 0) rfl (.cons (t := 1) rfl (.cons (t := 5) rfl (.cons (t := 6) rfl (.cons (t := 7) rfl (.cons (t := 8) rfl (.cons (t := 11) rfl (.cons (t := 12) rfl (.cons (t := 134) rfl (.cons (t := 135) rfl .nil)))))))))) (.cons (t := 101) rfl (.cons (t := 119) rfl .nil)) rfl ?_ ?_ rfl rfl ?_ ?_
      · exact (SubF.cons rfl SubF.nil)
      · exact (SubS.val rfl (by exact sb_data (by rw [List.take_zero, List.filter_nil, List.append_nil, there_nat])) (SubS.val rfl (by exact sb_data (by rw [List.take_zero, List.filter_nil]; rfl)) (SubS.cons rfl SubS.nil)))
      ·skip
       omega
      intro k hinv
      have hk := hinv
      have hf0 := List.length_filter_le (fun u => decide (atm[u]! = f)) ((unitsL m m[f]!).take k)
      have hf1 := List.length_filter_le (fun u => !decide (atm[u]! = f)) ((unitsL m m[f]!).take k)
      rw [List.length_take] at hf0 hf1
      have hthl := there_len m (t : Int)
      refine W.rg ?_
      refine SL.val (O.det (fun _ => G.R.lss rfl rfl) rfl Taken.no) ?_
      refine E.fo (W.seq ?_)
      first | refine W.cond_d rfl (fun hc32 => ?_) (fun hc32 => ?_) | refine W.cond_nd rfl (fun hc32 => ?_) (fun hc32 => ?_) | refine W.cond rfl (fun hc32 => ?_) (fun hc32 => ?_)
      ·skip
       have hHk := hHn (unitsL m m[f]!)[k]! (mem_at (by omega))
       refine W.skip (E.to (W.seq (W.block (W.rg ?_))))
       refine SL.val (O.idx_own (i := k) rfl rfl rfl (rfl) (by rw [List.length_map]; omega) Try.underlying32 hi3 hs3 rfl Taken.no) ?_
       refine SL.val (O.ld1 (PtI.ofU (PtU.el rfl rfl (row_get (by omega)))) rfl Try.underlying3 rfl rfl Taken.no) ?_
       refine SL.an rfl rfl (E.fo (W.rg (SL.an rfl rfl (E.fo (W.seq (W.seq ?_))))))
       refine W.draw [⟨[], [], [], []⟩, ⟨[], [], [], []⟩, ⟨[], [], [], []⟩, ⟨[], [], [], []⟩, ⟨[], [], [], []⟩, ⟨[], [], [], []⟩, ⟨[], [], [], []⟩, ⟨[], [], [], [101]⟩, ⟨[101], [], [], []⟩, ⟨[], [], [], []⟩] rfl (by kernel_rfl) (by kernel_rfl) rfl rfl ?_
       refine WH.mv rfl rfl rfl ?_
       refine WH.val (O.nilCheck rfl rfl rfl Taken.no) rfl rfl ?_
       refine WH.val (O.fld_fz rfl Try.underlying90 rfl (m := 0) (by kernel_rfl) rfl rfl Taken.no) rfl rfl ?_
       refine WH.val (O.ld1 (PtI.ofU (PtU.fz rfl)) rfl Try.underlying32 rfl rfl Taken.no) rfl rfl ?_
       refine WH.mv rfl rfl rfl ?_
       refine WH.val (O.idx_fz (i := ((unitsL m m[f]!)[k]!)) rfl rfl (rfl) (row_get (by omega)) Try.underlying32 hi3 hs3 rfl Taken.no) rfl rfl ?_
       refine WH.val (O.ld1 (PtI.ofU (PtU.fz rfl)) rfl Try.underlying3 rfl rfl Taken.no) rfl rfl ?_
       refine WH.val (O.fld_ref (o' := 1) rfl Try.underlying57 rfl (m := 0) (by kernel_rfl) rfl rfl Taken.no) rfl rfl ?_
       refine WH.val (O.ld1 (PtI.ref rfl rfl) rfl Try.underlying3 rfl rfl Taken.no) rfl rfl ?_
       refine WH.val (O.det (fun _ => G.R.eql rfl rfl) rfl Taken.no) rfl rfl ?_
       refine WH.nil (E.to ?_)
       refine W.pick (K:=[(0,_),(1,_),(5,_),(6,_),(7,_),(8,_),(11,_),(12,_),(14,_),(15,_),(134,_),(135,_),(136,_),(149,_)]) (Z:=[(101,_),(119,_),(121,_),(130,_),(131,_)]) ⟨rfl,rfl,rfl,rfl,rfl,rfl,rfl,rfl,rfl,rfl,rfl,rfl,rfl,rfl,trivial⟩ ⟨rfl,rfl,rfl,rfl,rfl,trivial⟩ ?_
       first | refine W.cond_d rfl (fun hc33 => ?_) (fun hc33 => ?_) | refine W.cond_nd rfl (fun hc33 => ?_) (fun hc33 => ?_) | refine W.cond rfl (fun hc33 => ?_) (fun hc33 => ?_)
       ·skip
        have hp0 : (fun u => decide (atm[u]! = f)) (unitsL m m[f]!)[k]! = true := decide_eq_true (by omega)
        have hp1 : (fun u => !decide (atm[u]! = f)) (unitsL m m[f]!)[k]! = false := by show (!decide _) = false; rw [decide_eq_true (by omega)]; rfl
        refine W.region (SL.an rfl rfl (E.fo (W.region (SL.mv rfl rfl (SL.mv rfl rfl ?_)))))
        refine SL.val (O.idx_ref (i := 0) (m := 1) rfl rfl (rfl) (by decide) Try.underlying116 (by kernel_rfl) rfl rfl Taken.no) ?_
        refine SL.val (O.ld1 (PtI.ref rfl rfl) rfl Try.underlying32 rfl rfl Taken.no) ?_
        refine SL.mv rfl rfl ?_
        refine SL.memS (O.buildSlice 133 (rows := [(unitsL m m[f]!)[k]!].map eN) rfl rfl Try.underlying32 hi3 hz3 hs3 (by decide) rfl (by decide) rfl rfl rfl Taken.no) rfl rfl (S' := (133, .data 3 1 ([(unitsL m m[f]!)[k]!].map eN)) :: _) rfl ?_
        refine SL.memS (O.app (k' := 134) rfl rfl (SlOf.own rfl rfl) Try.underlying32 hi3 hz3 hs3 rfl rfl (by exact app_map) (by rw [hb3]; (simp only [List.length_map, List.length_singleton, List.length_append]; omega)) (by (simp only [List.length_map, List.length_singleton, List.length_append]; omega)) rfl Taken.no) rfl rfl (S' := (134, _) :: (130, .dead) :: _) rfl ?_
        refine SL.val (O.idx_ref (i := 0) (m := 1) rfl rfl (rfl) (by decide) Try.underlying116 (by kernel_rfl) rfl rfl Taken.no) ?_
        refine SL.effS (O.st_ref (m := 1) rfl rfl rfl (js := [_]) rfl rfl (by kernel_rfl) (by simp) (Nat.le_of_ble_eq_true rfl) rfl (is' := [_, _]) rfl Taken.no) (S' := (121, _) :: _) rfl ?_
        refine SL.nil (E.inn (E.to (W.region ?_)))
        refine SL.val (O.det (fun _ => by first | exact G.R.add64 rfl rfl (by omega) | exact G.R.add rfl rfl) rfl Taken.no) ?_
        refine SL.mv rfl rfl (SL.nil ?_)
        refine E.again ((k + 1)) (rn [(130, 134)]) ?_ ?_ rfl (fixL_spec rfl) ?_ ?_
        · exact (SubF.cons rfl (SubF.cons rfl (SubF.cons rfl (SubF.cons rfl (SubF.cons rfl (SubF.cons rfl (SubF.cons rfl (SubF.cons rfl (SubF.cons rfl (SubF.cons rfl (SubF.cons rfl SubF.nil)))))))))))
        · exact (SubS.val rfl (by (try dsimp only); first | exact sb_data (by rw [filt_y (by omega) hp0, ← List.append_assoc]) | exact sb_data (by rw [filt_n (by omega) hp0])) (SubS.val rfl (by (try dsimp only); first | exact sb_data (by rw [filt_n (by omega) hp1]) | exact sb_data (by rw [filt_y (by omega) hp1])) (SubS.cons rfl (SubS.cons rfl (SubS.cons rfl SubS.nil)))))
        ·try dsimp only
         omega
        · (try dsimp only); omega
       have hp0 : (fun u => decide (atm[u]! = f)) (unitsL m m[f]!)[k]! = false := decide_eq_false (by omega)
       have hp1 : (fun u => !decide (atm[u]! = f)) (unitsL m m[f]!)[k]! = true := by show (!decide _) = true; rw [decide_eq_false (by omega)]; rfl
       refine W.skip (E.to (W.region (SL.mv rfl rfl (SL.mv rfl rfl ?_))))
       refine SL.val (O.idx_ref (i := 1) (m := 1) rfl rfl (rfl) (by decide) Try.underlying116 (by kernel_rfl) rfl rfl Taken.no) ?_
       refine SL.val (O.ld1 (PtI.ref rfl rfl) rfl Try.underlying32 rfl rfl Taken.no) ?_
       refine SL.mv rfl rfl ?_
       refine SL.memS (O.buildSlice 135 (rows := [(unitsL m m[f]!)[k]!].map eN) rfl rfl Try.underlying32 hi3 hz3 hs3 (by decide) rfl (by decide) rfl rfl rfl Taken.no) rfl rfl (S' := (135, .data 3 1 ([(unitsL m m[f]!)[k]!].map eN)) :: _) rfl ?_
       refine SL.memS (O.app (k' := 136) rfl rfl (SlOf.own rfl rfl) Try.underlying32 hi3 hz3 hs3 rfl rfl (by exact app_map) (by rw [hb3]; (simp only [List.length_map, List.length_singleton]; omega)) (by (simp only [List.length_map, List.length_singleton]; omega)) rfl Taken.no) rfl rfl (S' := (136, _) :: (131, .dead) :: _) rfl ?_
       refine SL.val (O.idx_ref (i := 1) (m := 1) rfl rfl (rfl) (by decide) Try.underlying116 (by kernel_rfl) rfl rfl Taken.no) ?_
       refine SL.effS (O.st_ref (m := 1) rfl rfl rfl (js := [_]) rfl rfl (by kernel_rfl) (by simp) (Nat.le_of_ble_eq_true rfl) rfl (is' := [_, _]) rfl Taken.no) (S' := (121, _) :: _) rfl ?_
       refine SL.nil (E.inn (E.to (W.region ?_)))
       refine SL.val (O.det (fun _ => by first | exact G.R.add64 rfl rfl (by omega) | exact G.R.add rfl rfl) rfl Taken.no) ?_
       refine SL.mv rfl rfl (SL.nil ?_)
       refine E.again ((k + 1)) (rn [(131, 136)]) ?_ ?_ rfl (fixL_spec rfl) ?_ ?_
       · exact (SubF.cons rfl (SubF.cons rfl (SubF.cons rfl (SubF.cons rfl (SubF.cons rfl (SubF.cons rfl (SubF.cons rfl (SubF.cons rfl (SubF.cons rfl (SubF.cons rfl (SubF.cons rfl SubF.nil)))))))))))
       · exact (SubS.val rfl (by (try dsimp only); first | exact sb_data (by rw [filt_y (by omega) hp0, ← List.append_assoc]) | exact sb_data (by rw [filt_n (by omega) hp0])) (SubS.val rfl (by (try dsimp only); first | exact sb_data (by rw [filt_n (by omega) hp1]) | exact sb_data (by rw [filt_y (by omega) hp1])) (SubS.cons rfl (SubS.cons rfl (SubS.cons rfl SubS.nil)))))
       ·try dsimp only
        omega
       · (try dsimp only); omega
      refine W.exit (E.th (E.th (E.hit (E.to (W.rg ?_)))))
      refine SL.val (O.fld_ref (o' := 2) rfl Try.underlying57 rfl (m := 0) (by kernel_rfl) rfl rfl Taken.no) ?_
      refine SL.val (O.ld1 (PtI.ref rfl rfl) rfl Try.underlying3 rfl rfl Taken.no) ?_
      refine SL.val (O.det (fun _ => G.R.mv (G.R.eql rfl rfl) (congrArg Value.bool (decide_eq_false (by omega)))) rfl Taken.no) ?_
      refine SL.mv rfl rfl ?_
      have hg34 : false ≠ true := by decide
      refine SL.sk rfl rfl rfl hg34 (SL.sk rfl rfl rfl hg34 (SL.sk rfl rfl rfl hg34 (SL.sk rfl rfl rfl hg34 ?_)))
      refine SL.val (O.pick_f rfl rfl rfl rfl Taken.no) ?_
      refine E.fo ?_
      refine W.cond_f rfl ?_
      refine W.skip (E.to (W.seq ?_))
      refine W.freezeC 121 0 130 (is' := [_, _]) rfl rfl rfl rfl ?_
      refine W.freezeC 121 1 131 (is' := [_, _]) rfl rfl rfl rfl ?_
      refine W.region ?_
      have hkH : k = (unitsL m m[f]!).length := by omega
      obtain ⟨s, hs⟩ : ∃ s : Stp, s = ⟨false, (f : Int), (t : Int)⟩ := ⟨_, rfl⟩
      have hfe : s.f.toNat = f := by rw [hs]; rfl
      have hth : thereL m s.t = unitsL m t := by rw [hs]; exact there_nat m t
      have hg0 : ((thereL m (t : Int)) ++ ((unitsL m m[f]!).take k).filter (fun u => decide (atm[u]! = f))) = g0L m atm s := by rw [hkH, List.take_length, hs]; rfl
      have hg1 : (((unitsL m m[f]!).take k).filter (fun u => !decide (atm[u]! = f))) = g1L m atm s := by rw [hkH, List.take_length, hs]; rfl
      have hpre : preF n atm m s := by rw [hs]; exact ⟨⟨by show (0 : Int) ≤ f; omega, by show (f : Int) < n; omega, by show (t : Int) < (n : Int); omega, by show -1 ≤ (t : Int); omega, fun h => rfl⟩, fun h => ⟨by show m[t]! = t; omega, by show m[f]! ≠ t; omega⟩, fun h => (by cases h), fun h => ⟨by show atm[f]! = f; omega, fun h => by exfalso; have h2 : (t : Int) < 0 := h; omega⟩⟩
      have hgb := g_b (atm := atm) (s := s) hml
      have hl0 : (partsL lk (g0L m atm s)).length ≤ (g0L m atm s).length := partsN_len
      have hl1 : (partsL lk (g1L m atm s)).length ≤ (g1L m atm s).length := partsN_len
      rw [hg0]
      refine SL.mv rfl rfl ?_
      refine SL.memS (O.call (rn [(0, 137)]) [] rfl rfl rfl (clone_h (rows := m.map eN) (by rw [List.length_map]; omega)) (.cons (ArgOk.same rfl) .nil) SubS.nil rfl rfl rfl rfl rfl (.inl rfl) hcallOk54 (r' := .own 137) rfl rfl Taken.no) rfl rfl (S' := (137, .data _ _ _) :: _) rfl ?_
      refine SL.memS (O.alloc (z := .slice none 0 0) (is := [.u (.sc (.slice none 0 0))]) 138 (by kernel_rfl) rfl rfl rfl Taken.no) rfl rfl (S' := (138, _) :: _) rfl ?_
      refine SL.effS (O.st_ref (m := 1) rfl rfl rfl (js := [_]) rfl rfl (by kernel_rfl) (by simp) (Nat.le_of_ble_eq_true rfl) rfl (is' := [_]) rfl Taken.no) (S' := (138, _) :: _) rfl ?_
      refine E.fo (W.seq (W.rg ?_))
      refine SL.val (O.idx_ref (i := 0) (m := 1) rfl rfl (rfl) (by decide) Try.underlying116 (by kernel_rfl) rfl rfl Taken.no) ?_
      refine SL.val (O.ld1 (PtI.ref rfl rfl) rfl Try.underlying32 rfl rfl Taken.no) ?_
      refine SL.val (O.lenE (SlOf.fz rfl (by decide)) (by first | exact List.length_map _ | rfl) Try.underlying32 rfl Taken.no) ?_
      refine SL.mv rfl rfl (E.fo ?_)
      refine W.pick (K:=[(0,_),(6,_),(7,_),(8,_),(11,_),(12,_),(16,_),(171,_),(172,_),(173,_)]) (Z:=[(101,_),(119,_),(121,_),(137,_),(138,_)]) ⟨rfl,rfl,rfl,rfl,rfl,rfl,rfl,rfl,rfl,rfl,trivial⟩ ⟨rfl,rfl,rfl,rfl,rfl,trivial⟩ ?_
      refine W.block ?_
      refine W.loopx1 (fun (j : Nat) => [(173, vI (j : Int))]) (fun (j : Nat) => [(139, .data 3 1 ((setAll (m.map (fun x : Nat => (x : Int))) ((g0L m atm s).take j) (-1)).map eI)), (138, .cells 32 [.own 139])]) (fun (j : Nat) => j ≤ (g0L m atm s).length) (fun (j : Nat) => (g0L m atm s).length - j) (0) (rn [(139, 137)]) (.cons (t := 0) rfl (.cons (t := 6) rfl (.cons (t := 7) rfl (.cons (t := 8) rfl (.cons (t := 11) rfl (.cons (t := 12) rfl (.cons (t := 16) rfl (.cons (t := 171) rfl (.cons (t := 172) rfl .nil))))))))) (.cons (t := 101) rfl (.cons (t := 119) rfl (.cons (t := 121) rfl .nil))) rfl ?_ ?_ rfl rfl ?_ ?_
      · exact (SubF.cons rfl SubF.nil)
      · exact (SubS.val rfl (by exact sb_data (by rw [List.take_zero]; exact (eI_eN m).symm)) (SubS.cons rfl SubS.nil))
      ·skip
       omega
      intro j hinv
      have hj := hinv
      have hnl : (setAll (m.map (fun x : Nat => (x : Int))) ((g0L m atm s).take j) (-1)).length = n := by rw [setAll_len, List.length_map]; exact hml
      refine W.rg ?_
      refine SL.val (O.det (fun _ => G.R.lss rfl rfl) rfl Taken.no) ?_
      refine E.fo (W.seq ?_)
      first | refine W.cond_d rfl (fun hc35 => ?_) (fun hc35 => ?_) | refine W.cond_nd rfl (fun hc35 => ?_) (fun hc35 => ?_) | refine W.cond rfl (fun hc35 => ?_) (fun hc35 => ?_)
      ·skip
       have hGj := hgb.2.1 (g0L m atm s)[j]! (mem_at (by omega))
       refine W.skip (E.to (W.seq (W.block (W.rg ?_))))
       refine SL.val (O.idx_fz (i := j) rfl rfl (rfl) (row_get (by omega)) Try.underlying32 hi3 hs3 rfl Taken.no) ?_
       refine SL.val (O.ld1 (PtI.ofU (PtU.fz rfl)) rfl Try.underlying3 rfl rfl Taken.no) ?_
       refine SL.an rfl rfl (E.fo (W.region ?_))
       refine SL.val (O.ld1 (PtI.ref rfl rfl) rfl Try.underlying32 rfl rfl Taken.no) ?_
       refine SL.mv rfl rfl ?_
       refine SL.val (O.idx_own (i := ((g0L m atm s)[j]!)) rfl rfl rfl (rfl) (by rw [List.length_map]; omega) Try.underlying32 hi3 hs3 rfl Taken.no) ?_
       refine SL.effS (O.st_els (m := 1) rfl rfl rfl (us := [_]) rfl rfl (by kernel_rfl) (by simp) (row_get (by omega)) (by exact Nat.le_of_ble_eq_true rfl) rfl rfl (rows' := ((setAll (m.map (fun x : Nat => (x : Int))) ((g0L m atm s).take j) (-1)).set ((g0L m atm s)[j]!) (-1)).map eI) (by exact set_map rfl) Taken.no) (S' := (139, _) :: _) rfl ?_
       refine SL.nil (E.inn (E.to (W.region ?_)))
       refine SL.val (O.det (fun _ => by first | exact G.R.add64 rfl rfl (by omega) | exact G.R.add rfl rfl) rfl Taken.no) ?_
       refine SL.mv rfl rfl (SL.nil ?_)
       refine E.again ((j + 1)) (rn []) ?_ ?_ rfl (fixL_spec rfl) ?_ ?_
       · exact (SubF.cons rfl (SubF.cons rfl (SubF.cons rfl (SubF.cons rfl (SubF.cons rfl (SubF.cons rfl (SubF.cons rfl (SubF.cons rfl (SubF.cons rfl (SubF.cons rfl SubF.nil))))))))))
       · exact (SubS.val rfl (by (try dsimp only); exact sb_data (by rw [setAll_sG (by omega)])) (SubS.cons rfl (SubS.cons rfl (SubS.cons rfl (SubS.cons rfl SubS.nil)))))
       ·try dsimp only
        omega
       · (try dsimp only); omega
      refine W.exit (E.th (E.th (E.hit (E.to (W.seq (W.seq ?_))))))
      have hjG : j = (g0L m atm s).length := by omega
      rw [hjG, List.take_length]
      refine W.region (SL.mv rfl rfl ?_)
      refine SL.val (O.nilCheck rfl rfl rfl Taken.no) ?_
      refine SL.val (O.fld_fz rfl Try.underlying90 rfl (m := 0) (by kernel_rfl) rfl rfl Taken.no) ?_
      refine SL.val (O.ld1 (PtI.ofU (PtU.fz rfl)) rfl Try.underlying23 rfl rfl Taken.no) ?_
      refine SL.val (O.makeFunc rfl rfl rfl Taken.no) ?_
      refine SL.memS (O.call (rn [(0, 138), (1, 139)]) [] rfl rfl rfl (containsFuncN (nm := (nm0 m atm s)) (q := bar) (by rw [nm0_len, hml]; exact hb)) (.cons (ArgOk.same rfl) (.cons (ArgOk.same rfl) .nil)) (SubS.cons rfl (SubS.cons rfl SubS.nil)) rfl rfl rfl rfl rfl (.inl rfl) hcallOk65 (r' := .u _) rfl rfl Taken.no) rfl rfl (S' := (138, .cells _ [.own 139]) :: (139, .data _ _ _) :: _) rfl ?_
      refine E.fo ?_
      first | refine W.cond_d rfl (fun hc36 => ?_) (fun hc36 => ?_) | refine W.cond_nd rfl (fun hc36 => ?_) (fun hc36 => ?_) | refine W.cond rfl (fun hc36 => ?_) (fun hc36 => ?_)
      ·skip
       refine W.rg (SL.an rfl rfl (SL.an rfl rfl (SL.an rfl rfl (E.fo (W.ret (E.thr ?_))))))
       refine E.nilsl 6 1 rfl ?_
       refine E.fin (rs := [_, _, _]) (rn []) (.inl rfl) rfl (.cons (ResOne.tmp rfl) (.cons (ResOne.tmp rfl) (.cons (ResOne.tmp rfl) .nil))) ?_ ?_ rfl (fixL_spec rfl)
       ·skip
        have hcl : bar.any (nmHit (nm0 m atm s)) = true := by assumption
        have hno : ¬ posF n bar atm m s := fun q => by rw [hit_eq hml hb, q.2] at hcl; cases hcl
        rw [← hs, apN_n hno, apG_n hno, dec_f hno]; rfl
       · exact SubS.nil
      refine W.skip (E.to (W.rg (SL.an rfl rfl (E.fo (W.seq (W.rg ?_))))))
      have hcl : bar.any (nmHit (nm0 m atm s)) = false := by first | assumption | simp_all
      have hL : ∀ p ∈ gL lk m atm s, p.length ≤ 1000 := fun p hp => by rcases List.mem_append.1 hp with z | z <;> (have := (partsN_units z).2.1; omega)
      refine SL.val (O.ldN (m := 2) (PtI.ref rfl rfl) (js := [_, _]) rfl (Nat.le_of_ble_eq_true rfl) Try.underlying116 rfl (by kernel_rfl) rfl Taken.no) ?_
      refine SL.mv rfl rfl (E.fo (W.block ?_))
      refine W.unroll ?_
      refine W.rg ?_
      refine SL.val (O.det (fun _ => G.R.mv (G.R.lss rfl rfl) (congrArg Value.bool (decide_eq_true (by decide)))) rfl Taken.no) ?_
      refine E.fo (W.seq ?_)
      refine W.cond_t rfl ?_
      refine W.skip (E.to (W.seq (W.block (W.rg ?_))))
      refine SL.val (O.idxval (i := 0) rfl rfl (by rfl) (by decide) (by rfl) Try.underlying116 (by kernel_rfl) Try.underlying32 rfl rfl Taken.no) ?_
      refine SL.an rfl rfl (E.fo (W.rg (SL.mv rfl rfl (SL.mv rfl rfl ?_))))
      refine SL.val (O.nilCheck rfl rfl rfl Taken.no) ?_
      refine SL.val (O.fld_fz rfl Try.underlying90 rfl (m := 0) (by kernel_rfl) rfl rfl Taken.no) ?_
      refine SL.val (O.ld1 (PtI.ofU (PtU.fz rfl)) rfl Try.underlying88 rfl rfl Taken.no) ?_
      refine SL.val (O.callp rfl rfl rfl (parts_h (n := n) (us := (g0L m atm s)) (by omega) hgb.2.1) (.cons (ArgOk.same rfl) (.cons (ArgOk.same rfl) .nil)) hcallOk76 rfl Taken.no) ?_
      refine SL.val (O.lenE (SlOf.fz rfl (by decide)) (by first | exact List.length_map _ | rfl) Try.underlying68 rfl Taken.no) ?_
      refine SL.mv rfl rfl (E.fo ?_)
      refine W.pick (K:=[(0,_),(6,_),(7,_),(8,_),(11,_),(16,_),(19,_),(21,_),(187,_),(188,_),(189,_),(190,_),(191,_),(192,_),(193,_),(194,_),(195,_),(196,_),(197,_),(198,_)]) (Z:=[(101,_),(119,_),(121,_),(138,_),(139,_)]) ⟨rfl,rfl,rfl,rfl,rfl,rfl,rfl,rfl,rfl,rfl,rfl,rfl,rfl,rfl,rfl,rfl,rfl,rfl,rfl,rfl,trivial⟩ ⟨rfl,rfl,rfl,rfl,rfl,trivial⟩ ?_
      refine W.block ?_
      refine W.loopx1 (fun (p : Nat) => [(198, vI (p : Int)), (19, vI (sumV wt ((partsL lk (g0L m atm s)).take p)))]) (fun (p : Nat) => [(140, .data 3 1 ((nameF (fun x : Nat => (x : Int)) (nm0 m atm s) ((partsL lk (g0L m atm s)).take p)).map eI)), (138, .cells 32 [.own 140])]) (fun (p : Nat) => p ≤ (partsL lk (g0L m atm s)).length) (fun (p : Nat) => (partsL lk (g0L m atm s)).length - p) (0) (rn [(140, 139)]) (.cons (t := 0) rfl (.cons (t := 6) rfl (.cons (t := 7) rfl (.cons (t := 8) rfl (.cons (t := 11) rfl (.cons (t := 16) rfl (.cons (t := 21) rfl (.cons (t := 187) rfl (.cons (t := 188) rfl (.cons (t := 189) rfl (.cons (t := 190) rfl (.cons (t := 191) rfl (.cons (t := 192) rfl (.cons (t := 193) rfl (.cons (t := 194) rfl (.cons (t := 195) rfl (.cons (t := 196) rfl (.cons (t := 197) rfl .nil)))))))))))))))))) (.cons (t := 101) rfl (.cons (t := 119) rfl (.cons (t := 121) rfl .nil))) rfl ?_ ?_ rfl rfl ?_ ?_
      · exact (SubF.cons rfl (SubF.val rfl (by exact iv_int rfl) SubF.nil))
      · exact (SubS.val rfl (by exact sb_data (by rw [List.take_zero]; rfl)) (SubS.cons rfl SubS.nil))
      ·skip
       omega
      intro p hinv
      have hp := hinv
      have hpl : ((partsL lk (g0L m atm s)).take p).length ≤ 400 := by (try rw [List.length_append]); rw [List.length_take]; omega
      have hvb := sumV_b2 hw (L := ((partsL lk (g0L m atm s)).take p)) (fun p hp => hL p (List.mem_append_left _ (List.mem_of_mem_take hp)))
      refine W.rg ?_
      refine SL.val (O.det (fun _ => G.R.lss rfl rfl) rfl Taken.no) ?_
      refine E.fo (W.seq ?_)
      first | refine W.cond_d rfl (fun hc37 => ?_) (fun hc37 => ?_) | refine W.cond_nd rfl (fun hc37 => ?_) (fun hc37 => ?_) | refine W.cond rfl (fun hc37 => ?_) (fun hc37 => ?_)
      ·skip
       have hpu := partsN_units (mem_at (l := (partsL lk (g0L m atm s))) (i := p) (by omega))
       have hvp := valF_b hw (l := ((partsL lk (g0L m atm s))[p]!)) (by omega)
       refine W.skip (E.to (W.seq (W.block (W.rg ?_))))
       refine SL.val (O.idx_fz (i := p) rfl rfl (rfl) (row_get (by omega)) Try.underlying68 hi32 hs32 rfl Taken.no) ?_
       refine SL.val (O.ld1 (PtI.ofU (PtU.fz rfl)) rfl Try.underlying32 rfl rfl Taken.no) ?_
       refine SL.an rfl rfl (E.fo (W.rg (SL.mv rfl rfl (SL.mv rfl rfl (SL.mv rfl rfl ?_)))))
       refine SL.val (O.callp rfl rfl rfl (value_h (l := ((partsL lk (g0L m atm s))[p]!)) hw (by omega) (fun u hu => hgb.2.1 u (hpu.2.2 u hu))) (.cons (ArgOk.same rfl) (.cons (ArgOk.same rfl) .nil)) hcallOk57 rfl Taken.no) ?_
       refine SL.val (O.det (fun _ => by first | exact G.R.add64 rfl rfl (by omega) | exact G.R.add rfl rfl) rfl Taken.no) ?_
       refine SL.an rfl rfl (E.fo ?_)
       refine W.pick (K:=[(0,_),(6,_),(7,_),(8,_),(11,_),(16,_),(19,_),(21,_),(23,_),(187,_),(188,_),(189,_),(190,_),(191,_),(192,_),(193,_),(194,_),(195,_),(196,_),(197,_),(198,_),(199,_),(200,_),(201,_),(202,_),(203,_),(204,_),(205,_),(206,_)]) (Z:=[(101,_),(119,_),(121,_),(138,_),(140,_)]) ⟨rfl,rfl,rfl,rfl,rfl,rfl,rfl,rfl,rfl,rfl,rfl,rfl,rfl,rfl,rfl,rfl,rfl,rfl,rfl,rfl,rfl,rfl,rfl,rfl,rfl,rfl,rfl,rfl,rfl,trivial⟩ ⟨rfl,rfl,rfl,rfl,rfl,trivial⟩ ?_
       refine W.rg (SL.mv rfl rfl ?_)
       refine SL.val (O.lenE (SlOf.fz rfl (by decide)) (by first | exact List.length_map _ | rfl) Try.underlying32 rfl Taken.no) ?_
       refine SL.mv rfl rfl (E.fo ?_)
       refine W.pick (K:=[(0,_),(6,_),(7,_),(8,_),(11,_),(16,_),(19,_),(21,_),(23,_),(187,_),(188,_),(189,_),(190,_),(191,_),(192,_),(193,_),(194,_),(195,_),(196,_),(197,_),(198,_),(199,_),(200,_),(201,_),(202,_),(203,_),(204,_),(205,_),(206,_),(207,_),(208,_),(209,_)]) (Z:=[(101,_),(119,_),(121,_),(138,_),(140,_)]) ⟨rfl,rfl,rfl,rfl,rfl,rfl,rfl,rfl,rfl,rfl,rfl,rfl,rfl,rfl,rfl,rfl,rfl,rfl,rfl,rfl,rfl,rfl,rfl,rfl,rfl,rfl,rfl,rfl,rfl,rfl,rfl,rfl,trivial⟩ ⟨rfl,rfl,rfl,rfl,rfl,trivial⟩ ?_
       refine W.block ?_
       refine W.loopx1 (fun (j : Nat) => [(209, vI (j : Int))]) (fun (j : Nat) => [(141, .data 3 1 ((setAll (nameF (fun x : Nat => (x : Int)) (nm0 m atm s) ((partsL lk (g0L m atm s)).take p)) (((partsL lk (g0L m atm s))[p]!).take j) ((minL ((partsL lk (g0L m atm s))[p]!) : Nat) : Int)).map eI)), (138, .cells 32 [.own 141])]) (fun (j : Nat) => j ≤ ((partsL lk (g0L m atm s))[p]!).length) (fun (j : Nat) => ((partsL lk (g0L m atm s))[p]!).length - j) (0) (rn [(141, 140)]) (.cons (t := 0) rfl (.cons (t := 6) rfl (.cons (t := 7) rfl (.cons (t := 8) rfl (.cons (t := 11) rfl (.cons (t := 16) rfl (.cons (t := 19) rfl (.cons (t := 21) rfl (.cons (t := 23) rfl (.cons (t := 187) rfl (.cons (t := 188) rfl (.cons (t := 189) rfl (.cons (t := 190) rfl (.cons (t := 191) rfl (.cons (t := 192) rfl (.cons (t := 193) rfl (.cons (t := 194) rfl (.cons (t := 195) rfl (.cons (t := 196) rfl (.cons (t := 197) rfl (.cons (t := 198) rfl (.cons (t := 199) rfl (.cons (t := 200) rfl (.cons (t := 201) rfl (.cons (t := 202) rfl (.cons (t := 203) rfl (.cons (t := 204) rfl (.cons (t := 205) rfl (.cons (t := 206) rfl (.cons (t := 207) rfl (.cons (t := 208) rfl .nil))))))))))))))))))))))))))))))) (.cons (t := 101) rfl (.cons (t := 119) rfl (.cons (t := 121) rfl .nil))) rfl ?_ ?_ rfl rfl ?_ ?_
       · exact (SubF.cons rfl SubF.nil)
       · exact (SubS.val rfl (by exact sb_data (by rw [List.take_zero]; rfl)) (SubS.cons rfl SubS.nil))
       ·skip
        omega
       intro j hinv
       have hj := hinv
       have hnl : (setAll (nameF (fun x : Nat => (x : Int)) (nm0 m atm s) ((partsL lk (g0L m atm s)).take p)) (((partsL lk (g0L m atm s))[p]!).take j) ((minL ((partsL lk (g0L m atm s))[p]!) : Nat) : Int)).length = n := by rw [setAll_len, nameF_len, nm0_len]; exact hml
       refine W.rg ?_
       refine SL.val (O.det (fun _ => G.R.lss rfl rfl) rfl Taken.no) ?_
       refine E.fo ?_
       refine W.pick (K:=[(0,_),(6,_),(7,_),(8,_),(11,_),(16,_),(19,_),(21,_),(23,_),(187,_),(188,_),(189,_),(190,_),(191,_),(192,_),(193,_),(194,_),(195,_),(196,_),(197,_),(198,_),(199,_),(200,_),(201,_),(202,_),(203,_),(204,_),(205,_),(206,_),(207,_),(208,_),(209,_),(210,_)]) (Z:=[(101,_),(119,_),(121,_),(138,_),(141,_)]) ⟨rfl,rfl,rfl,rfl,rfl,rfl,rfl,rfl,rfl,rfl,rfl,rfl,rfl,rfl,rfl,rfl,rfl,rfl,rfl,rfl,rfl,rfl,rfl,rfl,rfl,rfl,rfl,rfl,rfl,rfl,rfl,rfl,rfl,trivial⟩ ⟨rfl,rfl,rfl,rfl,rfl,trivial⟩ ?_
       refine W.seq ?_
       first | refine W.cond_d rfl (fun hc38 => ?_) (fun hc38 => ?_) | refine W.cond_nd rfl (fun hc38 => ?_) (fun hc38 => ?_) | refine W.cond rfl (fun hc38 => ?_) (fun hc38 => ?_)
       ·skip
        have hun := hgb.2.1 _ (hpu.2.2 ((partsL lk (g0L m atm s))[p]!)[j]! (mem_at (by omega)))
        refine W.skip (E.to ?_)
        refine W.pick (K:=[(0,_),(6,_),(7,_),(8,_),(11,_),(16,_),(19,_),(21,_),(23,_),(187,_),(188,_),(189,_),(190,_),(191,_),(192,_),(193,_),(194,_),(195,_),(196,_),(197,_),(198,_),(199,_),(200,_),(201,_),(202,_),(203,_),(204,_),(205,_),(206,_),(207,_),(208,_),(209,_),(210,_)]) (Z:=[(101,_),(119,_),(121,_),(138,_),(141,_)]) ⟨rfl,rfl,rfl,rfl,rfl,rfl,rfl,rfl,rfl,rfl,rfl,rfl,rfl,rfl,rfl,rfl,rfl,rfl,rfl,rfl,rfl,rfl,rfl,rfl,rfl,rfl,rfl,rfl,rfl,rfl,rfl,rfl,rfl,trivial⟩ ⟨rfl,rfl,rfl,rfl,rfl,trivial⟩ ?_
        refine W.seq (W.block (W.rg ?_))
        refine SL.val (O.idx_fz (i := j) rfl rfl (rfl) (row_get (by omega)) Try.underlying32 hi3 hs3 rfl Taken.no) ?_
        refine SL.val (O.ld1 (PtI.ofU (PtU.fz rfl)) rfl Try.underlying3 rfl rfl Taken.no) ?_
        refine SL.an rfl rfl (E.fo ?_)
        refine W.pick (K:=[(0,_),(6,_),(7,_),(8,_),(11,_),(16,_),(19,_),(21,_),(23,_),(25,_),(187,_),(188,_),(189,_),(190,_),(191,_),(192,_),(193,_),(194,_),(195,_),(196,_),(197,_),(198,_),(199,_),(200,_),(201,_),(202,_),(203,_),(204,_),(205,_),(206,_),(207,_),(208,_),(209,_),(210,_),(211,_),(212,_)]) (Z:=[(101,_),(119,_),(121,_),(138,_),(141,_)]) ⟨rfl,rfl,rfl,rfl,rfl,rfl,rfl,rfl,rfl,rfl,rfl,rfl,rfl,rfl,rfl,rfl,rfl,rfl,rfl,rfl,rfl,rfl,rfl,rfl,rfl,rfl,rfl,rfl,rfl,rfl,rfl,rfl,rfl,rfl,rfl,rfl,trivial⟩ ⟨rfl,rfl,rfl,rfl,rfl,trivial⟩ ?_
        refine W.draw [⟨[138], [], [], [141]⟩, ⟨[], [], [], []⟩, ⟨[], [], [], []⟩, ⟨[], [], [], []⟩, ⟨[141], [], [], []⟩, ⟨[141], [141], [], []⟩] rfl (by kernel_rfl) (by kernel_rfl) rfl rfl ?_
        refine WH.val (O.ld1 (PtI.ref rfl rfl) rfl Try.underlying32 rfl rfl Taken.no) rfl rfl ?_
        refine WH.mv rfl rfl rfl (WH.mv rfl rfl rfl ?_)
        refine WH.val (O.callp rfl rfl rfl (min_h (l := ((partsL lk (g0L m atm s))[p]!)) (by omega)) (.cons (ArgOk.same rfl) .nil) hcallOk87 rfl Taken.no) rfl rfl ?_
        refine WH.val (O.idx_own (i := (((partsL lk (g0L m atm s))[p]!)[j]!)) rfl rfl rfl (rfl) (by rw [List.length_map]; omega) Try.underlying32 hi3 hs3 rfl Taken.no) rfl rfl ?_
        refine WH.effS (O.st_els (m := 1) rfl rfl rfl (us := [_]) rfl rfl (by kernel_rfl) (by simp) (row_get (by omega)) (by exact Nat.le_of_ble_eq_true rfl) rfl rfl (rows' := ((setAll (nameF (fun x : Nat => (x : Int)) (nm0 m atm s) ((partsL lk (g0L m atm s)).take p)) (((partsL lk (g0L m atm s))[p]!).take j) ((minL ((partsL lk (g0L m atm s))[p]!) : Nat) : Int)).set (((partsL lk (g0L m atm s))[p]!)[j]!) ((minL ((partsL lk (g0L m atm s))[p]!) : Nat) : Int)).map eI) (by exact set_map rfl) Taken.no) rfl rfl rfl (S' := (141, _) :: _) rfl ?_
        refine WH.nil (E.inn (E.to ?_))
        refine W.pick (K:=[(0,_),(6,_),(7,_),(8,_),(11,_),(16,_),(19,_),(21,_),(23,_),(25,_),(187,_),(188,_),(189,_),(190,_),(191,_),(192,_),(193,_),(194,_),(195,_),(196,_),(197,_),(198,_),(199,_),(200,_),(201,_),(202,_),(203,_),(204,_),(205,_),(206,_),(207,_),(208,_),(209,_),(210,_),(211,_),(212,_),(213,_),(214,_),(215,_),(216,_),(217,_)]) (Z:=[(101,_),(119,_),(121,_),(138,_),(141,_)]) ⟨rfl,rfl,rfl,rfl,rfl,rfl,rfl,rfl,rfl,rfl,rfl,rfl,rfl,rfl,rfl,rfl,rfl,rfl,rfl,rfl,rfl,rfl,rfl,rfl,rfl,rfl,rfl,rfl,rfl,rfl,rfl,rfl,rfl,rfl,rfl,rfl,rfl,rfl,rfl,rfl,rfl,trivial⟩ ⟨rfl,rfl,rfl,rfl,rfl,trivial⟩ ?_
        refine W.region ?_
        refine SL.val (O.det (fun _ => by first | exact G.R.add64 rfl rfl (by omega) | exact G.R.add rfl rfl) rfl Taken.no) ?_
        refine SL.mv rfl rfl (SL.nil ?_)
        refine E.again ((j + 1)) (rn []) ?_ ?_ rfl (fixL_spec rfl) ?_ ?_
        · exact (SubF.cons rfl (SubF.cons rfl (SubF.cons rfl (SubF.cons rfl (SubF.cons rfl (SubF.cons rfl (SubF.cons rfl (SubF.cons rfl (SubF.cons rfl (SubF.cons rfl (SubF.cons rfl (SubF.cons rfl (SubF.cons rfl (SubF.cons rfl (SubF.cons rfl (SubF.cons rfl (SubF.cons rfl (SubF.cons rfl (SubF.cons rfl (SubF.cons rfl (SubF.cons rfl (SubF.cons rfl (SubF.cons rfl (SubF.cons rfl (SubF.cons rfl (SubF.cons rfl (SubF.cons rfl (SubF.cons rfl (SubF.cons rfl (SubF.cons rfl (SubF.cons rfl (SubF.cons rfl SubF.nil))))))))))))))))))))))))))))))))
        · exact (SubS.val rfl (by (try dsimp only); exact sb_data (by rw [setAll_sG (by omega)])) (SubS.cons rfl (SubS.cons rfl (SubS.cons rfl (SubS.cons rfl SubS.nil)))))
        ·try dsimp only
         omega
        · (try dsimp only); omega
       refine W.exit (E.th (E.th (E.hit (E.inn (E.to ?_)))))
       refine W.pick (K:=[(0,_),(6,_),(7,_),(8,_),(11,_),(16,_),(19,_),(21,_),(23,_),(187,_),(188,_),(189,_),(190,_),(191,_),(192,_),(193,_),(194,_),(195,_),(196,_),(197,_),(198,_),(199,_),(200,_),(201,_),(202,_),(203,_),(204,_),(205,_),(206,_),(207,_),(208,_),(209,_),(210,_)]) (Z:=[(101,_),(119,_),(121,_),(138,_),(141,_)]) ⟨rfl,rfl,rfl,rfl,rfl,rfl,rfl,rfl,rfl,rfl,rfl,rfl,rfl,rfl,rfl,rfl,rfl,rfl,rfl,rfl,rfl,rfl,rfl,rfl,rfl,rfl,rfl,rfl,rfl,rfl,rfl,rfl,rfl,trivial⟩ ⟨rfl,rfl,rfl,rfl,rfl,trivial⟩ ?_
       refine W.region ?_
       refine SL.val (O.det (fun _ => by first | exact G.R.add64 rfl rfl (by omega) | exact G.R.add rfl rfl) rfl Taken.no) ?_
       refine SL.mv rfl rfl (SL.nil ?_)
       refine E.again ((p + 1)) (rn [(140, 141)]) ?_ ?_ rfl (fixL_spec rfl) ?_ ?_
       · exact (SubF.cons rfl (SubF.val rfl (by (try dsimp only); exact iv_int (by rw [snocP (l := (partsL lk (g0L m atm s))) (by omega), sumV_snoc])) (SubF.cons rfl (SubF.cons rfl (SubF.cons rfl (SubF.cons rfl (SubF.cons rfl (SubF.cons rfl (SubF.cons rfl (SubF.cons rfl (SubF.cons rfl (SubF.cons rfl (SubF.cons rfl (SubF.cons rfl (SubF.cons rfl (SubF.cons rfl (SubF.cons rfl (SubF.cons rfl (SubF.cons rfl (SubF.cons rfl SubF.nil))))))))))))))))))))
       · exact (SubS.val rfl (by (try dsimp only); exact sb_data (by rw [snocP (l := (partsL lk (g0L m atm s))) (by omega), nameF_snoc, show j = ((partsL lk (g0L m atm s))[p]!).length by omega, List.take_length])) (SubS.cons rfl (SubS.cons rfl (SubS.cons rfl (SubS.cons rfl SubS.nil)))))
       ·try dsimp only
        omega
       · (try dsimp only); omega
      refine W.exit (E.th (E.th (E.hit (E.inn (E.to (W.region ?_))))))
      refine SL.val (O.det (fun _ => by first | exact G.R.add64 rfl rfl (by omega) | exact G.R.add rfl rfl) rfl Taken.no) ?_
      refine SL.mv rfl rfl (SL.nil ?_)
      refine E.reround ?_
      refine W.pick (K:=[(0,_),(6,_),(7,_),(8,_),(11,_),(16,_),(19,_),(21,_),(187,_),(188,_),(189,_),(190,_),(191,_),(192,_),(193,_),(194,_),(195,_),(196,_),(197,_),(198,_),(199,_),(220,_)]) (Z:=[(101,_),(119,_),(121,_),(138,_),(140,_)]) ⟨rfl,rfl,rfl,rfl,rfl,rfl,rfl,rfl,rfl,rfl,rfl,rfl,rfl,rfl,rfl,rfl,rfl,rfl,rfl,rfl,rfl,rfl,trivial⟩ ⟨rfl,rfl,rfl,rfl,rfl,trivial⟩ ?_
      refine W.rg ?_
      refine SL.val (O.det (fun _ => G.R.mv (G.R.lss rfl rfl) (congrArg Value.bool (decide_eq_true (by decide)))) rfl Taken.no) ?_
      refine E.fo (W.seq ?_)
      refine W.cond_t rfl ?_
      refine W.skip (E.to (W.seq (W.block (W.rg ?_))))
      refine SL.val (O.idxval (i := 1) rfl rfl (by rfl) (by decide) (by rfl) Try.underlying116 (by kernel_rfl) Try.underlying32 rfl rfl Taken.no) ?_
      refine SL.an rfl rfl ?_
      refine SL.as (i' := vL 1 ((g1L m atm s).map eN)) 21 rfl (by (rw [← hg1]; try rfl)) ?_
      refine E.fo ?_
      refine W.pick (K:=[(0,_),(6,_),(7,_),(8,_),(11,_),(16,_),(19,_),(21,_),(187,_),(188,_),(189,_),(190,_),(191,_),(192,_),(193,_),(194,_),(195,_),(196,_),(197,_),(198,_),(199,_),(220,_)]) (Z:=[(101,_),(119,_),(121,_),(138,_),(140,_)]) ⟨rfl,rfl,rfl,rfl,rfl,rfl,rfl,rfl,rfl,rfl,rfl,rfl,rfl,rfl,rfl,rfl,rfl,rfl,rfl,rfl,rfl,rfl,trivial⟩ ⟨rfl,rfl,rfl,rfl,rfl,trivial⟩ ?_
      refine W.rg (SL.mv rfl rfl (SL.mv rfl rfl ?_))
      refine SL.val (O.nilCheck rfl rfl rfl Taken.no) ?_
      refine SL.val (O.fld_fz rfl Try.underlying90 rfl (m := 0) (by kernel_rfl) rfl rfl Taken.no) ?_
      refine SL.val (O.ld1 (PtI.ofU (PtU.fz rfl)) rfl Try.underlying88 rfl rfl Taken.no) ?_
      refine SL.val (O.callp rfl rfl rfl (parts_h (n := n) (us := (g1L m atm s)) (by omega) hgb.2.2) (.cons (ArgOk.same rfl) (.cons (ArgOk.same rfl) .nil)) hcallOk76 rfl Taken.no) ?_
      refine SL.val (O.lenE (SlOf.fz rfl (by decide)) (by first | exact List.length_map _ | rfl) Try.underlying68 rfl Taken.no) ?_
      refine SL.mv rfl rfl (E.fo ?_)
      refine W.pick (K:=[(0,_),(6,_),(7,_),(8,_),(11,_),(16,_),(19,_),(21,_),(187,_),(188,_),(189,_),(190,_),(191,_),(192,_),(193,_),(194,_),(195,_),(196,_),(197,_),(198,_),(199,_),(220,_)]) (Z:=[(101,_),(119,_),(121,_),(138,_),(140,_)]) ⟨rfl,rfl,rfl,rfl,rfl,rfl,rfl,rfl,rfl,rfl,rfl,rfl,rfl,rfl,rfl,rfl,rfl,rfl,rfl,rfl,rfl,rfl,trivial⟩ ⟨rfl,rfl,rfl,rfl,rfl,trivial⟩ ?_
      refine W.block ?_
      refine W.loopx1 (fun (q : Nat) => [(198, vI (q : Int)), (19, vI (sumV wt ((partsL lk (g0L m atm s)) ++ (partsL lk (g1L m atm s)).take q)))]) (fun (q : Nat) => [(142, .data 3 1 ((nameF (fun x : Nat => (x : Int)) (nm0 m atm s) ((partsL lk (g0L m atm s)) ++ (partsL lk (g1L m atm s)).take q)).map eI)), (138, .cells 32 [.own 142])]) (fun (q : Nat) => q ≤ (partsL lk (g1L m atm s)).length) (fun (q : Nat) => (partsL lk (g1L m atm s)).length - q) (0) (rn [(142, 140)]) (.cons (t := 0) rfl (.cons (t := 6) rfl (.cons (t := 7) rfl (.cons (t := 8) rfl (.cons (t := 11) rfl (.cons (t := 16) rfl (.cons (t := 21) rfl (.cons (t := 187) rfl (.cons (t := 188) rfl (.cons (t := 189) rfl (.cons (t := 190) rfl (.cons (t := 191) rfl (.cons (t := 192) rfl (.cons (t := 193) rfl (.cons (t := 194) rfl (.cons (t := 195) rfl (.cons (t := 196) rfl (.cons (t := 197) rfl (.cons (t := 220) rfl .nil))))))))))))))))))) (.cons (t := 101) rfl (.cons (t := 119) rfl (.cons (t := 121) rfl .nil))) rfl ?_ ?_ rfl rfl ?_ ?_
      · exact (SubF.cons rfl (SubF.val rfl (by exact iv_int (by rw [List.take_zero, List.append_nil, show p = (partsL lk (g0L m atm s)).length by omega, List.take_length])) SubF.nil))
      · exact (SubS.val rfl (by exact sb_data (by rw [List.take_zero, List.append_nil, show p = (partsL lk (g0L m atm s)).length by omega, List.take_length])) (SubS.cons rfl SubS.nil))
      ·skip
       omega
      intro q hinv
      have hq := hinv
      have hpl : ((partsL lk (g0L m atm s)) ++ (partsL lk (g1L m atm s)).take q).length ≤ 400 := by (try rw [List.length_append]); rw [List.length_take]; omega
      have hvb := sumV_b2 hw (L := ((partsL lk (g0L m atm s)) ++ (partsL lk (g1L m atm s)).take q)) (fun p hp => hL p ((List.mem_append.1 hp).elim (fun z => List.mem_append_left _ z) fun z => List.mem_append_right _ (List.mem_of_mem_take z)))
      refine W.rg ?_
      refine SL.val (O.det (fun _ => G.R.lss rfl rfl) rfl Taken.no) ?_
      refine E.fo (W.seq ?_)
      first | refine W.cond_d rfl (fun hc39 => ?_) (fun hc39 => ?_) | refine W.cond_nd rfl (fun hc39 => ?_) (fun hc39 => ?_) | refine W.cond rfl (fun hc39 => ?_) (fun hc39 => ?_)
      ·skip
       have hpu := partsN_units (mem_at (l := (partsL lk (g1L m atm s))) (i := q) (by omega))
       have hvp := valF_b hw (l := ((partsL lk (g1L m atm s))[q]!)) (by omega)
       refine W.skip (E.to (W.seq (W.block (W.rg ?_))))
       refine SL.val (O.idx_fz (i := q) rfl rfl (rfl) (row_get (by omega)) Try.underlying68 hi32 hs32 rfl Taken.no) ?_
       refine SL.val (O.ld1 (PtI.ofU (PtU.fz rfl)) rfl Try.underlying32 rfl rfl Taken.no) ?_
       refine SL.an rfl rfl (E.fo ?_)
       refine W.pick (K:=[(0,_),(6,_),(7,_),(8,_),(11,_),(16,_),(19,_),(21,_),(23,_),(187,_),(188,_),(189,_),(190,_),(191,_),(192,_),(193,_),(194,_),(195,_),(196,_),(197,_),(198,_),(199,_),(200,_),(201,_),(220,_)]) (Z:=[(101,_),(119,_),(121,_),(138,_),(142,_)]) ⟨rfl,rfl,rfl,rfl,rfl,rfl,rfl,rfl,rfl,rfl,rfl,rfl,rfl,rfl,rfl,rfl,rfl,rfl,rfl,rfl,rfl,rfl,rfl,rfl,rfl,trivial⟩ ⟨rfl,rfl,rfl,rfl,rfl,trivial⟩ ?_
       refine W.rg (SL.mv rfl rfl (SL.mv rfl rfl (SL.mv rfl rfl ?_)))
       refine SL.val (O.callp rfl rfl rfl (value_h (l := ((partsL lk (g1L m atm s))[q]!)) hw (by omega) (fun u hu => hgb.2.2 u (hpu.2.2 u hu))) (.cons (ArgOk.same rfl) (.cons (ArgOk.same rfl) .nil)) hcallOk57 rfl Taken.no) ?_
       refine SL.val (O.det (fun _ => by first | exact G.R.add64 rfl rfl (by omega) | exact G.R.add rfl rfl) rfl Taken.no) ?_
       refine SL.an rfl rfl (E.fo ?_)
       refine W.pick (K:=[(0,_),(6,_),(7,_),(8,_),(11,_),(16,_),(19,_),(21,_),(23,_),(187,_),(188,_),(189,_),(190,_),(191,_),(192,_),(193,_),(194,_),(195,_),(196,_),(197,_),(198,_),(199,_),(200,_),(201,_),(202,_),(203,_),(204,_),(205,_),(206,_),(220,_)]) (Z:=[(101,_),(119,_),(121,_),(138,_),(142,_)]) ⟨rfl,rfl,rfl,rfl,rfl,rfl,rfl,rfl,rfl,rfl,rfl,rfl,rfl,rfl,rfl,rfl,rfl,rfl,rfl,rfl,rfl,rfl,rfl,rfl,rfl,rfl,rfl,rfl,rfl,rfl,trivial⟩ ⟨rfl,rfl,rfl,rfl,rfl,trivial⟩ ?_
       refine W.rg (SL.mv rfl rfl ?_)
       refine SL.val (O.lenE (SlOf.fz rfl (by decide)) (by first | exact List.length_map _ | rfl) Try.underlying32 rfl Taken.no) ?_
       refine SL.mv rfl rfl (E.fo ?_)
       refine W.pick (K:=[(0,_),(6,_),(7,_),(8,_),(11,_),(16,_),(19,_),(21,_),(23,_),(187,_),(188,_),(189,_),(190,_),(191,_),(192,_),(193,_),(194,_),(195,_),(196,_),(197,_),(198,_),(199,_),(200,_),(201,_),(202,_),(203,_),(204,_),(205,_),(206,_),(207,_),(208,_),(209,_),(220,_)]) (Z:=[(101,_),(119,_),(121,_),(138,_),(142,_)]) ⟨rfl,rfl,rfl,rfl,rfl,rfl,rfl,rfl,rfl,rfl,rfl,rfl,rfl,rfl,rfl,rfl,rfl,rfl,rfl,rfl,rfl,rfl,rfl,rfl,rfl,rfl,rfl,rfl,rfl,rfl,rfl,rfl,rfl,trivial⟩ ⟨rfl,rfl,rfl,rfl,rfl,trivial⟩ ?_
       refine W.block ?_
       refine W.loopx1 (fun (j : Nat) => [(209, vI (j : Int))]) (fun (j : Nat) => [(143, .data 3 1 ((setAll (nameF (fun x : Nat => (x : Int)) (nm0 m atm s) ((partsL lk (g0L m atm s)) ++ (partsL lk (g1L m atm s)).take q)) (((partsL lk (g1L m atm s))[q]!).take j) ((minL ((partsL lk (g1L m atm s))[q]!) : Nat) : Int)).map eI)), (138, .cells 32 [.own 143])]) (fun (j : Nat) => j ≤ ((partsL lk (g1L m atm s))[q]!).length) (fun (j : Nat) => ((partsL lk (g1L m atm s))[q]!).length - j) (0) (rn [(143, 142)]) (.cons (t := 0) rfl (.cons (t := 6) rfl (.cons (t := 7) rfl (.cons (t := 8) rfl (.cons (t := 11) rfl (.cons (t := 16) rfl (.cons (t := 19) rfl (.cons (t := 21) rfl (.cons (t := 23) rfl (.cons (t := 187) rfl (.cons (t := 188) rfl (.cons (t := 189) rfl (.cons (t := 190) rfl (.cons (t := 191) rfl (.cons (t := 192) rfl (.cons (t := 193) rfl (.cons (t := 194) rfl (.cons (t := 195) rfl (.cons (t := 196) rfl (.cons (t := 197) rfl (.cons (t := 198) rfl (.cons (t := 199) rfl (.cons (t := 200) rfl (.cons (t := 201) rfl (.cons (t := 202) rfl (.cons (t := 203) rfl (.cons (t := 204) rfl (.cons (t := 205) rfl (.cons (t := 206) rfl (.cons (t := 207) rfl (.cons (t := 208) rfl (.cons (t := 220) rfl .nil)))))))))))))))))))))))))))))))) (.cons (t := 101) rfl (.cons (t := 119) rfl (.cons (t := 121) rfl .nil))) rfl ?_ ?_ rfl rfl ?_ ?_
       · exact (SubF.cons rfl SubF.nil)
       · exact (SubS.val rfl (by exact sb_data (by rw [List.take_zero]; rfl)) (SubS.cons rfl SubS.nil))
       ·skip
        omega
       intro j hinv
       have hj := hinv
       have hnl : (setAll (nameF (fun x : Nat => (x : Int)) (nm0 m atm s) ((partsL lk (g0L m atm s)) ++ (partsL lk (g1L m atm s)).take q)) (((partsL lk (g1L m atm s))[q]!).take j) ((minL ((partsL lk (g1L m atm s))[q]!) : Nat) : Int)).length = n := by rw [setAll_len, nameF_len, nm0_len]; exact hml
       refine W.rg ?_
       refine SL.val (O.det (fun _ => G.R.lss rfl rfl) rfl Taken.no) ?_
       refine E.fo ?_
       refine W.pick (K:=[(0,_),(6,_),(7,_),(8,_),(11,_),(16,_),(19,_),(21,_),(23,_),(187,_),(188,_),(189,_),(190,_),(191,_),(192,_),(193,_),(194,_),(195,_),(196,_),(197,_),(198,_),(199,_),(200,_),(201,_),(202,_),(203,_),(204,_),(205,_),(206,_),(207,_),(208,_),(209,_),(210,_),(220,_)]) (Z:=[(101,_),(119,_),(121,_),(138,_),(143,_)]) ⟨rfl,rfl,rfl,rfl,rfl,rfl,rfl,rfl,rfl,rfl,rfl,rfl,rfl,rfl,rfl,rfl,rfl,rfl,rfl,rfl,rfl,rfl,rfl,rfl,rfl,rfl,rfl,rfl,rfl,rfl,rfl,rfl,rfl,rfl,trivial⟩ ⟨rfl,rfl,rfl,rfl,rfl,trivial⟩ ?_
       refine W.seq ?_
       first | refine W.cond_d rfl (fun hc40 => ?_) (fun hc40 => ?_) | refine W.cond_nd rfl (fun hc40 => ?_) (fun hc40 => ?_) | refine W.cond rfl (fun hc40 => ?_) (fun hc40 => ?_)
       ·skip
        have hun := hgb.2.2 _ (hpu.2.2 ((partsL lk (g1L m atm s))[q]!)[j]! (mem_at (by omega)))
        refine W.skip (E.to ?_)
        refine W.pick (K:=[(0,_),(6,_),(7,_),(8,_),(11,_),(16,_),(19,_),(21,_),(23,_),(187,_),(188,_),(189,_),(190,_),(191,_),(192,_),(193,_),(194,_),(195,_),(196,_),(197,_),(198,_),(199,_),(200,_),(201,_),(202,_),(203,_),(204,_),(205,_),(206,_),(207,_),(208,_),(209,_),(210,_),(220,_)]) (Z:=[(101,_),(119,_),(121,_),(138,_),(143,_)]) ⟨rfl,rfl,rfl,rfl,rfl,rfl,rfl,rfl,rfl,rfl,rfl,rfl,rfl,rfl,rfl,rfl,rfl,rfl,rfl,rfl,rfl,rfl,rfl,rfl,rfl,rfl,rfl,rfl,rfl,rfl,rfl,rfl,rfl,rfl,trivial⟩ ⟨rfl,rfl,rfl,rfl,rfl,trivial⟩ ?_
        refine W.seq (W.block (W.rg ?_))
        refine SL.val (O.idx_fz (i := j) rfl rfl (rfl) (row_get (by omega)) Try.underlying32 hi3 hs3 rfl Taken.no) ?_
        refine SL.val (O.ld1 (PtI.ofU (PtU.fz rfl)) rfl Try.underlying3 rfl rfl Taken.no) ?_
        refine SL.an rfl rfl (E.fo ?_)
        refine W.pick (K:=[(0,_),(6,_),(7,_),(8,_),(11,_),(16,_),(19,_),(21,_),(23,_),(25,_),(187,_),(188,_),(189,_),(190,_),(191,_),(192,_),(193,_),(194,_),(195,_),(196,_),(197,_),(198,_),(199,_),(200,_),(201,_),(202,_),(203,_),(204,_),(205,_),(206,_),(207,_),(208,_),(209,_),(210,_),(211,_),(212,_),(220,_)]) (Z:=[(101,_),(119,_),(121,_),(138,_),(143,_)]) ⟨rfl,rfl,rfl,rfl,rfl,rfl,rfl,rfl,rfl,rfl,rfl,rfl,rfl,rfl,rfl,rfl,rfl,rfl,rfl,rfl,rfl,rfl,rfl,rfl,rfl,rfl,rfl,rfl,rfl,rfl,rfl,rfl,rfl,rfl,rfl,rfl,rfl,trivial⟩ ⟨rfl,rfl,rfl,rfl,rfl,trivial⟩ ?_
        refine W.draw [⟨[138], [], [], [143]⟩, ⟨[], [], [], []⟩, ⟨[], [], [], []⟩, ⟨[], [], [], []⟩, ⟨[143], [], [], []⟩, ⟨[143], [143], [], []⟩] rfl (by kernel_rfl) (by kernel_rfl) rfl rfl ?_
        refine WH.val (O.ld1 (PtI.ref rfl rfl) rfl Try.underlying32 rfl rfl Taken.no) rfl rfl ?_
        refine WH.mv rfl rfl rfl (WH.mv rfl rfl rfl ?_)
        refine WH.val (O.callp rfl rfl rfl (min_h (l := ((partsL lk (g1L m atm s))[q]!)) (by omega)) (.cons (ArgOk.same rfl) .nil) hcallOk87 rfl Taken.no) rfl rfl ?_
        refine WH.val (O.idx_own (i := (((partsL lk (g1L m atm s))[q]!)[j]!)) rfl rfl rfl (rfl) (by rw [List.length_map]; omega) Try.underlying32 hi3 hs3 rfl Taken.no) rfl rfl ?_
        refine WH.effS (O.st_els (m := 1) rfl rfl rfl (us := [_]) rfl rfl (by kernel_rfl) (by simp) (row_get (by omega)) (by exact Nat.le_of_ble_eq_true rfl) rfl rfl (rows' := ((setAll (nameF (fun x : Nat => (x : Int)) (nm0 m atm s) ((partsL lk (g0L m atm s)) ++ (partsL lk (g1L m atm s)).take q)) (((partsL lk (g1L m atm s))[q]!).take j) ((minL ((partsL lk (g1L m atm s))[q]!) : Nat) : Int)).set (((partsL lk (g1L m atm s))[q]!)[j]!) ((minL ((partsL lk (g1L m atm s))[q]!) : Nat) : Int)).map eI) (by exact set_map rfl) Taken.no) rfl rfl rfl (S' := (143, _) :: _) rfl ?_
        refine WH.nil (E.inn (E.to ?_))
        refine W.pick (K:=[(0,_),(6,_),(7,_),(8,_),(11,_),(16,_),(19,_),(21,_),(23,_),(25,_),(187,_),(188,_),(189,_),(190,_),(191,_),(192,_),(193,_),(194,_),(195,_),(196,_),(197,_),(198,_),(199,_),(200,_),(201,_),(202,_),(203,_),(204,_),(205,_),(206,_),(207,_),(208,_),(209,_),(210,_),(211,_),(212,_),(213,_),(214,_),(215,_),(216,_),(217,_),(220,_)]) (Z:=[(101,_),(119,_),(121,_),(138,_),(143,_)]) ⟨rfl,rfl,rfl,rfl,rfl,rfl,rfl,rfl,rfl,rfl,rfl,rfl,rfl,rfl,rfl,rfl,rfl,rfl,rfl,rfl,rfl,rfl,rfl,rfl,rfl,rfl,rfl,rfl,rfl,rfl,rfl,rfl,rfl,rfl,rfl,rfl,rfl,rfl,rfl,rfl,rfl,rfl,trivial⟩ ⟨rfl,rfl,rfl,rfl,rfl,trivial⟩ ?_
        refine W.region ?_
        refine SL.val (O.det (fun _ => by first | exact G.R.add64 rfl rfl (by omega) | exact G.R.add rfl rfl) rfl Taken.no) ?_
        refine SL.mv rfl rfl (SL.nil ?_)
        refine E.again ((j + 1)) (rn []) ?_ ?_ rfl (fixL_spec rfl) ?_ ?_
        · exact (SubF.cons rfl (SubF.cons rfl (SubF.cons rfl (SubF.cons rfl (SubF.cons rfl (SubF.cons rfl (SubF.cons rfl (SubF.cons rfl (SubF.cons rfl (SubF.cons rfl (SubF.cons rfl (SubF.cons rfl (SubF.cons rfl (SubF.cons rfl (SubF.cons rfl (SubF.cons rfl (SubF.cons rfl (SubF.cons rfl (SubF.cons rfl (SubF.cons rfl (SubF.cons rfl (SubF.cons rfl (SubF.cons rfl (SubF.cons rfl (SubF.cons rfl (SubF.cons rfl (SubF.cons rfl (SubF.cons rfl (SubF.cons rfl (SubF.cons rfl (SubF.cons rfl (SubF.cons rfl (SubF.cons rfl SubF.nil)))))))))))))))))))))))))))))))))
        · exact (SubS.val rfl (by (try dsimp only); exact sb_data (by rw [setAll_sG (by omega)])) (SubS.cons rfl (SubS.cons rfl (SubS.cons rfl (SubS.cons rfl SubS.nil)))))
        ·try dsimp only
         omega
        · (try dsimp only); omega
       refine W.exit (E.th (E.th (E.hit (E.inn (E.to ?_)))))
       refine W.pick (K:=[(0,_),(6,_),(7,_),(8,_),(11,_),(16,_),(19,_),(21,_),(23,_),(187,_),(188,_),(189,_),(190,_),(191,_),(192,_),(193,_),(194,_),(195,_),(196,_),(197,_),(198,_),(199,_),(200,_),(201,_),(202,_),(203,_),(204,_),(205,_),(206,_),(207,_),(208,_),(209,_),(210,_),(220,_)]) (Z:=[(101,_),(119,_),(121,_),(138,_),(143,_)]) ⟨rfl,rfl,rfl,rfl,rfl,rfl,rfl,rfl,rfl,rfl,rfl,rfl,rfl,rfl,rfl,rfl,rfl,rfl,rfl,rfl,rfl,rfl,rfl,rfl,rfl,rfl,rfl,rfl,rfl,rfl,rfl,rfl,rfl,rfl,trivial⟩ ⟨rfl,rfl,rfl,rfl,rfl,trivial⟩ ?_
       refine W.region ?_
       refine SL.val (O.det (fun _ => by first | exact G.R.add64 rfl rfl (by omega) | exact G.R.add rfl rfl) rfl Taken.no) ?_
       refine SL.mv rfl rfl (SL.nil ?_)
       refine E.again ((q + 1)) (rn [(142, 143)]) ?_ ?_ rfl (fixL_spec rfl) ?_ ?_
       · exact (SubF.cons rfl (SubF.val rfl (by (try dsimp only); exact iv_int (by rw [snocP (l := (partsL lk (g1L m atm s))) (by omega), ← List.append_assoc, sumV_snoc])) (SubF.cons rfl (SubF.cons rfl (SubF.cons rfl (SubF.cons rfl (SubF.cons rfl (SubF.cons rfl (SubF.cons rfl (SubF.cons rfl (SubF.cons rfl (SubF.cons rfl (SubF.cons rfl (SubF.cons rfl (SubF.cons rfl (SubF.cons rfl (SubF.cons rfl (SubF.cons rfl (SubF.cons rfl (SubF.cons rfl (SubF.cons rfl SubF.nil)))))))))))))))))))))
       · exact (SubS.val rfl (by (try dsimp only); exact sb_data (by rw [snocP (l := (partsL lk (g1L m atm s))) (by omega), ← List.append_assoc, nameF_snoc, show j = ((partsL lk (g1L m atm s))[q]!).length by omega, List.take_length])) (SubS.cons rfl (SubS.cons rfl (SubS.cons rfl (SubS.cons rfl SubS.nil)))))
       ·try dsimp only
        omega
       · (try dsimp only); omega
      refine W.exit (E.th (E.th (E.hit (E.inn (E.to (W.region ?_))))))
      refine SL.val (O.det (fun _ => by first | exact G.R.add64 rfl rfl (by omega) | exact G.R.add rfl rfl) rfl Taken.no) ?_
      refine SL.mv rfl rfl (SL.nil ?_)
      refine E.reround ?_
      refine W.pick (K:=[(0,_),(6,_),(7,_),(8,_),(11,_),(16,_),(19,_),(21,_),(187,_),(188,_),(189,_),(190,_),(191,_),(192,_),(193,_),(194,_),(195,_),(196,_),(197,_),(198,_),(199,_),(220,_)]) (Z:=[(101,_),(119,_),(121,_),(138,_),(142,_)]) ⟨rfl,rfl,rfl,rfl,rfl,rfl,rfl,rfl,rfl,rfl,rfl,rfl,rfl,rfl,rfl,rfl,rfl,rfl,rfl,rfl,rfl,rfl,trivial⟩ ⟨rfl,rfl,rfl,rfl,rfl,trivial⟩ ?_
      refine W.rg ?_
      refine SL.val (O.det (fun _ => G.R.mv (G.R.lss rfl rfl) (congrArg Value.bool (decide_eq_false (by decide)))) rfl Taken.no) ?_
      refine E.fo (W.seq ?_)
      refine W.cond_f rfl ?_
      refine W.exit (E.th (E.th (E.hit (E.to (W.rg ?_)))))
      refine SL.val (O.ld1 (PtI.ref rfl rfl) rfl Try.underlying32 rfl rfl Taken.no) ?_
      refine SL.mv rfl rfl (SL.mv rfl rfl ?_)
      refine SL.val (O.det (fun _ => by first | exact G.R.sub64 rfl rfl (by omega) | exact G.R.sub rfl rfl) rfl Taken.no) ?_
      refine SL.an rfl rfl (SL.an rfl rfl (SL.an rfl rfl (E.fo ?_)))
      refine W.pick (K:=[(6,_),(7,_),(8,_)]) (Z:=[(101,_),(119,_),(121,_),(138,_),(142,_)]) ⟨rfl,rfl,rfl,trivial⟩ ⟨rfl,rfl,rfl,rfl,rfl,trivial⟩ ?_
      refine W.ret ?_
      refine E.freeze 142 rfl (F' := [(6, _)]) (⟨⟨_, rfl, rfl⟩, trivial⟩) ?_
      refine E.fin (rs := [_, _, _]) (rn []) (.inl rfl) rfl (.cons (ResOne.tmp rfl) (.cons (ResOne.tmp rfl) (.cons (ResOne.tmp rfl) .nil))) ?_ ?_ rfl (fixL_spec rfl)
      ·skip
       have hyes : posF n bar atm m s := ⟨hpre, by rw [← hit_eq hml hb]; exact hcl⟩
       rw [← hs, apN_y hyes, apG_y hyes, dec_t hyes, gnF, hfe, hth, show q = (partsL lk (g1L m atm s)).length by omega, List.take_length]; rfl
      · exact SubS.nil
     first | have hg20p := G.gA7 hg20 | have hg20p := G.gA8 hg20 | have hg20p := hg20
     refine WH.sk rfl rfl rfl hg20 (WH.sk rfl rfl rfl hg20 (WH.sk rfl rfl rfl hg20 (WH.sk rfl rfl rfl hg20 (WH.sk rfl rfl rfl hg20 (WH.sk rfl rfl rfl hg20 (WH.sk rfl rfl rfl hg20 (WH.sk rfl rfl rfl hg20 ?_)))))))
     refine WH.val (O.pick_t rfl (G.ne_f hg20) rfl rfl Taken.no) rfl rfl ?_
     refine WH.nil (E.to ?_)
     refine W.pick (K:=[(0,_),(1,_),(5,_),(6,_),(7,_),(8,_),(9,_),(10,_),(88,_)]) (Z:=[(101,_),(119,_)]) ⟨rfl,rfl,rfl,rfl,rfl,rfl,rfl,rfl,rfl,trivial⟩ ⟨rfl,rfl,trivial⟩ ?_
     refine W.cond_t rfl ?_
     refine W.rg (SL.an rfl rfl (SL.an rfl rfl (SL.an rfl rfl (E.fo (W.ret (E.thr (E.thr ?_)))))))
     refine E.nilsl 6 1 rfl ?_
     refine E.fin (rs := [_, _, _]) (rn []) (.inl rfl) rfl (.cons (ResOne.tmp rfl) (.cons (ResOne.tmp rfl) (.cons (ResOne.tmp rfl) .nil))) ?_ ?_ rfl (fixL_spec rfl)
     ·skip
      first | ((have hno : ¬ posF n bar atm m ⟨u, (f : Int), (t : Int)⟩ := fun q => by ((obtain ⟨⟨⟨q1, q2, q3, q4, q5⟩, q6, q7, q8⟩, q9⟩ := posF_iff.1 q); (try simp only [Int.toNat_natCast] at q6 q7 q8); (have q6 := q6 (by omega); omega))); rw [apN_n hno, apG_n hno, dec_f hno]; rfl)
     · exact SubS.nil
    omega
   first | have hg3p := G.gA7 hg3 | have hg3p := G.gA8 hg3 | have hg3p := hg3
   refine WH.sk rfl rfl rfl hg3 (WH.sk rfl rfl rfl hg3 (WH.sk rfl rfl rfl hg3 (WH.sk rfl rfl rfl hg3 ?_)))
   refine WH.skip (OpOk.not2 rfl rfl rfl) ?_
   refine WH.skip (OpOk.not2 rfl rfl rfl) ?_
   refine WH.skip (OpOk.not2 rfl rfl rfl) ?_
   refine WH.skip (OpOk.not2 rfl rfl rfl) ?_
   refine WH.skip (OpOk.not2 rfl rfl rfl) ?_
   refine WH.skip (OpOk.not2 rfl rfl rfl) ?_
   refine WH.skip (OpOk.not2 rfl rfl rfl) ?_
   refine WH.sk rfl rfl rfl hg3 ?_
   refine WH.val (O.pick_t rfl (G.ne_f hg3) rfl rfl Taken.no) rfl rfl ?_
   refine WH.nil (E.to ?_)
   refine W.pick (K:=[(0,_),(1,_),(5,_),(6,_),(7,_),(8,_),(60,_)]) (Z:=[(101,_)]) ⟨rfl,rfl,rfl,rfl,rfl,rfl,rfl,trivial⟩ ⟨rfl,trivial⟩ ?_
   refine W.cond_t rfl ?_
   refine W.rg (SL.an rfl rfl (SL.an rfl rfl (SL.an rfl rfl (E.fo (W.ret (E.thr ?_))))))
   refine E.nilsl 6 1 rfl ?_
   refine E.fin (rs := [_, _, _]) (rn []) (.inl rfl) rfl (.cons (ResOne.tmp rfl) (.cons (ResOne.tmp rfl) (.cons (ResOne.tmp rfl) .nil))) ?_ ?_ rfl (fixL_spec rfl)
   ·skip
    first | ((have hno : ¬ posF n bar atm m ⟨u, f, t⟩ := fun q => by ((obtain ⟨⟨⟨q1, q2, q3, q4, q5⟩, q6, q7, q8⟩, q9⟩ := posF_iff.1 q); (try simp only [Int.toNat_natCast] at q6 q7 q8); (first | omega | (have q5 := q5 (by omega); simp_all)))); rw [apN_n hno, apG_n hno, dec_f hno]; rfl)
   · exact SubS.nil
  first | have hg2p := G.gA7 hg2 | have hg2p := G.gA8 hg2 | have hg2p := hg2
  refine WH.sk rfl rfl rfl hg2 (WH.sk rfl rfl rfl hg2 (WH.sk rfl rfl rfl hg2 (WH.sk rfl rfl rfl hg2 (WH.sk rfl rfl rfl hg2 (WH.sk rfl rfl rfl hg2 (WH.sk rfl rfl rfl hg2 ?_))))))
  refine WH.val (O.pick_t rfl (G.ne_f hg2) rfl rfl Taken.no) rfl rfl ?_
  refine WH.mv rfl rfl rfl ?_
  have hg41 : true ≠ false := by decide
  refine WH.sk rfl rfl rfl hg41 (WH.sk rfl rfl rfl hg41 (WH.sk rfl rfl rfl hg41 (WH.sk rfl rfl rfl hg41 ?_)))
  refine WH.skip (OpOk.not2 rfl rfl rfl) ?_
  refine WH.skip (OpOk.not2 rfl rfl rfl) ?_
  refine WH.skip (OpOk.not2 rfl rfl rfl) ?_
  refine WH.skip (OpOk.not2 rfl rfl rfl) ?_
  refine WH.skip (OpOk.not2 rfl rfl rfl) ?_
  refine WH.skip (OpOk.not2 rfl rfl rfl) ?_
  refine WH.skip (OpOk.not2 rfl rfl rfl) ?_
  refine WH.sk rfl rfl rfl hg41 ?_
  refine WH.val (O.pick_t rfl rfl rfl rfl Taken.no) rfl rfl ?_
  refine WH.nil (E.to ?_)
  refine W.pick (K:=[(0,_),(1,_),(5,_),(6,_),(7,_),(8,_),(60,_)]) (Z:=[(101,_)]) ⟨rfl,rfl,rfl,rfl,rfl,rfl,rfl,trivial⟩ ⟨rfl,trivial⟩ ?_
  refine W.cond_t rfl ?_
  refine W.rg (SL.an rfl rfl (SL.an rfl rfl (SL.an rfl rfl (E.fo (W.ret (E.thr ?_))))))
  refine E.nilsl 6 1 rfl ?_
  refine E.fin (rs := [_, _, _]) (rn []) (.inl rfl) rfl (.cons (ResOne.tmp rfl) (.cons (ResOne.tmp rfl) (.cons (ResOne.tmp rfl) .nil))) ?_ ?_ rfl (fixL_spec rfl)
  ·skip
   first | ((have hno : ¬ posF n bar atm m ⟨u, f, t⟩ := fun q => by ((obtain ⟨⟨⟨q1, q2, q3, q4, q5⟩, q6, q7, q8⟩, q9⟩ := posF_iff.1 q); (try simp only [Int.toNat_natCast] at q6 q7 q8); (first | omega | (have q5 := q5 (by omega); simp_all)))); rw [apN_n hno, apG_n hno, dec_f hno]; rfl)
  · exact SubS.nil
 first | have hg1p := G.gA7 hg1 | have hg1p := G.gA8 hg1 | have hg1p := hg1
 refine WH.sk rfl rfl rfl hg1 (WH.sk rfl rfl rfl hg1 (WH.sk rfl rfl rfl hg1 (WH.sk rfl rfl rfl hg1 (WH.sk rfl rfl rfl hg1 (WH.sk rfl rfl rfl hg1 (WH.sk rfl rfl rfl hg1 ?_))))))
 refine WH.val (O.pick_t rfl (G.ne_f hg1) rfl rfl Taken.no) rfl rfl ?_
 refine WH.mv rfl rfl rfl ?_
 have hg42 : true ≠ false := by decide
 refine WH.sk rfl rfl rfl hg42 (WH.sk rfl rfl rfl hg42 (WH.sk rfl rfl rfl hg42 (WH.sk rfl rfl rfl hg42 (WH.sk rfl rfl rfl hg42 (WH.sk rfl rfl rfl hg42 (WH.sk rfl rfl rfl hg42 ?_))))))
 refine WH.val (O.pick_t rfl rfl rfl rfl Taken.no) rfl rfl ?_
 refine WH.mv rfl rfl rfl ?_
 have hg43 : true ≠ false := by decide
 refine WH.sk rfl rfl rfl hg43 (WH.sk rfl rfl rfl hg43 (WH.sk rfl rfl rfl hg43 (WH.sk rfl rfl rfl hg43 ?_)))
 refine WH.skip (OpOk.not2 rfl rfl rfl) ?_
 refine WH.skip (OpOk.not2 rfl rfl rfl) ?_
 refine WH.skip (OpOk.not2 rfl rfl rfl) ?_
 refine WH.skip (OpOk.not2 rfl rfl rfl) ?_
 refine WH.skip (OpOk.not2 rfl rfl rfl) ?_
 refine WH.skip (OpOk.not2 rfl rfl rfl) ?_
 refine WH.skip (OpOk.not2 rfl rfl rfl) ?_
 refine WH.sk rfl rfl rfl hg43 ?_
 refine WH.val (O.pick_t rfl rfl rfl rfl Taken.no) rfl rfl ?_
 refine WH.nil (E.to ?_)
 refine W.pick (K:=[(0,_),(1,_),(5,_),(6,_),(7,_),(8,_),(60,_)]) (Z:=[(101,_)]) ⟨rfl,rfl,rfl,rfl,rfl,rfl,rfl,trivial⟩ ⟨rfl,trivial⟩ ?_
 refine W.cond_t rfl ?_
 refine W.rg (SL.an rfl rfl (SL.an rfl rfl (SL.an rfl rfl (E.fo (W.ret (E.thr ?_))))))
 refine E.nilsl 6 1 rfl ?_
 refine E.fin (rs := [_, _, _]) (rn []) (.inl rfl) rfl (.cons (ResOne.tmp rfl) (.cons (ResOne.tmp rfl) (.cons (ResOne.tmp rfl) .nil))) ?_ ?_ rfl (fixL_spec rfl)
 ·skip
  first | ((have hno : ¬ posF n bar atm m ⟨u, f, t⟩ := fun q => by ((obtain ⟨⟨⟨q1, q2, q3, q4, q5⟩, q6, q7, q8⟩, q9⟩ := posF_iff.1 q); (try simp only [Int.toNat_natCast] at q6 q7 q8); (first | omega | (have q5 := q5 (by omega); simp_all)))); rw [apN_n hno, apG_n hno, dec_f hno]; rfl)
 · exact SubS.nil

end Go.Proofs.Ytbkbeplddddgeaa
end
section
namespace Go.Proofs.Ytbkbeplddddgeaa
open Go Go.RowKit Go.H Go.D33

theorem hcallOk74 : G.callOk Try.prog 74 = true := by kernel_rfl
theorem hcallOk75 : G.callOk Try.prog 75 = true := by kernel_rfl

set_option maxRecDepth 8000 in
set_option maxHeartbeats 3200000 in
theorem next_h {n : Nat} {wt : Nat → Nat → Int} {lk : Nat → Nat → Bool} {bar : List Ru} {atm : List Nat} {m : List Nat} (hn : n ≤ 200) (hw : ∀ i j, -1000 ≤ wt i j ∧ wt i j ≤ 1000) (ha : atm.length = n ∧ ∀ i, i < n → atm[i]! < n) (hb : ∀ x ∈ bar, 0 ≤ x.a ∧ x.a < (n : Int) ∧ 0 ≤ x.b ∧ x.b < (n : Int)) (hml : m.length = n) :
    Con Try.prog 55 [.u (.ptr [uI (n : Int), .sl 1 (gridU (gridF n fun i j => uI (wt i j))), .sl 1 (gridU (gridF n fun i j => uB (lk i j))), .sl 3 (bar.map eRu), .sl 1 (atm.map eN), .sl 1 ((List.range n).map eN)]), vL 1 (m.map eN)] [] (.tup [.agg [vB (bestF (posF n bar atm m) (gnF wt lk m atm) (stepsL (selfs n m) (selfs n atm))).1.u, vI (bestF (posF n bar atm m) (gnF wt lk m atm) (stepsL (selfs n m) (selfs n atm))).1.f, vI (bestF (posF n bar atm m) (gnF wt lk m atm) (stepsL (selfs n m) (selfs n atm))).1.t], vI (bestF (posF n bar atm m) (gnF wt lk m atm) (stepsL (selfs n m) (selfs n atm))).2, vL 1 ((outF lk m atm (bestF (posF n bar atm m) (gnF wt lk m atm) (stepsL (selfs n m) (selfs n atm)))).map eI)]) [] := by
 have hal := ha.1
 have hsb := steps_b n hn m atm
 obtain ⟨i57, hi57, hz57, hs57, hb57⟩ := hinf57
 refine Con.enterL (n := 41) Try.func55 rfl rfl rfl (fun τ w ok vs hin => ?_)
 have hl1 := hin.len (i := 1) rfl
 try rw [List.length_map] at hl1
 clear hin
 refine W.rg ?_
 refine SL.memS (O.alloc (z := .agg #[.bool false, .int .i64 0, .int .i64 0]) (is := [.u (.sc (.bool false)), .u (.sc (.int .i64 0)), .u (.sc (.int .i64 0))]) 101 (by kernel_rfl) rfl rfl rfl Taken.no) rfl rfl (S' := (101, _) :: _) rfl ?_
 refine SL.an rfl rfl (SL.an rfl rfl (E.fo (W.seq (W.rg (SL.mv rfl rfl (SL.mv rfl rfl ?_))))))
 refine SL.val (O.callp rfl rfl rfl (steps_h (m := m) (by omega) (by omega) (by omega)) (.cons (ArgOk.same rfl) (.cons (ArgOk.same rfl) .nil)) hcallOk74 rfl Taken.no) ?_
 refine SL.val (O.lenE (SlOf.fz rfl (by decide)) (by first | exact List.length_map _ | rfl) Try.underlying105 rfl Taken.no) ?_
 refine SL.mv rfl rfl (E.fo (W.block ?_))
 refine W.nilsl 6 1 rfl ?_
 refine W.loopx1 (fun (k : Nat) => [(16, vI (k : Int)), (5, vI (bestF (posF n bar atm m) (gnF wt lk m atm) ((stepsL (selfs n m) (selfs n atm)).take k)).2), (6, vL 1 ((outF lk m atm (bestF (posF n bar atm m) (gnF wt lk m atm) ((stepsL (selfs n m) (selfs n atm)).take k))).map eI))]) (fun (k : Nat) => [(101, .cells 57 [vB (bestF (posF n bar atm m) (gnF wt lk m atm) ((stepsL (selfs n m) (selfs n atm)).take k)).1.u, vI (bestF (posF n bar atm m) (gnF wt lk m atm) ((stepsL (selfs n m) (selfs n atm)).take k)).1.f, vI (bestF (posF n bar atm m) (gnF wt lk m atm) ((stepsL (selfs n m) (selfs n atm)).take k)).1.t])]) (fun (k : Nat) => k ≤ (stepsL (selfs n m) (selfs n atm)).length) (fun (k : Nat) => (stepsL (selfs n m) (selfs n atm)).length - k) (0) (rn []) (.cons (t := 0) rfl (.cons (t := 1) rfl (.cons (t := 4) rfl (.cons (t := 14) rfl (.cons (t := 15) rfl .nil))))) .nil rfl ?_ ?_ rfl rfl ?_ ?_
 · exact (SubF.cons rfl (SubF.cons rfl (SubF.cons rfl SubF.nil)))
 · exact (SubS.cons rfl SubS.nil)
 ·skip
  omega
 intro k hinv
 have hk := hinv
 have hb0 := best_ge (ok := posF n bar atm m) (g := gnF wt lk m atm) (stepsL (selfs n m) (selfs n atm)) hk
 refine W.rg ?_
 refine SL.val (O.det (fun _ => G.R.lss rfl rfl) rfl Taken.no) ?_
 refine E.fo (W.seq ?_)
 first | refine W.cond_d rfl (fun hc1 => ?_) (fun hc1 => ?_) | refine W.cond_nd rfl (fun hc1 => ?_) (fun hc1 => ?_) | refine W.cond rfl (fun hc1 => ?_) (fun hc1 => ?_)
 ·skip
  refine W.skip (E.to (W.seq (W.block (W.rg ?_))))
  refine SL.val (O.idx_fz (i := k) rfl rfl (rfl) (row_get (by omega)) Try.underlying105 hi57 hs57 rfl Taken.no) ?_
  refine SL.val (O.ldU (m := 3) (PtU.fz rfl) rfl Try.underlying57 rfl (by kernel_rfl) rfl Taken.no) ?_
  refine SL.memS (O.alloc (z := .agg #[.bool false, .int .i64 0, .int .i64 0]) (is := [.u (.sc (.bool false)), .u (.sc (.int .i64 0)), .u (.sc (.int .i64 0))]) 102 (by kernel_rfl) rfl rfl rfl Taken.no) rfl rfl (S' := (102, _) :: _) rfl ?_
  refine SL.effS (O.st_ref (m := 3) rfl rfl rfl (js := [_, _, _]) rfl rfl (by kernel_rfl) (by simp) (Nat.le_of_ble_eq_true rfl) rfl (is' := [_, _, _]) rfl Taken.no) (S' := (102, _) :: _) rfl ?_
  refine E.fo (W.rg (SL.mv rfl rfl (SL.mv rfl rfl ?_)))
  refine SL.val (O.ldN (m := 3) (PtI.ref rfl rfl) (js := [_, _, _]) rfl (Nat.le_of_ble_eq_true rfl) Try.underlying57 rfl (by kernel_rfl) rfl Taken.no) ?_
  refine SL.memS (O.call (rn []) [] rfl rfl rfl (apply_h (u := (stepsL (selfs n m) (selfs n atm))[k]!.u) (f := (stepsL (selfs n m) (selfs n atm))[k]!.f) (t := (stepsL (selfs n m) (selfs n atm))[k]!.t) (by omega) hw ha hb hml) (.cons (ArgOk.same rfl) (.cons (ArgOk.same rfl) (.cons (ArgOk.aggU (.cons (ArgOk.same rfl) (.cons (ArgOk.same rfl) (.cons (ArgOk.same rfl) .nil)))) .nil))) SubS.nil rfl rfl rfl rfl rfl (.inl rfl) hcallOk75 (r' := .tup [.u _, .u _, .u _]) rfl rfl Taken.no) rfl rfl (S' := _) rfl ?_
  refine SL.mv rfl rfl ?_
  refine SL.val (O.extract rfl rfl rfl Taken.no) ?_
  refine SL.val (O.extract rfl rfl rfl Taken.no) ?_
  refine SL.val (O.extract rfl rfl rfl Taken.no) ?_
  refine SL.an rfl rfl (SL.an rfl rfl (SL.an rfl rfl (E.fo (W.rg (SL.mv rfl rfl (SL.mv rfl rfl ?_))))))
  refine SL.case (j := 1) (g := 29) (want := true) rfl rfl (fun hg2 => ?_) (fun hg2 => ?_)
  ·skip
   first | have hg2p := G.gA1 hg2 | have hg2p := G.gA2 hg2 | have hg2p := hg2
   refine SL.val (O.move rfl rfl (Taken.yes rfl rfl hg2)) ?_
   refine SL.val (O.move rfl rfl (Taken.yes rfl rfl hg2)) ?_
   refine SL.val (O.det (fun _ => G.R.gtr rfl rfl) rfl (Taken.yes rfl rfl hg2)) ?_
   refine SL.val (O.pick_t rfl hg2 rfl rfl Taken.no) ?_
   refine E.fo ?_
   refine W.pick (K:=[(0,_),(1,_),(4,_),(5,_),(6,_),(8,_),(9,_),(10,_),(14,_),(15,_),(16,_),(33,_)]) (Z:=[(101,_),(102,_)]) ⟨rfl,rfl,rfl,rfl,rfl,rfl,rfl,rfl,rfl,rfl,rfl,rfl,trivial⟩ ⟨rfl,rfl,trivial⟩ ?_
   first | refine W.cond_d rfl (fun hc3 => ?_) (fun hc3 => ?_) | refine W.cond_nd rfl (fun hc3 => ?_) (fun hc3 => ?_) | refine W.cond rfl (fun hc3 => ?_) (fun hc3 => ?_)
   ·skip
    have hp1 : posF n bar atm m (stepsL (selfs n m) (selfs n atm))[k]! := by simp_all
    have hp2 : (bestF (posF n bar atm m) (gnF wt lk m atm) ((stepsL (selfs n m) (selfs n atm)).take k)).2 < gnF wt lk m atm (stepsL (selfs n m) (selfs n atm))[k]! := by rw [← apG_y (w := wt) (lk := lk) hp1]; assumption
    refine W.region ?_
    refine SL.val (O.ldN (m := 3) (PtI.ref rfl rfl) (js := [_, _, _]) rfl (Nat.le_of_ble_eq_true rfl) Try.underlying57 rfl (by kernel_rfl) rfl Taken.no) ?_
    refine SL.mv rfl rfl (SL.mv rfl rfl ?_)
    refine SL.effS (O.st_ref (m := 3) rfl rfl rfl (js := [_, _, _]) rfl rfl (by kernel_rfl) (by simp) (Nat.le_of_ble_eq_true rfl) rfl (is' := [_, _, _]) rfl Taken.no) (S' := (101, _) :: _) rfl ?_
    refine SL.an rfl rfl (SL.an rfl rfl (SL.nil (E.inn (E.to (W.region ?_)))))
    refine SL.val (O.det (fun _ => by first | exact G.R.add64 rfl rfl (by omega) | exact G.R.add rfl rfl) rfl Taken.no) ?_
    refine SL.mv rfl rfl (SL.nil ?_)
    refine E.again ((k + 1)) (rn []) ?_ ?_ rfl (fixL_spec rfl) ?_ ?_
    · exact (SubF.cons rfl (SubF.val rfl (by (try dsimp only); first | exact iv_int (by rw [best_s (by omega), pick_y hp1 hp2]; exact apG_y hp1) | exact iv_int (by rw [best_s (by omega), pick_n hp])) (SubF.val rfl (by (try dsimp only); first | exact iv_sl (by rw [best_s (by omega), pick_y hp1 hp2, outF_y hb0 hp2]; exact congrArg (List.map eI) (apN_y hp1)) | exact iv_sl (by rw [best_s (by omega), pick_n hp])) (SubF.cons rfl (SubF.cons rfl (SubF.cons rfl (SubF.cons rfl (SubF.cons rfl SubF.nil))))))))
    · exact (SubS.val rfl (by (try dsimp only); first | (rw [best_s (by omega), pick_y hp1 hp2]; rfl) | (rw [best_s (by omega), pick_n hp]; rfl)) SubS.nil)
    ·try dsimp only
     omega
    · (try dsimp only); omega
   have hp : ¬ (posF n bar atm m (stepsL (selfs n m) (selfs n atm))[k]! ∧ (bestF (posF n bar atm m) (gnF wt lk m atm) ((stepsL (selfs n m) (selfs n atm)).take k)).2 < gnF wt lk m atm (stepsL (selfs n m) (selfs n atm))[k]!) := fun q => by have q2 := q.2; rw [← apG_y (w := wt) (lk := lk) q.1] at q2; first | exact (show ¬ posF n bar atm m (stepsL (selfs n m) (selfs n atm))[k]! by assumption) q.1 | exact (show ¬ (bestF (posF n bar atm m) (gnF wt lk m atm) ((stepsL (selfs n m) (selfs n atm)).take k)).2 < apG n wt lk bar atm m (stepsL (selfs n m) (selfs n atm))[k]! by assumption) q2
   refine W.skip (E.inn (E.to (W.region ?_)))
   refine SL.val (O.det (fun _ => by first | exact G.R.add64 rfl rfl (by omega) | exact G.R.add rfl rfl) rfl Taken.no) ?_
   refine SL.mv rfl rfl (SL.nil ?_)
   refine E.again ((k + 1)) (rn []) ?_ ?_ rfl (fixL_spec rfl) ?_ ?_
   · exact (SubF.cons rfl (SubF.val rfl (by (try dsimp only); first | exact iv_int (by rw [best_s (by omega), pick_y hp1 hp2]; exact apG_y hp1) | exact iv_int (by rw [best_s (by omega), pick_n hp])) (SubF.val rfl (by (try dsimp only); first | exact iv_sl (by rw [best_s (by omega), pick_y hp1 hp2, outF_y hb0 hp2]; exact congrArg (List.map eI) (apN_y hp1)) | exact iv_sl (by rw [best_s (by omega), pick_n hp])) (SubF.cons rfl (SubF.cons rfl (SubF.cons rfl (SubF.cons rfl (SubF.cons rfl SubF.nil))))))))
   · exact (SubS.val rfl (by (try dsimp only); first | (rw [best_s (by omega), pick_y hp1 hp2]; rfl) | (rw [best_s (by omega), pick_n hp]; rfl)) SubS.nil)
   ·try dsimp only
    omega
   · (try dsimp only); omega
  first | have hg2p := G.gA5 hg2 | have hg2p := G.gA6 hg2 | have hg2p := hg2
  have hp : ¬ (posF n bar atm m (stepsL (selfs n m) (selfs n atm))[k]! ∧ (bestF (posF n bar atm m) (gnF wt lk m atm) ((stepsL (selfs n m) (selfs n atm)).take k)).2 < gnF wt lk m atm (stepsL (selfs n m) (selfs n atm))[k]!) := fun q => (show ¬ posF n bar atm m (stepsL (selfs n m) (selfs n atm))[k]! by assumption) q.1
  refine SL.sk rfl rfl rfl hg2 (SL.sk rfl rfl rfl hg2 (SL.sk rfl rfl rfl hg2 ?_))
  refine SL.val (O.pick_f rfl (G.ne_t hg2) rfl rfl Taken.no) ?_
  refine E.fo ?_
  refine W.pick (K:=[(0,_),(1,_),(4,_),(5,_),(6,_),(8,_),(9,_),(10,_),(14,_),(15,_),(16,_),(33,_)]) (Z:=[(101,_),(102,_)]) ⟨rfl,rfl,rfl,rfl,rfl,rfl,rfl,rfl,rfl,rfl,rfl,rfl,trivial⟩ ⟨rfl,rfl,trivial⟩ ?_
  refine W.cond_f rfl ?_
  refine W.skip (E.inn (E.to (W.region ?_)))
  refine SL.val (O.det (fun _ => by first | exact G.R.add64 rfl rfl (by omega) | exact G.R.add rfl rfl) rfl Taken.no) ?_
  refine SL.mv rfl rfl (SL.nil ?_)
  refine E.again ((k + 1)) (rn []) ?_ ?_ rfl (fixL_spec rfl) ?_ ?_
  · exact (SubF.cons rfl (SubF.val rfl (by (try dsimp only); first | exact iv_int (by rw [best_s (by omega), pick_y hp1 hp2]; exact apG_y hp1) | exact iv_int (by rw [best_s (by omega), pick_n hp])) (SubF.val rfl (by (try dsimp only); first | exact iv_sl (by rw [best_s (by omega), pick_y hp1 hp2, outF_y hb0 hp2]; exact congrArg (List.map eI) (apN_y hp1)) | exact iv_sl (by rw [best_s (by omega), pick_n hp])) (SubF.cons rfl (SubF.cons rfl (SubF.cons rfl (SubF.cons rfl (SubF.cons rfl SubF.nil))))))))
  · exact (SubS.val rfl (by (try dsimp only); first | (rw [best_s (by omega), pick_y hp1 hp2]; rfl) | (rw [best_s (by omega), pick_n hp]; rfl)) SubS.nil)
  ·try dsimp only
   omega
  · (try dsimp only); omega
 refine W.exit (E.th (E.th (E.hit (E.to (W.rg ?_)))))
 refine SL.val (O.ldN (m := 3) (PtI.ref rfl rfl) (js := [_, _, _]) rfl (Nat.le_of_ble_eq_true rfl) Try.underlying57 rfl (by kernel_rfl) rfl Taken.no) ?_
 refine SL.mv rfl rfl (SL.mv rfl rfl ?_)
 refine SL.effS (O.st_ref (m := 3) rfl rfl rfl (js := [_, _, _]) rfl rfl (by kernel_rfl) (by simp) (Nat.le_of_ble_eq_true rfl) rfl (is' := [_, _, _]) rfl Taken.no) (S' := (101, _) :: _) rfl ?_
 refine SL.an rfl rfl (SL.an rfl rfl (E.fo (W.ret ?_)))
 refine E.fin (rs := [_, _, _]) (rn []) (.inl rfl) rfl (.cons (ResOne.cellN (m := 3) (PtI.ref rfl rfl) (js := [_, _, _]) rfl (Nat.le_of_ble_eq_true rfl) Try.underlying57 rfl (by kernel_rfl)) (.cons (ResOne.tmp rfl) (.cons (ResOne.tmp rfl) .nil))) ?_ ?_ rfl (fixL_spec rfl)
 ·skip
  (rw [show k = (stepsL (selfs n m) (selfs n atm)).length by omega, List.take_length]; rfl)
 · exact SubS.nil

end Go.Proofs.Ytbkbeplddddgeaa
end
section
namespace Go.D33
open Go Go.RowKit Go.H
section
variable {n : Nat} {ps : List Pr} {rs : List Ru} {m : List Nat} {s : Stp} {l : List Int}
theorem ap_eq (hf : (Prob.mk (n : Int) ps rs).formed) (hm : isP n m) (hp : permR n ps rs m) (s : Stp) :
    (posF n (barL rs) (namedL n (partsL (mu rs) (List.range n))) m s ↔ posR n (barL rs) (atomsL n rs) m s) ∧
    (posR n (barL rs) (atomsL n rs) m s → nmF (mF (lF ps) rs) m (namedL n (partsL (mu rs) (List.range n))) s = (resR n ps rs m s).map (fun x : Nat => (x : Int)) ∧ gnF (wF ps) (mF (lF ps) rs) m (namedL n (partsL (mu rs) (List.range n))) s = gnR n ps rs m s) := by
  rw [← atoms_eq hf]
  refine ⟨pos_iff hf hm hp, fun h => ?_⟩
  have := (pos_iff hf hm hp).2 h
  exact apply_eq hf hm hp this.1
def apL (n : Nat) (ps : List Pr) (rs : List Ru) (l : List Int) (s : Stp) : List Nat := if permS n ps rs l ∧ posR n (barL rs) (atomsL n rs) (l.map Int.toNat) s then resR n ps rs (l.map Int.toNat) s else []
def apV (n : Nat) (ps : List Pr) (rs : List Ru) (l : List Int) (s : Stp) : Int := if permS n ps rs l ∧ posR n (barL rs) (atomsL n rs) (l.map Int.toNat) s then gnR n ps rs (l.map Int.toNat) s else 0
def apE (n : Nat) (ps : List Pr) (rs : List Ru) (l : List Int) (s : Stp) : Int := if permS n ps rs l then (if posR n (barL rs) (atomsL n rs) (l.map Int.toNat) s then 0 else 1) else 11
def nxI (n : Nat) (ps : List Pr) (rs : List Ru) (l : List Int) : Stp × Int := if permS n ps rs l then nextR n ps rs (l.map Int.toNat) else (⟨false, 0, 0⟩, 0)
def nxE (n : Nat) (ps : List Pr) (rs : List Ru) (l : List Int) : Int := if permS n ps rs l then 0 else 11
theorem nx_no (h : ¬ permS n ps rs l) : nxI n ps rs l = (⟨false, 0, 0⟩, 0) ∧ nxE n ps rs l = 11 := ⟨if_neg h, if_neg h⟩
theorem nx_yes (h : permS n ps rs (m.map fun x : Nat => (x : Int))) : nxI n ps rs (m.map fun x : Nat => (x : Int)) = nextR n ps rs m ∧ nxE n ps rs (m.map fun x : Nat => (x : Int)) = 0 := by
  unfold nxI nxE
  rw [if_pos h, if_pos h, cast_back]; exact ⟨rfl, rfl⟩
def outR (n : Nat) (ps : List Pr) (rs : List Ru) (m : List Nat) : List Nat := if (nextR n ps rs m).2 = 0 then [] else resR n ps rs m (nextR n ps rs m).1
theorem next_all (hf : (Prob.mk (n : Int) ps rs).formed) (hm : isP n m) (hp : permR n ps rs m) :
    bestF (posF n (barL rs) (namedL n (partsL (mu rs) (List.range n))) m) (gnF (wF ps) (mF (lF ps) rs) m (namedL n (partsL (mu rs) (List.range n)))) (stepsL (selfs n m) (selfs n (namedL n (partsL (mu rs) (List.range n))))) = nextR n ps rs m := by
  have := next_eq hf hm hp
  unfold nextF at this
  rw [atoms_eq hf] at this
  exact this
theorem out_eq (hf : (Prob.mk (n : Int) ps rs).formed) (hm : isP n m) (hp : permR n ps rs m) : outF (mF (lF ps) rs) m (namedL n (partsL (mu rs) (List.range n))) (nextR n ps rs m) = (outR n ps rs m).map fun x : Nat => (x : Int) := by
  unfold outF outR
  by_cases e : (nextR n ps rs m).2 = 0
  · rw [if_pos e, if_pos e]; rfl
  · rw [if_neg e, if_neg e]
    obtain ⟨h1, h2, _, _⟩ := next_spec n ps rs m
    exact ((ap_eq hf hm hp _).2 (h2 (by omega)).2.1).1
end
end Go.D33
end
