/-
  What the proof rests on: part 12 of 12.
-/
import Derived.Test.YtppamigboeaefaaClusterPartsP11
section
namespace Go.D33
open Go Go.RowKit Go.H
/-! ### The first of the best steps -/
def ltS (a b : Stp) : Prop := (a.u = false ∧ b.u = true) ∨ (a.u = b.u ∧ (a.f < b.f ∨ (a.f = b.f ∧ a.t < b.t)))
theorem ltS_asymm {a b : Stp} (h : ltS a b) : ¬ ltS b a := by
  rintro (q | q) <;> rcases h with h | h
  · rw [h.1] at q; cases q.2
  · rw [h.1, q.1] at q; cases q.2
  · rw [h.1, h.2] at q; cases q.1
  · omega
theorem ltS_tri (a b : Stp) : a = b ∨ ltS a b ∨ ltS b a := by
  obtain ⟨u, f, t⟩ := a
  obtain ⟨u', f', t'⟩ := b
  by_cases hu : u = u'
  · subst hu
    rcases Int.lt_trichotomy f f' with h | h | h
    · exact .inr (.inl (.inr ⟨rfl, .inl h⟩))
    · subst h
      rcases Int.lt_trichotomy t t' with h | h | h
      · exact .inr (.inl (.inr ⟨rfl, .inr ⟨rfl, h⟩⟩))
      · subst h; exact .inl rfl
      · exact .inr (.inr (.inr ⟨rfl, .inr ⟨rfl, h⟩⟩))
    · exact .inr (.inr (.inr ⟨rfl, .inl h⟩))
  · cases u <;> cases u'
    · exact absurd rfl hu
    · exact .inr (.inl (.inl ⟨rfl, rfl⟩))
    · exact .inr (.inr (.inl ⟨rfl, rfl⟩))
    · exact absurd rfl hu
theorem rowS_in {n : Nat} {u : Bool} {f : Nat} {s : Stp} (h : s ∈ rowS n u f) : s.u = u ∧ s.f = (f : Int) := by
  obtain ⟨t, _, rfl⟩ := List.mem_map.1 h
  exact ⟨rfl, rfl⟩
theorem kindS_in {n : Nat} {u : Bool} {k : Nat} {s : Stp} (h : s ∈ kindS n u k) : s.u = u ∧ s.f < (k : Int) := by
  obtain ⟨l, hl, hs⟩ := List.mem_flatten.1 h
  obtain ⟨f, hf, rfl⟩ := List.mem_map.1 hl
  have := rowS_in hs
  have h2 := List.mem_range.1 hf
  exact ⟨this.1, by rw [this.2]; omega⟩
theorem places_asc (n : Nat) : (places (List.range n)).Pairwise (· < ·) := by
  unfold places
  refine List.pairwise_cons.2 ⟨fun t ht => ?_, ?_⟩
  · obtain ⟨x, _, rfl⟩ := List.mem_map.1 ht
    omega
  · rw [List.pairwise_map]
    exact (List.pairwise_lt_range (n := n)).imp fun h => by omega
theorem kindS_asc (n : Nat) (u : Bool) : ∀ k, (kindS n u k).Pairwise ltS
  | 0 => List.Pairwise.nil
  | k + 1 => by
    rw [kindS_s, List.pairwise_append]
    refine ⟨kindS_asc n u k, ?_, fun a ha b hb => ?_⟩
    · unfold rowS
      rw [List.pairwise_map]
      exact (places_asc n).imp fun h => .inr ⟨rfl, .inr ⟨rfl, h⟩⟩
    · have h1 := kindS_in ha
      have h2 := rowS_in hb
      exact .inr ⟨h1.1.trans h2.1.symm, .inl (by rw [h2.2]; exact h1.2)⟩
theorem allS_asc (n : Nat) : (allS n).Pairwise ltS := by
  unfold allS
  rw [List.pairwise_append]
  exact ⟨kindS_asc n false n, kindS_asc n true n, fun a ha b hb => .inl ⟨(kindS_in ha).1, (kindS_in hb).1⟩⟩
section
variable {ok : Stp → Prop} [DecidablePred ok] {g : Stp → Int}
theorem best_first' {l : List Stp} (hl : l.Pairwise ltS) : ∀ k, k ≤ l.length → 0 < (bestF ok g (l.take k)).2 → ∀ x ∈ l.take k, ok x → ltS x (bestF ok g (l.take k)).1 → g x < (bestF ok g (l.take k)).2 := by
  intro k
  induction k with
  | zero => intro _ _ x hx; rw [List.take_zero] at hx; cases hx
  | succ k ih =>
    intro hk h0 x hx hok hlt
    have hk' : k < l.length := hk
    obtain ⟨s1, s2, s3, _⟩ := best_spec (ok := ok) (g := g) (l.take k)
    rw [best_s hk'] at h0 hlt ⊢
    have hs : (l.take (k + 1)).Pairwise ltS := hl.sublist (List.take_sublist _ _)
    rw [snocP hk'] at hs hx
    by_cases hp : ok l[k]! ∧ (bestF ok g (l.take k)).2 < g l[k]!
    · rw [pick_y hp.1 hp.2] at h0 hlt ⊢
      rcases List.mem_append.1 hx with q | q
      · have := s3 x q hok
        show g x < g l[k]!
        omega
      · rw [List.mem_singleton.1 q] at hlt
        exact absurd hlt (ltS_asymm hlt)
    · rw [pick_n hp] at h0 hlt ⊢
      rcases List.mem_append.1 hx with q | q
      · exact ih (by omega) h0 x q hok hlt
      · rw [List.mem_singleton.1 q] at hlt
        have := (List.pairwise_append.1 hs).2.2 _ (s2 h0).1 l[k]! (by simp)
        exact absurd hlt (ltS_asymm this)
theorem best_first {l : List Stp} (hl : l.Pairwise ltS) (h0 : 0 < (bestF ok g l).2) : ∀ x ∈ l, ok x → ltS x (bestF ok g l).1 → g x < (bestF ok g l).2 := by
  have := best_first' (ok := ok) (g := g) hl l.length (Nat.le_refl _)
  rw [List.take_length] at this
  exact this h0
theorem best_char {l : List Stp} (hl : l.Pairwise ltS) {s : Stp} (hs : s ∈ l) (hok : ok s) (hg : 0 < g s) (hmax : ∀ x ∈ l, ok x → g x ≤ g s) (hfirst : ∀ x ∈ l, ok x → ltS x s → g x < g s) : bestF ok g l = (s, g s) := by
  obtain ⟨s1, s2, s3, _⟩ := best_spec (ok := ok) (g := g) l
  have h1 := s3 s hs hok
  obtain ⟨t1, t2, t3⟩ := s2 (by omega)
  have h2 := hmax _ t1 t2
  have e : (bestF ok g l).2 = g s := by omega
  rcases ltS_tri (bestF ok g l).1 s with q | q | q
  · exact Prod.ext q e
  · have := hfirst _ t1 t2 q
    omega
  · have := best_first hl (by omega) s hs hok q
    omega
end
/-! ### Closed sets -/
structure Emb (n k : Nat) (ps : List Pr) (rs : List Ru) (us : List Nat) (ps' : List Pr) (rs' : List Ru) : Prop where
  len : us.length = k
  asc : ∀ i j, i < j → j < k → us[i]! < us[j]!
  lt : ∀ i, i < k → us[i]! < n
  cl : ∀ i y, i < k → y < n → mF (lF ps) rs us[i]! y = true → y ∈ us
  lk : ∀ i j, i < k → j < k → mF (lF ps') rs' i j = mF (lF ps) rs us[i]! us[j]!
  mu : ∀ i j, i < k → j < k → mu rs' i j = mu rs us[i]! us[j]!
  can : ∀ i j, i < k → j < k → ((∃ x ∈ barL rs', x.a.toNat = i ∧ x.b.toNat = j) ↔ ∃ x ∈ barL rs, x.a.toNat = us[i]! ∧ x.b.toNat = us[j]!)
  val : ∀ (q q' : Nat → Nat → Prop) [∀ a b, Decidable (q a b)] [∀ a b, Decidable (q' a b)], (∀ i j, i < k → j < k → (q' i j ↔ q us[i]! us[j]!)) → sumQ q' ps' = sumQ (fun a b => (a ∈ us ∧ b ∈ us) ∧ q a b) ps
namespace Emb
variable {n k : Nat} {ps ps' : List Pr} {rs rs' : List Ru} {us : List Nat}
theorem inj (E : Emb n k ps rs us ps' rs') {i j : Nat} (hi : i < k) (hj : j < k) (e : us[i]! = us[j]!) : i = j := by
  rcases Nat.lt_trichotomy i j with h | h | h
  · have := E.asc i j h hj; omega
  · exact h
  · have := E.asc j i h hi; omega
theorem mono (E : Emb n k ps rs us ps' rs') {i j : Nat} (hi : i < k) (hj : j < k) : us[i]! ≤ us[j]! ↔ i ≤ j := by
  rcases Nat.lt_trichotomy i j with h | h | h
  · have := E.asc i j h hj; omega
  · subst h; simp
  · have := E.asc j i h hi; omega
theorem mem (E : Emb n k ps rs us ps' rs') {x : Nat} : x ∈ us ↔ ∃ i, i < k ∧ x = us[i]! := by
  constructor
  · intro h
    obtain ⟨i, hi, rfl⟩ := List.getElem_of_mem h
    exact ⟨i, by rw [← E.len]; exact hi, (getElem!_pos us i hi).symm⟩
  · rintro ⟨i, hi, rfl⟩
    exact mem_at (by rw [E.len]; exact hi)
theorem at_ (E : Emb n k ps rs us ps' rs') {i : Nat} (hi : i < k) : us[i]! ∈ us := E.mem.2 ⟨i, hi, rfl⟩
theorem lkc (E : Emb n k ps rs us ps' rs') {x y : Nat} (hx : x < n) (hy : y < n) (h : mF (lF ps) rs x y = true) : x ∈ us ↔ y ∈ us := by
  constructor
  · intro q
    obtain ⟨i, hi, rfl⟩ := E.mem.1 q
    exact E.cl i y hi hy h
  · intro q
    obtain ⟨i, hi, rfl⟩ := E.mem.1 q
    rw [lk_sym] at h
    exact E.cl i x hi hx h
theorem cn (E : Emb n k ps rs us ps' rs') {R R' : Nat → Nat → Prop} (hcl : ∀ x y, R x y → (x ∈ us ↔ y ∈ us)) (hR : ∀ i j, i < k → j < k → (R' i j ↔ R us[i]! us[j]!)) {x y : Nat} (g : Cn R x y) :
    (x ∈ us ↔ y ∈ us) ∧ ∀ i j, i < k → j < k → x = us[i]! → y = us[j]! → Cn R' i j := by
  induction g with
  | base h => exact ⟨hcl _ _ h, fun i j hi hj e1 e2 => .base ((hR i j hi hj).2 (by rw [← e1, ← e2]; exact h))⟩
  | refl x => exact ⟨Iff.rfl, fun i j hi hj e1 e2 => by rw [E.inj hi hj (e1.symm.trans e2)]; exact .refl j⟩
  | symm _ ih => exact ⟨ih.1.symm, fun i j hi hj e1 e2 => (ih.2 j i hj hi e2 e1).symm⟩
  | trans _ _ ih ih' =>
    refine ⟨ih.1.trans ih'.1, fun i j hi hj e1 e2 => ?_⟩
    obtain ⟨l, hl, e⟩ := E.mem.1 (ih.1.1 (by rw [e1]; exact E.at_ hi))
    exact (ih.2 i l hi hl e1 e).trans (ih'.2 l j hl hj e e2)
theorem comp (E : Emb n k ps rs us ps' rs') {R R' : Nat → Nat → Prop} {l l' : List Nat} (hcl : ∀ x y, R x y → (x ∈ us ↔ y ∈ us)) (hR : ∀ i j, i < k → j < k → (R' i j ↔ R us[i]! us[j]!)) (h : Comp n R l) (h' : Comp k R' l') {i : Nat} (hi : i < k) : l[us[i]!]! = us[l'[i]!]! := by
  have hin := E.lt i hi
  have c1 := h.cn _ hin
  have q := (E.cn hcl hR c1).1.1 (E.at_ hi)
  obtain ⟨j, hj, e⟩ := E.mem.1 q
  have c2 := (E.cn hcl hR c1).2 i j hi hj rfl e
  have l1 : l'[i]! ≤ j := by rw [h'.same c2]; exact h'.le j hj
  have hl := h'.lt hi
  have c3 : Cn R us[i]! us[l'[i]!]! := by
    have key : ∀ {x y : Nat}, Cn R' x y → x < k → Cn R us[x]! us[y]! ∧ y < k := fun {x y} g => by
      have hb : ∀ {x y}, Cn R' x y → (x < k ↔ y < k) := fun {x y} g => by
        have := Cn.keep (f := fun x => decide (x < k)) (fun i j r => by rw [decide_eq_true (h'.bnd i j r).1, decide_eq_true (h'.bnd i j r).2]) g
        simpa using this
      intro hx
      refine ⟨?_, (hb g).1 hx⟩
      induction g with
      | base r => have := h'.bnd _ _ r; exact .base ((hR _ _ this.1 this.2).1 r)
      | refl x => exact .refl _
      | symm g ih => exact (ih ((hb g).2 hx)).symm
      | trans g _ ih ih' => exact (ih hx).trans (ih' ((hb g).1 hx))
    exact (key (h'.cn i hi) hi).1
  have l2 : l[us[i]!]! ≤ us[l'[i]!]! := by rw [h.same c3]; exact h.le _ (E.lt _ hl)
  have l3 := (E.mono hl hj).2 l1
  rw [e] at l2 ⊢
  omega
end Emb
theorem comp_on {n : Nat} {R S : Nat → Nat → Prop} {l m : List Nat} (O : Nat → Prop) (hO : ∀ x y, R x y → (O x ↔ O y)) (hO' : ∀ x y, S x y → (O x ↔ O y)) (hRS : ∀ x y, O x → O y → (R x y ↔ S x y)) (h : Comp n R l) (h' : Comp n S m) {x : Nat} (hx : x < n) (ho : O x) : l[x]! = m[x]! := by
  have c1 := ((h.cn x hx).inside (R' := S) hO fun i j r o => (hRS i j o ((hO i j r).1 o)).1 r).2 ho
  have c2 := ((h'.cn x hx).inside (R' := R) hO' fun i j r o => (hRS i j o ((hO' i j r).1 o)).2 r).2 ho
  have l1 : l[x]! ≤ m[x]! := by rw [h.same c2]; exact h.le _ (h'.lt hx)
  have l2 : m[x]! ≤ l[x]! := by rw [h'.same c1]; exact h'.le _ (h.lt hx)
  omega
def embS (us : List Nat) (s : Stp) : Stp := ⟨s.u, (us[s.f.toNat]! : Nat), if s.t < 0 then s.t else (us[s.t.toNat]! : Nat)⟩
/-- A partition, and that of the closed set. -/
def RelE (us : List Nat) (k : Nat) (m m' : List Nat) : Prop := ∀ i, i < k → m[us[i]!]! = us[m'[i]!]!
section
variable {n k : Nat} {ps ps' : List Pr} {rs rs' : List Ru} {us m m' : List Nat} {s : Stp}
theorem inC_cl (E : Emb n k ps rs us ps' rs') {lab : List Nat} : ∀ x y, inC n ps rs lab x y → (x ∈ us ↔ y ∈ us) := fun _ _ q => E.lkc q.2.2.1 q.2.2.2 q.1
theorem perm_cl (E : Emb n k ps rs us ps' rs') (hf : (Prob.mk (n : Int) ps rs).formed) (hp : permR n ps rs m) {x y : Nat} (hx : x < n) (hy : y < n) (e : m[x]! = m[y]!) : x ∈ us ↔ y ∈ us :=
  (E.cn (R := inC n ps rs m) (R' := fun i j => inC n ps rs m us[i]! us[j]!) (inC_cl E) (fun _ _ _ _ => Iff.rfl) (((perm_comp hf hp).iff hx hy).1 e)).1
theorem name_cl (E : Emb n k ps rs us ps' rs') (hf : (Prob.mk (n : Int) ps rs).formed) (hm : isP n m) (hp : permR n ps rs m) {x : Nat} (hx : x < n) : x ∈ us ↔ m[x]! ∈ us := by
  have h := hm.2 x hx
  exact perm_cl E hf hp hx (by omega) h.2.symm
theorem atoms_emb (E : Emb n k ps rs us ps' rs') (hf : (Prob.mk (n : Int) ps rs).formed) (hf' : (Prob.mk (k : Int) ps' rs').formed) : RelE us k (atomsL n rs) (atomsL k rs') := fun i hi => by
  rw [atoms_eq hf, atoms_eq hf']
  refine E.comp (R := fun i j => mu rs i j = true ∧ i < n ∧ j < n) (R' := fun i j => mu rs' i j = true ∧ i < k ∧ j < k) (fun x y q => ?_) (fun i j hi hj => ?_) (comp_parts (mu_sym rs)) (comp_parts (mu_sym rs')) hi
  · refine E.lkc q.2.1 q.2.2 ?_
    rcases (mF_iff rs).1 q.1 with h | h
    · cases h
    · exact (mF_iff rs).2 (.inr h)
  · rw [E.mu i j hi hj]
    exact ⟨fun q => ⟨q.1, E.lt i hi, E.lt j hj⟩, fun q => ⟨q.1, hi, hj⟩⟩
/-- What is known of a partition and that of the closed set. -/
structure Two (n k : Nat) (ps : List Pr) (rs : List Ru) (us : List Nat) (ps' : List Pr) (rs' : List Ru) (m m' : List Nat) : Prop where
  E : Emb n k ps rs us ps' rs'
  ok : (Prob.mk (n : Int) ps rs).ok
  ok' : (Prob.mk (k : Int) ps' rs').ok
  hm : isP n m
  hp : permR n ps rs m
  hm' : isP k m'
  hp' : permR k ps' rs' m'
  rel : RelE us k m m'
namespace Two
theorem eqm (T : Two n k ps rs us ps' rs' m m') {i j : Nat} (hi : i < k) (hj : j < k) : m[us[i]!]! = m[us[j]!]! ↔ m'[i]! = m'[j]! := by
  have h1 := (T.hm'.2 i hi).1
  have h2 := (T.hm'.2 j hj).1
  rw [T.rel i hi, T.rel j hj]
  exact ⟨T.E.inj (by omega) (by omega), fun e => by rw [e]⟩
theorem eqn (T : Two n k ps rs us ps' rs' m m') {i j : Nat} (hi : i < k) (hj : j < k) : m[us[i]!]! = us[j]! ↔ m'[i]! = j := by
  have h1 := (T.hm'.2 i hi).1
  rw [T.rel i hi]
  exact ⟨T.E.inj (by omega) hj, fun e => by rw [e]⟩
theorem eqa (T : Two n k ps rs us ps' rs' m m') {i j : Nat} (hi : i < k) (hj : j < k) : (atomsL n rs)[us[i]!]! = us[j]! ↔ (atomsL k rs')[i]! = j := by
  have ha := atoms_comp T.ok'.1
  rw [atoms_emb T.E T.ok.1 T.ok'.1 i hi]
  exact ⟨T.E.inj (ha.lt hi) hj, fun e => by rw [e]⟩
theorem rng (T : Two n k ps rs us ps' rs' m m') (h : rngF k s) : rngF n (embS us s) ∧ (embS us s).f.toNat = us[s.f.toNat]! ∧ (0 ≤ s.t → (embS us s).t.toNat = us[s.t.toNat]! ∧ 0 ≤ (embS us s).t) ∧ (s.t < 0 → (embS us s).t < 0) := by
  obtain ⟨h1, h2, h3, h4, h5⟩ := h
  have e1 : (embS us s).f = (us[s.f.toNat]! : Nat) := rfl
  have e2 : (embS us s).t = if s.t < 0 then s.t else (us[s.t.toNat]! : Nat) := rfl
  have e3 : (embS us s).u = s.u := rfl
  have l1 := T.E.lt s.f.toNat (by omega)
  unfold rngF
  rw [e1, e2, e3]
  by_cases ht : s.t < 0
  · rw [if_pos ht]
    exact ⟨⟨by omega, by omega, by omega, by omega, h5⟩, by omega, fun q => by omega, fun _ => ht⟩
  · have l2 := T.E.lt s.t.toNat (by omega)
    rw [if_neg ht]
    exact ⟨⟨by omega, by omega, by omega, by omega, fun q => by omega⟩, by omega, fun q => ⟨by omega, by omega⟩, fun q => absurd q ht⟩
theorem g0 (T : Two n k ps rs us ps' rs' m m') (h : rngF k s) {i : Nat} (hi : i < k) : us[i]! ∈ g0L m (atomsL n rs) (embS us s) ↔ i ∈ g0L m' (atomsL k rs') s := by
  obtain ⟨_, r1, r2, r3⟩ := T.rng h
  obtain ⟨h1, h2, h3, h4, h5⟩ := h
  have hf : s.f.toNat < k := by omega
  have e0 := T.eqm hi hf
  have e1 := T.eqa hi hf
  have hl := T.E.lt i hi
  have e2 : (0 ≤ (embS us s).t ∧ m[us[i]!]! = (embS us s).t.toNat) ↔ (0 ≤ s.t ∧ m'[i]! = s.t.toNat) := by
    by_cases ht : s.t < 0
    · have := r3 ht
      exact ⟨fun q => by omega, fun q => by omega⟩
    · have r := r2 (by omega)
      rw [r.1, T.eqn hi (show s.t.toNat < k by omega)]
      exact ⟨fun q => ⟨by omega, q.2⟩, fun q => ⟨r.2, q.2⟩⟩
  cases hu : s.u with
  | true =>
    rw [mem_g0u T.hm.1 (show (embS us s).u = true from hu), mem_g0u T.hm'.1 hu, r1, e0, e2]
    exact ⟨fun q => ⟨hi, q.2⟩, fun q => ⟨hl, q.2⟩⟩
  | false =>
    rw [mem_g0m T.hm.1 (show (embS us s).u = false from hu), mem_g0m T.hm'.1 hu, r1, e0, e1, e2]
    exact ⟨fun q => ⟨hi, q.2⟩, fun q => ⟨hl, q.2⟩⟩
theorem g0_out (T : Two n k ps rs us ps' rs' m m') (h : rngF k s) {x : Nat} (hx : x ∉ us) : x ∉ g0L m (atomsL n rs) (embS us s) := by
  obtain ⟨_, r1, r2, r3⟩ := T.rng h
  obtain ⟨h1, h2, h3, h4, h5⟩ := h
  have hf : s.f.toNat < k := by omega
  have key : x < n → m[x]! = m[us[s.f.toNat]!]! → False := fun hxn e => hx ((perm_cl T.E T.ok.1 T.hp hxn (T.E.lt _ hf) e).2 (T.E.at_ hf))
  have key2 : x < n → 0 ≤ (embS us s).t → m[x]! = (embS us s).t.toNat → False := fun hxn q e => by
    by_cases ht : s.t < 0
    · have := r3 ht; omega
    · have r := r2 (by omega)
      rw [r.1] at e
      exact hx ((name_cl T.E T.ok.1 T.hm T.hp hxn).2 (by rw [e]; exact T.E.at_ (by omega)))
  intro q
  cases hu : s.u with
  | true =>
    rw [mem_g0u T.hm.1 (show (embS us s).u = true from hu), r1] at q
    rcases q.2 with z | z
    · exact key q.1 z
    · exact key2 q.1 z.1 z.2
  | false =>
    rw [mem_g0m T.hm.1 (show (embS us s).u = false from hu), r1] at q
    rcases q.2 with z | z
    · exact key2 q.1 z.1 z.2
    · exact key q.1 z.1
theorem pre (T : Two n k ps rs us ps' rs' m m') (h : rngF k s) : preR n (atomsL n rs) m (embS us s) ↔ preR k (atomsL k rs') m' s := by
  obtain ⟨r0, r1, r2, r3⟩ := T.rng h
  have hr := h
  obtain ⟨h1, h2, h3, h4, h5⟩ := h
  have hf : s.f.toNat < k := by omega
  have eo : othR n (atomsL n rs) m us[s.f.toNat]! = true ↔ othR k (atomsL k rs') m' s.f.toNat = true := by
    unfold othR
    rw [List.any_eq_true, List.any_eq_true]
    constructor
    · rintro ⟨x, hx, q⟩
      have hx := List.mem_range.1 hx
      have q := of_decide_eq_true q
      obtain ⟨i, hi, e⟩ := T.E.mem.1 ((perm_cl T.E T.ok.1 T.hp hx (T.E.lt _ hf) q.1).2 (T.E.at_ hf))
      rw [e] at q
      exact ⟨i, List.mem_range.2 hi, decide_eq_true ⟨(T.eqm hi hf).1 q.1, fun z => q.2 ((T.eqa hi hf).2 z)⟩⟩
    · rintro ⟨i, hi, q⟩
      have hi := List.mem_range.1 hi
      have q := of_decide_eq_true q
      exact ⟨us[i]!, List.mem_range.2 (T.E.lt i hi), decide_eq_true ⟨(T.eqm hi hf).2 q.1, fun z => q.2 ((T.eqa hi hf).1 z)⟩⟩
  have ef : us[s.f.toNat]! < us[s.t.toNat]! ∧ 0 ≤ s.t ↔ s.f < s.t := by
    by_cases ht : s.t < 0
    · exact ⟨fun q => by omega, fun q => by omega⟩
    · have := T.E.mono (i := s.t.toNat) (j := s.f.toNat) (by omega) hf
      constructor
      · intro q; omega
      · intro q; exact ⟨by omega, by omega⟩
  have et : (embS us s).f < (embS us s).t ↔ s.f < s.t := by
    rw [← ef]
    by_cases ht : s.t < 0
    · have := r3 ht
      have := r0.1
      exact ⟨fun q => by omega, fun q => by omega⟩
    · have r := r2 (by omega)
      have := r0.1
      constructor
      · intro q; exact ⟨by omega, by omega⟩
      · intro q; omega
  unfold preR
  rw [r1, T.eqn hf hf, T.eqa hf hf, et]
  have eu : (embS us s).u = s.u := rfl
  rw [eu]
  by_cases ht : s.t < 0
  · have q := r3 ht
    constructor
    · rintro ⟨_, _, z2, z3⟩
      exact ⟨hr, fun w => by omega, z2, fun hu => ⟨(z3 hu).1, fun w => by omega, fun _ => eo.1 ((z3 hu).2.2 q)⟩⟩
    · rintro ⟨_, _, z2, z3⟩
      exact ⟨r0, fun w => by omega, z2, fun hu => ⟨(z3 hu).1, fun w => by omega, fun _ => eo.2 ((z3 hu).2.2 ht)⟩⟩
  · have r := r2 (by omega)
    have htk : s.t.toNat < k := by omega
    rw [r.1, T.eqn htk htk, ne_eq, ne_eq, T.eqn hf htk]
    constructor
    · rintro ⟨_, z1, z2, z3⟩
      exact ⟨hr, fun _ => z1 r.2, z2, fun hu => ⟨(z3 hu).1, fun _ => (z3 hu).2.1 r.2, fun w => absurd w ht⟩⟩
    · rintro ⟨_, z1, z2, z3⟩
      exact ⟨r0, fun _ => z1 (by omega), z2, fun hu => ⟨(z3 hu).1, fun _ => (z3 hu).2.1 (by omega), fun w => by omega⟩⟩
theorem preF_ (T : Two n k ps rs us ps' rs' m m') (h : rngF k s) : preF n (atomsL n rs) m (embS us s) ↔ preF k (atomsL k rs') m' s := by
  rw [pre_iff T.hm T.hp.2.1, pre_iff T.hm' T.hp'.2.1]
  exact T.pre h
theorem pos (T : Two n k ps rs us ps' rs' m m') (h : rngF k s) : posR n (barL rs) (atomsL n rs) m (embS us s) ↔ posR k (barL rs') (atomsL k rs') m' s := by
  rw [← pos_iff T.ok.1 T.hm T.hp, ← pos_iff T.ok'.1 T.hm' T.hp']
  unfold posF
  rw [T.preF_ h]
  have e : (barL rs).any (hitR (g0L m (atomsL n rs) (embS us s))) = true ↔ (barL rs').any (hitR (g0L m' (atomsL k rs') s)) = true := by
    rw [List.any_eq_true, List.any_eq_true]
    constructor
    · rintro ⟨x, hx, q⟩
      have q := of_decide_eq_true q
      have ha : x.a.toNat ∈ us := Decidable.byContradiction fun z => T.g0_out h z q.1
      have hb : x.b.toNat ∈ us := Decidable.byContradiction fun z => T.g0_out h z q.2
      obtain ⟨i, hi, ei⟩ := T.E.mem.1 ha
      obtain ⟨j, hj, ej⟩ := T.E.mem.1 hb
      obtain ⟨x', hx', e1, e2⟩ := (T.E.can i j hi hj).2 ⟨x, hx, ei, ej⟩
      rw [ei, ej, T.g0 h hi, T.g0 h hj] at q
      exact ⟨x', hx', decide_eq_true (by rw [e1, e2]; exact q)⟩
    · rintro ⟨x', hx', q⟩
      have q := of_decide_eq_true q
      have hb := bar_rng T.ok'.1 x' hx'
      obtain ⟨x, hx, e1, e2⟩ := (T.E.can _ _ (show x'.a.toNat < k by omega) (show x'.b.toNat < k by omega)).1 ⟨x', hx', rfl, rfl⟩
      refine ⟨x, hx, decide_eq_true ?_⟩
      rw [e1, e2, T.g0 h (by omega), T.g0 h (by omega)]
      exact q
  constructor
  · rintro ⟨q1, q2⟩
    refine ⟨q1, ?_⟩
    rw [Bool.eq_false_iff] at q2 ⊢
    exact fun z => q2 (e.2 z)
  · rintro ⟨q1, q2⟩
    refine ⟨q1, ?_⟩
    rw [Bool.eq_false_iff] at q2 ⊢
    exact fun z => q2 (e.1 z)
theorem lab (T : Two n k ps rs us ps' rs' m m') (h : preR k (atomsL k rs') m' s) {i j : Nat} (hi : i < k) (hj : j < k) : (labL n (atomsL n rs) m (embS us s))[us[i]!]! = (labL n (atomsL n rs) m (embS us s))[us[j]!]! ↔ (labL k (atomsL k rs') m' s)[i]! = (labL k (atomsL k rs') m' s)[j]! := by
  have g1 := grp_of T.hm T.hp.2.1 ((pre_iff T.hm T.hp.2.1).2 ((T.pre h.1).2 h))
  have g2 := grp_of T.hm' T.hp'.2.1 ((pre_iff T.hm' T.hp'.2.1).2 h)
  rw [g1.lab _ _ (T.E.lt i hi) (T.E.lt j hj), g2.lab _ _ hi hj, T.g0 h.1 hi, T.g0 h.1 hj, T.eqm hi hj]
theorem res (T : Two n k ps rs us ps' rs' m m') (h : preR k (atomsL k rs') m' s) : RelE us k (resR n ps rs m (embS us s)) (resR k ps' rs' m' s) := fun i hi => by
  refine T.E.comp (inC_cl T.E) (fun i j hi hj => ?_) (res_comp T.ok.1 m (embS us s)) (res_comp T.ok'.1 m' s) hi
  unfold inC
  rw [T.E.lk i j hi hj, T.lab h hi hj]
  exact ⟨fun q => ⟨q.1, q.2.1, T.E.lt i hi, T.E.lt j hj⟩, fun q => ⟨q.1, q.2.1, hi, hj⟩⟩
theorem res_out (T : Two n k ps rs us ps' rs' m m') (h : preR k (atomsL k rs') m' s) {x : Nat} (hx : x < n) (ho : x ∉ us) : (resR n ps rs m (embS us s))[x]! = m[x]! := by
  have g1 := grp_of T.hm T.hp.2.1 ((pre_iff T.hm T.hp.2.1).2 ((T.pre h.1).2 h))
  refine comp_on (fun x => x ∉ us) (fun x y q => not_congr (inC_cl T.E x y q)) (fun x y q => not_congr (inC_cl T.E x y q)) (fun x y ox oy => ?_) (res_comp T.ok.1 m (embS us s)) (perm_comp T.ok.1 T.hp) hx ho
  unfold inC
  constructor
  · rintro ⟨q1, q2, q3, q4⟩
    rcases (g1.lab _ _ q3 q4).1 q2 with z | z
    · exact absurd z.1 (T.g0_out h.1 ox)
    · exact ⟨q1, z.2.2, q3, q4⟩
  · rintro ⟨q1, q2, q3, q4⟩
    exact ⟨q1, (g1.lab _ _ q3 q4).2 (.inr ⟨T.g0_out h.1 ox, T.g0_out h.1 oy, q2⟩), q3, q4⟩
theorem gain (T : Two n k ps rs us ps' rs' m m') (h : posR k (barL rs') (atomsL k rs') m' s) : gnR n ps rs m (embS us s) = gnR k ps' rs' m' s := by
  have hr := T.res h.1
  have hp2 := res_perm T.ok.1 T.hm T.hp ((T.pos h.1.1).2 h)
  have hp3 := res_perm T.ok'.1 T.hm' T.hp' h
  unfold gnR
  rw [valR_sum, valR_sum, valR_sum, valR_sum]
  rw [T.E.val (fun a b => (resR n ps rs m (embS us s))[a]! = (resR n ps rs m (embS us s))[b]!) (fun a b => (resR k ps' rs' m' s)[a]! = (resR k ps' rs' m' s)[b]!) fun i j hi hj => ?_,
    T.E.val (fun a b => m[a]! = m[b]!) (fun a b => m'[a]! = m'[b]!) fun i j hi hj => (T.eqm hi hj).symm]
  · refine sumQ_four fun x hx => ?_
    obtain ⟨ha, hb⟩ := pr_lt T.ok.1 hx
    by_cases qa : x.a.toNat ∈ us
    · by_cases qb : x.b.toNat ∈ us
      · exact .inl ⟨⟨fun e => ⟨⟨qa, qb⟩, e⟩, fun e => e.2⟩, ⟨fun e => ⟨⟨qa, qb⟩, e⟩, fun e => e.2⟩⟩
      · exact .inl ⟨⟨fun e => absurd ((perm_cl T.E T.ok.1 hp2.2 ha hb e).1 qa) qb, fun e => e.2⟩, ⟨fun e => absurd ((perm_cl T.E T.ok.1 T.hp ha hb e).1 qa) qb, fun e => e.2⟩⟩
    · by_cases qb : x.b.toNat ∈ us
      · exact .inl ⟨⟨fun e => absurd ((perm_cl T.E T.ok.1 hp2.2 ha hb e).2 qb) qa, fun e => e.2⟩, ⟨fun e => absurd ((perm_cl T.E T.ok.1 T.hp ha hb e).2 qb) qa, fun e => e.2⟩⟩
      · refine .inr ⟨?_, ⟨fun e => absurd e.1.1 qa, fun e => absurd e.1.1 qa⟩⟩
        rw [T.res_out h.1 ha qa, T.res_out h.1 hb qb]
  · have l1 := (hp3.1.2 i hi).1
    have l2 := (hp3.1.2 j hj).1
    rw [hr i hi, hr j hj]
    exact ⟨fun e => by rw [e], T.E.inj (by omega) (by omega)⟩
end Two
end
end Go.D33
end
section
namespace Go.D33
open Go Go.RowKit Go.H
section
variable {n k : Nat} {ps ps' : List Pr} {rs rs' : List Ru} {us m m' : List Nat} {s : Stp}
theorem preR_lt (h : preR n (atomsL n rs) m s) : s.f.toNat < n ∧ (0 ≤ s.t → s.t.toNat < n) := by
  obtain ⟨⟨h1, h2, h3, h4, _⟩, _⟩ := h
  exact ⟨by omega, fun _ => by omega⟩
/-- A step that changes nothing on what is linked. -/
theorem res_same (hf : (Prob.mk (n : Int) ps rs).formed) (hp : permR n ps rs m) (hl : ∀ x y, x < n → y < n → mF (lF ps) rs x y = true → ((labL n (atomsL n rs) m s)[x]! = (labL n (atomsL n rs) m s)[y]! ↔ m[x]! = m[y]!)) : resR n ps rs m s = m := by
  refine (res_comp hf m s).uniq ((perm_comp hf hp).congr (fun x y q => ⟨q.2.2.1, q.2.2.2⟩) (fun x y q => ?_) fun x y q => ?_)
  · exact .base ⟨q.1, (hl x y q.2.2.1 q.2.2.2 q.1).1 q.2.1, q.2.2.1, q.2.2.2⟩
  · exact .base ⟨q.1, (hl x y q.2.2.1 q.2.2.2 q.1).2 q.2.1, q.2.2.1, q.2.2.2⟩
/-- A step between a closed set and the rest has no gain, or that of an earlier step. -/
theorem cross (E : Emb n k ps rs us ps' rs') (hok : (Prob.mk (n : Int) ps rs).ok) (hm : isP n m) (hp : permR n ps rs m) (h : posR n (barL rs) (atomsL n rs) m s) (ht : 0 ≤ s.t) (hx : ¬ (s.f.toNat ∈ us ↔ s.t.toNat ∈ us)) :
    gnR n ps rs m s = 0 ∨ ∃ s0, posR n (barL rs) (atomsL n rs) m s0 ∧ ltS s0 s ∧ gnR n ps rs m s0 = gnR n ps rs m s := by
  have hf := hok.1
  have hml := hm.1
  have hpF := (pre_iff hm hp.2.1).2 h.1
  have g := grp_of hm hp.2.1 hpF
  have hln := preR_lt h.1
  have hmt := h.1.2.1 ht
  have hft : m[s.f.toNat]! ≠ s.t.toNat := (hpF.2.1 ht).2
  -- who is with the one, who with the other
  have cF : ∀ {x}, x < n → m[x]! = m[s.f.toNat]! → (x ∈ us ↔ s.f.toNat ∈ us) := fun {x} hxn e => perm_cl E hf hp hxn hln.1 e
  have cT : ∀ {x}, x < n → m[x]! = s.t.toNat → (x ∈ us ↔ s.t.toNat ∈ us) := fun {x} hxn e => perm_cl E hf hp hxn (hln.2 ht) (by rw [hmt]; exact e)
  by_cases hcase : s.u = true ∨ othR n (atomsL n rs) m s.f.toNat = false
  · left
    have hg0 : ∀ {x}, x < n → (x ∈ g0L m (atomsL n rs) s ↔ (m[x]! = m[s.f.toNat]! ∨ m[x]! = s.t.toNat)) := fun {x} hxn => by
      cases hu : s.u with
      | true =>
        rw [mem_g0u hml hu]
        exact ⟨fun q => q.2.elim .inl fun z => .inr z.2, fun q => ⟨hxn, q.elim .inl fun z => .inr ⟨ht, z⟩⟩⟩
      | false =>
        have hno : othR n (atomsL n rs) m s.f.toNat = false := hcase.resolve_left (by rw [hu]; decide)
        unfold othR at hno
        rw [List.any_eq_false] at hno
        rw [mem_g0m hml hu]
        constructor
        · rintro ⟨_, q | q⟩
          · exact .inr q.2
          · exact .inl q.1
        · rintro (q | q)
          · refine ⟨hxn, .inr ⟨q, Decidable.byContradiction fun z => hno x (List.mem_range.2 hxn) (decide_eq_true ⟨q, z⟩)⟩⟩
          · exact ⟨hxn, .inl ⟨ht, q⟩⟩
    have hr : resR n ps rs m s = m := res_same hf hp fun x y hxn hyn hlk => by
      have hc := E.lkc hxn hyn hlk
      rw [g.lab x y hxn hyn, hg0 hxn, hg0 hyn]
      constructor
      · rintro (⟨q1, q2⟩ | q)
        · rcases q1 with q1 | q1 <;> rcases q2 with q2 | q2
          · omega
          · exact absurd ((cF hxn q1).symm.trans (hc.trans (cT hyn q2))) hx
          · exact absurd (((cF hyn q2).symm.trans (hc.symm.trans (cT hxn q1)))) hx
          · omega
        · exact q.2.2
      · intro e
        by_cases q : m[x]! = m[s.f.toNat]! ∨ m[x]! = s.t.toNat
        · exact .inl ⟨q, by rw [← e]; exact q⟩
        · exact .inr ⟨q, by rw [← e]; exact q, e⟩
    unfold gnR
    rw [hr]; omega
  · right
    have hu : s.u = false := by
      cases hu : s.u with
      | true => exact absurd (.inl hu) hcase
      | false => rfl
    have ho : othR n (atomsL n rs) m s.f.toNat = true := by
      cases ho : othR n (atomsL n rs) m s.f.toNat with
      | true => rfl
      | false => exact absurd (.inr ho) hcase
    obtain ⟨s0, hs0⟩ : ∃ s0 : Stp, s0 = ⟨false, s.f, -1⟩ := ⟨_, rfl⟩
    have e1 : s0.f = s.f := by rw [hs0]
    have e2 : s0.t = -1 := by rw [hs0]
    have e3 : s0.u = false := by rw [hs0]
    have h4 := h.1.2.2.2 hu
    have hp0 : preR n (atomsL n rs) m s0 := by
      have q := h.1.1
      refine ⟨⟨by rw [e1]; exact q.1, by rw [e1]; exact q.2.1, by rw [e2]; omega, by rw [e2]; omega, fun _ => e3⟩, fun z => by omega, fun z => (by rw [e3] at z; cases z), fun _ => ⟨by rw [e1]; exact h4.1, fun z => by omega, fun _ => by rw [e1]; exact ho⟩⟩
    have hpF0 := (pre_iff hm hp.2.1).2 hp0
    have g' := grp_of hm hp.2.1 hpF0
    have hg1 : ∀ {x}, x < n → (x ∈ g0L m (atomsL n rs) s ↔ (m[x]! = s.t.toNat ∨ (m[x]! = m[s.f.toNat]! ∧ (atomsL n rs)[x]! = s.f.toNat))) := fun {x} hxn => by
      rw [mem_g0m hml hu]
      exact ⟨fun q => q.2.elim (fun z => .inl z.2) .inr, fun q => ⟨hxn, q.elim (fun z => .inl ⟨ht, z⟩) .inr⟩⟩
    have hg2 : ∀ {x}, x < n → (x ∈ g0L m (atomsL n rs) s0 ↔ (m[x]! = m[s.f.toNat]! ∧ (atomsL n rs)[x]! = s.f.toNat)) := fun {x} hxn => by
      rw [mem_g0m hml e3, e1, e2]
      exact ⟨fun q => q.2.elim (fun z => absurd z.1 (by omega)) id, fun q => ⟨hxn, .inr q⟩⟩
    have hr : resR n ps rs m s = resR n ps rs m s0 := by
      refine (res_comp hf m s).uniq ((res_comp hf m s0).congr (fun x y q => ⟨q.2.2.1, q.2.2.2⟩) (fun x y q => ?_) fun x y q => ?_)
      · obtain ⟨q1, q2, hxn, hyn⟩ := q
        have hc := E.lkc hxn hyn q1
        refine .base ⟨q1, (g'.lab x y hxn hyn).2 ?_, hxn, hyn⟩
        rw [hg2 hxn, hg2 hyn]
        rcases (g.lab x y hxn hyn).1 q2 with ⟨a, b⟩ | ⟨a, b, e⟩
        · rw [hg1 hxn] at a
          rw [hg1 hyn] at b
          rcases a with a | a <;> rcases b with b | b
          · exact .inr ⟨fun z => hft (by omega), fun z => hft (by omega), by omega⟩
          · exact absurd ((cF hyn b.1).symm.trans (hc.symm.trans (cT hxn a))) hx
          · exact absurd ((cF hxn a.1).symm.trans (hc.trans (cT hyn b))) hx
          · exact .inl ⟨a, b⟩
        · rw [hg1 hxn] at a
          rw [hg1 hyn] at b
          exact .inr ⟨fun z => a (.inr z), fun z => b (.inr z), e⟩
      · obtain ⟨q1, q2, hxn, hyn⟩ := q
        refine .base ⟨q1, (g.lab x y hxn hyn).2 ?_, hxn, hyn⟩
        rw [hg1 hxn, hg1 hyn]
        rcases (g'.lab x y hxn hyn).1 q2 with ⟨a, b⟩ | ⟨a, b, e⟩
        · rw [hg2 hxn] at a
          rw [hg2 hyn] at b
          exact .inl ⟨.inr a, .inr b⟩
        · rw [hg2 hxn] at a
          rw [hg2 hyn] at b
          by_cases z : m[x]! = s.t.toNat
          · exact .inl ⟨.inl z, .inl (by rw [← e]; exact z)⟩
          · exact .inr ⟨fun w => w.elim z a, fun w => w.elim (fun v => z (by rw [e]; exact v)) b, e⟩
    refine ⟨s0, (pos_iff hf hm hp).1 ⟨hpF0, ?_⟩, ?_, ?_⟩
    · rw [List.any_eq_false]
      intro x hxb q
      have q := of_decide_eq_true q
      have hb := bar_rng hf x hxb
      rw [hg2 (by omega), hg2 (by omega)] at q
      have hcl := hp.1
      unfold clash at hcl
      rw [List.any_eq_false] at hcl
      exact hcl x hxb (decide_eq_true (by show m[x.a.toNat]! = m[x.b.toNat]!; omega))
    · exact .inr ⟨by rw [e3, hu], .inr ⟨e1, by omega⟩⟩
    · unfold gnR
      rw [hr]
/-- A step outside changes nothing inside. -/
theorem outside (E : Emb n k ps rs us ps' rs') (hok : (Prob.mk (n : Int) ps rs).ok) (hm : isP n m) (hp : permR n ps rs m) (h : preR n (atomsL n rs) m s) (hF : s.f.toNat ∉ us) (hT : 0 ≤ s.t → s.t.toNat ∉ us) {x : Nat} (hxn : x < n) (hx : x ∈ us) : (resR n ps rs m s)[x]! = m[x]! := by
  have hf := hok.1
  have hml := hm.1
  have hpF := (pre_iff hm hp.2.1).2 h
  have g := grp_of hm hp.2.1 hpF
  have hln := preR_lt h
  have hg : ∀ {x}, x < n → x ∈ us → x ∉ g0L m (atomsL n rs) s := fun {x} hxn hx q => by
    have k1 : m[x]! = m[s.f.toNat]! → False := fun e => hF ((perm_cl E hf hp hxn hln.1 e).1 hx)
    have k2 : 0 ≤ s.t → m[x]! = s.t.toNat → False := fun ht e => hT ht ((perm_cl E hf hp hxn (hln.2 ht) (by rw [h.2.1 ht]; exact e)).1 hx)
    cases hu : s.u with
    | true =>
      rcases ((mem_g0u hml hu).1 q).2 with z | z
      · exact k1 z
      · exact k2 z.1 z.2
    | false =>
      rcases ((mem_g0m hml hu).1 q).2 with z | z
      · exact k2 z.1 z.2
      · exact k1 z.1
  refine comp_on (fun x => x ∈ us) (inC_cl E) (inC_cl E) (fun x y ox oy => ?_) (res_comp hf m s) (perm_comp hf hp) hxn hx
  unfold inC
  constructor
  · rintro ⟨q1, q2, q3, q4⟩
    rcases (g.lab _ _ q3 q4).1 q2 with z | z
    · exact absurd z.1 (hg q3 ox)
    · exact ⟨q1, z.2.2, q3, q4⟩
  · rintro ⟨q1, q2, q3, q4⟩
    exact ⟨q1, (g.lab _ _ q3 q4).2 (.inr ⟨hg q3 ox, hg q4 oy, q2⟩), q3, q4⟩
namespace Two
theorem in_all (T : Two n k ps rs us ps' rs' m m') (h : rngF k s) : embS us s ∈ allS n := by
  obtain ⟨r, _⟩ := T.rng h
  exact mem_allS.2 ⟨r.1, r.2.1, r.2.2.2.1, r.2.2.1⟩
theorem lt_ (T : Two n k ps rs us ps' rs' m m') {a b : Stp} (ha : rngF k a) (hb : rngF k b) (h : ltS a b) : ltS (embS us a) (embS us b) := by
  have a1 := ha.1; have a2 := ha.2.1; have a3 := ha.2.2.1; have a4 := ha.2.2.2.1
  have b1 := hb.1; have b2 := hb.2.1; have b3 := hb.2.2.1; have b4 := hb.2.2.2.1
  rcases h with h | ⟨h1, h2⟩
  · exact .inl h
  · refine .inr ⟨h1, ?_⟩
    show (((us[a.f.toNat]! : Nat) : Int) < (us[b.f.toNat]! : Nat)) ∨ (((us[a.f.toNat]! : Nat) : Int) = (us[b.f.toNat]! : Nat) ∧ (if a.t < 0 then a.t else (us[a.t.toNat]! : Nat)) < (if b.t < 0 then b.t else (us[b.t.toNat]! : Nat)))
    rcases h2 with h2 | ⟨h2, h3⟩
    · left
      have := T.E.asc a.f.toNat b.f.toNat (by omega) (by omega)
      omega
    · right
      refine ⟨by rw [h2], ?_⟩
      by_cases q1 : a.t < 0
      · rw [if_pos q1]
        by_cases q2 : b.t < 0
        · rw [if_pos q2]; exact h3
        · rw [if_neg q2]; omega
      · rw [if_neg q1, if_neg (by omega)]
        have := T.E.asc a.t.toNat b.t.toNat (by omega) (by omega)
        omega
/-- The best step, and that of the closed set. -/
theorem next (T : Two n k ps rs us ps' rs' m m') : ((nextR n ps rs m).2 = 0 → (nextR k ps' rs' m').2 = 0) ∧
    (¬ (nextR n ps rs m).2 = 0 → (¬ (nextR k ps' rs' m').2 = 0 ∧ RelE us k (resR n ps rs m (nextR n ps rs m).1) (resR k ps' rs' m' (nextR k ps' rs' m').1)) ∨ RelE us k (resR n ps rs m (nextR n ps rs m).1) m') := by
  obtain ⟨s1, s2, s3, _⟩ := next_spec n ps rs m
  obtain ⟨t1, t2, t3, _⟩ := next_spec k ps' rs' m'
  constructor
  · intro e
    rcases Int.lt_or_le 0 (nextR k ps' rs' m').2 with q | q
    · obtain ⟨q1, q2, q3⟩ := t2 q
      have hr := q2.1.1
      have := s3 _ (T.in_all hr) ((T.pos hr).2 q2)
      rw [T.gain q2] at this
      omega
    · omega
  · intro e
    have h0 : 0 < (nextR n ps rs m).2 := by omega
    obtain ⟨q1, q2, q3⟩ := s2 h0
    have hfirst := best_first (ok := posR n (barL rs) (atomsL n rs) m) (g := gnR n ps rs m) (allS_asc n) h0
    obtain ⟨s, hs⟩ : ∃ s, s = (nextR n ps rs m).1 := ⟨_, rfl⟩
    rw [← hs] at q1 q2 q3 ⊢
    have hr := q2.1.1
    have hln := preR_lt q2.1
    have nocross : 0 ≤ s.t → (s.f.toNat ∈ us ↔ s.t.toNat ∈ us) := fun ht => Decidable.byContradiction fun hx => by
      rcases cross T.E T.ok T.hm T.hp q2 ht hx with z | ⟨s0, z1, z2, z3⟩
      · omega
      · have hr0 := z1.1.1
        have := hfirst s0 (mem_allS.2 ⟨hr0.1, hr0.2.1, hr0.2.2.2.1, hr0.2.2.1⟩) z1 (by show ltS s0 (nextR n ps rs m).1; rw [← hs]; exact z2)
        have e5 : (bestF (posR n (barL rs) (atomsL n rs) m) (gnR n ps rs m) (allS n)).2 = (nextR n ps rs m).2 := rfl
        rw [e5] at this
        omega
    by_cases hF : s.f.toNat ∈ us
    · left
      obtain ⟨f', hf', ef⟩ := T.E.mem.1 hF
      -- the step of the closed set
      obtain ⟨s', hs', hrs'⟩ : ∃ s', embS us s' = s ∧ rngF k s' := by
        by_cases ht : s.t < 0
        · refine ⟨⟨s.u, (f' : Int), s.t⟩, ?_, ⟨by show (0 : Int) ≤ f'; omega, by show (f' : Int) < k; omega, by show s.t < (k : Int); omega, by show -1 ≤ s.t; have := hr.2.2.2.1; omega, fun z => hr.2.2.2.2 z⟩⟩
          obtain ⟨u, f, t⟩ := s
          show Stp.mk u ((us[((f' : Int)).toNat]! : Nat) : Int) (if t < 0 then t else _) = _
          rw [if_pos ht, Int.toNat_natCast, ← ef]
          have : 0 ≤ f := hr.1
          show Stp.mk u ((f.toNat : Nat) : Int) t = _
          rw [Int.toNat_of_nonneg this]
        · have hT := (nocross (by omega)).1 hF
          obtain ⟨t', ht', et⟩ := T.E.mem.1 hT
          refine ⟨⟨s.u, (f' : Int), (t' : Int)⟩, ?_, ⟨by show (0 : Int) ≤ f'; omega, by show (f' : Int) < k; omega, by show (t' : Int) < (k : Int); omega, by show -1 ≤ (t' : Int); omega, fun z => by have z : (t' : Int) < 0 := z; omega⟩⟩
          obtain ⟨u, f, t⟩ := s
          show Stp.mk u ((us[((f' : Int)).toNat]! : Nat) : Int) (if (t' : Int) < 0 then (t' : Int) else ((us[((t' : Int)).toNat]! : Nat) : Int)) = _
          rw [if_neg (by omega), Int.toNat_natCast, Int.toNat_natCast, ← ef, ← et]
          have h1 : 0 ≤ f := hr.1
          have h2 : 0 ≤ t := by have : ¬ t < 0 := ht; omega
          show Stp.mk u ((f.toNat : Nat) : Int) ((t.toNat : Nat) : Int) = _
          rw [Int.toNat_of_nonneg h1, Int.toNat_of_nonneg h2]
      have hpos' : posR k (barL rs') (atomsL k rs') m' s' := (T.pos hrs').1 (by rw [hs']; exact q2)
      have hg' : gnR k ps' rs' m' s' = (nextR n ps rs m).2 := by rw [← T.gain hpos', hs']; exact q3
      have hb : nextR k ps' rs' m' = (s', gnR k ps' rs' m' s') := by
        refine best_char (allS_asc k) (mem_allS.2 ⟨hrs'.1, hrs'.2.1, hrs'.2.2.2.1, hrs'.2.2.1⟩) hpos' (by omega) (fun x hx hxp => ?_) fun x hx hxp hlt => ?_
        · have := s3 _ (T.in_all hxp.1.1) ((T.pos hxp.1.1).2 hxp)
          rw [T.gain hxp] at this
          omega
        · have := hfirst _ (T.in_all hxp.1.1) ((T.pos hxp.1.1).2 hxp) (by show ltS (embS us x) (nextR n ps rs m).1; rw [← hs, ← hs']; exact T.lt_ hxp.1.1 hrs' hlt)
          rw [T.gain hxp] at this
          have e5 : (bestF (posR n (barL rs) (atomsL n rs) m) (gnR n ps rs m) (allS n)).2 = (nextR n ps rs m).2 := rfl
          rw [e5] at this
          omega
      rw [hb]
      refine ⟨by show ¬ gnR k ps' rs' m' s' = 0; omega, ?_⟩
      have := T.res hpos'.1
      rw [hs'] at this
      exact this
    · right
      intro i hi
      rw [outside T.E T.ok T.hm T.hp q2.1 hF (fun ht z => hF ((nocross ht).2 z)) (T.E.lt i hi) (T.E.at_ hi)]
      exact T.rel i hi
end Two
theorem emb_solve (E : Emb n k ps rs us ps' rs') (hok : (Prob.mk (n : Int) ps rs).ok) (hok' : (Prob.mk (k : Int) ps' rs').ok) : ∀ {j : Nat} {m m' : List Nat}, isP n m → permR n ps rs m → isP k m' → permR k ps' rs' m' → RelE us k m m' → muS ps m < j →
    RelE us k (solveN n ps rs j m) (solveN k ps' rs' (muS ps' m' + 1) m')
  | 0, _, _, _, _, _, _, _, h => absurd h (by omega)
  | j + 1, m, m', hm, hp, hm', hp', hr, h => by
    have T : Two n k ps rs us ps' rs' m m' := ⟨E, hok, hok', hm, hp, hm', hp', hr⟩
    have hn := T.next
    by_cases e : (nextR n ps rs m).2 = 0
    · rw [solve_end e, solve_end (hn.1 e)]; exact hr
    · have hs := next_step hok.1 hm hp e
      rw [solveN, if_neg e]
      rcases hn.2 e with ⟨e', hr'⟩ | hr'
      · have hs' := next_step hok'.1 hm' hp' e'
        rw [← solve_step hok'.1 hm' hp' e']
        exact emb_solve E hok hok' hs.1 hs.2.1 hs'.1 hs'.2.1 hr' (by omega)
      · exact emb_solve E hok hok' hs.1 hs.2.1 hm' hp' hr' (by omega)
theorem emb_solveR (E : Emb n k ps rs us ps' rs') (hok : (Prob.mk (n : Int) ps rs).ok) (hok' : (Prob.mk (k : Int) ps' rs').ok) : RelE us k (solveR n ps rs) (solveR k ps' rs') :=
  emb_solve E hok hok' (atoms_perm hok).1 (atoms_perm hok).2 (atoms_perm hok').1 (atoms_perm hok').2 (atoms_emb E hok.1 hok'.1) (by omega)
end
end Go.D33
end
section
namespace Go.D33
open Go Go.RowKit Go.H
section
variable {n k : Nat} {ps ps' : List Pr} {rs rs' : List Ru} {us m m' : List Nat} {s : Stp}
theorem emb_ok (E : Emb n k ps rs us ps' rs') (hf : (Prob.mk (n : Int) ps rs).formed) (hf' : (Prob.mk (k : Int) ps' rs').formed) (hb : clash (barL rs) (atomsL n rs) = false) : (Prob.mk (k : Int) ps' rs').ok := by
  refine ⟨hf', ?_⟩
  rw [bad_eq hf']
  unfold clash at hb ⊢
  rw [List.any_eq_false] at hb ⊢
  intro x' hx' e
  have e := of_decide_eq_true e
  have hr := bar_rng hf' x' hx'
  obtain ⟨x, hx, e1, e2⟩ := (E.can _ _ (show x'.a.toNat < k by omega) (show x'.b.toNat < k by omega)).1 ⟨x', hx', rfl, rfl⟩
  have ha := atoms_emb E hf hf'
  refine hb x hx (decide_eq_true ?_)
  rw [e1, e2, ha _ (by omega), ha _ (by omega), e]
/-! ### Problems of some units -/
abbrev cI (us : List Nat) : List Int := us.map fun x : Nat => (x : Int)
theorem at_us (ha : ∀ i j, i < j → j < us.length → us[i]! < us[j]!) {i : Nat} (hi : i < us.length) : atF (cI us) (us[i]! : Nat) = i := by
  have hg : ∀ {j}, j < us.length → (cI us)[j]! = (us[j]! : Nat) := fun {j} hj => cast_get hj
  have hl : (cI us).length = us.length := List.length_map _
  rcases atF_spec (cI us) (us[i]! : Nat) with ⟨j, hj, e, hm, e2⟩ | ⟨hn, _⟩
  · rw [e2]
    rw [hg (by omega)] at e
    rcases Nat.lt_trichotomy i j with h | h | h
    · have := ha i j h (by omega); omega
    · rw [h]
    · have := ha j i h hi; omega
  · exact absurd (hg hi) (hn i (by omega))
theorem at_some {x : Int} (h : 0 ≤ atF (cI us) x) : ∃ i, i < us.length ∧ x = (us[i]! : Nat) ∧ atF (cI us) x = i := by
  have hl : (cI us).length = us.length := List.length_map _
  rcases atF_spec (cI us) x with ⟨j, hj, e, hm, e2⟩ | ⟨_, e⟩
  · exact ⟨j, by omega, by rw [← e]; exact cast_get (by omega), e2⟩
  · omega
theorem mem_subP {y : Pr} : y ∈ subP (cI us) ps ↔ ∃ x ∈ ps, (0 ≤ atF (cI us) x.a ∧ 0 ≤ atF (cI us) x.b) ∧ y = ⟨atF (cI us) x.a, atF (cI us) x.b, x.w⟩ := by
  unfold subP
  rw [List.mem_filterMap]
  constructor
  · rintro ⟨x, hx, e⟩
    by_cases q : 0 ≤ atF (cI us) x.a ∧ 0 ≤ atF (cI us) x.b
    · rw [sp_y q.1 q.2] at e
      exact ⟨x, hx, q, (Option.some.inj e).symm⟩
    · rw [sp_n q] at e; cases e
  · rintro ⟨x, hx, q, rfl⟩
    exact ⟨x, hx, sp_y q.1 q.2⟩
theorem mem_subR {y : Ru} : y ∈ subR (cI us) rs ↔ ∃ x ∈ rs, (0 ≤ atF (cI us) x.a ∧ 0 ≤ atF (cI us) x.b) ∧ y = ⟨x.k, atF (cI us) x.a, atF (cI us) x.b⟩ := by
  unfold subR
  rw [List.mem_filterMap]
  constructor
  · rintro ⟨x, hx, e⟩
    by_cases q : 0 ≤ atF (cI us) x.a ∧ 0 ≤ atF (cI us) x.b
    · rw [sr_y q.1 q.2] at e
      exact ⟨x, hx, q, (Option.some.inj e).symm⟩
    · rw [sr_n q] at e; cases e
  · rintro ⟨x, hx, q, rfl⟩
    exact ⟨x, hx, sr_y q.1 q.2⟩
theorem asc_us_le : ∀ {us : List Nat}, (∀ i j, i < j → j < us.length → us[i]! < us[j]!) → (∀ i, i < us.length → us[i]! < n) → us.length ≤ n := by
  intro us ha hl
  have key : ∀ i, i < us.length → i ≤ us[i]! := by
    intro i
    induction i with
    | zero => intro _; omega
    | succ i ih => intro h; have := ih (by omega); have := ha i (i + 1) (by omega) h; omega
  rcases Nat.eq_zero_or_pos us.length with h | h
  · omega
  · have := key (us.length - 1) (by omega); have := hl (us.length - 1) (by omega); omega
theorem sub_formed (hf : (Prob.mk (n : Int) ps rs).formed) (ha : ∀ i j, i < j → j < us.length → us[i]! < us[j]!) (hl : ∀ i, i < us.length → us[i]! < n) : (Prob.mk (us.length : Int) (subP (cI us) ps) (subR (cI us) rs)).formed := by
  have hlen := asc_us_le ha hl
  have hn : (n : Int) ≤ 200 := hf.2.1
  have hr4 : rs.length ≤ 400 := hf.2.2.1
  have hpp : ps.Pairwise prAsc := by
    rw [List.pairwise_iff_getElem]
    intro i j hi hj hij
    have := asc_lt hf hij hj
    rw [getElem!_pos _ i hi, getElem!_pos _ j hj] at this
    exact this
  have hpr : ∀ y ∈ subP (cI us) ps, prOk (us.length : Int) y := fun y hy => by
    obtain ⟨x, hx, ⟨q1, q2⟩, rfl⟩ := mem_subP.1 hy
    have hx' : 0 ≤ x.a ∧ x.a < x.b ∧ x.b < (n : Int) ∧ -1000 ≤ x.w ∧ x.w ≤ 1000 := formed_pr hf hx
    obtain ⟨i, hi, e1, e2⟩ := at_some q1
    obtain ⟨j, hj, e3, e4⟩ := at_some q2
    unfold prOk
    show 0 ≤ atF (cI us) x.a ∧ atF (cI us) x.a < atF (cI us) x.b ∧ atF (cI us) x.b < (us.length : Int) ∧ -1000 ≤ x.w ∧ x.w ≤ 1000
    have hij : i < j := by
      rcases Nat.lt_trichotomy i j with h | h | h
      · exact h
      · rw [h] at e1; omega
      · have := ha j i h hi; omega
    omega
  have hpw : (subP (cI us) ps).Pairwise prAsc := by
    unfold subP
    refine List.Pairwise.filterMap (S := prAsc) (subPr (cI us)) (fun a a' h b hb b' hb' => ?_) hpp
    have get : ∀ {a b}, subPr (cI us) a = some b → (0 ≤ atF (cI us) a.a ∧ 0 ≤ atF (cI us) a.b) ∧ b = ⟨atF (cI us) a.a, atF (cI us) a.b, a.w⟩ := fun {a b} h => by
      by_cases q : 0 ≤ atF (cI us) a.a ∧ 0 ≤ atF (cI us) a.b
      · rw [sp_y q.1 q.2] at h
        exact ⟨q, (Option.some.inj h).symm⟩
      · rw [sp_n q] at h; cases h
    obtain ⟨⟨q1, q2⟩, rfl⟩ := get hb
    obtain ⟨⟨q3, q4⟩, rfl⟩ := get hb'
    obtain ⟨i, hi, e1, e2⟩ := at_some q1
    obtain ⟨j, hj, e3, e4⟩ := at_some q2
    obtain ⟨i', hi', e5, e6⟩ := at_some q3
    obtain ⟨j', hj', e7, e8⟩ := at_some q4
    unfold prAsc at h ⊢
    show atF (cI us) a.a < atF (cI us) a'.a ∨ (atF (cI us) a.a = atF (cI us) a'.a ∧ atF (cI us) a.b < atF (cI us) a'.b)
    have mono : ∀ {i j}, i < us.length → j < us.length → us[i]! < us[j]! → i < j := fun {i j} hi hj h => by
      rcases Nat.lt_trichotomy i j with z | z | z
      · exact z
      · subst z; omega
      · have := ha j i z hi; omega
    have inj : ∀ {i j}, i < us.length → j < us.length → us[i]! = us[j]! → i = j := fun {i j} hi hj h => by
      rcases Nat.lt_trichotomy i j with z | z | z
      · have := ha i j z hj; omega
      · exact z
      · have := ha j i z hi; omega
    rcases h with h | ⟨h1, h2⟩
    · left
      have := mono hi hi' (by omega)
      omega
    · right
      have z1 := inj hi hi' (by omega)
      have z2 := mono hj hj' (by omega)
      omega
  refine ⟨by show (0 : Int) ≤ us.length; omega, by show (us.length : Int) ≤ 200; omega, by have := List.length_filterMap_le (subRu (cI us)) rs; show (List.filterMap _ _).length ≤ 400; omega, fun i hi => ⟨hpr _ (mem_at hi), fun h0 => ?_⟩, fun i hi => ?_⟩
  · have hi' : i < (subP (cI us) ps).length := hi
    have := (List.pairwise_iff_getElem.1 hpw) (i - 1) i (by omega) hi' (by omega)
    show prAsc (subP (cI us) ps)[i - 1]! (subP (cI us) ps)[i]!
    rw [getElem!_pos _ (i - 1) (by omega), getElem!_pos _ i hi']
    exact this
  · obtain ⟨x, hx, ⟨q1, q2⟩, e⟩ := mem_subR.1 (mem_at (l := subR (cI us) rs) hi)
    show ruOk (us.length : Int) (subR (cI us) rs)[i]!
    rw [e]
    have hx' : (x.k = 1 ∨ x.k = 2) ∧ 0 ≤ x.a ∧ x.a < (n : Int) ∧ 0 ≤ x.b ∧ x.b < (n : Int) ∧ x.a ≠ x.b := formed_ru hf hx
    obtain ⟨i, hi, e1, e2⟩ := at_some q1
    obtain ⟨j, hj, e3, e4⟩ := at_some q2
    unfold ruOk
    show (x.k = 1 ∨ x.k = 2) ∧ 0 ≤ atF (cI us) x.a ∧ atF (cI us) x.a < (us.length : Int) ∧ 0 ≤ atF (cI us) x.b ∧ atF (cI us) x.b < (us.length : Int) ∧ atF (cI us) x.a ≠ atF (cI us) x.b
    have hij : i ≠ j := fun z => by rw [z] at e1; omega
    omega
theorem sub_emb (hf : (Prob.mk (n : Int) ps rs).formed) (ha : ∀ i j, i < j → j < us.length → us[i]! < us[j]!) (hl : ∀ i, i < us.length → us[i]! < n) (hc : ∀ i y, i < us.length → y < n → mF (lF ps) rs us[i]! y = true → y ∈ us) :
    Emb n us.length ps rs us (subP (cI us) ps) (subR (cI us) rs) := by
  have hat : ∀ {i}, i < us.length → atF (cI us) (us[i]! : Nat) = i := fun hi => at_us ha hi
  have hmust : ∀ {i j : Nat}, i < us.length → j < us.length → ((∃ r ∈ subR (cI us) rs, r.k ≠ 2 ∧ ((i = r.a.toNat ∧ j = r.b.toNat) ∨ (i = r.b.toNat ∧ j = r.a.toNat))) ↔ ∃ r ∈ rs, r.k ≠ 2 ∧ ((us[i]! = r.a.toNat ∧ us[j]! = r.b.toNat) ∨ (us[i]! = r.b.toNat ∧ us[j]! = r.a.toNat))) := fun {i j} hi hj => by
    constructor
    · rintro ⟨r, hr, hk, q⟩
      obtain ⟨x, hx, ⟨q1, q2⟩, rfl⟩ := mem_subR.1 hr
      obtain ⟨i', hi', e1, e2⟩ := at_some q1
      obtain ⟨j', hj', e3, e4⟩ := at_some q2
      refine ⟨x, hx, hk, ?_⟩
      have q' : (i = (atF (cI us) x.a).toNat ∧ j = (atF (cI us) x.b).toNat) ∨ (i = (atF (cI us) x.b).toNat ∧ j = (atF (cI us) x.a).toNat) := q
      rw [e2, e4, Int.toNat_natCast, Int.toNat_natCast] at q'
      rw [e1, e3, Int.toNat_natCast, Int.toNat_natCast]
      rcases q' with ⟨rfl, rfl⟩ | ⟨rfl, rfl⟩
      · exact .inl ⟨rfl, rfl⟩
      · exact .inr ⟨rfl, rfl⟩
    · rintro ⟨x, hx, hk, q⟩
      have hx' : (x.k = 1 ∨ x.k = 2) ∧ 0 ≤ x.a ∧ x.a < (n : Int) ∧ 0 ≤ x.b ∧ x.b < (n : Int) ∧ x.a ≠ x.b := formed_ru hf hx
      rcases q with ⟨z1, z2⟩ | ⟨z1, z2⟩
      · have ea : x.a = (us[i]! : Nat) := by omega
        have eb : x.b = (us[j]! : Nat) := by omega
        refine ⟨⟨x.k, i, j⟩, mem_subR.2 ⟨x, hx, ⟨by rw [ea, hat hi]; omega, by rw [eb, hat hj]; omega⟩, by rw [ea, eb, hat hi, hat hj]⟩, hk, .inl ⟨by show i = ((i : Int)).toNat; omega, by show j = ((j : Int)).toNat; omega⟩⟩
      · have ea : x.a = (us[j]! : Nat) := by omega
        have eb : x.b = (us[i]! : Nat) := by omega
        refine ⟨⟨x.k, j, i⟩, mem_subR.2 ⟨x, hx, ⟨by rw [ea, hat hj]; omega, by rw [eb, hat hi]; omega⟩, by rw [ea, eb, hat hi, hat hj]⟩, hk, .inr ⟨by show i = ((i : Int)).toNat; omega, by show j = ((j : Int)).toNat; omega⟩⟩
  refine ⟨rfl, ha, hl, hc, fun i j hi hj => ?_, fun i j hi hj => ?_, fun i j hi hj => ?_, fun q q' _ _ hq => ?_⟩
  · rw [Bool.eq_iff_iff, mF_iff, mF_iff, hmust hi hj]
    refine or_congr ?_ Iff.rfl
    rw [lF_iff, lF_iff]
    constructor
    · rintro ⟨y, hy, hw, q⟩
      obtain ⟨x, hx, ⟨q1, q2⟩, rfl⟩ := mem_subP.1 hy
      obtain ⟨i', hi', e1, e2⟩ := at_some q1
      obtain ⟨j', hj', e3, e4⟩ := at_some q2
      refine ⟨x, hx, hw, ?_⟩
      have q' : (i = (atF (cI us) x.a).toNat ∧ j = (atF (cI us) x.b).toNat) ∨ (i = (atF (cI us) x.b).toNat ∧ j = (atF (cI us) x.a).toNat) := q
      rw [e2, e4, Int.toNat_natCast, Int.toNat_natCast] at q'
      rw [e1, e3, Int.toNat_natCast, Int.toNat_natCast]
      rcases q' with ⟨rfl, rfl⟩ | ⟨rfl, rfl⟩
      · exact .inl ⟨rfl, rfl⟩
      · exact .inr ⟨rfl, rfl⟩
    · rintro ⟨x, hx, hw, q⟩
      have hx' : 0 ≤ x.a ∧ x.a < x.b ∧ x.b < (n : Int) ∧ -1000 ≤ x.w ∧ x.w ≤ 1000 := formed_pr hf hx
      rcases q with ⟨z1, z2⟩ | ⟨z1, z2⟩
      · have ea : x.a = (us[i]! : Nat) := by omega
        have eb : x.b = (us[j]! : Nat) := by omega
        refine ⟨⟨i, j, x.w⟩, mem_subP.2 ⟨x, hx, ⟨by rw [ea, hat hi]; omega, by rw [eb, hat hj]; omega⟩, by rw [ea, eb, hat hi, hat hj]⟩, hw, .inl ⟨by show i = ((i : Int)).toNat; omega, by show j = ((j : Int)).toNat; omega⟩⟩
      · have ea : x.a = (us[j]! : Nat) := by omega
        have eb : x.b = (us[i]! : Nat) := by omega
        refine ⟨⟨j, i, x.w⟩, mem_subP.2 ⟨x, hx, ⟨by rw [ea, hat hj]; omega, by rw [eb, hat hi]; omega⟩, by rw [ea, eb, hat hi, hat hj]⟩, hw, .inr ⟨by show i = ((i : Int)).toNat; omega, by show j = ((j : Int)).toNat; omega⟩⟩
  · unfold mu
    rw [Bool.eq_iff_iff, mF_iff, mF_iff, hmust hi hj]
  · constructor
    · rintro ⟨y, hy, e⟩
      obtain ⟨hy, hk⟩ := bar_in hy
      obtain ⟨x, hx, ⟨q1, q2⟩, rfl⟩ := mem_subR.1 hy
      obtain ⟨i', hi', e1, e2⟩ := at_some q1
      obtain ⟨j', hj', e3, e4⟩ := at_some q2
      have e' : (atF (cI us) x.a).toNat = i ∧ (atF (cI us) x.b).toNat = j := e
      rw [e2, e4, Int.toNat_natCast, Int.toNat_natCast] at e'
      obtain ⟨rfl, rfl⟩ := e'
      exact ⟨x, List.mem_filter.2 ⟨hx, decide_eq_true hk⟩, by rw [e1, Int.toNat_natCast], by rw [e3, Int.toNat_natCast]⟩
    · rintro ⟨x, hx, e1, e2⟩
      obtain ⟨hx, hk⟩ := bar_in hx
      have hx' : (x.k = 1 ∨ x.k = 2) ∧ 0 ≤ x.a ∧ x.a < (n : Int) ∧ 0 ≤ x.b ∧ x.b < (n : Int) ∧ x.a ≠ x.b := formed_ru hf hx
      have ea : x.a = (us[i]! : Nat) := by omega
      have eb : x.b = (us[j]! : Nat) := by omega
      exact ⟨⟨x.k, i, j⟩, List.mem_filter.2 ⟨mem_subR.2 ⟨x, hx, ⟨by rw [ea, hat hi]; omega, by rw [eb, hat hj]; omega⟩, by rw [ea, eb, hat hi, hat hj]⟩, decide_eq_true hk⟩, by show ((i : Int)).toNat = i; omega, by show ((j : Int)).toNat = j; omega⟩
  · have key : ∀ j, j ≤ ps.length → sumQ q' (subP (cI us) (ps.take j)) = sumQ (fun a b => (a ∈ us ∧ b ∈ us) ∧ q a b) (ps.take j) := by
      intro j
      induction j with
      | zero => intro _; rfl
      | succ j ih =>
        intro h
        have h' : j < ps.length := h
        have ih' := ih (by omega)
        have hx' : 0 ≤ ps[j]!.a ∧ ps[j]!.a < ps[j]!.b ∧ ps[j]!.b < (n : Int) ∧ -1000 ≤ ps[j]!.w ∧ ps[j]!.w ≤ 1000 := formed_pr hf (mem_at h')
        by_cases z : 0 ≤ atF (cI us) ps[j]!.a ∧ 0 ≤ atF (cI us) ps[j]!.b
        · obtain ⟨i1, hi1, e1, e2⟩ := at_some z.1
          obtain ⟨j1, hj1, e3, e4⟩ := at_some z.2
          rw [subP_y h' z.1 z.2, sumQ_s, snocP h', sumQ_s, ih']
          have : q' (atF (cI us) ps[j]!.a).toNat (atF (cI us) ps[j]!.b).toNat ↔ (ps[j]!.a.toNat ∈ us ∧ ps[j]!.b.toNat ∈ us) ∧ q ps[j]!.a.toNat ps[j]!.b.toNat := by
            rw [e2, e4, e1, e3, Int.toNat_natCast, Int.toNat_natCast, Int.toNat_natCast, Int.toNat_natCast, hq i1 j1 hi1 hj1]
            exact ⟨fun w => ⟨⟨mem_at hi1, mem_at hj1⟩, w⟩, fun w => w.2⟩
          show _ + (if q' (atF (cI us) ps[j]!.a).toNat (atF (cI us) ps[j]!.b).toNat then ps[j]!.w else 0) = _
          by_cases w : q' (atF (cI us) ps[j]!.a).toNat (atF (cI us) ps[j]!.b).toNat
          · rw [if_pos w, if_pos (this.1 w)]
          · rw [if_neg w, if_neg (fun v => w (this.2 v))]
        · rw [subP_n h' z, snocP h', sumQ_s, ih', if_neg]
          · omega
          · rintro ⟨⟨w1, w2⟩, _⟩
            obtain ⟨i1, hi1, e1⟩ := List.getElem_of_mem w1
            obtain ⟨j1, hj1, e2⟩ := List.getElem_of_mem w2
            rw [← getElem!_pos us i1 hi1] at e1
            rw [← getElem!_pos us j1 hj1] at e2
            have ea : ps[j]!.a = (us[i1]! : Nat) := by omega
            have eb : ps[j]!.b = (us[j1]! : Nat) := by omega
            exact z ⟨by rw [ea, hat hi1]; omega, by rw [eb, hat hj1]; omega⟩
    have := key ps.length (Nat.le_refl _)
    rwa [List.take_length] at this
end
end Go.D33
end
section
namespace Go.D33
open Go Go.RowKit Go.H
def shP (a : Nat) (x : Pr) : Pr := ⟨x.a + a, x.b + a, x.w⟩
def shR (a : Nat) (x : Ru) : Ru := ⟨x.k, x.a + a, x.b + a⟩
section
variable {a b : Nat} {pa pb : List Pr} {ra rb : List Ru}
end
end Go.D33
end
section
namespace Go.D33
open Go Go.RowKit Go.H
section
variable {n : Nat} {ps : List Pr} {rs : List Ru}
theorem cI_snoc (l : List Nat) (k : Nat) : (cI (l ++ [k])).map eI = (cI l).map eI ++ [((k : Nat) : Int)].map eI := by
  show ((l ++ [k]).map _).map eI = _
  rw [List.map_append, List.map_append]; rfl
def partU (_ : Nat) (prt : List Nat) (f k : Nat) : List Nat := (List.range k).filter fun u => decide (prt[u]! = f)
theorem partU_y {prt : List Nat} {f k : Nat} (e : prt[k]! = f) : partU n prt f (k + 1) = partU n prt f k ++ [k] := units_y e
theorem partU_n {prt : List Nat} {f k : Nat} (e : ¬ prt[k]! = f) : partU n prt f (k + 1) = partU n prt f k := units_n e
theorem partU_len (prt : List Nat) (f k : Nat) : (partU n prt f k).length ≤ k := by
  have := List.length_filter_le (fun u => decide (prt[u]! = f)) (List.range k)
  rw [List.length_range] at this
  exact this
/-- The units of a component are solved by themselves. -/
theorem part_emb (hok : (Prob.mk (n : Int) ps rs).ok) (f : Nat) : Emb n (partU n (namedL n (partsL (mF (lF ps) rs) (List.range n))) f n).length ps rs (partU n (namedL n (partsL (mF (lF ps) rs) (List.range n))) f n) (subP (cI (partU n (namedL n (partsL (mF (lF ps) rs) (List.range n))) f n)) ps) (subR (cI (partU n (namedL n (partsL (mF (lF ps) rs) (List.range n))) f n)) rs) ∧
    okU (n : Int) (cI (partU n (namedL n (partsL (mF (lF ps) rs) (List.range n))) f n)) ∧ (Prob.mk ((partU n (namedL n (partsL (mF (lF ps) rs) (List.range n))) f n).length : Int) (subP (cI (partU n (namedL n (partsL (mF (lF ps) rs) (List.range n))) f n)) ps) (subR (cI (partU n (namedL n (partsL (mF (lF ps) rs) (List.range n))) f n)) rs)).ok := by
  have hc := comp_parts (n := n) (lk_sym ps rs)
  generalize namedL n (partsL (mF (lF ps) rs) (List.range n)) = prt at hc ⊢
  have hmem : ∀ {x}, x ∈ partU n prt f n ↔ x < n ∧ prt[x]! = f := fun {x} => by
    unfold partU
    rw [List.mem_filter, List.mem_range, decide_eq_true_eq]
  have hpw : (partU n prt f n).Pairwise (· < ·) := (List.pairwise_lt_range (n := n)).filter _
  have ha : ∀ i j, i < j → j < (partU n prt f n).length → (partU n prt f n)[i]! < (partU n prt f n)[j]! := fun i j hij hj => by
    have := (List.pairwise_iff_getElem.1 hpw) i j (by omega) hj hij
    rw [getElem!_pos _ i (by omega), getElem!_pos _ j hj]; exact this
  have hl : ∀ i, i < (partU n prt f n).length → (partU n prt f n)[i]! < n := fun i hi => (hmem.1 (mem_at hi)).1
  have E := sub_emb (us := partU n prt f n) hok.1 ha hl fun i y hi hy h => by
    have q := hmem.1 (mem_at hi)
    exact hmem.2 ⟨hy, by rw [← hc.rel _ _ ⟨h, q.1, hy⟩]; exact q.2⟩
  refine ⟨E, ⟨fun i hi h0 => ?_, fun i hi => ?_⟩, emb_ok E hok.1 (sub_formed hok.1 ha hl) (by rw [← bad_eq hok.1]; exact hok.2)⟩
  · have hi' : i < (partU n prt f n).length := by rw [List.length_map] at hi; exact hi
    rw [cast_get (by omega), cast_get hi']
    have := ha (i - 1) i (by omega) hi'
    omega
  · have hi' : i < (partU n prt f n).length := by rw [List.length_map] at hi; exact hi
    rw [cast_get hi']
    have := hl i hi'
    omega
/-! ### Rules that are turned -/
def turned (x : Ru) : Ru := ⟨x.k, x.b, x.a⟩
def swF (t : Int) (l : List Ru) (k : Nat) : List Ru := (List.range l.length).map fun i => if i < k ∧ (t + i) % 2 = 0 then turned l[i]! else l[i]!
def mustF (atm : List Nat) (k : Nat) : List Ru := ((List.range k).filter fun i => decide (¬ atm[i]! = i)).map fun i : Nat => ⟨1, (i : Int), ((atm[i]! : Nat) : Int)⟩
def cantF (atm : List Nat) (rs : List Ru) : List Ru := (barL rs).map fun x => ⟨2, (atm[x.a.toNat]! : Nat), (atm[x.b.toNat]! : Nat)⟩
def rotF (rs : List Ru) (k : Nat) : List Ru := rs.drop k ++ rs.take k
def allF (t : Int) (n : Nat) (rs : List Ru) (k : Nat) : List Ru := swF t (rotF rs k) rs.length ++ mustF (atomsL n rs) n ++ cantF (atomsL n rs) rs
end
end Go.D33
end
section
namespace Go.Proofs.Ytppamigboeaefaa
open Go Go.RowKit Go.H Go.D33



set_option maxRecDepth 8000 in
/-- bookplate/bookplatelaw33.Own. -/
theorem own_o {N : Int} {ps : List Pr} {rs : List Ru} (hp : ps.length ≤ 1000000) (hr : rs.length ≤ 1000000) :
    Con Try.prog 14 [vA [uI N, .sl 3 (ps.map ePr), .sl 3 (rs.map eRu)]] [] (.agg [vI N, .own 0, .own 1]) [(0, .data 36 3 (ps.map ePr)), (1, .data 38 3 (rs.map eRu))] := by
 obtain ⟨i35, hi35, hz35, hs35, hb35⟩ := hinf35
 obtain ⟨i36, hi36, hz36, hs36, hb36⟩ := hinf36
 obtain ⟨i38, hi38, hz38, hs38, hb38⟩ := hinf38
 refine Con.enterL (n := 28) Try.func14 rfl rfl rfl (fun τ w ok vs hin => ?_)
 have hl0_1 := hin.lenA (i := 0) (j := 1) rfl rfl
 try rw [List.length_map] at hl0_1
 have hl0_2 := hin.lenA (i := 0) (j := 2) rfl rfl
 try rw [List.length_map] at hl0_2
 clear hin
 refine W.rg ?_
 refine SL.memS (O.box (is := [_, _, _]) 101 rfl rfl (by simp) rfl rfl Taken.no) rfl rfl (S' := (101, _) :: _) rfl ?_
 refine SL.memS (O.alloc (z := .agg #[.int .i64 0, .slice none 0 0, .slice none 0 0]) (is := [.u (.sc (.int .i64 0)), .u (.sc (.slice none 0 0)), .u (.sc (.slice none 0 0))]) 102 (by kernel_rfl) rfl rfl rfl Taken.no) rfl rfl (S' := (102, _) :: _) rfl ?_
 refine E.fo (W.seq ?_)
 refine W.draw [⟨[], [], [], [101]⟩, ⟨[101], [], [], []⟩, ⟨[103], [103], [103], []⟩, ⟨[], [], [], [101]⟩, ⟨[101], [], [], []⟩, ⟨[103, 104], [103, 104], [104], []⟩, ⟨[], [], [], [104]⟩, ⟨[105], [105], [105], []⟩, ⟨[104, 105], [105], [], []⟩] rfl (by kernel_rfl) (by kernel_rfl) rfl rfl ?_
 refine WH.val (O.fld_ref (o' := 0) rfl Try.underlying25 rfl (m := 0) (by kernel_rfl) rfl rfl Taken.no) rfl rfl ?_
 refine WH.val (O.ld1 (PtI.ref rfl rfl) rfl Try.underlying3 rfl rfl Taken.no) rfl rfl ?_
 refine WH.memS (O.buildSlice 103 (rows := ([] : List Ru).map eRu) rfl rfl Try.underlying23 hi38 hz38 hs38 (by decide) rfl (by decide) rfl rfl rfl Taken.no) rfl rfl rfl rfl rfl (S' := (103, .data 38 3 (([] : List Ru).map eRu)) :: _) rfl ?_
 refine WH.val (O.fld_ref (o' := 2) rfl Try.underlying25 rfl (m := 0) (by kernel_rfl) rfl rfl Taken.no) rfl rfl ?_
 refine WH.val (O.ld1 (PtI.ref rfl rfl) rfl Try.underlying23 rfl rfl Taken.no) rfl rfl ?_
 refine WH.memS (O.app (k' := 104) rfl rfl (SlOf.fz rfl (by decide)) Try.underlying23 hi38 hz38 hs38 rfl rfl (by exact List.nil_append _) (by rw [hb38]; (simp only [List.length_map, List.length_nil]; omega)) (by (simp only [List.length_map, List.length_nil]; omega)) rfl Taken.no) rfl rfl rfl rfl rfl (S' := (104, _) :: (103, .dead) :: _) rfl ?_
 refine WH.val (O.build (res := [_, _, _]) (z := .agg #[.int .i64 0, .slice none 0 0, .slice none 0 0]) (places := [(0, 1), (1, 1), (2, 1)]) rfl rfl Try.underlying32 (by kernel_rfl) (fun _ => by kernel_rfl) rfl rfl Taken.no) rfl rfl ?_
 refine WH.memS (O.alloc (z := .agg #[.int .i64 0, .slice none 0 0, .slice none 0 0]) (is := [.u (.sc (.int .i64 0)), .u (.sc (.slice none 0 0)), .u (.sc (.slice none 0 0))]) 105 (by kernel_rfl) rfl rfl rfl Taken.no) rfl rfl rfl rfl rfl (S' := (105, _) :: _) rfl ?_
 refine WH.effS (O.st_ref (m := 3) rfl rfl rfl (js := [_, _, _]) rfl rfl (by kernel_rfl) (by simp) (Nat.le_of_ble_eq_true rfl) rfl (is' := [_, _, _]) rfl Taken.no) rfl rfl rfl (S' := (105, _) :: _) rfl ?_
 refine WH.nil (E.to (W.seq (W.rg ?_)))
 refine SL.val (O.fld_ref (o' := 1) rfl Try.underlying25 rfl (m := 0) (by kernel_rfl) rfl rfl Taken.no) ?_
 refine SL.val (O.ld1 (PtI.ref rfl rfl) rfl Try.underlying22 rfl rfl Taken.no) ?_
 refine SL.val (O.lenE (SlOf.fz rfl (by decide)) (by first | exact List.length_map _ | rfl) Try.underlying22 rfl Taken.no) ?_
 refine SL.mv rfl rfl (E.fo (W.block ?_))
 refine W.adoptC 105 1 108 36 3 (is' := [_, _, _]) (by decide) rfl rfl rfl rfl rfl ?_
 refine W.loopx1 (fun (k : Nat) => [(16, vI (k : Int))]) (fun (k : Nat) => [(106, .data 36 3 ((ps.take k).map ePr)), (107, .data 38 3 (rs.map eRu)), (105, .cells 32 [vI N, .own 106, .own 107])]) (fun (k : Nat) => k ≤ ps.length) (fun (k : Nat) => ps.length - k) (0) (rn [(106, 108), (107, 104)]) (.cons (t := 2) rfl (.cons (t := 3) rfl (.cons (t := 14) rfl (.cons (t := 15) rfl .nil)))) (.cons (t := 101) rfl (.cons (t := 102) rfl .nil)) rfl ?_ ?_ rfl rfl ?_ ?_
 · exact (SubF.cons rfl SubF.nil)
 · exact (SubS.cons rfl (SubS.cons rfl (SubS.cons rfl SubS.nil)))
 ·skip
  omega
 intro k hinv
 have hk := hinv
 refine W.rg ?_
 refine SL.val (O.det (fun _ => G.R.lss rfl rfl) rfl Taken.no) ?_
 refine E.fo (W.seq ?_)
 first | refine W.cond_d rfl (fun hc1 => ?_) (fun hc1 => ?_) | refine W.cond_nd rfl (fun hc1 => ?_) (fun hc1 => ?_) | refine W.cond rfl (fun hc1 => ?_) (fun hc1 => ?_)
 ·skip
  refine W.skip (E.to (W.seq (W.block (W.rg ?_))))
  refine SL.val (O.idx_fz rfl rfl (rfl) (row_get (by omega)) Try.underlying22 hi35 hs35 rfl Taken.no) ?_
  refine SL.val (O.ldU (m := 3) (PtU.fz rfl) rfl Try.underlying35 rfl (by kernel_rfl) rfl Taken.no) ?_
  refine SL.memS (O.alloc (z := .agg #[.int .i64 0, .int .i64 0, .int .i64 0]) (is := [.u (.sc (.int .i64 0)), .u (.sc (.int .i64 0)), .u (.sc (.int .i64 0))]) 109 (by kernel_rfl) rfl rfl rfl Taken.no) rfl rfl (S' := (109, _) :: _) rfl ?_
  refine SL.effS (O.st_ref (m := 3) rfl rfl rfl (js := [_, _, _]) rfl rfl (by kernel_rfl) (by simp) (Nat.le_of_ble_eq_true rfl) rfl (is' := [_, _, _]) rfl Taken.no) (S' := (109, _) :: _) rfl ?_
  refine E.fo (W.region ?_)
  refine SL.val (O.fld_ref (o' := 1) rfl Try.underlying32 rfl (m := 0) (by kernel_rfl) rfl rfl Taken.no) ?_
  refine SL.val (O.ld1 (PtI.ref rfl rfl) rfl Try.underlying30 rfl rfl Taken.no) ?_
  refine SL.val (O.ldN (m := 3) (PtI.ref rfl rfl) (js := [_, _, _]) rfl (Nat.le_of_ble_eq_true rfl) Try.underlying35 rfl (by kernel_rfl) rfl Taken.no) ?_
  refine SL.memS (O.buildSlice 110 (rows := [ps[k]!].map ePr) rfl rfl Try.underlying30 hi36 hz36 hs36 (by decide) rfl (by decide) rfl rfl rfl Taken.no) rfl rfl (S' := (110, .data 36 3 ([ps[k]!].map ePr)) :: _) rfl ?_
  refine SL.memS (O.app (k' := 111) rfl rfl (SlOf.own rfl rfl) Try.underlying30 hi36 hz36 hs36 rfl rfl (by exact app_map) (by rw [hb36]; (simp only [List.length_map, List.length_singleton, List.length_take]; omega)) (by (simp only [List.length_map, List.length_singleton, List.length_take]; omega)) rfl Taken.no) rfl rfl (S' := (111, _) :: (106, .dead) :: _) rfl ?_
  refine SL.val (O.fld_ref (o' := 1) rfl Try.underlying32 rfl (m := 0) (by kernel_rfl) rfl rfl Taken.no) ?_
  refine SL.effS (O.st_ref (m := 1) rfl rfl rfl (js := [_]) rfl rfl (by kernel_rfl) (by simp) (Nat.le_of_ble_eq_true rfl) rfl (is' := [_, _, _]) rfl Taken.no) (S' := (105, _) :: _) rfl ?_
  refine SL.nil (E.inn (E.to (W.region ?_)))
  refine SL.val (O.det (fun _ => by first | exact G.R.add64 rfl rfl (by omega) | exact G.R.add rfl rfl) rfl Taken.no) ?_
  refine SL.mv rfl rfl (SL.nil ?_)
  refine E.again ((k + 1)) (rn [(106, 111)]) ?_ ?_ rfl (fixL_spec rfl) ?_ ?_
  · exact (SubF.cons rfl (SubF.cons rfl (SubF.cons rfl (SubF.cons rfl (SubF.cons rfl SubF.nil)))))
  · exact (SubS.val rfl (by (try dsimp only); exact sb_data (by rw [snocP (by omega)])) (SubS.cons rfl (SubS.cons rfl (SubS.cons rfl (SubS.cons rfl SubS.nil)))))
  ·try dsimp only
   omega
  · (try dsimp only); omega
 ·skip
  refine W.exit (E.th (E.th (E.hit (E.to (W.rg ?_)))))
  refine SL.val (O.ldN (m := 3) (PtI.ref rfl rfl) (js := [_, _, _]) rfl (Nat.le_of_ble_eq_true rfl) Try.underlying32 rfl (by kernel_rfl) rfl Taken.no) ?_
  refine SL.effS (O.st_ref (m := 3) rfl rfl rfl (js := [_, _, _]) rfl rfl (by kernel_rfl) (by simp) (Nat.le_of_ble_eq_true rfl) rfl (is' := [_, _, _]) rfl Taken.no) (S' := (102, _) :: _) rfl ?_
  refine E.fo (W.ret ?_)
  refine E.fin (rs := [_]) (rn [(0, 106), (1, 107)]) (.inl rfl) rfl (.cons (ResOne.cellN (m := 3) (PtI.ref rfl rfl) (js := [_, _, _]) rfl (Nat.le_of_ble_eq_true rfl) Try.underlying32 rfl (by kernel_rfl)) .nil) ?_ ?_ rfl (fixL_spec rfl)
  ·skip
   rfl
  · exact (SubS.val rfl (by exact sb_data (by rw [show k = ps.length by omega, List.take_length])) (SubS.cons rfl SubS.nil))

set_option maxRecDepth 8000 in
set_option maxHeartbeats 6400000 in
/-- bookplate/bookplatelaw33.ClusterParts. -/
theorem clusterParts_ok {n : Nat} {ps : List Pr} {rs : List Ru} (hok : (Prob.mk (n : Int) ps rs).ok) :
    Con Try.prog 10 [vA [uI (n : Int), .sl 3 (ps.map ePr), .sl 3 (rs.map eRu)]] [] (vB true) [] := by
 have hf := hok.1
 have hn2 : (n : Int) ≤ 200 := hf.2.1
 have hr4 : rs.length ≤ 400 := hf.2.2.1
 have hsl0 := (solveR_spec hok).1.1
 obtain ⟨i3, hi3, hz3, hs3, hb3⟩ := hinf3
 refine Con.enterL (n := 128) Try.func10 rfl rfl rfl (fun τ w ok vs hin => ?_)
 have hl0_1 := hin.lenA (i := 0) (j := 1) rfl rfl
 try rw [List.length_map] at hl0_1
 have hl0_2 := hin.lenA (i := 0) (j := 2) rfl rfl
 try rw [List.length_map] at hl0_2
 clear hin
 refine W.rg ?_
 refine SL.memS (O.box (is := [_, _, _]) 101 rfl rfl (by simp) rfl rfl Taken.no) rfl rfl (S' := (101, _) :: _) rfl ?_
 refine SL.an rfl rfl (E.fo (W.seq (W.rg ?_)))
 refine SL.val (O.callp rfl rfl rfl (awake_h) .nil hcallOk11 rfl Taken.no) ?_
 refine SL.as (i' := vB true) 16 rfl (by rfl) ?_
 refine SL.val (O.det (fun _ => G.R.mv (G.R.not rfl) rfl) rfl Taken.no) ?_
 refine SL.mv rfl rfl ?_
 have hg1 : false = false := by decide
 refine SL.val (O.ldN (m := 3) (PtI.ref rfl rfl) (js := [_, _, _]) rfl (Nat.le_of_ble_eq_true rfl) Try.underlying25 rfl (by kernel_rfl) rfl (Taken.yes rfl rfl hg1)) ?_
 refine SL.val (O.callp rfl rfl rfl (few_h) (.cons (ArgOk.aggU (.cons (ArgOk.same rfl) (.cons (ArgOk.same rfl) (.cons (ArgOk.same rfl) .nil)))) .nil) hcallOk12 rfl (Taken.yes rfl rfl hg1)) ?_
 refine SL.val (O.det (fun _ => G.R.not rfl) rfl (Taken.yes rfl rfl hg1)) ?_
 refine SL.val (O.pick_f rfl rfl rfl rfl Taken.no) ?_
 refine SL.mv rfl rfl ?_
 refine SL.case (j := 7) (g := 23) (want := false) rfl rfl (fun hg2 => ?_) (fun hg2 => ?_)
 ·skip
  first | have hg2p := G.gA3 hg2 | have hg2p := G.gA4 hg2 | have hg2p := hg2
  have hfew : ((n : Int) ≤ 9 ∨ 200 < (n : Int)) ∧ ps.length ≤ 40 ∧ (rs.length ≤ 12 ∨ rs.length = 401) := by simp_all
  refine SL.val (O.ldN (m := 3) (PtI.ref rfl rfl) (js := [_, _, _]) rfl (Nat.le_of_ble_eq_true rfl) Try.underlying25 rfl (by kernel_rfl) rfl (Taken.yes rfl rfl hg2)) ?_
  refine SL.val (O.callp rfl rfl rfl (refvalid_h (N := (n : Int)) (ps := ps) (rs := rs)) (.cons (ArgOk.aggU (.cons (ArgOk.same rfl) (.cons (ArgOk.same rfl) (.cons (ArgOk.same rfl) .nil)))) .nil) hcallOk13 rfl (Taken.yes rfl rfl hg2)) ?_
  refine SL.as (i' := vI 0) 25 rfl (by rw [Prob.err_0 hok]) ?_
  refine SL.val (O.det (fun _ => G.R.mv (G.R.neq rfl rfl) (congrArg Value.bool (decide_eq_false (by decide)))) rfl (Taken.yes rfl rfl hg2)) ?_
  refine SL.val (O.pick_f rfl hg2 rfl rfl Taken.no) ?_
  refine E.fo ?_
  refine W.cond_f rfl ?_
  refine W.skip (E.to (W.rg ?_))
  refine SL.val (O.ldN (m := 3) (PtI.ref rfl rfl) (js := [_, _, _]) rfl (Nat.le_of_ble_eq_true rfl) Try.underlying25 rfl (by kernel_rfl) rfl Taken.no) ?_
  refine SL.memS (O.call (rn []) [] rfl rfl rfl (Con.fz (Con.fz (own_o (by omega) (by omega)) rfl rfl) rfl rfl) (.cons (ArgOk.aggU (.cons (ArgOk.same rfl) (.cons (ArgOk.same rfl) (.cons (ArgOk.same rfl) .nil)))) .nil) SubS.nil rfl rfl rfl rfl rfl (.inl rfl) hcallOk14 (r' := .agg [.u _, .u _, .u _]) rfl rfl Taken.no) rfl rfl (S' := _) rfl ?_
  refine SL.memS (O.call (rn []) [] rfl rfl rfl (solveC_ok hok) (.cons (ArgOk.aggU (.cons (ArgOk.same rfl) (.cons (ArgOk.same rfl) (.cons (ArgOk.same rfl) .nil)))) .nil) SubS.nil rfl rfl rfl rfl rfl (.inl rfl) hcallOk15 (r' := .tup [.u _, .u _]) rfl rfl Taken.no) rfl rfl (S' := _) rfl ?_
  refine SL.mv rfl rfl ?_
  refine SL.val (O.extract rfl rfl rfl Taken.no) ?_
  refine SL.val (O.extract rfl rfl rfl Taken.no) ?_
  refine SL.an rfl rfl (SL.an rfl rfl (E.fo ?_))
  refine W.pick (K:=[(1,_),(2,_),(3,_),(4,_)]) (Z:=[(101,_)]) ⟨rfl,rfl,rfl,rfl,trivial⟩ ⟨rfl,trivial⟩ ?_
  refine W.rg ?_
  refine SL.val (O.ldN (m := 3) (PtI.ref rfl rfl) (js := [_, _, _]) rfl (Nat.le_of_ble_eq_true rfl) Try.underlying25 rfl (by kernel_rfl) rfl Taken.no) ?_
  refine SL.memS (O.call (rn []) [] rfl rfl rfl (Con.fz (Con.fz (own_o (by omega) (by omega)) rfl rfl) rfl rfl) (.cons (ArgOk.aggU (.cons (ArgOk.same rfl) (.cons (ArgOk.same rfl) (.cons (ArgOk.same rfl) .nil)))) .nil) SubS.nil rfl rfl rfl rfl rfl (.inl rfl) hcallOk14 (r' := .agg [.u _, .u _, .u _]) rfl rfl Taken.no) rfl rfl (S' := _) rfl ?_
  refine SL.memS (O.call (rn []) [] rfl rfl rfl (partsC_ok hok) (.cons (ArgOk.aggU (.cons (ArgOk.same rfl) (.cons (ArgOk.same rfl) (.cons (ArgOk.same rfl) .nil)))) .nil) SubS.nil rfl rfl rfl rfl rfl (.inl rfl) hcallOk19 (r' := .tup [.u _, .u _]) rfl rfl Taken.no) rfl rfl (S' := _) rfl ?_
  refine SL.mv rfl rfl ?_
  refine SL.val (O.extract rfl rfl rfl Taken.no) ?_
  refine SL.val (O.extract rfl rfl rfl Taken.no) ?_
  refine SL.an rfl rfl (SL.an rfl rfl (E.fo (W.seq (W.rg (SL.mv rfl rfl ?_)))))
  refine SL.val (O.det (fun _ => G.R.mv (G.R.neq rfl rfl) (congrArg Value.bool (decide_eq_false (by decide)))) rfl Taken.no) ?_
  refine SL.mv rfl rfl ?_
  have hg3 : false = false := by decide
  refine SL.val (O.move rfl rfl (Taken.yes rfl rfl hg3)) ?_
  refine SL.val (O.det (fun _ => G.R.mv (G.R.neq rfl rfl) (congrArg Value.bool (decide_eq_false (by decide)))) rfl (Taken.yes rfl rfl hg3)) ?_
  refine SL.val (O.pick_f rfl rfl rfl rfl Taken.no) ?_
  refine SL.mv rfl rfl ?_
  have hg4 : false = false := by decide
  refine SL.val (O.move rfl rfl (Taken.yes rfl rfl hg4)) ?_
  refine SL.val (O.lenE (SlOf.fz rfl (by decide)) (by first | exact List.length_map _ | rfl) Try.underlying39 rfl (Taken.yes rfl rfl hg4)) ?_
  refine SL.val (O.fld_ref (o' := 0) rfl Try.underlying25 rfl (m := 0) (by kernel_rfl) rfl rfl (Taken.yes rfl rfl hg4)) ?_
  refine SL.val (O.ld1 (PtI.ref rfl rfl) rfl Try.underlying3 rfl rfl (Taken.yes rfl rfl hg4)) ?_
  refine SL.val (O.det (fun _ => G.R.mv (G.R.neq rfl rfl) (congrArg Value.bool (decide_eq_false (by omega)))) rfl (Taken.yes rfl rfl hg4)) ?_
  refine SL.val (O.pick_f rfl rfl rfl rfl Taken.no) ?_
  refine SL.mv rfl rfl ?_
  have hg5 : false = false := by decide
  refine SL.val (O.move rfl rfl (Taken.yes rfl rfl hg5)) ?_
  refine SL.val (O.lenE (SlOf.fz rfl (by decide)) (by first | exact List.length_map _ | rfl) Try.underlying39 rfl (Taken.yes rfl rfl hg5)) ?_
  refine SL.val (O.fld_ref (o' := 0) rfl Try.underlying25 rfl (m := 0) (by kernel_rfl) rfl rfl (Taken.yes rfl rfl hg5)) ?_
  refine SL.val (O.ld1 (PtI.ref rfl rfl) rfl Try.underlying3 rfl rfl (Taken.yes rfl rfl hg5)) ?_
  refine SL.val (O.det (fun _ => G.R.mv (G.R.neq rfl rfl) (congrArg Value.bool (decide_eq_false (by (have := named_len n (partsL (mF (lF ps) rs) (List.range n)); omega))))) rfl (Taken.yes rfl rfl hg5)) ?_
  refine SL.val (O.pick_f rfl rfl rfl rfl Taken.no) ?_
  refine E.fo ?_
  refine W.pick (K:=[(1,_),(2,_),(3,_),(5,_),(60,_)]) (Z:=[(101,_)]) ⟨rfl,rfl,rfl,rfl,rfl,trivial⟩ ⟨rfl,trivial⟩ ?_
  refine W.cond_f rfl ?_
  refine W.skip (E.to (W.seq (W.rg ?_)))
  refine SL.val (O.fld_ref (o' := 0) rfl Try.underlying25 rfl (m := 0) (by kernel_rfl) rfl rfl Taken.no) ?_
  refine SL.val (O.ld1 (PtI.ref rfl rfl) rfl Try.underlying3 rfl rfl Taken.no) ?_
  refine SL.mv rfl rfl (E.fo (W.block ?_))
  refine W.loopx1 (fun (f : Nat) => [(63, vI (f : Int))]) (fun (f : Nat) => []) (fun (f : Nat) => f ≤ n) (fun (f : Nat) => n - f) (0) (rn []) (.cons (t := 1) rfl (.cons (t := 3) rfl (.cons (t := 5) rfl (.cons (t := 62) rfl .nil)))) (.cons (t := 101) rfl .nil) rfl ?_ ?_ rfl rfl ?_ ?_
  · exact (SubF.cons rfl SubF.nil)
  · exact SubS.nil
  ·skip
   omega
  intro f hinv
  have hf_ := hinv
  refine W.rg ?_
  refine SL.val (O.det (fun _ => G.R.lss rfl rfl) rfl Taken.no) ?_
  refine E.fo (W.seq ?_)
  first | refine W.cond_d rfl (fun hc6 => ?_) (fun hc6 => ?_) | refine W.cond_nd rfl (fun hc6 => ?_) (fun hc6 => ?_) | refine W.cond rfl (fun hc6 => ?_) (fun hc6 => ?_)
  ·skip
   have hpe := part_emb hok f
   have hrel := emb_solveR hpe.1 hok hpe.2.2
   have hss := (solveR_spec hpe.2.2).1
   have hul := partU_len (n := n) (namedL n (partsL (mF (lF ps) rs) (List.range n))) f n
   refine W.skip (E.to (W.seq (W.block (W.rg (SL.mv rfl rfl (SL.an rfl rfl (E.fo (W.rg (SL.an rfl rfl (E.fo (W.seq (W.rg ?_))))))))))))
   refine SL.val (O.fld_ref (o' := 0) rfl Try.underlying25 rfl (m := 0) (by kernel_rfl) rfl rfl Taken.no) ?_
   refine SL.val (O.ld1 (PtI.ref rfl rfl) rfl Try.underlying3 rfl rfl Taken.no) ?_
   refine SL.mv rfl rfl (E.fo (W.block ?_))
   refine W.adopt 8 103 3 1 (by decide) rfl rfl rfl ?_
   refine W.loopx1 (fun (k : Nat) => [(68, vI (k : Int)), (8, .own 102)]) (fun (k : Nat) => [(102, .data 3 1 ((cI (partU n (namedL n (partsL (mF (lF ps) rs) (List.range n))) f k)).map eI))]) (fun (k : Nat) => k ≤ n) (fun (k : Nat) => n - k) (0) (rn [(102, 103)]) (.cons (t := 1) rfl (.cons (t := 3) rfl (.cons (t := 5) rfl (.cons (t := 7) rfl (.cons (t := 62) rfl (.cons (t := 63) rfl (.cons (t := 67) rfl .nil))))))) (.cons (t := 101) rfl .nil) rfl ?_ ?_ rfl rfl ?_ ?_
   · exact (SubF.cons rfl (SubF.cons rfl SubF.nil))
   · exact (SubS.cons rfl SubS.nil)
   ·skip
    omega
   intro k hinv
   have hk := hinv
   have hkl := partU_len (n := n) (namedL n (partsL (mF (lF ps) rs) (List.range n))) f k
   refine W.rg ?_
   refine SL.val (O.det (fun _ => G.R.lss rfl rfl) rfl Taken.no) ?_
   refine E.fo (W.seq ?_)
   first | refine W.cond_d rfl (fun hc7 => ?_) (fun hc7 => ?_) | refine W.cond_nd rfl (fun hc7 => ?_) (fun hc7 => ?_) | refine W.cond rfl (fun hc7 => ?_) (fun hc7 => ?_)
   ·skip
    refine W.skip (E.to (W.seq (W.block (W.rg (SL.mv rfl rfl (SL.an rfl rfl (E.fo (W.rg (SL.mv rfl rfl (SL.mv rfl rfl ?_))))))))))
    refine SL.val (O.idx_fz (i := k) rfl rfl (rfl) (row_get (by rw [named_len]; omega)) Try.underlying39 hi3 hs3 rfl Taken.no) ?_
    refine SL.val (O.ld1 (PtI.ofU (PtU.fz rfl)) rfl Try.underlying3 rfl rfl Taken.no) ?_
    refine SL.mv rfl rfl ?_
    refine SL.val (O.det (fun _ => G.R.eql rfl rfl) rfl Taken.no) ?_
    refine E.fo ?_
    first | refine W.cond_d rfl (fun hc8 => ?_) (fun hc8 => ?_) | refine W.cond_nd rfl (fun hc8 => ?_) (fun hc8 => ?_) | refine W.cond rfl (fun hc8 => ?_) (fun hc8 => ?_)
    ·skip
     refine W.region (SL.mv rfl rfl (SL.mv rfl rfl ?_))
     refine SL.memS (O.buildSlice 104 (rows := [((k : Nat) : Int)].map eI) rfl rfl Try.underlying39 hi3 hz3 hs3 (by decide) rfl (by decide) rfl rfl rfl Taken.no) rfl rfl (S' := (104, .data 3 1 ([((k : Nat) : Int)].map eI)) :: _) rfl ?_
     refine SL.memS (O.app (k' := 105) rfl rfl (SlOf.own rfl rfl) Try.underlying39 hi3 hz3 hs3 rfl rfl (rfl) (by rw [hb3]; (simp only [List.length_map, List.length_singleton]; omega)) (by (simp only [List.length_map, List.length_singleton]; omega)) rfl Taken.no) rfl rfl (S' := (105, _) :: (102, .dead) :: _) rfl ?_
     refine SL.an rfl rfl (SL.nil (E.inn (E.to (W.region ?_))))
     refine SL.val (O.det (fun _ => by first | exact G.R.add64 rfl rfl (by omega) | exact G.R.add rfl rfl) rfl Taken.no) ?_
     refine SL.mv rfl rfl (SL.nil ?_)
     refine E.again ((k + 1)) (rn [(102, 105)]) ?_ ?_ rfl (fixL_spec rfl) ?_ ?_
     · exact (SubF.cons rfl (SubF.cons rfl (SubF.cons rfl (SubF.cons rfl (SubF.cons rfl (SubF.cons rfl (SubF.cons rfl (SubF.cons rfl (SubF.cons rfl SubF.nil)))))))))
     · exact (SubS.val rfl (by (try dsimp only); first | exact sb_data (by rw [partU_y (show (namedL n (partsL (mF (lF ps) rs) (List.range n)))[k]! = f by omega)]; exact (cI_snoc _ _).symm) | exact sb_data (by rw [partU_n (show ¬ (namedL n (partsL (mF (lF ps) rs) (List.range n)))[k]! = f by omega)])) (SubS.cons rfl SubS.nil))
     ·try dsimp only
      omega
     · (try dsimp only); omega
    ·skip
     refine W.skip (E.inn (E.to (W.region ?_)))
     refine SL.val (O.det (fun _ => by first | exact G.R.add64 rfl rfl (by omega) | exact G.R.add rfl rfl) rfl Taken.no) ?_
     refine SL.mv rfl rfl (SL.nil ?_)
     refine E.again ((k + 1)) (rn []) ?_ ?_ rfl (fixL_spec rfl) ?_ ?_
     · exact (SubF.cons rfl (SubF.cons rfl (SubF.cons rfl (SubF.cons rfl (SubF.cons rfl (SubF.cons rfl (SubF.cons rfl (SubF.cons rfl (SubF.cons rfl SubF.nil)))))))))
     · exact (SubS.val rfl (by (try dsimp only); first | exact sb_data (by rw [partU_y (show (namedL n (partsL (mF (lF ps) rs) (List.range n)))[k]! = f by omega)]; exact (cI_snoc _ _).symm) | exact sb_data (by rw [partU_n (show ¬ (namedL n (partsL (mF (lF ps) rs) (List.range n)))[k]! = f by omega)])) (SubS.cons rfl SubS.nil))
     ·try dsimp only
      omega
     · (try dsimp only); omega
   ·skip
    refine W.exit (E.th (E.th (E.hit (E.to (W.seq ?_)))))
    have hkn : k = n := by omega
    rw [hkn]
    refine W.freeze 102 rfl (F' := [(8, _)]) (⟨⟨_, rfl, rfl⟩, trivial⟩) ?_
    refine W.region ?_
    refine SL.val (O.ldN (m := 3) (PtI.ref rfl rfl) (js := [_, _, _]) rfl (Nat.le_of_ble_eq_true rfl) Try.underlying25 rfl (by kernel_rfl) rfl Taken.no) ?_
    refine SL.memS (O.call (rn []) [] rfl rfl rfl (Con.fz (Con.fz (own_o (by omega) (by omega)) rfl rfl) rfl rfl) (.cons (ArgOk.aggU (.cons (ArgOk.same rfl) (.cons (ArgOk.same rfl) (.cons (ArgOk.same rfl) .nil)))) .nil) SubS.nil rfl rfl rfl rfl rfl (.inl rfl) hcallOk14 (r' := .agg [.u _, .u _, .u _]) rfl rfl Taken.no) rfl rfl (S' := _) rfl ?_
    refine SL.mv rfl rfl ?_
    refine SL.memS (O.call (rn []) [] rfl rfl rfl (sub_ok (us := cI (partU n (namedL n (partsL (mF (lF ps) rs) (List.range n))) f n)) hok (by omega) (by omega) (by rw [List.length_map]; omega)) (.cons (ArgOk.aggU (.cons (ArgOk.same rfl) (.cons (ArgOk.same rfl) (.cons (ArgOk.same rfl) .nil)))) (.cons (ArgOk.same rfl) .nil)) SubS.nil rfl rfl rfl rfl rfl (.inl rfl) hcallOk31 (r' := .tup [.agg [.u _, .u _, .u _], .u _]) rfl rfl Taken.no) rfl rfl (S' := _) rfl ?_
    refine SL.as (i' := .tup [.agg [vI ((partU n (namedL n (partsL (mF (lF ps) rs) (List.range n))) f n).length : Int), vL 3 ((subP (cI (partU n (namedL n (partsL (mF (lF ps) rs) (List.range n))) f n)) ps).map ePr), vL 3 ((subR (cI (partU n (namedL n (partsL (mF (lF ps) rs) (List.range n))) f n)) rs).map eRu)], vI 0]) 86 rfl (by rw [(sb_y hpe.2.1 ps rs).1, (sb_y hpe.2.1 ps rs).2.1, (sb_y hpe.2.1 ps rs).2.2.1, (sb_y hpe.2.1 ps rs).2.2.2, List.length_map]) ?_
    refine SL.mv rfl rfl ?_
    refine SL.val (O.extract rfl rfl rfl Taken.no) ?_
    refine SL.val (O.extract rfl rfl rfl Taken.no) ?_
    refine SL.memS (O.alloc (z := .agg #[.int .i64 0, .slice none 0 0, .slice none 0 0]) (is := [.u (.sc (.int .i64 0)), .u (.sc (.slice none 0 0)), .u (.sc (.slice none 0 0))]) 106 (by kernel_rfl) rfl rfl rfl Taken.no) rfl rfl (S' := (106, _) :: _) rfl ?_
    refine SL.effS (O.st_ref (m := 3) rfl rfl rfl (js := [_, _, _]) rfl rfl (by kernel_rfl) (by simp) (Nat.le_of_ble_eq_true rfl) rfl (is' := [_, _, _]) rfl Taken.no) (S' := (106, _) :: _) rfl ?_
    refine SL.an rfl rfl (E.fo (W.rg ?_))
    refine SL.val (O.ldN (m := 3) (PtI.ref rfl rfl) (js := [_, _, _]) rfl (Nat.le_of_ble_eq_true rfl) Try.underlying32 rfl (by kernel_rfl) rfl Taken.no) ?_
    refine SL.memS (O.call (rn []) [] rfl rfl rfl (solveC_ok hpe.2.2) (.cons (ArgOk.aggU (.cons (ArgOk.same rfl) (.cons (ArgOk.same rfl) (.cons (ArgOk.same rfl) .nil)))) .nil) SubS.nil rfl rfl rfl rfl rfl (.inl rfl) hcallOk15 (r' := .tup [.u _, .u _]) rfl rfl Taken.no) rfl rfl (S' := _) rfl ?_
    refine SL.mv rfl rfl ?_
    refine SL.val (O.extract rfl rfl rfl Taken.no) ?_
    refine SL.val (O.extract rfl rfl rfl Taken.no) ?_
    refine SL.an rfl rfl (SL.an rfl rfl (E.fo ?_))
    refine W.pick (K:=[(1,_),(3,_),(5,_),(8,_),(11,_),(12,_),(13,_),(62,_),(63,_)]) (Z:=[(101,_),(106,_)]) ⟨rfl,rfl,rfl,rfl,rfl,rfl,rfl,rfl,rfl,trivial⟩ ⟨rfl,rfl,trivial⟩ ?_
    refine W.seq (W.rg (SL.mv rfl rfl ?_))
    refine SL.val (O.det (fun _ => G.R.mv (G.R.neq rfl rfl) (congrArg Value.bool (decide_eq_false (by decide)))) rfl Taken.no) ?_
    refine SL.mv rfl rfl ?_
    have hg9 : false = false := by decide
    refine SL.val (O.move rfl rfl (Taken.yes rfl rfl hg9)) ?_
    refine SL.val (O.det (fun _ => G.R.mv (G.R.neq rfl rfl) (congrArg Value.bool (decide_eq_false (by decide)))) rfl (Taken.yes rfl rfl hg9)) ?_
    refine SL.val (O.pick_f rfl rfl rfl rfl Taken.no) ?_
    refine SL.mv rfl rfl ?_
    have hg10 : false = false := by decide
    refine SL.val (O.move rfl rfl (Taken.yes rfl rfl hg10)) ?_
    refine SL.val (O.lenE (SlOf.fz rfl (by decide)) (by first | exact List.length_map _ | rfl) Try.underlying39 rfl (Taken.yes rfl rfl hg10)) ?_
    refine SL.val (O.move rfl rfl (Taken.yes rfl rfl hg10)) ?_
    refine SL.val (O.lenE (n := (partU n (namedL n (partsL (mF (lF ps) rs) (List.range n))) f n).length) (SlOf.fz rfl (by decide)) (by rw [List.length_map, List.length_map]) Try.underlying39 rfl (Taken.yes rfl rfl hg10)) ?_
    refine SL.val (O.det (fun _ => G.R.mv (G.R.neq rfl rfl) (congrArg Value.bool (decide_eq_false (by (have := hss.1; omega))))) rfl (Taken.yes rfl rfl hg10)) ?_
    refine SL.val (O.pick_f rfl rfl rfl rfl Taken.no) ?_
    refine E.fo ?_
    refine W.cond_f rfl ?_
    refine W.skip (E.to (W.rg (SL.mv rfl rfl ?_)))
    refine SL.val (O.lenE (n := (partU n (namedL n (partsL (mF (lF ps) rs) (List.range n))) f n).length) (SlOf.fz rfl (by decide)) (by rw [List.length_map, List.length_map]) Try.underlying39 rfl Taken.no) ?_
    refine SL.mv rfl rfl (E.fo ?_)
    refine W.pick (K:=[(1,_),(3,_),(5,_),(8,_),(12,_),(62,_),(63,_),(107,_),(108,_),(109,_)]) (Z:=[(101,_),(106,_)]) ⟨rfl,rfl,rfl,rfl,rfl,rfl,rfl,rfl,rfl,rfl,trivial⟩ ⟨rfl,rfl,trivial⟩ ?_
    refine W.block ?_
    refine W.loopx1 (fun (j : Nat) => [(109, vI (j : Int))]) (fun (j : Nat) => []) (fun (j : Nat) => j ≤ (partU n (namedL n (partsL (mF (lF ps) rs) (List.range n))) f n).length) (fun (j : Nat) => (partU n (namedL n (partsL (mF (lF ps) rs) (List.range n))) f n).length - j) (0) (rn []) (.cons (t := 1) rfl (.cons (t := 3) rfl (.cons (t := 5) rfl (.cons (t := 8) rfl (.cons (t := 12) rfl (.cons (t := 62) rfl (.cons (t := 63) rfl (.cons (t := 107) rfl (.cons (t := 108) rfl .nil))))))))) (.cons (t := 101) rfl (.cons (t := 106) rfl .nil)) rfl ?_ ?_ rfl rfl ?_ ?_
    · exact (SubF.cons rfl SubF.nil)
    · exact SubS.nil
    ·skip
     omega
    intro j hinv
    have hj := hinv
    refine W.rg ?_
    refine SL.val (O.det (fun _ => G.R.lss rfl rfl) rfl Taken.no) ?_
    refine E.fo (W.seq ?_)
    first | refine W.cond_d rfl (fun hc11 => ?_) (fun hc11 => ?_) | refine W.cond_nd rfl (fun hc11 => ?_) (fun hc11 => ?_) | refine W.cond rfl (fun hc11 => ?_) (fun hc11 => ?_)
    ·skip
     have hju := hpe.1.lt j (by omega)
     have hjr := hrel j (by omega)
     have hjs := hss.2 j (by omega)
     have hsl := hss.1
     have hcg : (cI (partU n (namedL n (partsL (mF (lF ps) rs) (List.range n))) f n))[j]! = (((partU n (namedL n (partsL (mF (lF ps) rs) (List.range n))) f n)[j]! : Nat) : Int) := cast_get (by omega)
     have hcg2 : (cI (partU n (namedL n (partsL (mF (lF ps) rs) (List.range n))) f n))[(solveR (partU n (namedL n (partsL (mF (lF ps) rs) (List.range n))) f n).length (subP (cI (partU n (namedL n (partsL (mF (lF ps) rs) (List.range n))) f n)) ps) (subR (cI (partU n (namedL n (partsL (mF (lF ps) rs) (List.range n))) f n)) rs))[j]!]! = (((partU n (namedL n (partsL (mF (lF ps) rs) (List.range n))) f n)[(solveR (partU n (namedL n (partsL (mF (lF ps) rs) (List.range n))) f n).length (subP (cI (partU n (namedL n (partsL (mF (lF ps) rs) (List.range n))) f n)) ps) (subR (cI (partU n (namedL n (partsL (mF (lF ps) rs) (List.range n))) f n)) rs))[j]!]! : Nat) : Int) := cast_get (by omega)
     have hcl : (cI (partU n (namedL n (partsL (mF (lF ps) rs) (List.range n))) f n)).length = (partU n (namedL n (partsL (mF (lF ps) rs) (List.range n))) f n).length := List.length_map _
     refine W.skip (E.to (W.seq (W.block (W.rg (SL.mv rfl rfl ?_)))))
     refine SL.val (O.idx_fz (i := j) rfl rfl (rfl) (row_get (by omega)) Try.underlying39 hi3 hs3 rfl Taken.no) ?_
     refine SL.val (O.ld1 (PtI.ofU (PtU.fz rfl)) rfl Try.underlying3 rfl rfl Taken.no) ?_
     refine SL.an rfl rfl (SL.an rfl rfl (E.fo (W.seq ?_)))
     refine W.draw [⟨[], [], [], []⟩, ⟨[], [], [], []⟩, ⟨[], [], [], []⟩, ⟨[], [], [], []⟩, ⟨[], [], [], []⟩, ⟨[], [], [], []⟩, ⟨[], [], [], []⟩, ⟨[], [], [], []⟩, ⟨[], [], [], []⟩, ⟨[], [], [], []⟩, ⟨[], [], [], []⟩, ⟨[], [], [], []⟩] rfl (by kernel_rfl) (by kernel_rfl) rfl rfl ?_
     refine WH.mv rfl rfl rfl (WH.mv rfl rfl rfl ?_)
     refine WH.val (O.idx_fz (i := ((partU n (namedL n (partsL (mF (lF ps) rs) (List.range n))) f n)[j]!)) rfl rfl (by exact hcg) (row_get (by omega)) Try.underlying39 hi3 hs3 rfl Taken.no) rfl rfl ?_
     refine WH.val (O.ld1 (PtI.ofU (PtU.fz rfl)) rfl Try.underlying3 rfl rfl Taken.no) rfl rfl ?_
     refine WH.mv rfl rfl rfl (WH.mv rfl rfl rfl (WH.mv rfl rfl rfl ?_))
     refine WH.val (O.idx_fz (i := j) rfl rfl (rfl) (row_get (by omega)) Try.underlying39 hi3 hs3 rfl Taken.no) rfl rfl ?_
     refine WH.val (O.ld1 (PtI.ofU (PtU.fz rfl)) rfl Try.underlying3 rfl rfl Taken.no) rfl rfl ?_
     refine WH.val (O.idx_fz (i := ((solveR (partU n (namedL n (partsL (mF (lF ps) rs) (List.range n))) f n).length (subP (cI (partU n (namedL n (partsL (mF (lF ps) rs) (List.range n))) f n)) ps) (subR (cI (partU n (namedL n (partsL (mF (lF ps) rs) (List.range n))) f n)) rs))[j]!)) rfl rfl (rfl) (row_get (by omega)) Try.underlying39 hi3 hs3 rfl Taken.no) rfl rfl ?_
     refine WH.val (O.ld1 (PtI.ofU (PtU.fz rfl)) rfl Try.underlying3 rfl rfl Taken.no) rfl rfl ?_
     refine WH.val (O.det (fun _ => G.R.mv (G.R.neq rfl rfl) (congrArg Value.bool (decide_eq_false (by omega)))) rfl Taken.no) rfl rfl ?_
     refine WH.nil (E.to ?_)
     refine W.pick (K:=[(1,_),(3,_),(5,_),(8,_),(12,_),(62,_),(63,_),(107,_),(108,_),(109,_),(125,_)]) (Z:=[(101,_),(106,_)]) ⟨rfl,rfl,rfl,rfl,rfl,rfl,rfl,rfl,rfl,rfl,rfl,trivial⟩ ⟨rfl,rfl,trivial⟩ ?_
     refine W.cond_f rfl ?_
     refine W.skip (E.inn (E.to (W.region ?_)))
     refine SL.val (O.det (fun _ => by first | exact G.R.add64 rfl rfl (by omega) | exact G.R.add rfl rfl) rfl Taken.no) ?_
     refine SL.mv rfl rfl (SL.nil ?_)
     refine E.again ((j + 1)) (rn []) ?_ ?_ rfl (fixL_spec rfl) ?_ ?_
     · exact (SubF.cons rfl (SubF.cons rfl (SubF.cons rfl (SubF.cons rfl (SubF.cons rfl (SubF.cons rfl (SubF.cons rfl (SubF.cons rfl (SubF.cons rfl (SubF.cons rfl SubF.nil))))))))))
     · exact (SubS.cons rfl (SubS.cons rfl SubS.nil))
     ·try dsimp only
      omega
     · (try dsimp only); omega
    ·skip
     refine W.exit (E.th (E.th (E.hit (E.inn (E.to (W.region ?_))))))
     refine SL.val (O.det (fun _ => by first | exact G.R.add64 rfl rfl (by omega) | exact G.R.add rfl rfl) rfl Taken.no) ?_
     refine SL.mv rfl rfl (SL.nil ?_)
     refine E.again ((f + 1)) (rn []) ?_ ?_ rfl (fixL_spec rfl) ?_ ?_
     · exact (SubF.cons rfl (SubF.cons rfl (SubF.cons rfl (SubF.cons rfl (SubF.cons rfl SubF.nil)))))
     · exact (SubS.cons rfl SubS.nil)
     ·try dsimp only
      omega
     · (try dsimp only); omega
  ·skip
   refine W.exit (E.th (E.th (E.hit (E.to (W.rg (SL.an rfl rfl (E.fo (W.ret ?_))))))))
   refine E.fin (rs := [_]) (rn []) (.inl rfl) rfl (.cons (ResOne.tmp rfl) .nil) ?_ ?_ rfl (fixL_spec rfl)
   ·skip
    first | rfl | simp_all
   · exact SubS.nil
 ·skip
  first | have hg2p := G.gA7 hg2 | have hg2p := G.gA8 hg2 | have hg2p := hg2
  refine SL.sk rfl rfl rfl hg2 (SL.sk rfl rfl rfl hg2 (SL.sk rfl rfl rfl hg2 ?_))
  refine SL.val (O.pick_t rfl (G.ne_f hg2) rfl rfl Taken.no) ?_
  refine E.fo ?_
  refine W.cond_t rfl ?_
  refine W.rg ?_
  refine SL.val (O.callp rfl rfl rfl (awake_h) .nil hcallOk11 rfl Taken.no) ?_
  refine SL.an rfl rfl (E.fo (W.ret (E.thr ?_)))
  refine E.fin (rs := [_]) (rn []) (.inl rfl) rfl (.cons (ResOne.tmp rfl) .nil) ?_ ?_ rfl (fixL_spec rfl)
  ·skip
   first | rfl | simp_all
  · exact SubS.nil

set_option maxRecDepth 8000 in
set_option maxHeartbeats 6400000 in
/-- bookplate/bookplatelaw33.ClusterParts. -/
theorem clusterParts_bad {N : Int} {ps : List Pr} {rs : List Ru} (hok : ¬ (Prob.mk N ps rs).ok) :
    Con Try.prog 10 [vA [uI N, .sl 3 (ps.map ePr), .sl 3 (rs.map eRu)]] [] (vB true) [] := by
 have he : (Prob.mk N ps rs).err ≠ 0 := fun q => hok (Prob.err_iff.1 q)
 refine Con.enterL (n := 128) Try.func10 rfl rfl rfl (fun τ w ok vs hin => ?_)
 have hl0_1 := hin.lenA (i := 0) (j := 1) rfl rfl
 try rw [List.length_map] at hl0_1
 have hl0_2 := hin.lenA (i := 0) (j := 2) rfl rfl
 try rw [List.length_map] at hl0_2
 clear hin
 refine W.rg ?_
 refine SL.memS (O.box (is := [_, _, _]) 101 rfl rfl (by simp) rfl rfl Taken.no) rfl rfl (S' := (101, _) :: _) rfl ?_
 refine SL.an rfl rfl (E.fo (W.seq (W.rg ?_)))
 refine SL.val (O.callp rfl rfl rfl (awake_h) .nil hcallOk11 rfl Taken.no) ?_
 refine SL.as (i' := vB true) 16 rfl (by rfl) ?_
 refine SL.val (O.det (fun _ => G.R.mv (G.R.not rfl) rfl) rfl Taken.no) ?_
 refine SL.mv rfl rfl ?_
 have hg1 : false = false := by decide
 refine SL.val (O.ldN (m := 3) (PtI.ref rfl rfl) (js := [_, _, _]) rfl (Nat.le_of_ble_eq_true rfl) Try.underlying25 rfl (by kernel_rfl) rfl (Taken.yes rfl rfl hg1)) ?_
 refine SL.val (O.callp rfl rfl rfl (few_h) (.cons (ArgOk.aggU (.cons (ArgOk.same rfl) (.cons (ArgOk.same rfl) (.cons (ArgOk.same rfl) .nil)))) .nil) hcallOk12 rfl (Taken.yes rfl rfl hg1)) ?_
 refine SL.val (O.det (fun _ => G.R.not rfl) rfl (Taken.yes rfl rfl hg1)) ?_
 refine SL.val (O.pick_f rfl rfl rfl rfl Taken.no) ?_
 refine SL.mv rfl rfl ?_
 refine SL.case (j := 7) (g := 23) (want := false) rfl rfl (fun hg2 => ?_) (fun hg2 => ?_)
 ·skip
  first | have hg2p := G.gA3 hg2 | have hg2p := G.gA4 hg2 | have hg2p := hg2
  have hfew : (N ≤ 9 ∨ 200 < N) ∧ ps.length ≤ 40 ∧ (rs.length ≤ 12 ∨ rs.length = 401) := by simp_all
  refine SL.val (O.ldN (m := 3) (PtI.ref rfl rfl) (js := [_, _, _]) rfl (Nat.le_of_ble_eq_true rfl) Try.underlying25 rfl (by kernel_rfl) rfl (Taken.yes rfl rfl hg2)) ?_
  refine SL.val (O.callp rfl rfl rfl (refvalid_h (N := N) (ps := ps) (rs := rs)) (.cons (ArgOk.aggU (.cons (ArgOk.same rfl) (.cons (ArgOk.same rfl) (.cons (ArgOk.same rfl) .nil)))) .nil) hcallOk13 rfl (Taken.yes rfl rfl hg2)) ?_
  refine SL.val (O.det (fun _ => G.R.mv (G.R.neq rfl rfl) (congrArg Value.bool (decide_eq_true (by exact he)))) rfl (Taken.yes rfl rfl hg2)) ?_
  refine SL.val (O.pick_f rfl hg2 rfl rfl Taken.no) ?_
  refine E.fo ?_
  refine W.cond_t rfl ?_
  refine W.rg ?_
  refine SL.val (O.callp rfl rfl rfl (awake_h) .nil hcallOk11 rfl Taken.no) ?_
  refine SL.an rfl rfl (E.fo (W.ret (E.thr ?_)))
  refine E.fin (rs := [_]) (rn []) (.inl rfl) rfl (.cons (ResOne.tmp rfl) .nil) ?_ ?_ rfl (fixL_spec rfl)
  ·skip
   first | rfl | simp_all
  · exact SubS.nil
 ·skip
  first | have hg2p := G.gA7 hg2 | have hg2p := G.gA8 hg2 | have hg2p := hg2
  refine SL.sk rfl rfl rfl hg2 (SL.sk rfl rfl rfl hg2 (SL.sk rfl rfl rfl hg2 ?_))
  refine SL.val (O.pick_t rfl (G.ne_f hg2) rfl rfl Taken.no) ?_
  refine E.fo ?_
  refine W.cond_t rfl ?_
  refine W.rg ?_
  refine SL.val (O.callp rfl rfl rfl (awake_h) .nil hcallOk11 rfl Taken.no) ?_
  refine SL.an rfl rfl (E.fo (W.ret (E.thr ?_)))
  refine E.fin (rs := [_]) (rn []) (.inl rfl) rfl (.cons (ResOne.tmp rfl) .nil) ?_ ?_ rfl (fixL_spec rfl)
  ·skip
   first | rfl | simp_all
  · exact SubS.nil

theorem clusterParts_h {N : Int} {ps : List Pr} {rs : List Ru} : Con Try.prog 10 [vA [uI N, .sl 3 (ps.map ePr), .sl 3 (rs.map eRu)]] [] (vB true) [] := by
  by_cases h : (Prob.mk N ps rs).ok
  · obtain ⟨n, rfl⟩ : ∃ n : Nat, N = (n : Int) := ⟨N.toNat, Prob.nat h.1⟩
    exact clusterParts_ok h
  · exact clusterParts_bad h





end Go.Proofs.Ytppamigboeaefaa
end
