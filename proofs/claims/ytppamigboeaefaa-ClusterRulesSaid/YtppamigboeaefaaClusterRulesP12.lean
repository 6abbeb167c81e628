/-
  What the proof rests on: part 12 of 12.
-/
import Derived.Test.YtppamigboeaefaaClusterRulesP11
section
namespace Go.D33
open Go Go.RowKit Go.H
section
variable {n k : Nat} {ps ps' : List Pr} {rs rs' : List Ru} {us m m' : List Nat} {s : Stp}
theorem preR_lt (h : preR n (atomsL n rs) m s) : s.f.toNat < n ∧ (0 ≤ s.t → s.t.toNat < n) := by
  obtain ⟨⟨h1, h2, h3, h4, _⟩, _⟩ := h
  exact ⟨by omega, fun _ => by omega⟩
/-- A step that changes nothing on what is linked. -/
theorem res_same (hf : (Prob.mk (n : Int) ps rs).formed) (hp : permR n ps rs m) (hl : ∀ x y, x < n → y < n → mF (lF ps) rs x y = true → ((labL n (atomsL n rs) m s)[x]! = (labL n (atomsL n rs) m s)[y]! ↔ m[x]! = m[y]!)) : resR n ps rs m s = m := by
  refine (res_comp hf m s).uniq ((perm_comp hf hp).congr (fun x y q => ⟨q.2.2.1, q.2.2.2⟩) (fun x y q => ?_) fun x y q => ?_)
  · exact .base ⟨q.1, (hl x y q.2.2.1 q.2.2.2 q.1).1 q.2.1, q.2.2.1, q.2.2.2⟩
  · exact .base ⟨q.1, (hl x y q.2.2.1 q.2.2.2 q.1).2 q.2.1, q.2.2.1, q.2.2.2⟩
/-- A step between a closed set and the rest has no gain, or that of an earlier step. -/
theorem cross (E : Emb n k ps rs us ps' rs') (hok : (Prob.mk (n : Int) ps rs).ok) (hm : isP n m) (hp : permR n ps rs m) (h : posR n (barL rs) (atomsL n rs) m s) (ht : 0 ≤ s.t) (hx : ¬ (s.f.toNat ∈ us ↔ s.t.toNat ∈ us)) :
    gnR n ps rs m s = 0 ∨ ∃ s0, posR n (barL rs) (atomsL n rs) m s0 ∧ ltS s0 s ∧ gnR n ps rs m s0 = gnR n ps rs m s := by
  have hf := hok.1
  have hml := hm.1
  have hpF := (pre_iff hm hp.2.1).2 h.1
  have g := grp_of hm hp.2.1 hpF
  have hln := preR_lt h.1
  have hmt := h.1.2.1 ht
  have hft : m[s.f.toNat]! ≠ s.t.toNat := (hpF.2.1 ht).2
  -- who is with the one, who with the other
  have cF : ∀ {x}, x < n → m[x]! = m[s.f.toNat]! → (x ∈ us ↔ s.f.toNat ∈ us) := fun {x} hxn e => perm_cl E hf hp hxn hln.1 e
  have cT : ∀ {x}, x < n → m[x]! = s.t.toNat → (x ∈ us ↔ s.t.toNat ∈ us) := fun {x} hxn e => perm_cl E hf hp hxn (hln.2 ht) (by rw [hmt]; exact e)
  by_cases hcase : s.u = true ∨ othR n (atomsL n rs) m s.f.toNat = false
  · left
    have hg0 : ∀ {x}, x < n → (x ∈ g0L m (atomsL n rs) s ↔ (m[x]! = m[s.f.toNat]! ∨ m[x]! = s.t.toNat)) := fun {x} hxn => by
      cases hu : s.u with
      | true =>
        rw [mem_g0u hml hu]
        exact ⟨fun q => q.2.elim .inl fun z => .inr z.2, fun q => ⟨hxn, q.elim .inl fun z => .inr ⟨ht, z⟩⟩⟩
      | false =>
        have hno : othR n (atomsL n rs) m s.f.toNat = false := hcase.resolve_left (by rw [hu]; decide)
        unfold othR at hno
        rw [List.any_eq_false] at hno
        rw [mem_g0m hml hu]
        constructor
        · rintro ⟨_, q | q⟩
          · exact .inr q.2
          · exact .inl q.1
        · rintro (q | q)
          · refine ⟨hxn, .inr ⟨q, Decidable.byContradiction fun z => hno x (List.mem_range.2 hxn) (decide_eq_true ⟨q, z⟩)⟩⟩
          · exact ⟨hxn, .inl ⟨ht, q⟩⟩
    have hr : resR n ps rs m s = m := res_same hf hp fun x y hxn hyn hlk => by
      have hc := E.lkc hxn hyn hlk
      rw [g.lab x y hxn hyn, hg0 hxn, hg0 hyn]
      constructor
      · rintro (⟨q1, q2⟩ | q)
        · rcases q1 with q1 | q1 <;> rcases q2 with q2 | q2
          · omega
          · exact absurd ((cF hxn q1).symm.trans (hc.trans (cT hyn q2))) hx
          · exact absurd (((cF hyn q2).symm.trans (hc.symm.trans (cT hxn q1)))) hx
          · omega
        · exact q.2.2
      · intro e
        by_cases q : m[x]! = m[s.f.toNat]! ∨ m[x]! = s.t.toNat
        · exact .inl ⟨q, by rw [← e]; exact q⟩
        · exact .inr ⟨q, by rw [← e]; exact q, e⟩
    unfold gnR
    rw [hr]; omega
  · right
    have hu : s.u = false := by
      cases hu : s.u with
      | true => exact absurd (.inl hu) hcase
      | false => rfl
    have ho : othR n (atomsL n rs) m s.f.toNat = true := by
      cases ho : othR n (atomsL n rs) m s.f.toNat with
      | true => rfl
      | false => exact absurd (.inr ho) hcase
    obtain ⟨s0, hs0⟩ : ∃ s0 : Stp, s0 = ⟨false, s.f, -1⟩ := ⟨_, rfl⟩
    have e1 : s0.f = s.f := by rw [hs0]
    have e2 : s0.t = -1 := by rw [hs0]
    have e3 : s0.u = false := by rw [hs0]
    have h4 := h.1.2.2.2 hu
    have hp0 : preR n (atomsL n rs) m s0 := by
      have q := h.1.1
      refine ⟨⟨by rw [e1]; exact q.1, by rw [e1]; exact q.2.1, by rw [e2]; omega, by rw [e2]; omega, fun _ => e3⟩, fun z => by omega, fun z => (by rw [e3] at z; cases z), fun _ => ⟨by rw [e1]; exact h4.1, fun z => by omega, fun _ => by rw [e1]; exact ho⟩⟩
    have hpF0 := (pre_iff hm hp.2.1).2 hp0
    have g' := grp_of hm hp.2.1 hpF0
    have hg1 : ∀ {x}, x < n → (x ∈ g0L m (atomsL n rs) s ↔ (m[x]! = s.t.toNat ∨ (m[x]! = m[s.f.toNat]! ∧ (atomsL n rs)[x]! = s.f.toNat))) := fun {x} hxn => by
      rw [mem_g0m hml hu]
      exact ⟨fun q => q.2.elim (fun z => .inl z.2) .inr, fun q => ⟨hxn, q.elim (fun z => .inl ⟨ht, z⟩) .inr⟩⟩
    have hg2 : ∀ {x}, x < n → (x ∈ g0L m (atomsL n rs) s0 ↔ (m[x]! = m[s.f.toNat]! ∧ (atomsL n rs)[x]! = s.f.toNat)) := fun {x} hxn => by
      rw [mem_g0m hml e3, e1, e2]
      exact ⟨fun q => q.2.elim (fun z => absurd z.1 (by omega)) id, fun q => ⟨hxn, .inr q⟩⟩
    have hr : resR n ps rs m s = resR n ps rs m s0 := by
      refine (res_comp hf m s).uniq ((res_comp hf m s0).congr (fun x y q => ⟨q.2.2.1, q.2.2.2⟩) (fun x y q => ?_) fun x y q => ?_)
      · obtain ⟨q1, q2, hxn, hyn⟩ := q
        have hc := E.lkc hxn hyn q1
        refine .base ⟨q1, (g'.lab x y hxn hyn).2 ?_, hxn, hyn⟩
        rw [hg2 hxn, hg2 hyn]
        rcases (g.lab x y hxn hyn).1 q2 with ⟨a, b⟩ | ⟨a, b, e⟩
        · rw [hg1 hxn] at a
          rw [hg1 hyn] at b
          rcases a with a | a <;> rcases b with b | b
          · exact .inr ⟨fun z => hft (by omega), fun z => hft (by omega), by omega⟩
          · exact absurd ((cF hyn b.1).symm.trans (hc.symm.trans (cT hxn a))) hx
          · exact absurd ((cF hxn a.1).symm.trans (hc.trans (cT hyn b))) hx
          · exact .inl ⟨a, b⟩
        · rw [hg1 hxn] at a
          rw [hg1 hyn] at b
          exact .inr ⟨fun z => a (.inr z), fun z => b (.inr z), e⟩
      · obtain ⟨q1, q2, hxn, hyn⟩ := q
        refine .base ⟨q1, (g.lab x y hxn hyn).2 ?_, hxn, hyn⟩
        rw [hg1 hxn, hg1 hyn]
        rcases (g'.lab x y hxn hyn).1 q2 with ⟨a, b⟩ | ⟨a, b, e⟩
        · rw [hg2 hxn] at a
          rw [hg2 hyn] at b
          exact .inl ⟨.inr a, .inr b⟩
        · rw [hg2 hxn] at a
          rw [hg2 hyn] at b
          by_cases z : m[x]! = s.t.toNat
          · exact .inl ⟨.inl z, .inl (by rw [← e]; exact z)⟩
          · exact .inr ⟨fun w => w.elim z a, fun w => w.elim (fun v => z (by rw [e]; exact v)) b, e⟩
    refine ⟨s0, (pos_iff hf hm hp).1 ⟨hpF0, ?_⟩, ?_, ?_⟩
    · rw [List.any_eq_false]
      intro x hxb q
      have q := of_decide_eq_true q
      have hb := bar_rng hf x hxb
      rw [hg2 (by omega), hg2 (by omega)] at q
      have hcl := hp.1
      unfold clash at hcl
      rw [List.any_eq_false] at hcl
      exact hcl x hxb (decide_eq_true (by show m[x.a.toNat]! = m[x.b.toNat]!; omega))
    · exact .inr ⟨by rw [e3, hu], .inr ⟨e1, by omega⟩⟩
    · unfold gnR
      rw [hr]
/-- A step outside changes nothing inside. -/
theorem outside (E : Emb n k ps rs us ps' rs') (hok : (Prob.mk (n : Int) ps rs).ok) (hm : isP n m) (hp : permR n ps rs m) (h : preR n (atomsL n rs) m s) (hF : s.f.toNat ∉ us) (hT : 0 ≤ s.t → s.t.toNat ∉ us) {x : Nat} (hxn : x < n) (hx : x ∈ us) : (resR n ps rs m s)[x]! = m[x]! := by
  have hf := hok.1
  have hml := hm.1
  have hpF := (pre_iff hm hp.2.1).2 h
  have g := grp_of hm hp.2.1 hpF
  have hln := preR_lt h
  have hg : ∀ {x}, x < n → x ∈ us → x ∉ g0L m (atomsL n rs) s := fun {x} hxn hx q => by
    have k1 : m[x]! = m[s.f.toNat]! → False := fun e => hF ((perm_cl E hf hp hxn hln.1 e).1 hx)
    have k2 : 0 ≤ s.t → m[x]! = s.t.toNat → False := fun ht e => hT ht ((perm_cl E hf hp hxn (hln.2 ht) (by rw [h.2.1 ht]; exact e)).1 hx)
    cases hu : s.u with
    | true =>
      rcases ((mem_g0u hml hu).1 q).2 with z | z
      · exact k1 z
      · exact k2 z.1 z.2
    | false =>
      rcases ((mem_g0m hml hu).1 q).2 with z | z
      · exact k2 z.1 z.2
      · exact k1 z.1
  refine comp_on (fun x => x ∈ us) (inC_cl E) (inC_cl E) (fun x y ox oy => ?_) (res_comp hf m s) (perm_comp hf hp) hxn hx
  unfold inC
  constructor
  · rintro ⟨q1, q2, q3, q4⟩
    rcases (g.lab _ _ q3 q4).1 q2 with z | z
    · exact absurd z.1 (hg q3 ox)
    · exact ⟨q1, z.2.2, q3, q4⟩
  · rintro ⟨q1, q2, q3, q4⟩
    exact ⟨q1, (g.lab _ _ q3 q4).2 (.inr ⟨hg q3 ox, hg q4 oy, q2⟩), q3, q4⟩
namespace Two
theorem in_all (T : Two n k ps rs us ps' rs' m m') (h : rngF k s) : embS us s ∈ allS n := by
  obtain ⟨r, _⟩ := T.rng h
  exact mem_allS.2 ⟨r.1, r.2.1, r.2.2.2.1, r.2.2.1⟩
theorem lt_ (T : Two n k ps rs us ps' rs' m m') {a b : Stp} (ha : rngF k a) (hb : rngF k b) (h : ltS a b) : ltS (embS us a) (embS us b) := by
  have a1 := ha.1; have a2 := ha.2.1; have a3 := ha.2.2.1; have a4 := ha.2.2.2.1
  have b1 := hb.1; have b2 := hb.2.1; have b3 := hb.2.2.1; have b4 := hb.2.2.2.1
  rcases h with h | ⟨h1, h2⟩
  · exact .inl h
  · refine .inr ⟨h1, ?_⟩
    show (((us[a.f.toNat]! : Nat) : Int) < (us[b.f.toNat]! : Nat)) ∨ (((us[a.f.toNat]! : Nat) : Int) = (us[b.f.toNat]! : Nat) ∧ (if a.t < 0 then a.t else (us[a.t.toNat]! : Nat)) < (if b.t < 0 then b.t else (us[b.t.toNat]! : Nat)))
    rcases h2 with h2 | ⟨h2, h3⟩
    · left
      have := T.E.asc a.f.toNat b.f.toNat (by omega) (by omega)
      omega
    · right
      refine ⟨by rw [h2], ?_⟩
      by_cases q1 : a.t < 0
      · rw [if_pos q1]
        by_cases q2 : b.t < 0
        · rw [if_pos q2]; exact h3
        · rw [if_neg q2]; omega
      · rw [if_neg q1, if_neg (by omega)]
        have := T.E.asc a.t.toNat b.t.toNat (by omega) (by omega)
        omega
/-- The best step, and that of the closed set. -/
theorem next (T : Two n k ps rs us ps' rs' m m') : ((nextR n ps rs m).2 = 0 → (nextR k ps' rs' m').2 = 0) ∧
    (¬ (nextR n ps rs m).2 = 0 → (¬ (nextR k ps' rs' m').2 = 0 ∧ RelE us k (resR n ps rs m (nextR n ps rs m).1) (resR k ps' rs' m' (nextR k ps' rs' m').1)) ∨ RelE us k (resR n ps rs m (nextR n ps rs m).1) m') := by
  obtain ⟨s1, s2, s3, _⟩ := next_spec n ps rs m
  obtain ⟨t1, t2, t3, _⟩ := next_spec k ps' rs' m'
  constructor
  · intro e
    rcases Int.lt_or_le 0 (nextR k ps' rs' m').2 with q | q
    · obtain ⟨q1, q2, q3⟩ := t2 q
      have hr := q2.1.1
      have := s3 _ (T.in_all hr) ((T.pos hr).2 q2)
      rw [T.gain q2] at this
      omega
    · omega
  · intro e
    have h0 : 0 < (nextR n ps rs m).2 := by omega
    obtain ⟨q1, q2, q3⟩ := s2 h0
    have hfirst := best_first (ok := posR n (barL rs) (atomsL n rs) m) (g := gnR n ps rs m) (allS_asc n) h0
    obtain ⟨s, hs⟩ : ∃ s, s = (nextR n ps rs m).1 := ⟨_, rfl⟩
    rw [← hs] at q1 q2 q3 ⊢
    have hr := q2.1.1
    have hln := preR_lt q2.1
    have nocross : 0 ≤ s.t → (s.f.toNat ∈ us ↔ s.t.toNat ∈ us) := fun ht => Decidable.byContradiction fun hx => by
      rcases cross T.E T.ok T.hm T.hp q2 ht hx with z | ⟨s0, z1, z2, z3⟩
      · omega
      · have hr0 := z1.1.1
        have := hfirst s0 (mem_allS.2 ⟨hr0.1, hr0.2.1, hr0.2.2.2.1, hr0.2.2.1⟩) z1 (by show ltS s0 (nextR n ps rs m).1; rw [← hs]; exact z2)
        have e5 : (bestF (posR n (barL rs) (atomsL n rs) m) (gnR n ps rs m) (allS n)).2 = (nextR n ps rs m).2 := rfl
        rw [e5] at this
        omega
    by_cases hF : s.f.toNat ∈ us
    · left
      obtain ⟨f', hf', ef⟩ := T.E.mem.1 hF
      -- the step of the closed set
      obtain ⟨s', hs', hrs'⟩ : ∃ s', embS us s' = s ∧ rngF k s' := by
        by_cases ht : s.t < 0
        · refine ⟨⟨s.u, (f' : Int), s.t⟩, ?_, ⟨by show (0 : Int) ≤ f'; omega, by show (f' : Int) < k; omega, by show s.t < (k : Int); omega, by show -1 ≤ s.t; have := hr.2.2.2.1; omega, fun z => hr.2.2.2.2 z⟩⟩
          obtain ⟨u, f, t⟩ := s
          show Stp.mk u ((us[((f' : Int)).toNat]! : Nat) : Int) (if t < 0 then t else _) = _
          rw [if_pos ht, Int.toNat_natCast, ← ef]
          have : 0 ≤ f := hr.1
          show Stp.mk u ((f.toNat : Nat) : Int) t = _
          rw [Int.toNat_of_nonneg this]
        · have hT := (nocross (by omega)).1 hF
          obtain ⟨t', ht', et⟩ := T.E.mem.1 hT
          refine ⟨⟨s.u, (f' : Int), (t' : Int)⟩, ?_, ⟨by show (0 : Int) ≤ f'; omega, by show (f' : Int) < k; omega, by show (t' : Int) < (k : Int); omega, by show -1 ≤ (t' : Int); omega, fun z => by have z : (t' : Int) < 0 := z; omega⟩⟩
          obtain ⟨u, f, t⟩ := s
          show Stp.mk u ((us[((f' : Int)).toNat]! : Nat) : Int) (if (t' : Int) < 0 then (t' : Int) else ((us[((t' : Int)).toNat]! : Nat) : Int)) = _
          rw [if_neg (by omega), Int.toNat_natCast, Int.toNat_natCast, ← ef, ← et]
          have h1 : 0 ≤ f := hr.1
          have h2 : 0 ≤ t := by have : ¬ t < 0 := ht; omega
          show Stp.mk u ((f.toNat : Nat) : Int) ((t.toNat : Nat) : Int) = _
          rw [Int.toNat_of_nonneg h1, Int.toNat_of_nonneg h2]
      have hpos' : posR k (barL rs') (atomsL k rs') m' s' := (T.pos hrs').1 (by rw [hs']; exact q2)
      have hg' : gnR k ps' rs' m' s' = (nextR n ps rs m).2 := by rw [← T.gain hpos', hs']; exact q3
      have hb : nextR k ps' rs' m' = (s', gnR k ps' rs' m' s') := by
        refine best_char (allS_asc k) (mem_allS.2 ⟨hrs'.1, hrs'.2.1, hrs'.2.2.2.1, hrs'.2.2.1⟩) hpos' (by omega) (fun x hx hxp => ?_) fun x hx hxp hlt => ?_
        · have := s3 _ (T.in_all hxp.1.1) ((T.pos hxp.1.1).2 hxp)
          rw [T.gain hxp] at this
          omega
        · have := hfirst _ (T.in_all hxp.1.1) ((T.pos hxp.1.1).2 hxp) (by show ltS (embS us x) (nextR n ps rs m).1; rw [← hs, ← hs']; exact T.lt_ hxp.1.1 hrs' hlt)
          rw [T.gain hxp] at this
          have e5 : (bestF (posR n (barL rs) (atomsL n rs) m) (gnR n ps rs m) (allS n)).2 = (nextR n ps rs m).2 := rfl
          rw [e5] at this
          omega
      rw [hb]
      refine ⟨by show ¬ gnR k ps' rs' m' s' = 0; omega, ?_⟩
      have := T.res hpos'.1
      rw [hs'] at this
      exact this
    · right
      intro i hi
      rw [outside T.E T.ok T.hm T.hp q2.1 hF (fun ht z => hF ((nocross ht).2 z)) (T.E.lt i hi) (T.E.at_ hi)]
      exact T.rel i hi
end Two
end
end Go.D33
end
section
namespace Go.D33
open Go Go.RowKit Go.H
section
variable {n k : Nat} {ps ps' : List Pr} {rs rs' : List Ru} {us m m' : List Nat} {s : Stp}
/-! ### Problems of some units -/
abbrev cI (us : List Nat) : List Int := us.map fun x : Nat => (x : Int)
end
end Go.D33
end
section
namespace Go.D33
open Go Go.RowKit Go.H
def shP (a : Nat) (x : Pr) : Pr := ⟨x.a + a, x.b + a, x.w⟩
def shR (a : Nat) (x : Ru) : Ru := ⟨x.k, x.a + a, x.b + a⟩
section
variable {a b : Nat} {pa pb : List Pr} {ra rb : List Ru}
end
end Go.D33
end
section
namespace Go.D33
open Go Go.RowKit Go.H
section
variable {n : Nat} {ps : List Pr} {rs : List Ru}
def partU (_ : Nat) (prt : List Nat) (f k : Nat) : List Nat := (List.range k).filter fun u => decide (prt[u]! = f)
/-! ### Rules that are turned -/
def turned (x : Ru) : Ru := ⟨x.k, x.b, x.a⟩
def swF (t : Int) (l : List Ru) (k : Nat) : List Ru := (List.range l.length).map fun i => if i < k ∧ (t + i) % 2 = 0 then turned l[i]! else l[i]!
theorem swF_len (t : Int) (l : List Ru) (k : Nat) : (swF t l k).length = l.length := by rw [swF, List.length_map, List.length_range]
theorem swF_get {t : Int} {l : List Ru} {k i : Nat} (h : i < l.length) : (swF t l k)[i]! = if i < k ∧ (t + i) % 2 = 0 then turned l[i]! else l[i]! := by
  rw [swF, get_map (by rw [List.length_range]; exact h), range_get h]
theorem swF_0 (t : Int) (l : List Ru) : swF t l 0 = l := ext_g (swF_len t l 0) fun i hi => by
  rw [swF_len] at hi
  rw [swF_get hi, if_neg (fun q => by omega)]
theorem swF_k {t : Int} {l : List Ru} {k : Nat} (h : k < l.length) : (swF t l k)[k]! = l[k]! := by rw [swF_get h, if_neg (fun q => by omega)]
theorem swF_y {t : Int} {l : List Ru} {k : Nat} (_ : k < l.length) (e : (t + k) % 2 = 0) : swF t l (k + 1) = (swF t l k).set k (turned l[k]!) := ext_g (by rw [List.length_set, swF_len, swF_len]) fun i hi => by
  rw [swF_len] at hi
  rw [set_get (by rw [swF_len]; exact hi), swF_get hi, swF_get hi]
  by_cases q : k = i
  · subst q
    rw [if_pos ⟨by omega, e⟩, if_pos rfl]
  · rw [if_neg q]
    by_cases z : i < k ∧ (t + i) % 2 = 0
    · rw [if_pos z, if_pos ⟨by omega, z.2⟩]
    · rw [if_neg z, if_neg (fun w => z ⟨by omega, w.2⟩)]
theorem swF_n {t : Int} {l : List Ru} {k : Nat} (_ : k < l.length) (e : ¬ (t + k) % 2 = 0) : swF t l (k + 1) = swF t l k := ext_g (by rw [swF_len, swF_len]) fun i hi => by
  rw [swF_len] at hi
  rw [swF_get hi, swF_get hi]
  by_cases z : i < k ∧ (t + i) % 2 = 0
  · rw [if_pos z, if_pos ⟨by omega, z.2⟩]
  · rw [if_neg z, if_neg (fun w => z ⟨by have h1 := w.1; have h2 : i ≠ k := fun q => e (q ▸ w.2); omega, w.2⟩)]
theorem set_two {l : List Ru} {k : Nat} {x : Ru} (_ : k < l.length) (e : l[k]! = x) : (l.set k (Ru.mk l[k]!.k l[k]!.b l[k]!.b)).set k (Ru.mk l[k]!.k l[k]!.b l[k]!.a) = l.set k (turned x) := by
  rw [List.set_set, e]; rfl
theorem row_set {l : List Ru} {k : Nat} {x : Ru} (h : k < l.length) : ((l.set k x).map eRu)[k]? = some (eRu x) := by
  rw [List.getElem?_map, List.getElem?_set_self h]; rfl
def mustF (atm : List Nat) (k : Nat) : List Ru := ((List.range k).filter fun i => decide (¬ atm[i]! = i)).map fun i : Nat => ⟨1, (i : Int), ((atm[i]! : Nat) : Int)⟩
theorem mustF_y {atm : List Nat} {k : Nat} (e : ¬ atm[k]! = k) : mustF atm (k + 1) = mustF atm k ++ [⟨1, (k : Int), (atm[k]! : Nat)⟩] := by
  rw [mustF, List.range_succ, List.filter_append, List.filter_cons, if_pos (decide_eq_true e), List.map_append]; rfl
theorem mustF_n {atm : List Nat} {k : Nat} (e : atm[k]! = k) : mustF atm (k + 1) = mustF atm k := by
  rw [mustF, List.range_succ, List.filter_append, List.filter_cons, if_neg (by simpa using e), List.filter_nil, List.append_nil]; rfl
theorem mustF_len (atm : List Nat) (k : Nat) : (mustF atm k).length ≤ k := by
  have := List.length_filter_le (fun i => decide (¬ atm[i]! = i)) (List.range k)
  rw [List.length_range] at this
  rw [mustF, List.length_map]; exact this
def cantF (atm : List Nat) (rs : List Ru) : List Ru := (barL rs).map fun x => ⟨2, (atm[x.a.toNat]! : Nat), (atm[x.b.toNat]! : Nat)⟩
theorem cantF_y {atm : List Nat} {rs : List Ru} {k : Nat} (h : k < rs.length) (e : rs[k]!.k = 2) : cantF atm (rs.take (k + 1)) = cantF atm (rs.take k) ++ [⟨2, (atm[rs[k]!.a.toNat]! : Nat), (atm[rs[k]!.b.toNat]! : Nat)⟩] := by
  rw [cantF, bar_y h e, List.map_append]; rfl
theorem cantF_n {atm : List Nat} {rs : List Ru} {k : Nat} (h : k < rs.length) (e : ¬ rs[k]!.k = 2) : cantF atm (rs.take (k + 1)) = cantF atm (rs.take k) := by rw [cantF, bar_n h e]; rfl
theorem cantF_len (atm : List Nat) (rs : List Ru) (k : Nat) : (cantF atm (rs.take k)).length ≤ rs.length := by
  rw [cantF, List.length_map]; exact bar_le rs k
def rotF (rs : List Ru) (k : Nat) : List Ru := rs.drop k ++ rs.take k
theorem rotF_len {rs : List Ru} {k : Nat} (h : k ≤ rs.length) : (rotF rs k).length = rs.length := by
  rw [rotF, List.length_append, List.length_drop, List.length_take]; omega
def allF (t : Int) (n : Nat) (rs : List Ru) (k : Nat) : List Ru := swF t (rotF rs k) rs.length ++ mustF (atomsL n rs) n ++ cantF (atomsL n rs) rs
theorem allF_alike (hok : (Prob.mk (n : Int) ps rs).ok) (t : Int) {k : Nat} (hk : k ≤ rs.length) (hn : n ≤ 10) (hr : rs.length ≤ 100) : (Prob.mk (n : Int) ps (allF t n rs k)).ok ∧ solveR n ps (allF t n rs k) = solveR n ps rs := by
  have hmr : ∀ {x}, x ∈ rotF rs k ↔ x ∈ rs := fun {x} => by
    unfold rotF
    rw [List.mem_append]
    conv => rhs; rw [← List.take_append_drop k rs, List.mem_append]
    exact or_comm
  have hsw : ∀ {i}, i < rs.length → swp (swF t (rotF rs k) rs.length)[i]! (rotF rs k)[i]! := fun {i} hi => by
    rw [swF_get (by rw [rotF_len hk]; exact hi)]
    split
    · exact ⟨rfl, .inr ⟨rfl, rfl⟩⟩
    · exact ⟨rfl, .inl ⟨rfl, rfl⟩⟩
  have hls : (swF t (rotF rs k) rs.length).length = rs.length := by rw [swF_len, rotF_len hk]
  have h := alike_of (ts := allF t n rs k) hok (fun r hr => by
      obtain ⟨i, hi, e⟩ := List.getElem_of_mem (hmr.2 hr)
      have hi' : i < rs.length := by rw [rotF_len hk] at hi; exact hi
      refine ⟨(swF t (rotF rs k) rs.length)[i]!, List.mem_append_left _ (List.mem_append_left _ (mem_at (by omega))), ?_⟩
      have := hsw hi'
      rw [getElem!_pos (rotF rs k) i hi, e] at this
      exact this) (fun x hx => by
      rcases List.mem_append.1 hx with q | q
      · rcases List.mem_append.1 q with q | q
        · obtain ⟨i, hi, e⟩ := List.getElem_of_mem q
          rw [← getElem!_pos _ i hi] at e
          have hi' : i < rs.length := by omega
          refine .inl ⟨(rotF rs k)[i]!, hmr.1 (mem_at (by rw [rotF_len hk]; exact hi')), ?_⟩
          rw [← e]; exact hsw hi'
        · obtain ⟨i, hi, rfl⟩ := List.mem_map.1 q
          obtain ⟨h1, h2⟩ := List.mem_filter.1 hi
          exact .inr (.inl ⟨rfl, i, List.mem_range.1 h1, of_decide_eq_true h2, rfl, rfl⟩)
      · obtain ⟨r, hr, rfl⟩ := List.mem_map.1 q
        obtain ⟨h1, h2⟩ := bar_in hr
        exact .inr (.inr ⟨rfl, r, h1, h2, rfl, rfl⟩)) (by
      have := mustF_len (atomsL n rs) n
      have h3 := cantF_len (atomsL n rs) rs rs.length
      rw [List.take_length] at h3
      unfold allF
      rw [List.length_append, List.length_append, hls]
      omega)
  exact ⟨h.1, alike_solveR hok h.2⟩
end
end Go.D33
end
section
namespace Go.Proofs.Ytppamigboeaefaa
open Go Go.RowKit Go.H Go.D33



set_option maxRecDepth 8000 in
/-- bookplate/bookplatelaw33.Own. -/
theorem own_o {N : Int} {ps : List Pr} {rs : List Ru} (hp : ps.length ≤ 1000000) (hr : rs.length ≤ 1000000) :
    Con Try.prog 14 [vA [uI N, .sl 3 (ps.map ePr), .sl 3 (rs.map eRu)]] [] (.agg [vI N, .own 0, .own 1]) [(0, .data 36 3 (ps.map ePr)), (1, .data 38 3 (rs.map eRu))] := by
 obtain ⟨i35, hi35, hz35, hs35, hb35⟩ := hinf35
 obtain ⟨i36, hi36, hz36, hs36, hb36⟩ := hinf36
 obtain ⟨i38, hi38, hz38, hs38, hb38⟩ := hinf38
 refine Con.enterL (n := 28) Try.func14 rfl rfl rfl (fun τ w ok vs hin => ?_)
 have hl0_1 := hin.lenA (i := 0) (j := 1) rfl rfl
 try rw [List.length_map] at hl0_1
 have hl0_2 := hin.lenA (i := 0) (j := 2) rfl rfl
 try rw [List.length_map] at hl0_2
 clear hin
 refine W.rg ?_
 refine SL.memS (O.box (is := [_, _, _]) 101 rfl rfl (by simp) rfl rfl Taken.no) rfl rfl (S' := (101, _) :: _) rfl ?_
 refine SL.memS (O.alloc (z := .agg #[.int .i64 0, .slice none 0 0, .slice none 0 0]) (is := [.u (.sc (.int .i64 0)), .u (.sc (.slice none 0 0)), .u (.sc (.slice none 0 0))]) 102 (by kernel_rfl) rfl rfl rfl Taken.no) rfl rfl (S' := (102, _) :: _) rfl ?_
 refine E.fo (W.seq ?_)
 refine W.draw [⟨[], [], [], [101]⟩, ⟨[101], [], [], []⟩, ⟨[103], [103], [103], []⟩, ⟨[], [], [], [101]⟩, ⟨[101], [], [], []⟩, ⟨[103, 104], [103, 104], [104], []⟩, ⟨[], [], [], [104]⟩, ⟨[105], [105], [105], []⟩, ⟨[104, 105], [105], [], []⟩] rfl (by kernel_rfl) (by kernel_rfl) rfl rfl ?_
 refine WH.val (O.fld_ref (o' := 0) rfl Try.underlying25 rfl (m := 0) (by kernel_rfl) rfl rfl Taken.no) rfl rfl ?_
 refine WH.val (O.ld1 (PtI.ref rfl rfl) rfl Try.underlying3 rfl rfl Taken.no) rfl rfl ?_
 refine WH.memS (O.buildSlice 103 (rows := ([] : List Ru).map eRu) rfl rfl Try.underlying23 hi38 hz38 hs38 (by decide) rfl (by decide) rfl rfl rfl Taken.no) rfl rfl rfl rfl rfl (S' := (103, .data 38 3 (([] : List Ru).map eRu)) :: _) rfl ?_
 refine WH.val (O.fld_ref (o' := 2) rfl Try.underlying25 rfl (m := 0) (by kernel_rfl) rfl rfl Taken.no) rfl rfl ?_
 refine WH.val (O.ld1 (PtI.ref rfl rfl) rfl Try.underlying23 rfl rfl Taken.no) rfl rfl ?_
 refine WH.memS (O.app (k' := 104) rfl rfl (SlOf.fz rfl (by decide)) Try.underlying23 hi38 hz38 hs38 rfl rfl (by exact List.nil_append _) (by rw [hb38]; (simp only [List.length_map, List.length_nil]; omega)) (by (simp only [List.length_map, List.length_nil]; omega)) rfl Taken.no) rfl rfl rfl rfl rfl (S' := (104, _) :: (103, .dead) :: _) rfl ?_
 refine WH.val (O.build (res := [_, _, _]) (z := .agg #[.int .i64 0, .slice none 0 0, .slice none 0 0]) (places := [(0, 1), (1, 1), (2, 1)]) rfl rfl Try.underlying32 (by kernel_rfl) (fun _ => by kernel_rfl) rfl rfl Taken.no) rfl rfl ?_
 refine WH.memS (O.alloc (z := .agg #[.int .i64 0, .slice none 0 0, .slice none 0 0]) (is := [.u (.sc (.int .i64 0)), .u (.sc (.slice none 0 0)), .u (.sc (.slice none 0 0))]) 105 (by kernel_rfl) rfl rfl rfl Taken.no) rfl rfl rfl rfl rfl (S' := (105, _) :: _) rfl ?_
 refine WH.effS (O.st_ref (m := 3) rfl rfl rfl (js := [_, _, _]) rfl rfl (by kernel_rfl) (by simp) (Nat.le_of_ble_eq_true rfl) rfl (is' := [_, _, _]) rfl Taken.no) rfl rfl rfl (S' := (105, _) :: _) rfl ?_
 refine WH.nil (E.to (W.seq (W.rg ?_)))
 refine SL.val (O.fld_ref (o' := 1) rfl Try.underlying25 rfl (m := 0) (by kernel_rfl) rfl rfl Taken.no) ?_
 refine SL.val (O.ld1 (PtI.ref rfl rfl) rfl Try.underlying22 rfl rfl Taken.no) ?_
 refine SL.val (O.lenE (SlOf.fz rfl (by decide)) (by first | exact List.length_map _ | rfl) Try.underlying22 rfl Taken.no) ?_
 refine SL.mv rfl rfl (E.fo (W.block ?_))
 refine W.adoptC 105 1 108 36 3 (is' := [_, _, _]) (by decide) rfl rfl rfl rfl rfl ?_
 refine W.loopx1 (fun (k : Nat) => [(16, vI (k : Int))]) (fun (k : Nat) => [(106, .data 36 3 ((ps.take k).map ePr)), (107, .data 38 3 (rs.map eRu)), (105, .cells 32 [vI N, .own 106, .own 107])]) (fun (k : Nat) => k ≤ ps.length) (fun (k : Nat) => ps.length - k) (0) (rn [(106, 108), (107, 104)]) (.cons (t := 2) rfl (.cons (t := 3) rfl (.cons (t := 14) rfl (.cons (t := 15) rfl .nil)))) (.cons (t := 101) rfl (.cons (t := 102) rfl .nil)) rfl ?_ ?_ rfl rfl ?_ ?_
 · exact (SubF.cons rfl SubF.nil)
 · exact (SubS.cons rfl (SubS.cons rfl (SubS.cons rfl SubS.nil)))
 ·skip
  omega
 intro k hinv
 have hk := hinv
 refine W.rg ?_
 refine SL.val (O.det (fun _ => G.R.lss rfl rfl) rfl Taken.no) ?_
 refine E.fo (W.seq ?_)
 first | refine W.cond_d rfl (fun hc1 => ?_) (fun hc1 => ?_) | refine W.cond_nd rfl (fun hc1 => ?_) (fun hc1 => ?_) | refine W.cond rfl (fun hc1 => ?_) (fun hc1 => ?_)
 ·skip
  refine W.skip (E.to (W.seq (W.block (W.rg ?_))))
  refine SL.val (O.idx_fz rfl rfl (rfl) (row_get (by omega)) Try.underlying22 hi35 hs35 rfl Taken.no) ?_
  refine SL.val (O.ldU (m := 3) (PtU.fz rfl) rfl Try.underlying35 rfl (by kernel_rfl) rfl Taken.no) ?_
  refine SL.memS (O.alloc (z := .agg #[.int .i64 0, .int .i64 0, .int .i64 0]) (is := [.u (.sc (.int .i64 0)), .u (.sc (.int .i64 0)), .u (.sc (.int .i64 0))]) 109 (by kernel_rfl) rfl rfl rfl Taken.no) rfl rfl (S' := (109, _) :: _) rfl ?_
  refine SL.effS (O.st_ref (m := 3) rfl rfl rfl (js := [_, _, _]) rfl rfl (by kernel_rfl) (by simp) (Nat.le_of_ble_eq_true rfl) rfl (is' := [_, _, _]) rfl Taken.no) (S' := (109, _) :: _) rfl ?_
  refine E.fo (W.region ?_)
  refine SL.val (O.fld_ref (o' := 1) rfl Try.underlying32 rfl (m := 0) (by kernel_rfl) rfl rfl Taken.no) ?_
  refine SL.val (O.ld1 (PtI.ref rfl rfl) rfl Try.underlying30 rfl rfl Taken.no) ?_
  refine SL.val (O.ldN (m := 3) (PtI.ref rfl rfl) (js := [_, _, _]) rfl (Nat.le_of_ble_eq_true rfl) Try.underlying35 rfl (by kernel_rfl) rfl Taken.no) ?_
  refine SL.memS (O.buildSlice 110 (rows := [ps[k]!].map ePr) rfl rfl Try.underlying30 hi36 hz36 hs36 (by decide) rfl (by decide) rfl rfl rfl Taken.no) rfl rfl (S' := (110, .data 36 3 ([ps[k]!].map ePr)) :: _) rfl ?_
  refine SL.memS (O.app (k' := 111) rfl rfl (SlOf.own rfl rfl) Try.underlying30 hi36 hz36 hs36 rfl rfl (by exact app_map) (by rw [hb36]; (simp only [List.length_map, List.length_singleton, List.length_take]; omega)) (by (simp only [List.length_map, List.length_singleton, List.length_take]; omega)) rfl Taken.no) rfl rfl (S' := (111, _) :: (106, .dead) :: _) rfl ?_
  refine SL.val (O.fld_ref (o' := 1) rfl Try.underlying32 rfl (m := 0) (by kernel_rfl) rfl rfl Taken.no) ?_
  refine SL.effS (O.st_ref (m := 1) rfl rfl rfl (js := [_]) rfl rfl (by kernel_rfl) (by simp) (Nat.le_of_ble_eq_true rfl) rfl (is' := [_, _, _]) rfl Taken.no) (S' := (105, _) :: _) rfl ?_
  refine SL.nil (E.inn (E.to (W.region ?_)))
  refine SL.val (O.det (fun _ => by first | exact G.R.add64 rfl rfl (by omega) | exact G.R.add rfl rfl) rfl Taken.no) ?_
  refine SL.mv rfl rfl (SL.nil ?_)
  refine E.again ((k + 1)) (rn [(106, 111)]) ?_ ?_ rfl (fixL_spec rfl) ?_ ?_
  · exact (SubF.cons rfl (SubF.cons rfl (SubF.cons rfl (SubF.cons rfl (SubF.cons rfl SubF.nil)))))
  · exact (SubS.val rfl (by (try dsimp only); exact sb_data (by rw [snocP (by omega)])) (SubS.cons rfl (SubS.cons rfl (SubS.cons rfl (SubS.cons rfl SubS.nil)))))
  ·try dsimp only
   omega
  · (try dsimp only); omega
 ·skip
  refine W.exit (E.th (E.th (E.hit (E.to (W.rg ?_)))))
  refine SL.val (O.ldN (m := 3) (PtI.ref rfl rfl) (js := [_, _, _]) rfl (Nat.le_of_ble_eq_true rfl) Try.underlying32 rfl (by kernel_rfl) rfl Taken.no) ?_
  refine SL.effS (O.st_ref (m := 3) rfl rfl rfl (js := [_, _, _]) rfl rfl (by kernel_rfl) (by simp) (Nat.le_of_ble_eq_true rfl) rfl (is' := [_, _, _]) rfl Taken.no) (S' := (102, _) :: _) rfl ?_
  refine E.fo (W.ret ?_)
  refine E.fin (rs := [_]) (rn [(0, 106), (1, 107)]) (.inl rfl) rfl (.cons (ResOne.cellN (m := 3) (PtI.ref rfl rfl) (js := [_, _, _]) rfl (Nat.le_of_ble_eq_true rfl) Try.underlying32 rfl (by kernel_rfl)) .nil) ?_ ?_ rfl (fixL_spec rfl)
  ·skip
   rfl
  · exact (SubS.val rfl (by exact sb_data (by rw [show k = ps.length by omega, List.take_length])) (SubS.cons rfl SubS.nil))








end Go.Proofs.Ytppamigboeaefaa
end
section
namespace Go.Proofs.Ytppamigboeaefaa
open Go Go.RowKit Go.H Go.D33



set_option maxRecDepth 8000 in
set_option maxHeartbeats 6400000 in
/-- bookplate/bookplatelaw33.ClusterRules. -/
theorem clusterRules_ok {n : Nat} {ps : List Pr} {rs : List Ru} {t : Int} (hok : (Prob.mk (n : Int) ps rs).ok) (ht : 0 ≤ t ∧ t < 256) :
    Con Try.prog 4 [vA [uI (n : Int), .sl 3 (ps.map ePr), .sl 3 (rs.map eRu)], .u (.sc (.int .u8 t))] [] (vB true) [] := by
 have hf := hok.1
 have hn2 : (n : Int) ≤ 200 := hf.2.1
 have hr4 : rs.length ≤ 400 := hf.2.2.1
 obtain ⟨i3, hi3, hz3, hs3, hb3⟩ := hinf3
 obtain ⟨i38, hi38, hz38, hs38, hb38⟩ := hinf38
 refine Con.enterL (n := 172) Try.func4 rfl rfl rfl (fun τ w ok vs hin => ?_)
 have hl0_1 := hin.lenA (i := 0) (j := 1) rfl rfl
 try rw [List.length_map] at hl0_1
 have hl0_2 := hin.lenA (i := 0) (j := 2) rfl rfl
 try rw [List.length_map] at hl0_2
 clear hin
 refine W.rg ?_
 refine SL.memS (O.box (is := [_, _, _]) 101 rfl rfl (by simp) rfl rfl Taken.no) rfl rfl (S' := (101, _) :: _) rfl ?_
 refine SL.an rfl rfl (E.fo (W.seq (W.rg ?_)))
 refine SL.val (O.callp rfl rfl rfl (awake_h) .nil hcallOk11 rfl Taken.no) ?_
 refine SL.as (i' := vB true) 17 rfl (by rfl) ?_
 refine SL.val (O.det (fun _ => G.R.mv (G.R.not rfl) rfl) rfl Taken.no) ?_
 refine SL.mv rfl rfl ?_
 have hg1 : false = false := by decide
 refine SL.val (O.ldN (m := 3) (PtI.ref rfl rfl) (js := [_, _, _]) rfl (Nat.le_of_ble_eq_true rfl) Try.underlying25 rfl (by kernel_rfl) rfl (Taken.yes rfl rfl hg1)) ?_
 refine SL.val (O.callp rfl rfl rfl (few_h) (.cons (ArgOk.aggU (.cons (ArgOk.same rfl) (.cons (ArgOk.same rfl) (.cons (ArgOk.same rfl) .nil)))) .nil) hcallOk12 rfl (Taken.yes rfl rfl hg1)) ?_
 refine SL.val (O.det (fun _ => G.R.not rfl) rfl (Taken.yes rfl rfl hg1)) ?_
 refine SL.val (O.pick_f rfl rfl rfl rfl Taken.no) ?_
 refine SL.mv rfl rfl ?_
 refine SL.case (j := 7) (g := 24) (want := false) rfl rfl (fun hg2 => ?_) (fun hg2 => ?_)
 ·skip
  first | have hg2p := G.gA3 hg2 | have hg2p := G.gA4 hg2 | have hg2p := hg2
  have hfew : ((n : Int) ≤ 9 ∨ 200 < (n : Int)) ∧ ps.length ≤ 40 ∧ (rs.length ≤ 12 ∨ rs.length = 401) := by simp_all
  refine SL.val (O.ldN (m := 3) (PtI.ref rfl rfl) (js := [_, _, _]) rfl (Nat.le_of_ble_eq_true rfl) Try.underlying25 rfl (by kernel_rfl) rfl (Taken.yes rfl rfl hg2)) ?_
  refine SL.val (O.callp rfl rfl rfl (refvalid_h (N := (n : Int)) (ps := ps) (rs := rs)) (.cons (ArgOk.aggU (.cons (ArgOk.same rfl) (.cons (ArgOk.same rfl) (.cons (ArgOk.same rfl) .nil)))) .nil) hcallOk13 rfl (Taken.yes rfl rfl hg2)) ?_
  refine SL.as (i' := vI 0) 26 rfl (by rw [Prob.err_0 hok]) ?_
  refine SL.val (O.det (fun _ => G.R.mv (G.R.neq rfl rfl) (congrArg Value.bool (decide_eq_false (by decide)))) rfl (Taken.yes rfl rfl hg2)) ?_
  refine SL.val (O.pick_f rfl hg2 rfl rfl Taken.no) ?_
  refine SL.mv rfl rfl ?_
  have hg3 : false = false := by decide
  refine SL.val (O.fld_ref (o' := 2) rfl Try.underlying25 rfl (m := 0) (by kernel_rfl) rfl rfl (Taken.yes rfl rfl hg3)) ?_
  refine SL.val (O.ld1 (PtI.ref rfl rfl) rfl Try.underlying23 rfl rfl (Taken.yes rfl rfl hg3)) ?_
  refine SL.val (O.lenE (SlOf.fz rfl (by decide)) (by first | exact List.length_map _ | rfl) Try.underlying23 rfl (Taken.yes rfl rfl hg3)) ?_
  refine SL.val (O.det (fun _ => G.R.eql rfl rfl) rfl (Taken.yes rfl rfl hg3)) ?_
  refine SL.val (O.pick_f rfl rfl rfl rfl Taken.no) ?_
  refine E.fo ?_
  first | refine W.cond_d rfl (fun hc4 => ?_) (fun hc4 => ?_) | refine W.cond_nd rfl (fun hc4 => ?_) (fun hc4 => ?_) | refine W.cond rfl (fun hc4 => ?_) (fun hc4 => ?_)
  ·skip
   refine W.rg ?_
   refine SL.val (O.callp rfl rfl rfl (awake_h) .nil hcallOk11 rfl Taken.no) ?_
   refine SL.an rfl rfl (E.fo ?_)
   refine W.pick (K:=[(1,_),(2,_),(4,_)]) (Z:=[(101,_)]) ⟨rfl,rfl,rfl,trivial⟩ ⟨rfl,trivial⟩ ?_
   refine W.ret (E.thr ?_)
   refine E.fin (rs := [_]) (rn []) (.inl rfl) rfl (.cons (ResOne.tmp rfl) .nil) ?_ ?_ rfl (fixL_spec rfl)
   ·skip
    first | rfl | simp_all
   · exact SubS.nil
  ·skip
   refine W.skip (E.to (W.rg ?_))
   refine SL.val (O.ldN (m := 3) (PtI.ref rfl rfl) (js := [_, _, _]) rfl (Nat.le_of_ble_eq_true rfl) Try.underlying25 rfl (by kernel_rfl) rfl Taken.no) ?_
   refine SL.memS (O.call (rn []) [] rfl rfl rfl (Con.fz (Con.fz (own_o (by omega) (by omega)) rfl rfl) rfl rfl) (.cons (ArgOk.aggU (.cons (ArgOk.same rfl) (.cons (ArgOk.same rfl) (.cons (ArgOk.same rfl) .nil)))) .nil) SubS.nil rfl rfl rfl rfl rfl (.inl rfl) hcallOk14 (r' := .agg [.u _, .u _, .u _]) rfl rfl Taken.no) rfl rfl (S' := _) rfl ?_
   refine SL.memS (O.call (rn []) [] rfl rfl rfl (solveC_ok hok) (.cons (ArgOk.aggU (.cons (ArgOk.same rfl) (.cons (ArgOk.same rfl) (.cons (ArgOk.same rfl) .nil)))) .nil) SubS.nil rfl rfl rfl rfl rfl (.inl rfl) hcallOk15 (r' := .tup [.u _, .u _]) rfl rfl Taken.no) rfl rfl (S' := _) rfl ?_
   refine SL.mv rfl rfl ?_
   refine SL.val (O.extract rfl rfl rfl Taken.no) ?_
   refine SL.val (O.extract rfl rfl rfl Taken.no) ?_
   refine SL.an rfl rfl (SL.an rfl rfl (E.fo ?_))
   refine W.pick (K:=[(1,_),(2,_),(4,_),(5,_),(6,_)]) (Z:=[(101,_)]) ⟨rfl,rfl,rfl,rfl,rfl,trivial⟩ ⟨rfl,trivial⟩ ?_
   refine W.rg ?_
   refine SL.val (O.ldN (m := 3) (PtI.ref rfl rfl) (js := [_, _, _]) rfl (Nat.le_of_ble_eq_true rfl) Try.underlying25 rfl (by kernel_rfl) rfl Taken.no) ?_
   refine SL.memS (O.call (rn []) [] rfl rfl rfl (refAtoms_ok hok) (.cons (ArgOk.aggU (.cons (ArgOk.same rfl) (.cons (ArgOk.same rfl) (.cons (ArgOk.same rfl) .nil)))) .nil) SubS.nil rfl rfl rfl rfl rfl (.inl rfl) hcallOk17 (r' := .tup [.u _, .u _]) rfl rfl Taken.no) rfl rfl (S' := _) rfl ?_
   refine SL.mv rfl rfl ?_
   refine SL.val (O.extract rfl rfl rfl Taken.no) ?_
   refine SL.val (O.extract rfl rfl rfl Taken.no) ?_
   refine SL.an rfl rfl (SL.an rfl rfl (E.fo (W.rg (SL.mv rfl rfl ?_))))
   refine SL.val (O.det (fun _ => by first | exact G.R.conv64 rfl Try.underlying5 Try.underlying3 (by omega) | exact G.R.conv rfl Try.underlying5 Try.underlying3) rfl Taken.no) ?_
   refine SL.val (O.fld_ref (o' := 2) rfl Try.underlying25 rfl (m := 0) (by kernel_rfl) rfl rfl Taken.no) ?_
   refine SL.val (O.ld1 (PtI.ref rfl rfl) rfl Try.underlying23 rfl rfl Taken.no) ?_
   refine SL.val (O.lenE (SlOf.fz rfl (by decide)) (by first | exact List.length_map _ | rfl) Try.underlying23 rfl Taken.no) ?_
   refine SL.val (O.det (fun _ => by first | exact G.R.rem0 rfl rfl (by omega) (by omega) | exact G.R.rem rfl rfl (by omega)) rfl Taken.no) ?_
   refine SL.an rfl rfl (E.fo (W.rg ?_))
   obtain ⟨q, hq⟩ : ∃ q : Nat, t % (rs.length : Int) = (q : Int) := ⟨(t % (rs.length : Int)).toNat, (Int.toNat_of_nonneg (Int.emod_nonneg _ (by omega))).symm⟩
   have hql : q < rs.length := by have := Int.emod_lt_of_pos t (show (0 : Int) < rs.length by omega); omega
   rw [hq]
   have haa := allF_alike hok t (k := q) (by omega) (by omega) (by omega)
   have hrtl := rotF_len (rs := rs) (k := q) (by omega)
   have hal : (atomsL n rs).length = n := by rw [atomsL, joins_len, List.length_range]
   refine SL.val (O.ldN (m := 3) (PtI.ref rfl rfl) (js := [_, _, _]) rfl (Nat.le_of_ble_eq_true rfl) Try.underlying25 rfl (by kernel_rfl) rfl Taken.no) ?_
   refine SL.memS (O.call (rn []) [] rfl rfl rfl (Con.fz (Con.fz (own_o (by omega) (by omega)) rfl rfl) rfl rfl) (.cons (ArgOk.aggU (.cons (ArgOk.same rfl) (.cons (ArgOk.same rfl) (.cons (ArgOk.same rfl) .nil)))) .nil) SubS.nil rfl rfl rfl rfl rfl (.inl rfl) hcallOk14 (r' := .agg [.u _, .u _, .u _]) rfl rfl Taken.no) rfl rfl (S' := _) rfl ?_
   refine SL.memS (O.alloc (z := .agg #[.int .i64 0, .slice none 0 0, .slice none 0 0]) (is := [.u (.sc (.int .i64 0)), .u (.sc (.slice none 0 0)), .u (.sc (.slice none 0 0))]) 102 (by kernel_rfl) rfl rfl rfl Taken.no) rfl rfl (S' := (102, _) :: _) rfl ?_
   refine SL.effS (O.st_ref (m := 3) rfl rfl rfl (js := [_, _, _]) rfl rfl (by kernel_rfl) (by simp) (Nat.le_of_ble_eq_true rfl) rfl (is' := [_, _, _]) rfl Taken.no) (S' := (102, _) :: _) rfl ?_
   refine E.fo (W.seq ?_)
   refine W.draw [⟨[103], [103], [103], []⟩, ⟨[], [], [], [101]⟩, ⟨[101], [], [], []⟩, ⟨[], [], [], []⟩, ⟨[], [], [], []⟩, ⟨[103, 104], [103, 104], [104], []⟩, ⟨[], [], [], [101]⟩, ⟨[101], [], [], []⟩, ⟨[], [], [], []⟩, ⟨[], [], [], []⟩, ⟨[104, 105], [104, 105], [105], []⟩, ⟨[], [], [], [102]⟩, ⟨[102, 105], [102], [], []⟩] rfl (by kernel_rfl) (by kernel_rfl) rfl rfl ?_
   refine WH.memS (O.buildSlice 103 (rows := ([] : List Ru).map eRu) rfl rfl Try.underlying23 hi38 hz38 hs38 (by decide) rfl (by decide) rfl rfl rfl Taken.no) rfl rfl rfl rfl rfl (S' := (103, .data 38 3 (([] : List Ru).map eRu)) :: _) rfl ?_
   refine WH.val (O.fld_ref (o' := 2) rfl Try.underlying25 rfl (m := 0) (by kernel_rfl) rfl rfl Taken.no) rfl rfl ?_
   refine WH.val (O.ld1 (PtI.ref rfl rfl) rfl Try.underlying23 rfl rfl Taken.no) rfl rfl ?_
   refine WH.mv rfl rfl rfl ?_
   refine WH.val (O.sub_fz (i := q) rfl (Bnd.at rfl (by first | rfl | omega)) Bnd.no (by rw [List.length_map]; omega) (by first | omega | (simp only [List.length_map, Nat.le_refl, Nat.zero_le] <;> omega) | (simp <;> omega)) sub_lo Try.underlying23 hi38 hs38 rfl Taken.no) rfl rfl ?_
   refine WH.memS (O.app (k' := 104) rfl rfl (SlOf.fz rfl (by decide)) Try.underlying23 hi38 hz38 hs38 rfl rfl (by exact List.nil_append _) (by rw [hb38]; (simp only [List.length_map, List.length_nil, List.length_drop]; omega)) (by (simp only [List.length_map, List.length_nil, List.length_drop]; omega)) rfl Taken.no) rfl rfl rfl rfl rfl (S' := (104, _) :: (103, .dead) :: _) rfl ?_
   refine WH.val (O.fld_ref (o' := 2) rfl Try.underlying25 rfl (m := 0) (by kernel_rfl) rfl rfl Taken.no) rfl rfl ?_
   refine WH.val (O.ld1 (PtI.ref rfl rfl) rfl Try.underlying23 rfl rfl Taken.no) rfl rfl ?_
   refine WH.mv rfl rfl rfl ?_
   refine WH.val (O.sub_fz (j := q) rfl Bnd.no (Bnd.at rfl (by first | rfl | omega)) (by first | omega | (simp only [List.length_map, Nat.le_refl, Nat.zero_le] <;> omega) | (simp <;> omega)) (by rw [List.length_map]; omega) sub_hi Try.underlying23 hi38 hs38 rfl Taken.no) rfl rfl ?_
   refine WH.memS (O.app (k' := 105) rfl rfl (SlOf.fz rfl (by decide)) Try.underlying23 hi38 hz38 hs38 rfl rfl (by exact app_map) (by rw [hb38]; (simp only [List.length_map, List.length_drop, List.length_take]; omega)) (by (simp only [List.length_map, List.length_drop, List.length_take]; omega)) rfl Taken.no) rfl rfl rfl rfl rfl (S' := (105, _) :: (104, .dead) :: _) rfl ?_
   refine WH.val (O.fld_ref (o' := 2) rfl Try.underlying32 rfl (m := 0) (by kernel_rfl) rfl rfl Taken.no) rfl rfl ?_
   refine WH.effS (O.st_ref (m := 1) rfl rfl rfl (js := [_]) rfl rfl (by kernel_rfl) (by simp) (Nat.le_of_ble_eq_true rfl) rfl (is' := [_, _, _]) rfl Taken.no) rfl rfl rfl (S' := (102, _) :: _) rfl ?_
   refine WH.nil (E.to ?_)
   refine W.pick (K:=[(1,_),(2,_),(4,_),(5,_),(6,_),(7,_),(8,_),(10,_)]) (Z:=[(101,_),(102,_),(105,_)]) ⟨rfl,rfl,rfl,rfl,rfl,rfl,rfl,rfl,trivial⟩ ⟨rfl,rfl,rfl,trivial⟩ ?_
   refine W.seq (W.rg ?_)
   refine SL.val (O.fld_ref (o' := 2) rfl Try.underlying32 rfl (m := 0) (by kernel_rfl) rfl rfl Taken.no) ?_
   refine SL.val (O.ld1 (PtI.ref rfl rfl) rfl Try.underlying23 rfl rfl Taken.no) ?_
   refine SL.val (O.lenE (n := rs.length) (SlOf.own rfl rfl) (by rw [List.length_map, List.length_append, List.length_drop, List.length_take]; omega) Try.underlying23 rfl Taken.no) ?_
   refine SL.mv rfl rfl (E.fo (W.block ?_))
   refine W.loopx1 (fun (k : Nat) => [(70, vI (k : Int))]) (fun (k : Nat) => [(106, .data 38 3 ((swF t (rotF rs q) k).map eRu)), (102, .cells 32 [vI (n : Int), vL 3 (ps.map ePr), .own 106])]) (fun (k : Nat) => k ≤ rs.length) (fun (k : Nat) => rs.length - k) (0) (rn [(106, 105)]) (.cons (t := 1) rfl (.cons (t := 2) rfl (.cons (t := 4) rfl (.cons (t := 5) rfl (.cons (t := 6) rfl (.cons (t := 7) rfl (.cons (t := 8) rfl (.cons (t := 10) rfl (.cons (t := 69) rfl .nil))))))))) (.cons (t := 101) rfl .nil) rfl ?_ ?_ rfl rfl ?_ ?_
   · exact (SubF.cons rfl SubF.nil)
   · exact (SubS.val rfl (by exact sb_data (by rw [swF_0]; rfl)) (SubS.cons rfl SubS.nil))
   ·skip
    omega
   intro k hinv
   have hk := hinv
   have hswl := swF_len t (rotF rs q) k
   refine W.rg ?_
   refine SL.val (O.det (fun _ => G.R.lss rfl rfl) rfl Taken.no) ?_
   refine E.fo (W.seq ?_)
   first | refine W.cond_d rfl (fun hc5 => ?_) (fun hc5 => ?_) | refine W.cond_nd rfl (fun hc5 => ?_) (fun hc5 => ?_) | refine W.cond rfl (fun hc5 => ?_) (fun hc5 => ?_)
   ·skip
    refine W.skip (E.to (W.seq (W.block (W.rg (SL.mv rfl rfl (SL.an rfl rfl (E.fo (W.rg (SL.mv rfl rfl ?_)))))))))
    refine SL.val (O.det (fun _ => by first | exact G.R.conv64 rfl Try.underlying5 Try.underlying3 (by omega) | exact G.R.conv rfl Try.underlying5 Try.underlying3) rfl Taken.no) ?_
    refine SL.mv rfl rfl ?_
    refine SL.val (O.det (fun _ => by first | exact G.R.add64 rfl rfl (by omega) | exact G.R.add rfl rfl) rfl Taken.no) ?_
    refine SL.val (O.det (fun _ => by first | exact G.R.rem0 rfl rfl (by omega) (by omega) | exact G.R.rem rfl rfl (by omega)) rfl Taken.no) ?_
    refine SL.val (O.det (fun _ => G.R.eql rfl rfl) rfl Taken.no) ?_
    refine E.fo ?_
    first | refine W.cond_d rfl (fun hc6 => ?_) (fun hc6 => ?_) | refine W.cond_nd rfl (fun hc6 => ?_) (fun hc6 => ?_) | refine W.cond rfl (fun hc6 => ?_) (fun hc6 => ?_)
    ·skip
     refine W.draw [⟨[], [], [], [102]⟩, ⟨[102], [], [], [106]⟩, ⟨[], [], [], []⟩, ⟨[], [], [], [102]⟩, ⟨[102], [], [], [106]⟩, ⟨[], [], [], []⟩, ⟨[], [], [], [102]⟩, ⟨[102], [], [], [106]⟩, ⟨[], [], [], []⟩, ⟨[106], [], [], []⟩, ⟨[], [], [], [106]⟩, ⟨[106], [], [], []⟩, ⟨[], [], [], [102]⟩, ⟨[102], [], [], [106]⟩, ⟨[], [], [], []⟩, ⟨[106], [], [], []⟩, ⟨[], [], [], [106]⟩, ⟨[106], [], [], []⟩, ⟨[106], [], [], []⟩, ⟨[], [], [], [106]⟩, ⟨[106], [106], [], []⟩, ⟨[106], [], [], []⟩, ⟨[], [], [], [106]⟩, ⟨[106], [106], [], []⟩] rfl (by kernel_rfl) (by kernel_rfl) rfl rfl ?_
     refine WH.val (O.fld_ref (o' := 2) rfl Try.underlying32 rfl (m := 0) (by kernel_rfl) rfl rfl Taken.no) rfl rfl ?_
     refine WH.val (O.ld1 (PtI.ref rfl rfl) rfl Try.underlying23 rfl rfl Taken.no) rfl rfl ?_
     refine WH.mv rfl rfl rfl ?_
     refine WH.val (O.fld_ref (o' := 2) rfl Try.underlying32 rfl (m := 0) (by kernel_rfl) rfl rfl Taken.no) rfl rfl ?_
     refine WH.val (O.ld1 (PtI.ref rfl rfl) rfl Try.underlying23 rfl rfl Taken.no) rfl rfl ?_
     refine WH.mv rfl rfl rfl ?_
     refine WH.val (O.fld_ref (o' := 2) rfl Try.underlying32 rfl (m := 0) (by kernel_rfl) rfl rfl Taken.no) rfl rfl ?_
     refine WH.val (O.ld1 (PtI.ref rfl rfl) rfl Try.underlying23 rfl rfl Taken.no) rfl rfl ?_
     refine WH.mv rfl rfl rfl ?_
     refine WH.val (O.idx_own (i := k) rfl rfl rfl (rfl) (by rw [List.length_map]; omega) Try.underlying23 hi38 hs38 rfl Taken.no) rfl rfl ?_
     refine WH.val (O.fld_el (o' := 2) rfl Try.underlying38 rfl (m := 0) (by kernel_rfl) rfl rfl Taken.no) rfl rfl ?_
     refine WH.val (O.ld1 (PtI.ofU (PtU.el rfl rfl (row_get (by omega)))) rfl Try.underlying3 rfl rfl Taken.no) rfl rfl ?_
     refine WH.val (O.fld_ref (o' := 2) rfl Try.underlying32 rfl (m := 0) (by kernel_rfl) rfl rfl Taken.no) rfl rfl ?_
     refine WH.val (O.ld1 (PtI.ref rfl rfl) rfl Try.underlying23 rfl rfl Taken.no) rfl rfl ?_
     refine WH.mv rfl rfl rfl ?_
     refine WH.val (O.idx_own (i := k) rfl rfl rfl (rfl) (by rw [List.length_map]; omega) Try.underlying23 hi38 hs38 rfl Taken.no) rfl rfl ?_
     refine WH.val (O.fld_el (o' := 1) rfl Try.underlying38 rfl (m := 0) (by kernel_rfl) rfl rfl Taken.no) rfl rfl ?_
     refine WH.val (O.ld1 (PtI.ofU (PtU.el rfl rfl (row_get (by omega)))) rfl Try.underlying3 rfl rfl Taken.no) rfl rfl ?_
     refine WH.val (O.idx_own (i := k) rfl rfl rfl (rfl) (by rw [List.length_map]; omega) Try.underlying23 hi38 hs38 rfl Taken.no) rfl rfl ?_
     refine WH.val (O.fld_el (o' := 1) rfl Try.underlying38 rfl (m := 0) (by kernel_rfl) rfl rfl Taken.no) rfl rfl ?_
     refine WH.effS (O.st_els (m := 1) rfl rfl rfl (us := [_]) rfl rfl (by kernel_rfl) (by simp) (row_get (by omega)) (by exact Nat.le_of_ble_eq_true rfl) rfl rfl (rows' := ((swF t (rotF rs q) k).set k (Ru.mk (swF t (rotF rs q) k)[k]!.k (swF t (rotF rs q) k)[k]!.b (swF t (rotF rs q) k)[k]!.b)).map eRu) (by exact set_map rfl) Taken.no) rfl rfl rfl (S' := (106, _) :: _) rfl ?_
     refine WH.val (O.idx_own (i := k) rfl rfl rfl (rfl) (by rw [List.length_map, List.length_set]; omega) Try.underlying23 hi38 hs38 rfl Taken.no) rfl rfl ?_
     refine WH.val (O.fld_el (o' := 2) rfl Try.underlying38 rfl (m := 0) (by kernel_rfl) rfl rfl Taken.no) rfl rfl ?_
     refine WH.effS (O.st_els (m := 1) rfl rfl rfl (us := [_]) rfl rfl (by kernel_rfl) (by simp) (row_set (by omega)) (by exact Nat.le_of_ble_eq_true rfl) rfl rfl (rows' := (((swF t (rotF rs q) k).set k (Ru.mk (swF t (rotF rs q) k)[k]!.k (swF t (rotF rs q) k)[k]!.b (swF t (rotF rs q) k)[k]!.b)).set k (Ru.mk (swF t (rotF rs q) k)[k]!.k (swF t (rotF rs q) k)[k]!.b (swF t (rotF rs q) k)[k]!.a)).map eRu) (by exact set_map rfl) Taken.no) rfl rfl rfl (S' := (106, _) :: _) rfl ?_
     refine WH.nil (E.inn (E.to ?_))
     refine W.pick (K:=[(1,_),(2,_),(4,_),(5,_),(6,_),(7,_),(8,_),(10,_),(69,_),(70,_)]) (Z:=[(101,_),(102,_),(106,_)]) ⟨rfl,rfl,rfl,rfl,rfl,rfl,rfl,rfl,rfl,rfl,trivial⟩ ⟨rfl,rfl,rfl,trivial⟩ ?_
     refine W.region ?_
     refine SL.val (O.det (fun _ => by first | exact G.R.add64 rfl rfl (by omega) | exact G.R.add rfl rfl) rfl Taken.no) ?_
     refine SL.mv rfl rfl (SL.nil ?_)
     refine E.again ((k + 1)) (rn []) ?_ ?_ rfl (fixL_spec rfl) ?_ ?_
     · exact (SubF.cons rfl (SubF.cons rfl (SubF.cons rfl (SubF.cons rfl (SubF.cons rfl (SubF.cons rfl (SubF.cons rfl (SubF.cons rfl (SubF.cons rfl (SubF.cons rfl SubF.nil))))))))))
     · exact (SubS.val rfl (by (try dsimp only); first | exact sb_data (by rw [swF_y (by omega) (by omega)]; exact congrArg (List.map eRu) (set_two (by omega) (swF_k (by omega)))) | exact sb_data (by rw [swF_n (by omega) (by omega)])) (SubS.cons rfl (SubS.cons rfl SubS.nil)))
     ·try dsimp only
      omega
     · (try dsimp only); omega
    ·skip
     refine W.skip (E.inn (E.to (W.region ?_)))
     refine SL.val (O.det (fun _ => by first | exact G.R.add64 rfl rfl (by omega) | exact G.R.add rfl rfl) rfl Taken.no) ?_
     refine SL.mv rfl rfl (SL.nil ?_)
     refine E.again ((k + 1)) (rn []) ?_ ?_ rfl (fixL_spec rfl) ?_ ?_
     · exact (SubF.cons rfl (SubF.cons rfl (SubF.cons rfl (SubF.cons rfl (SubF.cons rfl (SubF.cons rfl (SubF.cons rfl (SubF.cons rfl (SubF.cons rfl (SubF.cons rfl SubF.nil))))))))))
     · exact (SubS.val rfl (by (try dsimp only); first | exact sb_data (by rw [swF_y (by omega) (by omega)]; exact congrArg (List.map eRu) (set_two (by omega) (swF_k (by omega)))) | exact sb_data (by rw [swF_n (by omega) (by omega)])) (SubS.cons rfl (SubS.cons rfl SubS.nil)))
     ·try dsimp only
      omega
     · (try dsimp only); omega
   ·skip
    refine W.exit (E.th (E.th (E.hit (E.to (W.seq (W.rg ?_))))))
    refine SL.val (O.fld_ref (o' := 0) rfl Try.underlying25 rfl (m := 0) (by kernel_rfl) rfl rfl Taken.no) ?_
    refine SL.val (O.ld1 (PtI.ref rfl rfl) rfl Try.underlying3 rfl rfl Taken.no) ?_
    refine SL.mv rfl rfl (E.fo (W.block ?_))
    refine W.loopx1 (fun (i : Nat) => [(104, vI (i : Int))]) (fun (i : Nat) => [(107, .data 38 3 (((swF t (rotF rs q) rs.length) ++ (mustF (atomsL n rs) i)).map eRu)), (102, .cells 32 [vI (n : Int), vL 3 (ps.map ePr), .own 107])]) (fun (i : Nat) => i ≤ n) (fun (i : Nat) => n - i) (0) (rn [(107, 106)]) (.cons (t := 2) rfl (.cons (t := 4) rfl (.cons (t := 5) rfl (.cons (t := 6) rfl (.cons (t := 7) rfl (.cons (t := 8) rfl (.cons (t := 10) rfl (.cons (t := 103) rfl .nil)))))))) (.cons (t := 101) rfl .nil) rfl ?_ ?_ rfl rfl ?_ ?_
    · exact (SubF.cons rfl SubF.nil)
    · exact (SubS.val rfl (by exact sb_data (by rw [show k = rs.length by omega]; exact congrArg (List.map eRu) (List.append_nil _).symm)) (SubS.cons rfl SubS.nil))
    ·skip
     omega
    intro i hinv
    have hi := hinv
    have hml := mustF_len (atomsL n rs) i
    have hswl := swF_len t (rotF rs q) rs.length
    refine W.rg ?_
    refine SL.val (O.det (fun _ => G.R.lss rfl rfl) rfl Taken.no) ?_
    refine E.fo (W.seq ?_)
    first | refine W.cond_d rfl (fun hc7 => ?_) (fun hc7 => ?_) | refine W.cond_nd rfl (fun hc7 => ?_) (fun hc7 => ?_) | refine W.cond rfl (fun hc7 => ?_) (fun hc7 => ?_)
    ·skip
     refine W.skip (E.to (W.seq (W.block (W.rg (SL.mv rfl rfl (SL.an rfl rfl (E.fo (W.rg (SL.mv rfl rfl (SL.mv rfl rfl ?_))))))))))
     refine SL.val (O.idx_fz (i := i) rfl rfl (rfl) (row_get (by omega)) Try.underlying39 hi3 hs3 rfl Taken.no) ?_
     refine SL.val (O.ld1 (PtI.ofU (PtU.fz rfl)) rfl Try.underlying3 rfl rfl Taken.no) ?_
     refine SL.mv rfl rfl ?_
     refine SL.val (O.det (fun _ => G.R.neq rfl rfl) rfl Taken.no) ?_
     refine E.fo ?_
     first | refine W.cond_d rfl (fun hc8 => ?_) (fun hc8 => ?_) | refine W.cond_nd rfl (fun hc8 => ?_) (fun hc8 => ?_) | refine W.cond rfl (fun hc8 => ?_) (fun hc8 => ?_)
     ·skip
      refine W.draw [⟨[], [], [], [102]⟩, ⟨[102], [], [], [107]⟩, ⟨[], [], [], []⟩, ⟨[], [], [], []⟩, ⟨[], [], [], []⟩, ⟨[], [], [], []⟩, ⟨[], [], [], []⟩, ⟨[], [], [], []⟩, ⟨[108], [108], [108], []⟩, ⟨[107, 108, 109], [107, 109], [109], []⟩, ⟨[], [], [], [102]⟩, ⟨[102, 109], [102], [], []⟩] rfl (by kernel_rfl) (by kernel_rfl) rfl rfl ?_
      refine WH.val (O.fld_ref (o' := 2) rfl Try.underlying32 rfl (m := 0) (by kernel_rfl) rfl rfl Taken.no) rfl rfl ?_
      refine WH.val (O.ld1 (PtI.ref rfl rfl) rfl Try.underlying23 rfl rfl Taken.no) rfl rfl ?_
      refine WH.mv rfl rfl rfl (WH.mv rfl rfl rfl (WH.mv rfl rfl rfl ?_))
      refine WH.val (O.idx_fz (i := i) rfl rfl (rfl) (row_get (by omega)) Try.underlying39 hi3 hs3 rfl Taken.no) rfl rfl ?_
      refine WH.val (O.ld1 (PtI.ofU (PtU.fz rfl)) rfl Try.underlying3 rfl rfl Taken.no) rfl rfl ?_
      refine WH.val (O.build (res := [_, _, _]) (z := .agg #[.int .i64 0, .int .i64 0, .int .i64 0]) (places := [(0, 1), (1, 1), (2, 1)]) rfl rfl Try.underlying38 (by kernel_rfl) (fun _ => by kernel_rfl) rfl rfl Taken.no) rfl rfl ?_
      refine WH.memS (O.buildSlice 108 (rows := [Ru.mk 1 (i : Int) (((atomsL n rs)[i]! : Nat) : Int)].map eRu) rfl rfl Try.underlying23 hi38 hz38 hs38 (by decide) rfl (by decide) rfl rfl rfl Taken.no) rfl rfl rfl rfl rfl (S' := (108, .data 38 3 ([Ru.mk 1 (i : Int) (((atomsL n rs)[i]! : Nat) : Int)].map eRu)) :: _) rfl ?_
      refine WH.memS (O.app (k' := 109) rfl rfl (SlOf.own rfl rfl) Try.underlying23 hi38 hz38 hs38 rfl rfl (by exact app_map) (by rw [hb38]; (simp only [List.length_map, List.length_singleton, List.length_append]; omega)) (by (simp only [List.length_map, List.length_singleton, List.length_append]; omega)) rfl Taken.no) rfl rfl rfl rfl rfl (S' := (109, _) :: (107, .dead) :: _) rfl ?_
      refine WH.val (O.fld_ref (o' := 2) rfl Try.underlying32 rfl (m := 0) (by kernel_rfl) rfl rfl Taken.no) rfl rfl ?_
      refine WH.effS (O.st_ref (m := 1) rfl rfl rfl (js := [_]) rfl rfl (by kernel_rfl) (by simp) (Nat.le_of_ble_eq_true rfl) rfl (is' := [_, _, _]) rfl Taken.no) rfl rfl rfl (S' := (102, _) :: _) rfl ?_
      refine WH.nil (E.inn (E.to ?_))
      refine W.pick (K:=[(2,_),(4,_),(5,_),(6,_),(7,_),(8,_),(10,_),(103,_),(104,_)]) (Z:=[(101,_),(102,_),(108,_),(109,_)]) ⟨rfl,rfl,rfl,rfl,rfl,rfl,rfl,rfl,rfl,trivial⟩ ⟨rfl,rfl,rfl,rfl,trivial⟩ ?_
      refine W.region ?_
      refine SL.val (O.det (fun _ => by first | exact G.R.add64 rfl rfl (by omega) | exact G.R.add rfl rfl) rfl Taken.no) ?_
      refine SL.mv rfl rfl (SL.nil ?_)
      refine E.again ((i + 1)) (rn [(107, 109)]) ?_ ?_ rfl (fixL_spec rfl) ?_ ?_
      · exact (SubF.cons rfl (SubF.cons rfl (SubF.cons rfl (SubF.cons rfl (SubF.cons rfl (SubF.cons rfl (SubF.cons rfl (SubF.cons rfl (SubF.cons rfl SubF.nil)))))))))
      · exact (SubS.val rfl (by (try dsimp only); first | exact sb_data (by rw [mustF_y (show ¬ (atomsL n rs)[i]! = i by omega), ← List.append_assoc]) | exact sb_data (by rw [mustF_n (show (atomsL n rs)[i]! = i by omega)])) (SubS.cons rfl (SubS.cons rfl SubS.nil)))
      ·try dsimp only
       omega
      · (try dsimp only); omega
     ·skip
      refine W.skip (E.inn (E.to (W.region ?_)))
      refine SL.val (O.det (fun _ => by first | exact G.R.add64 rfl rfl (by omega) | exact G.R.add rfl rfl) rfl Taken.no) ?_
      refine SL.mv rfl rfl (SL.nil ?_)
      refine E.again ((i + 1)) (rn []) ?_ ?_ rfl (fixL_spec rfl) ?_ ?_
      · exact (SubF.cons rfl (SubF.cons rfl (SubF.cons rfl (SubF.cons rfl (SubF.cons rfl (SubF.cons rfl (SubF.cons rfl (SubF.cons rfl (SubF.cons rfl SubF.nil)))))))))
      · exact (SubS.val rfl (by (try dsimp only); first | exact sb_data (by rw [mustF_y (show ¬ (atomsL n rs)[i]! = i by omega), ← List.append_assoc]) | exact sb_data (by rw [mustF_n (show (atomsL n rs)[i]! = i by omega)])) (SubS.cons rfl (SubS.cons rfl SubS.nil)))
      ·try dsimp only
       omega
      · (try dsimp only); omega
    ·skip
     refine W.exit (E.th (E.th (E.hit (E.to (W.seq (W.rg ?_))))))
     refine SL.val (O.fld_ref (o' := 2) rfl Try.underlying25 rfl (m := 0) (by kernel_rfl) rfl rfl Taken.no) ?_
     refine SL.val (O.ld1 (PtI.ref rfl rfl) rfl Try.underlying23 rfl rfl Taken.no) ?_
     refine SL.val (O.lenE (SlOf.fz rfl (by decide)) (by first | exact List.length_map _ | rfl) Try.underlying23 rfl Taken.no) ?_
     refine SL.mv rfl rfl (E.fo (W.block ?_))
     have hin : i = n := by omega
     rw [hin]
     refine W.loopx1 (fun (i : Nat) => [(128, vI (i : Int))]) (fun (i : Nat) => [(110, .data 38 3 (((swF t (rotF rs q) rs.length) ++ (mustF (atomsL n rs) n) ++ (cantF (atomsL n rs) (rs.take i))).map eRu)), (102, .cells 32 [vI (n : Int), vL 3 (ps.map ePr), .own 110])]) (fun (i : Nat) => i ≤ rs.length) (fun (i : Nat) => rs.length - i) (0) (rn [(110, 107)]) (.cons (t := 4) rfl (.cons (t := 5) rfl (.cons (t := 6) rfl (.cons (t := 7) rfl (.cons (t := 8) rfl (.cons (t := 10) rfl (.cons (t := 126) rfl (.cons (t := 127) rfl .nil)))))))) (.cons (t := 101) rfl .nil) rfl ?_ ?_ rfl rfl ?_ ?_
     · exact (SubF.cons rfl SubF.nil)
     · exact (SubS.val rfl (by exact sb_data (congrArg (List.map eRu) (List.append_nil _).symm)) (SubS.cons rfl SubS.nil))
     ·skip
      omega
     intro i hinv
     have hi2 := hinv
     have hml := mustF_len (atomsL n rs) n
     have hcl := cantF_len (atomsL n rs) rs i
     have hswl := swF_len t (rotF rs q) rs.length
     refine W.rg ?_
     refine SL.val (O.det (fun _ => G.R.lss rfl rfl) rfl Taken.no) ?_
     refine E.fo (W.seq ?_)
     first | refine W.cond_d rfl (fun hc9 => ?_) (fun hc9 => ?_) | refine W.cond_nd rfl (fun hc9 => ?_) (fun hc9 => ?_) | refine W.cond rfl (fun hc9 => ?_) (fun hc9 => ?_)
     ·skip
      have hrk : ruOk (n : Int) rs[i]! := hf.2.2.2.2 i (by show i < rs.length; omega)
      unfold ruOk at hrk
      refine W.skip (E.to (W.seq (W.block (W.rg ?_))))
      refine SL.val (O.idx_fz (i := i) rfl rfl (rfl) (row_get (by omega)) Try.underlying23 hi38 hs38 rfl Taken.no) ?_
      refine SL.val (O.ldU (m := 3) (PtU.fz rfl) rfl Try.underlying38 rfl (by kernel_rfl) rfl Taken.no) ?_
      refine SL.memS (O.alloc (z := .agg #[.int .i64 0, .int .i64 0, .int .i64 0]) (is := [.u (.sc (.int .i64 0)), .u (.sc (.int .i64 0)), .u (.sc (.int .i64 0))]) 111 (by kernel_rfl) rfl rfl rfl Taken.no) rfl rfl (S' := (111, _) :: _) rfl ?_
      refine SL.effS (O.st_ref (m := 3) rfl rfl rfl (js := [_, _, _]) rfl rfl (by kernel_rfl) (by simp) (Nat.le_of_ble_eq_true rfl) rfl (is' := [_, _, _]) rfl Taken.no) (S' := (111, _) :: _) rfl ?_
      refine E.fo (W.rg ?_)
      refine SL.val (O.fld_ref (o' := 0) rfl Try.underlying38 rfl (m := 0) (by kernel_rfl) rfl rfl Taken.no) ?_
      refine SL.val (O.ld1 (PtI.ref rfl rfl) rfl Try.underlying3 rfl rfl Taken.no) ?_
      refine SL.val (O.det (fun _ => G.R.eql rfl rfl) rfl Taken.no) ?_
      refine E.fo ?_
      first | refine W.cond_d rfl (fun hc10 => ?_) (fun hc10 => ?_) | refine W.cond_nd rfl (fun hc10 => ?_) (fun hc10 => ?_) | refine W.cond rfl (fun hc10 => ?_) (fun hc10 => ?_)
      ·skip
       refine W.draw [⟨[], [], [], [102]⟩, ⟨[102], [], [], [110]⟩, ⟨[], [], [], []⟩, ⟨[], [], [], [111]⟩, ⟨[111], [], [], []⟩, ⟨[], [], [], []⟩, ⟨[], [], [], []⟩, ⟨[], [], [], []⟩, ⟨[], [], [], [111]⟩, ⟨[111], [], [], []⟩, ⟨[], [], [], []⟩, ⟨[], [], [], []⟩, ⟨[], [], [], []⟩, ⟨[112], [112], [112], []⟩, ⟨[110, 112, 113], [110, 113], [113], []⟩, ⟨[], [], [], [102]⟩, ⟨[102, 113], [102], [], []⟩] rfl (by kernel_rfl) (by kernel_rfl) rfl rfl ?_
       refine WH.val (O.fld_ref (o' := 2) rfl Try.underlying32 rfl (m := 0) (by kernel_rfl) rfl rfl Taken.no) rfl rfl ?_
       refine WH.val (O.ld1 (PtI.ref rfl rfl) rfl Try.underlying23 rfl rfl Taken.no) rfl rfl ?_
       refine WH.mv rfl rfl rfl ?_
       refine WH.val (O.fld_ref (o' := 1) rfl Try.underlying38 rfl (m := 0) (by kernel_rfl) rfl rfl Taken.no) rfl rfl ?_
       refine WH.val (O.ld1 (PtI.ref rfl rfl) rfl Try.underlying3 rfl rfl Taken.no) rfl rfl ?_
       refine WH.val (O.idx_fz (i := rs[i]!.a.toNat) rfl rfl (by omega) (row_get (by omega)) Try.underlying39 hi3 hs3 rfl Taken.no) rfl rfl ?_
       refine WH.val (O.ld1 (PtI.ofU (PtU.fz rfl)) rfl Try.underlying3 rfl rfl Taken.no) rfl rfl ?_
       refine WH.mv rfl rfl rfl ?_
       refine WH.val (O.fld_ref (o' := 2) rfl Try.underlying38 rfl (m := 0) (by kernel_rfl) rfl rfl Taken.no) rfl rfl ?_
       refine WH.val (O.ld1 (PtI.ref rfl rfl) rfl Try.underlying3 rfl rfl Taken.no) rfl rfl ?_
       refine WH.val (O.idx_fz (i := rs[i]!.b.toNat) rfl rfl (by omega) (row_get (by omega)) Try.underlying39 hi3 hs3 rfl Taken.no) rfl rfl ?_
       refine WH.val (O.ld1 (PtI.ofU (PtU.fz rfl)) rfl Try.underlying3 rfl rfl Taken.no) rfl rfl ?_
       refine WH.val (O.build (res := [_, _, _]) (z := .agg #[.int .i64 0, .int .i64 0, .int .i64 0]) (places := [(0, 1), (1, 1), (2, 1)]) rfl rfl Try.underlying38 (by kernel_rfl) (fun _ => by kernel_rfl) rfl rfl Taken.no) rfl rfl ?_
       refine WH.memS (O.buildSlice 112 (rows := [Ru.mk 2 (((atomsL n rs)[rs[i]!.a.toNat]! : Nat) : Int) (((atomsL n rs)[rs[i]!.b.toNat]! : Nat) : Int)].map eRu) rfl rfl Try.underlying23 hi38 hz38 hs38 (by decide) rfl (by decide) rfl rfl rfl Taken.no) rfl rfl rfl rfl rfl (S' := (112, .data 38 3 ([Ru.mk 2 (((atomsL n rs)[rs[i]!.a.toNat]! : Nat) : Int) (((atomsL n rs)[rs[i]!.b.toNat]! : Nat) : Int)].map eRu)) :: _) rfl ?_
       refine WH.memS (O.app (k' := 113) rfl rfl (SlOf.own rfl rfl) Try.underlying23 hi38 hz38 hs38 rfl rfl (by exact app_map) (by rw [hb38]; (simp only [List.length_map, List.length_singleton, List.length_append]; omega)) (by (simp only [List.length_map, List.length_singleton, List.length_append]; omega)) rfl Taken.no) rfl rfl rfl rfl rfl (S' := (113, _) :: (110, .dead) :: _) rfl ?_
       refine WH.val (O.fld_ref (o' := 2) rfl Try.underlying32 rfl (m := 0) (by kernel_rfl) rfl rfl Taken.no) rfl rfl ?_
       refine WH.effS (O.st_ref (m := 1) rfl rfl rfl (js := [_]) rfl rfl (by kernel_rfl) (by simp) (Nat.le_of_ble_eq_true rfl) rfl (is' := [_, _, _]) rfl Taken.no) rfl rfl rfl (S' := (102, _) :: _) rfl ?_
       refine WH.nil (E.inn (E.to ?_))
       refine W.pick (K:=[(4,_),(5,_),(6,_),(7,_),(8,_),(10,_),(126,_),(127,_),(128,_)]) (Z:=[(101,_),(102,_),(111,_),(112,_),(113,_)]) ⟨rfl,rfl,rfl,rfl,rfl,rfl,rfl,rfl,rfl,trivial⟩ ⟨rfl,rfl,rfl,rfl,rfl,trivial⟩ ?_
       refine W.region ?_
       refine SL.val (O.det (fun _ => by first | exact G.R.add64 rfl rfl (by omega) | exact G.R.add rfl rfl) rfl Taken.no) ?_
       refine SL.mv rfl rfl (SL.nil ?_)
       refine E.again ((i + 1)) (rn [(110, 113)]) ?_ ?_ rfl (fixL_spec rfl) ?_ ?_
       · exact (SubF.cons rfl (SubF.cons rfl (SubF.cons rfl (SubF.cons rfl (SubF.cons rfl (SubF.cons rfl (SubF.cons rfl (SubF.cons rfl (SubF.cons rfl SubF.nil)))))))))
       · exact (SubS.val rfl (by (try dsimp only); first | exact sb_data (by rw [cantF_y (by omega) (by omega), ← List.append_assoc]) | exact sb_data (by rw [cantF_n (by omega) (by omega)])) (SubS.cons rfl (SubS.cons rfl SubS.nil)))
       ·try dsimp only
        omega
       · (try dsimp only); omega
      ·skip
       refine W.skip (E.inn (E.to (W.region ?_)))
       refine SL.val (O.det (fun _ => by first | exact G.R.add64 rfl rfl (by omega) | exact G.R.add rfl rfl) rfl Taken.no) ?_
       refine SL.mv rfl rfl (SL.nil ?_)
       refine E.again ((i + 1)) (rn []) ?_ ?_ rfl (fixL_spec rfl) ?_ ?_
       · exact (SubF.cons rfl (SubF.cons rfl (SubF.cons rfl (SubF.cons rfl (SubF.cons rfl (SubF.cons rfl (SubF.cons rfl (SubF.cons rfl (SubF.cons rfl SubF.nil)))))))))
       · exact (SubS.val rfl (by (try dsimp only); first | exact sb_data (by rw [cantF_y (by omega) (by omega), ← List.append_assoc]) | exact sb_data (by rw [cantF_n (by omega) (by omega)])) (SubS.cons rfl (SubS.cons rfl SubS.nil)))
       ·try dsimp only
        omega
       · (try dsimp only); omega
     ·skip
      refine W.exit (E.th (E.th (E.hit (E.to (W.seq ?_)))))
      have hil : i = rs.length := by omega
      rw [hil, List.take_length]
      refine W.freezeC 102 2 110 (is' := [_, _, _]) rfl rfl rfl rfl ?_
      refine W.region ?_
      refine SL.val (O.ldN (m := 3) (PtI.ref rfl rfl) (js := [_, _, _]) rfl (Nat.le_of_ble_eq_true rfl) Try.underlying32 rfl (by kernel_rfl) rfl Taken.no) ?_
      refine SL.memS (O.call (rn []) [] rfl rfl rfl (solveC_ok haa.1) (.cons (ArgOk.aggU (.cons (ArgOk.same rfl) (.cons (ArgOk.same rfl) (.cons (ArgOk.same rfl) .nil)))) .nil) SubS.nil rfl rfl rfl rfl rfl (.inl rfl) hcallOk15 (r' := .tup [.u _, .u _]) rfl rfl Taken.no) rfl rfl (S' := _) rfl ?_
      refine SL.mv rfl rfl ?_
      refine SL.val (O.extract rfl rfl rfl Taken.no) ?_
      refine SL.val (O.extract rfl rfl rfl Taken.no) ?_
      refine SL.an rfl rfl (SL.an rfl rfl (E.fo (W.rg (SL.mv rfl rfl ?_))))
      refine SL.val (O.det (fun _ => G.R.mv (G.R.eql rfl rfl) (congrArg Value.bool (decide_eq_true (by rfl)))) rfl Taken.no) ?_
      refine SL.mv rfl rfl ?_
      have hg11 : true = true := by decide
      refine SL.val (O.move rfl rfl (Taken.yes rfl rfl hg11)) ?_
      refine SL.val (O.det (fun _ => G.R.mv (G.R.eql rfl rfl) (congrArg Value.bool (decide_eq_true (by rfl)))) rfl (Taken.yes rfl rfl hg11)) ?_
      refine SL.val (O.pick_t rfl rfl rfl rfl Taken.no) ?_
      refine SL.mv rfl rfl ?_
      have hg12 : true = true := by decide
      refine SL.val (O.move rfl rfl (Taken.yes rfl rfl hg12)) ?_
      refine SL.val (O.det (fun _ => G.R.mv (G.R.eql rfl rfl) (congrArg Value.bool (decide_eq_true (by rfl)))) rfl (Taken.yes rfl rfl hg12)) ?_
      refine SL.val (O.pick_t rfl rfl rfl rfl Taken.no) ?_
      refine SL.mv rfl rfl ?_
      have hg13 : true = true := by decide
      refine SL.val (O.move rfl rfl (Taken.yes rfl rfl hg13)) ?_
      refine SL.val (O.move rfl rfl (Taken.yes rfl rfl hg13)) ?_
      refine SL.val (O.callp rfl rfl rfl (same_h (a := solveR n ps rs) (b := solveR n ps (allF t n rs q))) (.cons (ArgOk.same rfl) (.cons (ArgOk.same rfl) .nil)) hcallOk16 rfl (Taken.yes rfl rfl hg13)) ?_
      refine SL.as (i' := vB true) 170 rfl (by exact iv_bool (dec_t haa.2.symm)) ?_
      refine SL.val (O.pick_t rfl rfl rfl rfl Taken.no) ?_
      refine SL.an rfl rfl (E.fo ?_)
      refine W.pick (K:=[(4,_)]) (Z:=[(101,_),(102,_)]) ⟨rfl,trivial⟩ ⟨rfl,rfl,trivial⟩ ?_
      refine W.ret ?_
      refine E.fin (rs := [_]) (rn []) (.inl rfl) rfl (.cons (ResOne.tmp rfl) .nil) ?_ ?_ rfl (fixL_spec rfl)
      ·skip
       first | rfl | simp_all
      · exact SubS.nil
 ·skip
  first | have hg2p := G.gA7 hg2 | have hg2p := G.gA8 hg2 | have hg2p := hg2
  refine SL.sk rfl rfl rfl hg2 (SL.sk rfl rfl rfl hg2 (SL.sk rfl rfl rfl hg2 ?_))
  refine SL.val (O.pick_t rfl (G.ne_f hg2) rfl rfl Taken.no) ?_
  refine SL.mv rfl rfl ?_
  have hg14 : true ≠ false := by decide
  refine SL.sk rfl rfl rfl hg14 (SL.sk rfl rfl rfl hg14 (SL.sk rfl rfl rfl hg14 (SL.sk rfl rfl rfl hg14 ?_)))
  refine SL.val (O.pick_t rfl rfl rfl rfl Taken.no) ?_
  refine E.fo ?_
  refine W.cond_t rfl ?_
  refine W.rg ?_
  refine SL.val (O.callp rfl rfl rfl (awake_h) .nil hcallOk11 rfl Taken.no) ?_
  refine SL.an rfl rfl (E.fo ?_)
  refine W.pick (K:=[(1,_),(2,_),(4,_)]) (Z:=[(101,_)]) ⟨rfl,rfl,rfl,trivial⟩ ⟨rfl,trivial⟩ ?_
  refine W.ret (E.thr ?_)
  refine E.fin (rs := [_]) (rn []) (.inl rfl) rfl (.cons (ResOne.tmp rfl) .nil) ?_ ?_ rfl (fixL_spec rfl)
  ·skip
   first | rfl | simp_all
  · exact SubS.nil

set_option maxRecDepth 8000 in
set_option maxHeartbeats 6400000 in
/-- bookplate/bookplatelaw33.ClusterRules. -/
theorem clusterRules_bad {N : Int} {ps : List Pr} {rs : List Ru} {t : Int} (hok : ¬ (Prob.mk N ps rs).ok) (_ : 0 ≤ t ∧ t < 256) :
    Con Try.prog 4 [vA [uI N, .sl 3 (ps.map ePr), .sl 3 (rs.map eRu)], .u (.sc (.int .u8 t))] [] (vB true) [] := by
 have he : (Prob.mk N ps rs).err ≠ 0 := fun q => hok (Prob.err_iff.1 q)
 refine Con.enterL (n := 172) Try.func4 rfl rfl rfl (fun τ w ok vs hin => ?_)
 have hl0_1 := hin.lenA (i := 0) (j := 1) rfl rfl
 try rw [List.length_map] at hl0_1
 have hl0_2 := hin.lenA (i := 0) (j := 2) rfl rfl
 try rw [List.length_map] at hl0_2
 clear hin
 refine W.rg ?_
 refine SL.memS (O.box (is := [_, _, _]) 101 rfl rfl (by simp) rfl rfl Taken.no) rfl rfl (S' := (101, _) :: _) rfl ?_
 refine SL.an rfl rfl (E.fo (W.seq (W.rg ?_)))
 refine SL.val (O.callp rfl rfl rfl (awake_h) .nil hcallOk11 rfl Taken.no) ?_
 refine SL.as (i' := vB true) 17 rfl (by rfl) ?_
 refine SL.val (O.det (fun _ => G.R.mv (G.R.not rfl) rfl) rfl Taken.no) ?_
 refine SL.mv rfl rfl ?_
 have hg1 : false = false := by decide
 refine SL.val (O.ldN (m := 3) (PtI.ref rfl rfl) (js := [_, _, _]) rfl (Nat.le_of_ble_eq_true rfl) Try.underlying25 rfl (by kernel_rfl) rfl (Taken.yes rfl rfl hg1)) ?_
 refine SL.val (O.callp rfl rfl rfl (few_h) (.cons (ArgOk.aggU (.cons (ArgOk.same rfl) (.cons (ArgOk.same rfl) (.cons (ArgOk.same rfl) .nil)))) .nil) hcallOk12 rfl (Taken.yes rfl rfl hg1)) ?_
 refine SL.val (O.det (fun _ => G.R.not rfl) rfl (Taken.yes rfl rfl hg1)) ?_
 refine SL.val (O.pick_f rfl rfl rfl rfl Taken.no) ?_
 refine SL.mv rfl rfl ?_
 refine SL.case (j := 7) (g := 24) (want := false) rfl rfl (fun hg2 => ?_) (fun hg2 => ?_)
 ·skip
  first | have hg2p := G.gA3 hg2 | have hg2p := G.gA4 hg2 | have hg2p := hg2
  have hfew : (N ≤ 9 ∨ 200 < N) ∧ ps.length ≤ 40 ∧ (rs.length ≤ 12 ∨ rs.length = 401) := by simp_all
  refine SL.val (O.ldN (m := 3) (PtI.ref rfl rfl) (js := [_, _, _]) rfl (Nat.le_of_ble_eq_true rfl) Try.underlying25 rfl (by kernel_rfl) rfl (Taken.yes rfl rfl hg2)) ?_
  refine SL.val (O.callp rfl rfl rfl (refvalid_h (N := N) (ps := ps) (rs := rs)) (.cons (ArgOk.aggU (.cons (ArgOk.same rfl) (.cons (ArgOk.same rfl) (.cons (ArgOk.same rfl) .nil)))) .nil) hcallOk13 rfl (Taken.yes rfl rfl hg2)) ?_
  refine SL.val (O.det (fun _ => G.R.mv (G.R.neq rfl rfl) (congrArg Value.bool (decide_eq_true (by exact he)))) rfl (Taken.yes rfl rfl hg2)) ?_
  refine SL.val (O.pick_f rfl hg2 rfl rfl Taken.no) ?_
  refine SL.mv rfl rfl ?_
  have hg3 : true ≠ false := by decide
  refine SL.sk rfl rfl rfl hg3 (SL.sk rfl rfl rfl hg3 (SL.sk rfl rfl rfl hg3 (SL.sk rfl rfl rfl hg3 ?_)))
  refine SL.val (O.pick_t rfl rfl rfl rfl Taken.no) ?_
  refine E.fo ?_
  refine W.cond_t rfl ?_
  refine W.rg ?_
  refine SL.val (O.callp rfl rfl rfl (awake_h) .nil hcallOk11 rfl Taken.no) ?_
  refine SL.an rfl rfl (E.fo ?_)
  refine W.pick (K:=[(1,_),(2,_),(4,_)]) (Z:=[(101,_)]) ⟨rfl,rfl,rfl,trivial⟩ ⟨rfl,trivial⟩ ?_
  refine W.ret (E.thr ?_)
  refine E.fin (rs := [_]) (rn []) (.inl rfl) rfl (.cons (ResOne.tmp rfl) .nil) ?_ ?_ rfl (fixL_spec rfl)
  ·skip
   first | rfl | simp_all
  · exact SubS.nil
 ·skip
  first | have hg2p := G.gA7 hg2 | have hg2p := G.gA8 hg2 | have hg2p := hg2
  refine SL.sk rfl rfl rfl hg2 (SL.sk rfl rfl rfl hg2 (SL.sk rfl rfl rfl hg2 ?_))
  refine SL.val (O.pick_t rfl (G.ne_f hg2) rfl rfl Taken.no) ?_
  refine SL.mv rfl rfl ?_
  have hg4 : true ≠ false := by decide
  refine SL.sk rfl rfl rfl hg4 (SL.sk rfl rfl rfl hg4 (SL.sk rfl rfl rfl hg4 (SL.sk rfl rfl rfl hg4 ?_)))
  refine SL.val (O.pick_t rfl rfl rfl rfl Taken.no) ?_
  refine E.fo ?_
  refine W.cond_t rfl ?_
  refine W.rg ?_
  refine SL.val (O.callp rfl rfl rfl (awake_h) .nil hcallOk11 rfl Taken.no) ?_
  refine SL.an rfl rfl (E.fo ?_)
  refine W.pick (K:=[(1,_),(2,_),(4,_)]) (Z:=[(101,_)]) ⟨rfl,rfl,rfl,trivial⟩ ⟨rfl,trivial⟩ ?_
  refine W.ret (E.thr ?_)
  refine E.fin (rs := [_]) (rn []) (.inl rfl) rfl (.cons (ResOne.tmp rfl) .nil) ?_ ?_ rfl (fixL_spec rfl)
  ·skip
   first | rfl | simp_all
  · exact SubS.nil

theorem clusterRules_h {N : Int} {ps : List Pr} {rs : List Ru} {t : Int} (ht : 0 ≤ t ∧ t < 256) : Con Try.prog 4 [vA [uI N, .sl 3 (ps.map ePr), .sl 3 (rs.map eRu)], .u (.sc (.int .u8 t))] [] (vB true) [] := by
  by_cases h : (Prob.mk N ps rs).ok
  · obtain ⟨n, rfl⟩ : ∃ n : Nat, N = (n : Int) := ⟨N.toNat, Prob.nat h.1⟩
    exact clusterRules_ok h ht
  · exact clusterRules_bad h ht

end Go.Proofs.Ytppamigboeaefaa
end
