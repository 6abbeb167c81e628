/-
  What the proof rests on: part 12 of 12.
-/
import Derived.Test.YtppamigboeaefaaClusterJoinedP11
section
namespace Go.D33
open Go Go.RowKit Go.H
def shP (a : Nat) (x : Pr) : Pr := ⟨x.a + a, x.b + a, x.w⟩
def shR (a : Nat) (x : Ru) : Ru := ⟨x.k, x.a + a, x.b + a⟩
section
variable {a b : Nat} {pa pb : List Pr} {ra rb : List Ru}
theorem join_formed (ha : (Prob.mk (a : Int) pa ra).formed) (hb : (Prob.mk (b : Int) pb rb).formed) (hn : a + b ≤ 200) (hr : ra.length + rb.length ≤ 400) : (Prob.mk ((a + b : Nat) : Int) (pa ++ pb.map (shP a)) (ra ++ rb.map (shR a))).formed := by
  have hpa : ∀ x ∈ pa, 0 ≤ x.a ∧ x.a < x.b ∧ x.b < (a : Int) ∧ -1000 ≤ x.w ∧ x.w ≤ 1000 := fun x hx => formed_pr ha hx
  have hpb : ∀ x ∈ pb, 0 ≤ x.a ∧ x.a < x.b ∧ x.b < (b : Int) ∧ -1000 ≤ x.w ∧ x.w ≤ 1000 := fun x hx => formed_pr hb hx
  have hall : ∀ x ∈ pa ++ pb.map (shP a), prOk ((a + b : Nat) : Int) x := fun x hx => by
    unfold prOk
    rcases List.mem_append.1 hx with q | q
    · have := hpa x q; omega
    · obtain ⟨y, hy, rfl⟩ := List.mem_map.1 q
      have := hpb y hy
      show 0 ≤ y.a + a ∧ y.a + a < y.b + a ∧ y.b + a < ((a + b : Nat) : Int) ∧ -1000 ≤ y.w ∧ y.w ≤ 1000
      omega
  have hw : ∀ {n : Nat} {ps : List Pr} {rs : List Ru}, (Prob.mk (n : Int) ps rs).formed → ps.Pairwise prAsc := fun {n ps rs} hf => by
    rw [List.pairwise_iff_getElem]
    intro i j hi hj hij
    have := asc_lt hf hij hj
    rw [getElem!_pos _ i hi, getElem!_pos _ j hj] at this
    exact this
  have hpw : (pa ++ pb.map (shP a)).Pairwise prAsc := by
    rw [List.pairwise_append, List.pairwise_map]
    refine ⟨hw ha, (hw hb).imp fun {x y} h => ?_, fun x hx y hy => ?_⟩
    · unfold prAsc at h ⊢
      show x.a + a < y.a + a ∨ (x.a + a = y.a + a ∧ x.b + a < y.b + a)
      omega
    · obtain ⟨z, hz, rfl⟩ := List.mem_map.1 hy
      have h1 := hpa x hx
      have h2 := hpb z hz
      unfold prAsc
      show x.a < z.a + a ∨ _
      left; omega
  refine ⟨by show (0 : Int) ≤ ((a + b : Nat) : Int); omega, by show ((a + b : Nat) : Int) ≤ 200; omega, by show (ra ++ rb.map (shR a)).length ≤ 400; rw [List.length_append, List.length_map]; exact hr, fun i hi => ⟨hall _ (mem_at hi), fun h0 => ?_⟩, fun i hi => ?_⟩
  · have hi' : i < (pa ++ pb.map (shP a)).length := hi
    have := (List.pairwise_iff_getElem.1 hpw) (i - 1) i (by omega) hi' (by omega)
    show prAsc (pa ++ pb.map (shP a))[i - 1]! (pa ++ pb.map (shP a))[i]!
    rw [getElem!_pos _ (i - 1) (by omega), getElem!_pos _ i hi']
    exact this
  · have hi' : i < (ra ++ rb.map (shR a)).length := hi
    show ruOk ((a + b : Nat) : Int) (ra ++ rb.map (shR a))[i]!
    unfold ruOk
    rcases List.mem_append.1 (mem_at hi') with q | q
    · have : (_ ∨ _) ∧ _ := formed_ru ha q
      have q1 : ∀ x : Ru, ruOk (a : Int) x → (x.k = 1 ∨ x.k = 2) ∧ 0 ≤ x.a ∧ x.a < (a : Int) ∧ 0 ≤ x.b ∧ x.b < (a : Int) ∧ x.a ≠ x.b := fun x h => h
      have := q1 _ (formed_ru ha q)
      omega
    · obtain ⟨y, hy, e⟩ := List.mem_map.1 q
      have q1 : (y.k = 1 ∨ y.k = 2) ∧ 0 ≤ y.a ∧ y.a < (b : Int) ∧ 0 ≤ y.b ∧ y.b < (b : Int) ∧ y.a ≠ y.b := formed_ru hb hy
      rw [← e]
      show (y.k = 1 ∨ y.k = 2) ∧ 0 ≤ y.a + a ∧ y.a + a < ((a + b : Nat) : Int) ∧ 0 ≤ y.b + a ∧ y.b + a < ((a + b : Nat) : Int) ∧ y.a + a ≠ y.b + a
      omega
theorem linkR_iff (i j : Nat) (_ : List Ru) : (∃ r ∈ ra ++ rb.map (shR a), r.k ≠ 2 ∧ ((i = r.a.toNat ∧ j = r.b.toNat) ∨ (i = r.b.toNat ∧ j = r.a.toNat))) ↔ (∃ r ∈ ra, r.k ≠ 2 ∧ ((i = r.a.toNat ∧ j = r.b.toNat) ∨ (i = r.b.toNat ∧ j = r.a.toNat))) ∨ ∃ r ∈ rb, r.k ≠ 2 ∧ ((i = (r.a + a).toNat ∧ j = (r.b + a).toNat) ∨ (i = (r.b + a).toNat ∧ j = (r.a + a).toNat)) := by
  constructor
  · rintro ⟨r, hr, q⟩
    rcases List.mem_append.1 hr with h | h
    · exact .inl ⟨r, h, q⟩
    · obtain ⟨y, hy, rfl⟩ := List.mem_map.1 h
      exact .inr ⟨y, hy, q⟩
  · rintro (⟨r, hr, q⟩ | ⟨r, hr, q⟩)
    · exact ⟨r, List.mem_append_left _ hr, q⟩
    · exact ⟨shR a r, List.mem_append_right _ (List.mem_map.2 ⟨r, hr, rfl⟩), q⟩
theorem linkP_iff (i j : Nat) : (∃ r ∈ pa ++ pb.map (shP a), 0 < r.w ∧ ((i = r.a.toNat ∧ j = r.b.toNat) ∨ (i = r.b.toNat ∧ j = r.a.toNat))) ↔ (∃ r ∈ pa, 0 < r.w ∧ ((i = r.a.toNat ∧ j = r.b.toNat) ∨ (i = r.b.toNat ∧ j = r.a.toNat))) ∨ ∃ r ∈ pb, 0 < r.w ∧ ((i = (r.a + a).toNat ∧ j = (r.b + a).toNat) ∨ (i = (r.b + a).toNat ∧ j = (r.a + a).toNat)) := by
  constructor
  · rintro ⟨r, hr, q⟩
    rcases List.mem_append.1 hr with h | h
    · exact .inl ⟨r, h, q⟩
    · obtain ⟨y, hy, rfl⟩ := List.mem_map.1 h
      exact .inr ⟨y, hy, q⟩
  · rintro (⟨r, hr, q⟩ | ⟨r, hr, q⟩)
    · exact ⟨r, List.mem_append_left _ hr, q⟩
    · exact ⟨shP a r, List.mem_append_right _ (List.mem_map.2 ⟨r, hr, rfl⟩), q⟩
theorem sumQ_0 {q : Nat → Nat → Prop} [∀ a b, Decidable (q a b)] {ps : List Pr} (h : ∀ x ∈ ps, ¬ q x.a.toNat x.b.toNat) : sumQ q ps = 0 := by
  have key : ∀ j, j ≤ ps.length → sumQ q (ps.take j) = 0 := by
    intro j
    induction j with
    | zero => intro _; rfl
    | succ j ih => intro hj; rw [snocP (show j < ps.length from hj), sumQ_s, ih (by omega), if_neg (h _ (mem_at hj))]; rfl
  have := key ps.length (Nat.le_refl _)
  rwa [List.take_length] at this
theorem sumQ_congr {q q' : Nat → Nat → Prop} [∀ a b, Decidable (q a b)] [∀ a b, Decidable (q' a b)] {ps qs : List Pr} (hl : ps.length = qs.length) (hw : ∀ i, i < ps.length → ps[i]!.w = qs[i]!.w) (h : ∀ i, i < ps.length → (q ps[i]!.a.toNat ps[i]!.b.toNat ↔ q' qs[i]!.a.toNat qs[i]!.b.toNat)) : sumQ q ps = sumQ q' qs := by
  have key : ∀ j, j ≤ ps.length → sumQ q (ps.take j) = sumQ q' (qs.take j) := by
    intro j
    induction j with
    | zero => intro _; rfl
    | succ j ih =>
      intro hj
      rw [snocP (show j < ps.length from hj), snocP (show j < qs.length by omega), sumQ_s, sumQ_s, ih (by omega), hw j hj]
      simp only [h j hj]
  have := key ps.length (Nat.le_refl _)
  rw [List.take_length, hl, List.take_length] at this
  exact this
theorem join_embA (ha : (Prob.mk (a : Int) pa ra).formed) (hb : (Prob.mk (b : Int) pb rb).formed) : Emb (a + b) a (pa ++ pb.map (shP a)) (ra ++ rb.map (shR a)) (List.range a) pa ra := by
  have hpa : ∀ x ∈ pa, 0 ≤ x.a ∧ x.a < x.b ∧ x.b < (a : Int) ∧ -1000 ≤ x.w ∧ x.w ≤ 1000 := fun x hx => formed_pr ha hx
  have hpb : ∀ x ∈ pb, 0 ≤ x.a ∧ x.a < x.b ∧ x.b < (b : Int) ∧ -1000 ≤ x.w ∧ x.w ≤ 1000 := fun x hx => formed_pr hb hx
  have hra : ∀ x ∈ ra, (x.k = 1 ∨ x.k = 2) ∧ 0 ≤ x.a ∧ x.a < (a : Int) ∧ 0 ≤ x.b ∧ x.b < (a : Int) ∧ x.a ≠ x.b := fun x hx => formed_ru ha hx
  have hrb : ∀ x ∈ rb, (x.k = 1 ∨ x.k = 2) ∧ 0 ≤ x.a ∧ x.a < (b : Int) ∧ 0 ≤ x.b ∧ x.b < (b : Int) ∧ x.a ≠ x.b := fun x hx => formed_ru hb hx
  have hR : ∀ {i j}, i < a → ((∃ r ∈ ra ++ rb.map (shR a), r.k ≠ 2 ∧ ((i = r.a.toNat ∧ j = r.b.toNat) ∨ (i = r.b.toNat ∧ j = r.a.toNat))) ↔ ∃ r ∈ ra, r.k ≠ 2 ∧ ((i = r.a.toNat ∧ j = r.b.toNat) ∨ (i = r.b.toNat ∧ j = r.a.toNat))) := fun {i j} hi => by
    rw [linkR_iff i j ra]
    exact ⟨fun q => q.elim id fun ⟨r, hr, _, q⟩ => by have := hrb r hr; omega, .inl⟩
  have hP : ∀ {i j}, i < a → ((∃ r ∈ pa ++ pb.map (shP a), 0 < r.w ∧ ((i = r.a.toNat ∧ j = r.b.toNat) ∨ (i = r.b.toNat ∧ j = r.a.toNat))) ↔ ∃ r ∈ pa, 0 < r.w ∧ ((i = r.a.toNat ∧ j = r.b.toNat) ∨ (i = r.b.toNat ∧ j = r.a.toNat))) := fun {i j} hi => by
    rw [linkP_iff i j]
    exact ⟨fun q => q.elim id fun ⟨r, hr, _, q⟩ => by have := hpb r hr; omega, .inl⟩
  have hlk : ∀ {i j}, i < a → mF (lF (pa ++ pb.map (shP a))) (ra ++ rb.map (shR a)) i j = mF (lF pa) ra i j := fun {i j} hi => by
    rw [Bool.eq_iff_iff, mF_iff, mF_iff, lF_iff, lF_iff, hR hi, hP hi]
  refine ⟨List.length_range, fun i j hij hj => by rw [range_get hj, range_get (by omega)]; exact hij, fun i hi => by rw [range_get hi]; omega, fun i y hi hy h => ?_, fun i j hi hj => by rw [range_get hi, range_get hj, hlk hi], fun i j hi hj => ?_, fun i j hi hj => ?_, fun q q' _ _ hq => ?_⟩
  · rw [range_get hi, hlk hi] at h
    rw [List.mem_range]
    rcases (mF_iff ra).1 h with h | ⟨r, hr, _, q⟩
    · obtain ⟨x, hx, _, q⟩ := lF_iff.1 h
      have := hpa x hx
      omega
    · have := hra r hr
      omega
  · rw [range_get hi, range_get hj]
    unfold mu
    rw [Bool.eq_iff_iff, mF_iff, mF_iff, hR hi]
  · rw [range_get hi, range_get hj]
    constructor
    · rintro ⟨x, hx, q⟩
      obtain ⟨hx, hk⟩ := bar_in hx
      exact ⟨x, List.mem_filter.2 ⟨List.mem_append_left _ hx, decide_eq_true hk⟩, q⟩
    · rintro ⟨x, hx, q⟩
      obtain ⟨hx, hk⟩ := bar_in hx
      rcases List.mem_append.1 hx with h | h
      · exact ⟨x, List.mem_filter.2 ⟨h, decide_eq_true hk⟩, q⟩
      · obtain ⟨y, hy, rfl⟩ := List.mem_map.1 h
        have := hrb y hy
        have q1 : (y.a + a).toNat = i := q.1
        omega
  · rw [sumQ_app, sumQ_0 (ps := pb.map (shP a)), Int.add_zero]
    · refine sumQ_congr rfl (fun _ _ => rfl) fun i hi => ?_
      have := hpa _ (mem_at hi)
      have l1 : pa[i]!.a.toNat < a := by omega
      have l2 : pa[i]!.b.toNat < a := by omega
      have e := hq _ _ l1 l2
      rw [range_get l1, range_get l2] at e
      exact ⟨fun z => ⟨⟨List.mem_range.2 l1, List.mem_range.2 l2⟩, e.1 z⟩, fun z => e.2 z.2⟩
    · rintro x hx ⟨⟨z, _⟩, _⟩
      obtain ⟨y, hy, rfl⟩ := List.mem_map.1 hx
      have := hpb y hy
      have z1 : (y.a + a).toNat < a := List.mem_range.1 z
      omega
theorem usB_get {i : Nat} (hi : i < b) : ((List.range b).map (a + ·))[i]! = a + i := by
  rw [get_map (by rw [List.length_range]; exact hi), range_get hi]
theorem join_embB (ha : (Prob.mk (a : Int) pa ra).formed) (hb : (Prob.mk (b : Int) pb rb).formed) : Emb (a + b) b (pa ++ pb.map (shP a)) (ra ++ rb.map (shR a)) ((List.range b).map (a + ·)) pb rb := by
  have hpa : ∀ x ∈ pa, 0 ≤ x.a ∧ x.a < x.b ∧ x.b < (a : Int) ∧ -1000 ≤ x.w ∧ x.w ≤ 1000 := fun x hx => formed_pr ha hx
  have hpb : ∀ x ∈ pb, 0 ≤ x.a ∧ x.a < x.b ∧ x.b < (b : Int) ∧ -1000 ≤ x.w ∧ x.w ≤ 1000 := fun x hx => formed_pr hb hx
  have hra : ∀ x ∈ ra, (x.k = 1 ∨ x.k = 2) ∧ 0 ≤ x.a ∧ x.a < (a : Int) ∧ 0 ≤ x.b ∧ x.b < (a : Int) ∧ x.a ≠ x.b := fun x hx => formed_ru ha hx
  have hrb : ∀ x ∈ rb, (x.k = 1 ∨ x.k = 2) ∧ 0 ≤ x.a ∧ x.a < (b : Int) ∧ 0 ≤ x.b ∧ x.b < (b : Int) ∧ x.a ≠ x.b := fun x hx => formed_ru hb hx
  have hR : ∀ {i j : Nat}, ((∃ r ∈ ra ++ rb.map (shR a), r.k ≠ 2 ∧ ((a + i = r.a.toNat ∧ a + j = r.b.toNat) ∨ (a + i = r.b.toNat ∧ a + j = r.a.toNat))) ↔ ∃ r ∈ rb, r.k ≠ 2 ∧ ((i = r.a.toNat ∧ j = r.b.toNat) ∨ (i = r.b.toNat ∧ j = r.a.toNat))) := fun {i j} => by
    rw [linkR_iff (a + i) (a + j) ra]
    constructor
    · rintro (⟨r, hr, _, q⟩ | ⟨r, hr, hk, q⟩)
      · have := hra r hr; omega
      · have := hrb r hr
        exact ⟨r, hr, hk, by omega⟩
    · rintro ⟨r, hr, hk, q⟩
      have := hrb r hr
      exact .inr ⟨r, hr, hk, by omega⟩
  have hP : ∀ {i j : Nat}, ((∃ r ∈ pa ++ pb.map (shP a), 0 < r.w ∧ ((a + i = r.a.toNat ∧ a + j = r.b.toNat) ∨ (a + i = r.b.toNat ∧ a + j = r.a.toNat))) ↔ ∃ r ∈ pb, 0 < r.w ∧ ((i = r.a.toNat ∧ j = r.b.toNat) ∨ (i = r.b.toNat ∧ j = r.a.toNat))) := fun {i j} => by
    rw [linkP_iff (a + i) (a + j)]
    constructor
    · rintro (⟨r, hr, _, q⟩ | ⟨r, hr, hk, q⟩)
      · have := hpa r hr; omega
      · have := hpb r hr
        exact ⟨r, hr, hk, by omega⟩
    · rintro ⟨r, hr, hk, q⟩
      have := hpb r hr
      exact .inr ⟨r, hr, hk, by omega⟩
  have hmem : ∀ {x : Nat}, x ∈ (List.range b).map (a + ·) ↔ a ≤ x ∧ x < a + b := fun {x} => by
    rw [List.mem_map]
    constructor
    · rintro ⟨y, hy, rfl⟩
      have := List.mem_range.1 hy
      omega
    · rintro ⟨h1, h2⟩
      exact ⟨x - a, List.mem_range.2 (by omega), by omega⟩
  refine ⟨by rw [List.length_map, List.length_range], fun i j hij hj => by rw [usB_get hj, usB_get (by omega)]; omega, fun i hi => by rw [usB_get hi]; omega, fun i y hi hy h => ?_, fun i j hi hj => ?_, fun i j hi hj => ?_, fun i j hi hj => ?_, fun q q' _ _ hq => ?_⟩
  · rw [usB_get hi] at h
    rw [hmem]
    rcases (mF_iff _).1 h with h | h
    · obtain ⟨x, hx, _, q⟩ := lF_iff.1 h
      rcases List.mem_append.1 hx with z | z
      · have := hpa x z; omega
      · obtain ⟨w, hw, rfl⟩ := List.mem_map.1 z
        have := hpb w hw
        have q' : (a + i = (w.a + a).toNat ∧ y = (w.b + a).toNat) ∨ (a + i = (w.b + a).toNat ∧ y = (w.a + a).toNat) := q
        omega
    · obtain ⟨x, hx, _, q⟩ := h
      rcases List.mem_append.1 hx with z | z
      · have := hra x z; omega
      · obtain ⟨w, hw, rfl⟩ := List.mem_map.1 z
        have := hrb w hw
        have q' : (a + i = (w.a + a).toNat ∧ y = (w.b + a).toNat) ∨ (a + i = (w.b + a).toNat ∧ y = (w.a + a).toNat) := q
        omega
  · rw [usB_get hi, usB_get hj, Bool.eq_iff_iff, mF_iff, mF_iff, lF_iff, lF_iff, hR, hP]
  · rw [usB_get hi, usB_get hj]
    unfold mu
    rw [Bool.eq_iff_iff, mF_iff, mF_iff, hR]
  · rw [usB_get hi, usB_get hj]
    constructor
    · rintro ⟨x, hx, q⟩
      obtain ⟨hx, hk⟩ := bar_in hx
      have := hrb x hx
      refine ⟨shR a x, List.mem_filter.2 ⟨List.mem_append_right _ (List.mem_map.2 ⟨x, hx, rfl⟩), decide_eq_true hk⟩, ?_⟩
      show (x.a + a).toNat = a + i ∧ (x.b + a).toNat = a + j
      omega
    · rintro ⟨x, hx, q⟩
      obtain ⟨hx, hk⟩ := bar_in hx
      rcases List.mem_append.1 hx with h | h
      · have := hra x h; omega
      · obtain ⟨y, hy, rfl⟩ := List.mem_map.1 h
        have := hrb y hy
        have q1 : (y.a + a).toNat = a + i ∧ (y.b + a).toNat = a + j := q
        exact ⟨y, List.mem_filter.2 ⟨hy, decide_eq_true hk⟩, by omega⟩
  · rw [sumQ_app, sumQ_0 (ps := pa), Int.zero_add]
    · refine sumQ_congr (by rw [List.length_map]) (fun i hi => by rw [get_map (f := shP a) hi]; rfl) fun i hi => ?_
      have := hpb _ (mem_at hi)
      have l1 : pb[i]!.a.toNat < b := by omega
      have l2 : pb[i]!.b.toNat < b := by omega
      have e := hq _ _ l1 l2
      rw [usB_get l1, usB_get l2] at e
      rw [get_map (f := shP a) hi, hmem, hmem]
      have e1 : (shP a pb[i]!).a.toNat = a + pb[i]!.a.toNat := by show (pb[i]!.a + a).toNat = _; omega
      have e2 : (shP a pb[i]!).b.toNat = a + pb[i]!.b.toNat := by show (pb[i]!.b + a).toNat = _; omega
      rw [e1, e2]
      exact ⟨fun z => ⟨⟨by omega, by omega⟩, e.1 z⟩, fun z => e.2 z.2⟩
    · rintro x hx ⟨⟨z, _⟩, _⟩
      have := hpa x hx
      have := hmem.1 z
      omega
theorem join_ok (ha : (Prob.mk (a : Int) pa ra).ok) (hb : (Prob.mk (b : Int) pb rb).ok) (hn : a + b ≤ 200) (hr : ra.length + rb.length ≤ 400) : (Prob.mk ((a + b : Nat) : Int) (pa ++ pb.map (shP a)) (ra ++ rb.map (shR a))).ok := by
  have hf := join_formed ha.1 hb.1 hn hr
  have EA := join_embA ha.1 hb.1
  have EB := join_embB ha.1 hb.1
  have aA := atoms_emb EA hf ha.1
  have aB := atoms_emb EB hf hb.1
  refine ⟨hf, ?_⟩
  rw [bad_eq hf]
  unfold clash
  rw [List.any_eq_false]
  intro x hx e
  have e := of_decide_eq_true e
  obtain ⟨hx, hk⟩ := bar_in hx
  have ca : ∀ x ∈ barL ra, (atomsL a ra)[x.a.toNat]! ≠ (atomsL a ra)[x.b.toNat]! := fun x hx q => by
    have := ha.2
    rw [bad_eq ha.1] at this
    unfold clash at this
    rw [List.any_eq_false] at this
    exact this x hx (decide_eq_true q)
  have cb : ∀ x ∈ barL rb, (atomsL b rb)[x.a.toNat]! ≠ (atomsL b rb)[x.b.toNat]! := fun x hx q => by
    have := hb.2
    rw [bad_eq hb.1] at this
    unfold clash at this
    rw [List.any_eq_false] at this
    exact this x hx (decide_eq_true q)
  rcases List.mem_append.1 hx with h | h
  · have q1 : (x.k = 1 ∨ x.k = 2) ∧ 0 ≤ x.a ∧ x.a < (a : Int) ∧ 0 ≤ x.b ∧ x.b < (a : Int) ∧ x.a ≠ x.b := formed_ru ha.1 h
    have l1 := (atoms_comp ha.1).lt (show x.a.toNat < a by omega)
    have l2 := (atoms_comp ha.1).lt (show x.b.toNat < a by omega)
    have h1 := aA x.a.toNat (by omega)
    have h2 := aA x.b.toNat (by omega)
    rw [range_get (by omega), range_get l1] at h1
    rw [range_get (by omega), range_get l2] at h2
    exact ca x (List.mem_filter.2 ⟨h, decide_eq_true hk⟩) (by omega)
  · obtain ⟨y, hy, rfl⟩ := List.mem_map.1 h
    have q1 : (y.k = 1 ∨ y.k = 2) ∧ 0 ≤ y.a ∧ y.a < (b : Int) ∧ 0 ≤ y.b ∧ y.b < (b : Int) ∧ y.a ≠ y.b := formed_ru hb.1 hy
    have l1 := (atoms_comp hb.1).lt (show y.a.toNat < b by omega)
    have l2 := (atoms_comp hb.1).lt (show y.b.toNat < b by omega)
    have h1 := aB y.a.toNat (by omega)
    have h2 := aB y.b.toNat (by omega)
    rw [usB_get (by omega), usB_get l1] at h1
    rw [usB_get (by omega), usB_get l2] at h2
    have e1 : (shR a y).a.toNat = a + y.a.toNat := by show (y.a + a).toNat = _; omega
    have e2 : (shR a y).b.toNat = a + y.b.toNat := by show (y.b + a).toNat = _; omega
    rw [e1, e2] at e
    exact cb y (List.mem_filter.2 ⟨hy, decide_eq_true hk⟩) (by omega)
/-- Both are solved ivs before. -/
theorem join_solve (ha : (Prob.mk (a : Int) pa ra).ok) (hb : (Prob.mk (b : Int) pb rb).ok) (hn : a + b ≤ 200) (hr : ra.length + rb.length ≤ 400) : solveR (a + b) (pa ++ pb.map (shP a)) (ra ++ rb.map (shR a)) = solveR a pa ra ++ (solveR b pb rb).map (· + a) := by
  have hok := join_ok ha hb hn hr
  have rA := emb_solveR (join_embA ha.1 hb.1) hok ha
  have rB := emb_solveR (join_embB ha.1 hb.1) hok hb
  have sA := (solveR_spec ha).1
  have sB := (solveR_spec hb).1
  have sW := (solveR_spec hok).1
  apply ext_g
  · rw [sW.1, List.length_append, List.length_map, sA.1, sB.1]
  intro i hi
  rw [sW.1] at hi
  by_cases h : i < a
  · have l1 := (sA.2 i h).1
    have := rA i h
    rw [range_get h, range_get (by omega)] at this
    rw [this, getElem!_pos (solveR a pa ra ++ _) i (by rw [List.length_append, sA.1]; omega), List.getElem_append_left (by rw [sA.1]; exact h), getElem!_pos (solveR a pa ra) i (by rw [sA.1]; exact h)]
  · have hib : i - a < b := by omega
    have l1 := (sB.2 (i - a) hib).1
    have := rB (i - a) hib
    rw [usB_get hib, usB_get (by omega), show a + (i - a) = i by omega] at this
    rw [this, getElem!_pos (solveR a pa ra ++ _) i (by rw [List.length_append, List.length_map, sA.1, sB.1]; omega), List.getElem_append_right (by rw [sA.1]; omega), List.getElem_map]
    have e : i - (solveR a pa ra).length = i - a := by rw [sA.1]
    rw [getElem!_pos (solveR b pb rb) (i - a) (by rw [sB.1]; exact hib)]
    simp only [e]
    omega
end
end Go.D33
end
section
namespace Go.D33
open Go Go.RowKit Go.H
section
variable {n : Nat} {ps : List Pr} {rs : List Ru}
theorem snoc_map {α β : Type} [Inhabited α] (l : List β) (f : α → β) {xs : List α} {k : Nat} (h : k < xs.length) : l ++ (xs.take (k + 1)).map f = (l ++ (xs.take k).map f) ++ [f xs[k]!] := by
  rw [snocP h, List.map_append, ← List.append_assoc]; rfl
def partU (_ : Nat) (prt : List Nat) (f k : Nat) : List Nat := (List.range k).filter fun u => decide (prt[u]! = f)
/-! ### Rules that are turned -/
def turned (x : Ru) : Ru := ⟨x.k, x.b, x.a⟩
def swF (t : Int) (l : List Ru) (k : Nat) : List Ru := (List.range l.length).map fun i => if i < k ∧ (t + i) % 2 = 0 then turned l[i]! else l[i]!
def mustF (atm : List Nat) (k : Nat) : List Ru := ((List.range k).filter fun i => decide (¬ atm[i]! = i)).map fun i : Nat => ⟨1, (i : Int), ((atm[i]! : Nat) : Int)⟩
def cantF (atm : List Nat) (rs : List Ru) : List Ru := (barL rs).map fun x => ⟨2, (atm[x.a.toNat]! : Nat), (atm[x.b.toNat]! : Nat)⟩
def rotF (rs : List Ru) (k : Nat) : List Ru := rs.drop k ++ rs.take k
def allF (t : Int) (n : Nat) (rs : List Ru) (k : Nat) : List Ru := swF t (rotF rs k) rs.length ++ mustF (atomsL n rs) n ++ cantF (atomsL n rs) rs
end
end Go.D33
end
section
namespace Go.Proofs.Ytppamigboeaefaa
open Go Go.RowKit Go.H Go.D33



set_option maxRecDepth 8000 in
/-- bookplate/bookplatelaw33.Own. -/
theorem own_o {N : Int} {ps : List Pr} {rs : List Ru} (hp : ps.length ≤ 1000000) (hr : rs.length ≤ 1000000) :
    Con Try.prog 14 [vA [uI N, .sl 3 (ps.map ePr), .sl 3 (rs.map eRu)]] [] (.agg [vI N, .own 0, .own 1]) [(0, .data 36 3 (ps.map ePr)), (1, .data 38 3 (rs.map eRu))] := by
 obtain ⟨i35, hi35, hz35, hs35, hb35⟩ := hinf35
 obtain ⟨i36, hi36, hz36, hs36, hb36⟩ := hinf36
 obtain ⟨i38, hi38, hz38, hs38, hb38⟩ := hinf38
 refine Con.enterL (n := 28) Try.func14 rfl rfl rfl (fun τ w ok vs hin => ?_)
 have hl0_1 := hin.lenA (i := 0) (j := 1) rfl rfl
 try rw [List.length_map] at hl0_1
 have hl0_2 := hin.lenA (i := 0) (j := 2) rfl rfl
 try rw [List.length_map] at hl0_2
 clear hin
 refine W.rg ?_
 refine SL.memS (O.box (is := [_, _, _]) 101 rfl rfl (by simp) rfl rfl Taken.no) rfl rfl (S' := (101, _) :: _) rfl ?_
 refine SL.memS (O.alloc (z := .agg #[.int .i64 0, .slice none 0 0, .slice none 0 0]) (is := [.u (.sc (.int .i64 0)), .u (.sc (.slice none 0 0)), .u (.sc (.slice none 0 0))]) 102 (by kernel_rfl) rfl rfl rfl Taken.no) rfl rfl (S' := (102, _) :: _) rfl ?_
 refine E.fo (W.seq ?_)
 refine W.draw [⟨[], [], [], [101]⟩, ⟨[101], [], [], []⟩, ⟨[103], [103], [103], []⟩, ⟨[], [], [], [101]⟩, ⟨[101], [], [], []⟩, ⟨[103, 104], [103, 104], [104], []⟩, ⟨[], [], [], [104]⟩, ⟨[105], [105], [105], []⟩, ⟨[104, 105], [105], [], []⟩] rfl (by kernel_rfl) (by kernel_rfl) rfl rfl ?_
 refine WH.val (O.fld_ref (o' := 0) rfl Try.underlying25 rfl (m := 0) (by kernel_rfl) rfl rfl Taken.no) rfl rfl ?_
 refine WH.val (O.ld1 (PtI.ref rfl rfl) rfl Try.underlying3 rfl rfl Taken.no) rfl rfl ?_
 refine WH.memS (O.buildSlice 103 (rows := ([] : List Ru).map eRu) rfl rfl Try.underlying23 hi38 hz38 hs38 (by decide) rfl (by decide) rfl rfl rfl Taken.no) rfl rfl rfl rfl rfl (S' := (103, .data 38 3 (([] : List Ru).map eRu)) :: _) rfl ?_
 refine WH.val (O.fld_ref (o' := 2) rfl Try.underlying25 rfl (m := 0) (by kernel_rfl) rfl rfl Taken.no) rfl rfl ?_
 refine WH.val (O.ld1 (PtI.ref rfl rfl) rfl Try.underlying23 rfl rfl Taken.no) rfl rfl ?_
 refine WH.memS (O.app (k' := 104) rfl rfl (SlOf.fz rfl (by decide)) Try.underlying23 hi38 hz38 hs38 rfl rfl (by exact List.nil_append _) (by rw [hb38]; (simp only [List.length_map, List.length_nil]; omega)) (by (simp only [List.length_map, List.length_nil]; omega)) rfl Taken.no) rfl rfl rfl rfl rfl (S' := (104, _) :: (103, .dead) :: _) rfl ?_
 refine WH.val (O.build (res := [_, _, _]) (z := .agg #[.int .i64 0, .slice none 0 0, .slice none 0 0]) (places := [(0, 1), (1, 1), (2, 1)]) rfl rfl Try.underlying32 (by kernel_rfl) (fun _ => by kernel_rfl) rfl rfl Taken.no) rfl rfl ?_
 refine WH.memS (O.alloc (z := .agg #[.int .i64 0, .slice none 0 0, .slice none 0 0]) (is := [.u (.sc (.int .i64 0)), .u (.sc (.slice none 0 0)), .u (.sc (.slice none 0 0))]) 105 (by kernel_rfl) rfl rfl rfl Taken.no) rfl rfl rfl rfl rfl (S' := (105, _) :: _) rfl ?_
 refine WH.effS (O.st_ref (m := 3) rfl rfl rfl (js := [_, _, _]) rfl rfl (by kernel_rfl) (by simp) (Nat.le_of_ble_eq_true rfl) rfl (is' := [_, _, _]) rfl Taken.no) rfl rfl rfl (S' := (105, _) :: _) rfl ?_
 refine WH.nil (E.to (W.seq (W.rg ?_)))
 refine SL.val (O.fld_ref (o' := 1) rfl Try.underlying25 rfl (m := 0) (by kernel_rfl) rfl rfl Taken.no) ?_
 refine SL.val (O.ld1 (PtI.ref rfl rfl) rfl Try.underlying22 rfl rfl Taken.no) ?_
 refine SL.val (O.lenE (SlOf.fz rfl (by decide)) (by first | exact List.length_map _ | rfl) Try.underlying22 rfl Taken.no) ?_
 refine SL.mv rfl rfl (E.fo (W.block ?_))
 refine W.adoptC 105 1 108 36 3 (is' := [_, _, _]) (by decide) rfl rfl rfl rfl rfl ?_
 refine W.loopx1 (fun (k : Nat) => [(16, vI (k : Int))]) (fun (k : Nat) => [(106, .data 36 3 ((ps.take k).map ePr)), (107, .data 38 3 (rs.map eRu)), (105, .cells 32 [vI N, .own 106, .own 107])]) (fun (k : Nat) => k ≤ ps.length) (fun (k : Nat) => ps.length - k) (0) (rn [(106, 108), (107, 104)]) (.cons (t := 2) rfl (.cons (t := 3) rfl (.cons (t := 14) rfl (.cons (t := 15) rfl .nil)))) (.cons (t := 101) rfl (.cons (t := 102) rfl .nil)) rfl ?_ ?_ rfl rfl ?_ ?_
 · exact (SubF.cons rfl SubF.nil)
 · exact (SubS.cons rfl (SubS.cons rfl (SubS.cons rfl SubS.nil)))
 ·skip
  omega
 intro k hinv
 have hk := hinv
 refine W.rg ?_
 refine SL.val (O.det (fun _ => G.R.lss rfl rfl) rfl Taken.no) ?_
 refine E.fo (W.seq ?_)
 first | refine W.cond_d rfl (fun hc1 => ?_) (fun hc1 => ?_) | refine W.cond_nd rfl (fun hc1 => ?_) (fun hc1 => ?_) | refine W.cond rfl (fun hc1 => ?_) (fun hc1 => ?_)
 ·skip
  refine W.skip (E.to (W.seq (W.block (W.rg ?_))))
  refine SL.val (O.idx_fz rfl rfl (rfl) (row_get (by omega)) Try.underlying22 hi35 hs35 rfl Taken.no) ?_
  refine SL.val (O.ldU (m := 3) (PtU.fz rfl) rfl Try.underlying35 rfl (by kernel_rfl) rfl Taken.no) ?_
  refine SL.memS (O.alloc (z := .agg #[.int .i64 0, .int .i64 0, .int .i64 0]) (is := [.u (.sc (.int .i64 0)), .u (.sc (.int .i64 0)), .u (.sc (.int .i64 0))]) 109 (by kernel_rfl) rfl rfl rfl Taken.no) rfl rfl (S' := (109, _) :: _) rfl ?_
  refine SL.effS (O.st_ref (m := 3) rfl rfl rfl (js := [_, _, _]) rfl rfl (by kernel_rfl) (by simp) (Nat.le_of_ble_eq_true rfl) rfl (is' := [_, _, _]) rfl Taken.no) (S' := (109, _) :: _) rfl ?_
  refine E.fo (W.region ?_)
  refine SL.val (O.fld_ref (o' := 1) rfl Try.underlying32 rfl (m := 0) (by kernel_rfl) rfl rfl Taken.no) ?_
  refine SL.val (O.ld1 (PtI.ref rfl rfl) rfl Try.underlying30 rfl rfl Taken.no) ?_
  refine SL.val (O.ldN (m := 3) (PtI.ref rfl rfl) (js := [_, _, _]) rfl (Nat.le_of_ble_eq_true rfl) Try.underlying35 rfl (by kernel_rfl) rfl Taken.no) ?_
  refine SL.memS (O.buildSlice 110 (rows := [ps[k]!].map ePr) rfl rfl Try.underlying30 hi36 hz36 hs36 (by decide) rfl (by decide) rfl rfl rfl Taken.no) rfl rfl (S' := (110, .data 36 3 ([ps[k]!].map ePr)) :: _) rfl ?_
  refine SL.memS (O.app (k' := 111) rfl rfl (SlOf.own rfl rfl) Try.underlying30 hi36 hz36 hs36 rfl rfl (by exact app_map) (by rw [hb36]; (simp only [List.length_map, List.length_singleton, List.length_take]; omega)) (by (simp only [List.length_map, List.length_singleton, List.length_take]; omega)) rfl Taken.no) rfl rfl (S' := (111, _) :: (106, .dead) :: _) rfl ?_
  refine SL.val (O.fld_ref (o' := 1) rfl Try.underlying32 rfl (m := 0) (by kernel_rfl) rfl rfl Taken.no) ?_
  refine SL.effS (O.st_ref (m := 1) rfl rfl rfl (js := [_]) rfl rfl (by kernel_rfl) (by simp) (Nat.le_of_ble_eq_true rfl) rfl (is' := [_, _, _]) rfl Taken.no) (S' := (105, _) :: _) rfl ?_
  refine SL.nil (E.inn (E.to (W.region ?_)))
  refine SL.val (O.det (fun _ => by first | exact G.R.add64 rfl rfl (by omega) | exact G.R.add rfl rfl) rfl Taken.no) ?_
  refine SL.mv rfl rfl (SL.nil ?_)
  refine E.again ((k + 1)) (rn [(106, 111)]) ?_ ?_ rfl (fixL_spec rfl) ?_ ?_
  · exact (SubF.cons rfl (SubF.cons rfl (SubF.cons rfl (SubF.cons rfl (SubF.cons rfl SubF.nil)))))
  · exact (SubS.val rfl (by (try dsimp only); exact sb_data (by rw [snocP (by omega)])) (SubS.cons rfl (SubS.cons rfl (SubS.cons rfl (SubS.cons rfl SubS.nil)))))
  ·try dsimp only
   omega
  · (try dsimp only); omega
 ·skip
  refine W.exit (E.th (E.th (E.hit (E.to (W.rg ?_)))))
  refine SL.val (O.ldN (m := 3) (PtI.ref rfl rfl) (js := [_, _, _]) rfl (Nat.le_of_ble_eq_true rfl) Try.underlying32 rfl (by kernel_rfl) rfl Taken.no) ?_
  refine SL.effS (O.st_ref (m := 3) rfl rfl rfl (js := [_, _, _]) rfl rfl (by kernel_rfl) (by simp) (Nat.le_of_ble_eq_true rfl) rfl (is' := [_, _, _]) rfl Taken.no) (S' := (102, _) :: _) rfl ?_
  refine E.fo (W.ret ?_)
  refine E.fin (rs := [_]) (rn [(0, 106), (1, 107)]) (.inl rfl) rfl (.cons (ResOne.cellN (m := 3) (PtI.ref rfl rfl) (js := [_, _, _]) rfl (Nat.le_of_ble_eq_true rfl) Try.underlying32 rfl (by kernel_rfl)) .nil) ?_ ?_ rfl (fixL_spec rfl)
  ·skip
   rfl
  · exact (SubS.val rfl (by exact sb_data (by rw [show k = ps.length by omega, List.take_length])) (SubS.cons rfl SubS.nil))




set_option maxRecDepth 8000 in
set_option maxHeartbeats 6400000 in
/-- bookplate/bookplatelaw33.ClusterJoined. -/
theorem clusterJoined_ok {a b : Nat} {pa pb : List Pr} {ra rb : List Ru} (hoka : (Prob.mk (a : Int) pa ra).ok) (hokb : (Prob.mk (b : Int) pb rb).ok) :
    Con Try.prog 3 [vA [uI (a : Int), .sl 3 (pa.map ePr), .sl 3 (ra.map eRu)], vA [uI (b : Int), .sl 3 (pb.map ePr), .sl 3 (rb.map eRu)]] [] (vB true) [] := by
 have hra := hoka.1.2.2.1
 have hrb := hokb.1.2.2.1
 have hra4 : ra.length ≤ 400 := hra
 have hrb4 : rb.length ≤ 400 := hrb
 obtain ⟨i3, hi3, hz3, hs3, hb3⟩ := hinf3
 obtain ⟨i35, hi35, hz35, hs35, hb35⟩ := hinf35
 obtain ⟨i36, hi36, hz36, hs36, hb36⟩ := hinf36
 obtain ⟨i38, hi38, hz38, hs38, hb38⟩ := hinf38
 refine Con.enterL (n := 159) Try.func3 rfl rfl rfl (fun τ w ok vs hin => ?_)
 have hl0_1 := hin.lenA (i := 0) (j := 1) rfl rfl
 try rw [List.length_map] at hl0_1
 have hl0_2 := hin.lenA (i := 0) (j := 2) rfl rfl
 try rw [List.length_map] at hl0_2
 have hl1_1 := hin.lenA (i := 1) (j := 1) rfl rfl
 try rw [List.length_map] at hl1_1
 have hl1_2 := hin.lenA (i := 1) (j := 2) rfl rfl
 try rw [List.length_map] at hl1_2
 clear hin
 refine W.rg ?_
 refine SL.memS (O.box (is := [_, _, _]) 101 rfl rfl (by simp) rfl rfl Taken.no) rfl rfl (S' := (101, _) :: _) rfl ?_
 refine SL.memS (O.box (is := [_, _, _]) 102 rfl rfl (by simp) rfl rfl Taken.no) rfl rfl (S' := (102, _) :: _) rfl ?_
 refine SL.an rfl rfl (E.fo (W.seq (W.rg ?_)))
 refine SL.val (O.callp rfl rfl rfl (awake_h) .nil hcallOk11 rfl Taken.no) ?_
 refine SL.as (i' := vB true) 19 rfl (by rfl) ?_
 refine SL.val (O.det (fun _ => G.R.mv (G.R.not rfl) rfl) rfl Taken.no) ?_
 refine SL.mv rfl rfl ?_
 have hg1 : false = false := by decide
 refine SL.val (O.ldN (m := 3) (PtI.ref rfl rfl) (js := [_, _, _]) rfl (Nat.le_of_ble_eq_true rfl) Try.underlying25 rfl (by kernel_rfl) rfl (Taken.yes rfl rfl hg1)) ?_
 refine SL.val (O.callp rfl rfl rfl (few_h) (.cons (ArgOk.aggU (.cons (ArgOk.same rfl) (.cons (ArgOk.same rfl) (.cons (ArgOk.same rfl) .nil)))) .nil) hcallOk12 rfl (Taken.yes rfl rfl hg1)) ?_
 refine SL.val (O.det (fun _ => G.R.not rfl) rfl (Taken.yes rfl rfl hg1)) ?_
 refine SL.val (O.pick_f rfl rfl rfl rfl Taken.no) ?_
 refine SL.mv rfl rfl ?_
 refine SL.case (j := 7) (g := 26) (want := false) rfl rfl (fun hg2 => ?_) (fun hg2 => ?_)
 ·skip
  first | have hg2p := G.gA3 hg2 | have hg2p := G.gA4 hg2 | have hg2p := hg2
  have hfa : ((a : Int) ≤ 9 ∨ 200 < (a : Int)) ∧ pa.length ≤ 40 ∧ (ra.length ≤ 12 ∨ ra.length = 401) := by simp_all
  refine SL.val (O.ldN (m := 3) (PtI.ref rfl rfl) (js := [_, _, _]) rfl (Nat.le_of_ble_eq_true rfl) Try.underlying25 rfl (by kernel_rfl) rfl (Taken.yes rfl rfl hg2)) ?_
  refine SL.val (O.callp rfl rfl rfl (few_h) (.cons (ArgOk.aggU (.cons (ArgOk.same rfl) (.cons (ArgOk.same rfl) (.cons (ArgOk.same rfl) .nil)))) .nil) hcallOk12 rfl (Taken.yes rfl rfl hg2)) ?_
  refine SL.val (O.det (fun _ => G.R.not rfl) rfl (Taken.yes rfl rfl hg2)) ?_
  refine SL.val (O.pick_f rfl hg2 rfl rfl Taken.no) ?_
  refine SL.mv rfl rfl ?_
  refine SL.case (j := 12) (g := 31) (want := false) rfl rfl (fun hg3 => ?_) (fun hg3 => ?_)
  ·skip
   first | have hg3p := G.gA3 hg3 | have hg3p := G.gA4 hg3 | have hg3p := hg3
   have hfb : ((b : Int) ≤ 9 ∨ 200 < (b : Int)) ∧ pb.length ≤ 40 ∧ (rb.length ≤ 12 ∨ rb.length = 401) := by simp_all
   refine SL.val (O.fld_ref (o' := 0) rfl Try.underlying25 rfl (m := 0) (by kernel_rfl) rfl rfl (Taken.yes rfl rfl hg3)) ?_
   refine SL.val (O.ld1 (PtI.ref rfl rfl) rfl Try.underlying3 rfl rfl (Taken.yes rfl rfl hg3)) ?_
   refine SL.val (O.det (fun _ => G.R.gtr rfl rfl) rfl (Taken.yes rfl rfl hg3)) ?_
   refine SL.val (O.pick_f rfl hg3 rfl rfl Taken.no) ?_
   refine SL.mv rfl rfl ?_
   refine SL.case (j := 17) (g := 36) (want := false) rfl rfl (fun hg4 => ?_) (fun hg4 => ?_)
   ·skip
    first | have hg4p := G.gA3 hg4 | have hg4p := G.gA4 hg4 | have hg4p := hg4
    refine SL.val (O.fld_ref (o' := 0) rfl Try.underlying25 rfl (m := 0) (by kernel_rfl) rfl rfl (Taken.yes rfl rfl hg4)) ?_
    refine SL.val (O.ld1 (PtI.ref rfl rfl) rfl Try.underlying3 rfl rfl (Taken.yes rfl rfl hg4)) ?_
    refine SL.val (O.det (fun _ => G.R.gtr rfl rfl) rfl (Taken.yes rfl rfl hg4)) ?_
    refine SL.val (O.pick_f rfl hg4 rfl rfl Taken.no) ?_
    refine SL.mv rfl rfl ?_
    refine SL.case (j := 22) (g := 41) (want := false) rfl rfl (fun hg5 => ?_) (fun hg5 => ?_)
    ·skip
     first | have hg5p := G.gA3 hg5 | have hg5p := G.gA4 hg5 | have hg5p := hg5
     refine SL.val (O.ldN (m := 3) (PtI.ref rfl rfl) (js := [_, _, _]) rfl (Nat.le_of_ble_eq_true rfl) Try.underlying25 rfl (by kernel_rfl) rfl (Taken.yes rfl rfl hg5)) ?_
     refine SL.val (O.callp rfl rfl rfl (refvalid_h (N := (a : Int)) (ps := pa) (rs := ra)) (.cons (ArgOk.aggU (.cons (ArgOk.same rfl) (.cons (ArgOk.same rfl) (.cons (ArgOk.same rfl) .nil)))) .nil) hcallOk13 rfl (Taken.yes rfl rfl hg5)) ?_
     refine SL.as (i' := vI 0) 43 rfl (by rw [Prob.err_0 hoka]) ?_
     refine SL.val (O.det (fun _ => G.R.mv (G.R.neq rfl rfl) (congrArg Value.bool (decide_eq_false (by decide)))) rfl (Taken.yes rfl rfl hg5)) ?_
     refine SL.val (O.pick_f rfl hg5 rfl rfl Taken.no) ?_
     refine SL.mv rfl rfl ?_
     have hg6 : false = false := by decide
     refine SL.val (O.ldN (m := 3) (PtI.ref rfl rfl) (js := [_, _, _]) rfl (Nat.le_of_ble_eq_true rfl) Try.underlying25 rfl (by kernel_rfl) rfl (Taken.yes rfl rfl hg6)) ?_
     refine SL.val (O.callp rfl rfl rfl (refvalid_h (N := (b : Int)) (ps := pb) (rs := rb)) (.cons (ArgOk.aggU (.cons (ArgOk.same rfl) (.cons (ArgOk.same rfl) (.cons (ArgOk.same rfl) .nil)))) .nil) hcallOk13 rfl (Taken.yes rfl rfl hg6)) ?_
     refine SL.as (i' := vI 0) 48 rfl (by rw [Prob.err_0 hokb]) ?_
     refine SL.val (O.det (fun _ => G.R.mv (G.R.neq rfl rfl) (congrArg Value.bool (decide_eq_false (by decide)))) rfl (Taken.yes rfl rfl hg6)) ?_
     refine SL.val (O.pick_f rfl rfl rfl rfl Taken.no) ?_
     refine E.fo ?_
     refine W.pick (K:=[(2,_),(3,_),(4,_),(50,_)]) (Z:=[(101,_),(102,_)]) ⟨rfl,rfl,rfl,rfl,trivial⟩ ⟨rfl,rfl,trivial⟩ ?_
     refine W.cond_f rfl ?_
     refine W.skip (E.to (W.rg ?_))
     refine SL.val (O.ldN (m := 3) (PtI.ref rfl rfl) (js := [_, _, _]) rfl (Nat.le_of_ble_eq_true rfl) Try.underlying25 rfl (by kernel_rfl) rfl Taken.no) ?_
     refine SL.memS (O.call (rn [(0, 103), (1, 104)]) [] rfl rfl rfl (own_o (N := (a : Int)) (ps := pa) (rs := ra) (by omega) (by omega)) (.cons (ArgOk.aggU (.cons (ArgOk.same rfl) (.cons (ArgOk.same rfl) (.cons (ArgOk.same rfl) .nil)))) .nil) SubS.nil rfl rfl rfl rfl rfl (.inl rfl) hcallOk14 (r' := .agg [.u _, .own 103, .own 104]) rfl rfl Taken.no) rfl rfl (S' := (103, .data _ _ _) :: (104, .data _ _ _) :: _) rfl ?_
     refine SL.memS (O.alloc (z := .agg #[.int .i64 0, .slice none 0 0, .slice none 0 0]) (is := [.u (.sc (.int .i64 0)), .u (.sc (.slice none 0 0)), .u (.sc (.slice none 0 0))]) 105 (by kernel_rfl) rfl rfl rfl Taken.no) rfl rfl (S' := (105, _) :: _) rfl ?_
     refine SL.effS (O.st_ref (m := 3) rfl rfl rfl (js := [_, _, _]) rfl rfl (by kernel_rfl) (by simp) (Nat.le_of_ble_eq_true rfl) rfl (is' := [_, _, _]) rfl Taken.no) (S' := (105, _) :: _) rfl ?_
     refine E.fo (W.rg ?_)
     have hjo := join_ok hoka hokb (by omega) (by omega)
     have hjs := join_solve hoka hokb (by omega) (by omega)
     refine SL.val (O.fld_ref (o' := 0) rfl Try.underlying32 rfl (m := 0) (by kernel_rfl) rfl rfl Taken.no) ?_
     refine SL.val (O.ld1 (PtI.ref rfl rfl) rfl Try.underlying3 rfl rfl Taken.no) ?_
     refine SL.val (O.fld_ref (o' := 0) rfl Try.underlying25 rfl (m := 0) (by kernel_rfl) rfl rfl Taken.no) ?_
     refine SL.val (O.ld1 (PtI.ref rfl rfl) rfl Try.underlying3 rfl rfl Taken.no) ?_
     refine SL.val (O.det (fun _ => G.R.mv (G.R.add64 rfl rfl (by omega)) (congrArg (Value.int .i64) (show _ = ((a + b : Nat) : Int) by omega))) rfl Taken.no) ?_
     refine SL.val (O.fld_ref (o' := 0) rfl Try.underlying32 rfl (m := 0) (by kernel_rfl) rfl rfl Taken.no) ?_
     refine SL.effS (O.st_ref (m := 1) rfl rfl rfl (js := [_]) rfl rfl (by kernel_rfl) (by simp) (Nat.le_of_ble_eq_true rfl) rfl (is' := [_, _, _]) rfl Taken.no) (S' := (105, _) :: _) rfl ?_
     refine E.fo (W.seq (W.rg ?_))
     refine SL.val (O.fld_ref (o' := 1) rfl Try.underlying25 rfl (m := 0) (by kernel_rfl) rfl rfl Taken.no) ?_
     refine SL.val (O.ld1 (PtI.ref rfl rfl) rfl Try.underlying22 rfl rfl Taken.no) ?_
     refine SL.val (O.lenE (SlOf.fz rfl (by decide)) (by first | exact List.length_map _ | rfl) Try.underlying22 rfl Taken.no) ?_
     refine SL.mv rfl rfl (E.fo (W.block ?_))
     refine W.loopx1 (fun (k : Nat) => [(63, vI (k : Int))]) (fun (k : Nat) => [(106, .data 36 3 ((pa ++ (pb.take k).map (shP a)).map ePr)), (107, .data 38 3 (ra.map eRu)), (105, .cells 32 [vI ((a + b : Nat) : Int), .own 106, .own 107])]) (fun (k : Nat) => k ≤ pb.length) (fun (k : Nat) => pb.length - k) (0) (rn [(106, 103), (107, 104)]) (.cons (t := 2) rfl (.cons (t := 3) rfl (.cons (t := 4) rfl (.cons (t := 5) rfl (.cons (t := 61) rfl (.cons (t := 62) rfl .nil)))))) (.cons (t := 101) rfl (.cons (t := 102) rfl .nil)) rfl ?_ ?_ rfl rfl ?_ ?_
     · exact (SubF.cons rfl SubF.nil)
     · exact (SubS.val rfl (by exact sb_data (by rw [List.take_zero, List.map_nil, List.append_nil])) (SubS.cons rfl (SubS.cons rfl SubS.nil)))
     ·skip
      omega
     intro k hinv
     have hk := hinv
     refine W.rg ?_
     refine SL.val (O.det (fun _ => G.R.lss rfl rfl) rfl Taken.no) ?_
     refine E.fo (W.seq ?_)
     first | refine W.cond_d rfl (fun hc7 => ?_) (fun hc7 => ?_) | refine W.cond_nd rfl (fun hc7 => ?_) (fun hc7 => ?_) | refine W.cond rfl (fun hc7 => ?_) (fun hc7 => ?_)
     ·skip
      have hpk : prOk (b : Int) pb[k]! := (hokb.1.2.2.2.1 k (by show k < pb.length; omega)).1
      unfold prOk at hpk
      refine W.skip (E.to (W.seq (W.block (W.rg ?_))))
      refine SL.val (O.idx_fz (i := k) rfl rfl (rfl) (row_get (by omega)) Try.underlying22 hi35 hs35 rfl Taken.no) ?_
      refine SL.val (O.ldU (m := 3) (PtU.fz rfl) rfl Try.underlying35 rfl (by kernel_rfl) rfl Taken.no) ?_
      refine SL.memS (O.alloc (z := .agg #[.int .i64 0, .int .i64 0, .int .i64 0]) (is := [.u (.sc (.int .i64 0)), .u (.sc (.int .i64 0)), .u (.sc (.int .i64 0))]) 108 (by kernel_rfl) rfl rfl rfl Taken.no) rfl rfl (S' := (108, _) :: _) rfl ?_
      refine SL.effS (O.st_ref (m := 3) rfl rfl rfl (js := [_, _, _]) rfl rfl (by kernel_rfl) (by simp) (Nat.le_of_ble_eq_true rfl) rfl (is' := [_, _, _]) rfl Taken.no) (S' := (108, _) :: _) rfl ?_
      refine E.fo (W.region ?_)
      refine SL.val (O.fld_ref (o' := 1) rfl Try.underlying32 rfl (m := 0) (by kernel_rfl) rfl rfl Taken.no) ?_
      refine SL.val (O.ld1 (PtI.ref rfl rfl) rfl Try.underlying30 rfl rfl Taken.no) ?_
      refine SL.val (O.fld_ref (o' := 0) rfl Try.underlying35 rfl (m := 0) (by kernel_rfl) rfl rfl Taken.no) ?_
      refine SL.val (O.ld1 (PtI.ref rfl rfl) rfl Try.underlying3 rfl rfl Taken.no) ?_
      refine SL.val (O.fld_ref (o' := 0) rfl Try.underlying25 rfl (m := 0) (by kernel_rfl) rfl rfl Taken.no) ?_
      refine SL.val (O.ld1 (PtI.ref rfl rfl) rfl Try.underlying3 rfl rfl Taken.no) ?_
      refine SL.val (O.det (fun _ => by first | exact G.R.add64 rfl rfl (by omega) | exact G.R.add rfl rfl) rfl Taken.no) ?_
      refine SL.val (O.fld_ref (o' := 1) rfl Try.underlying35 rfl (m := 0) (by kernel_rfl) rfl rfl Taken.no) ?_
      refine SL.val (O.ld1 (PtI.ref rfl rfl) rfl Try.underlying3 rfl rfl Taken.no) ?_
      refine SL.val (O.fld_ref (o' := 0) rfl Try.underlying25 rfl (m := 0) (by kernel_rfl) rfl rfl Taken.no) ?_
      refine SL.val (O.ld1 (PtI.ref rfl rfl) rfl Try.underlying3 rfl rfl Taken.no) ?_
      refine SL.val (O.det (fun _ => by first | exact G.R.add64 rfl rfl (by omega) | exact G.R.add rfl rfl) rfl Taken.no) ?_
      refine SL.val (O.fld_ref (o' := 2) rfl Try.underlying35 rfl (m := 0) (by kernel_rfl) rfl rfl Taken.no) ?_
      refine SL.val (O.ld1 (PtI.ref rfl rfl) rfl Try.underlying3 rfl rfl Taken.no) ?_
      refine SL.val (O.build (res := [_, _, _]) (z := .agg #[.int .i64 0, .int .i64 0, .int .i64 0]) (places := [(0, 1), (1, 1), (2, 1)]) rfl rfl Try.underlying36 (by kernel_rfl) (fun _ => by kernel_rfl) rfl rfl Taken.no) ?_
      refine SL.memS (O.buildSlice 109 (rows := [shP a pb[k]!].map ePr) rfl rfl Try.underlying30 hi36 hz36 hs36 (by decide) rfl (by decide) rfl rfl rfl Taken.no) rfl rfl (S' := (109, .data 36 3 ([shP a pb[k]!].map ePr)) :: _) rfl ?_
      refine SL.memS (O.app (k' := 110) rfl rfl (SlOf.own rfl rfl) Try.underlying30 hi36 hz36 hs36 rfl rfl (by exact app_map) (by rw [hb36]; (simp only [List.length_map, List.length_singleton, List.length_append, List.length_take]; omega)) (by (simp only [List.length_map, List.length_singleton, List.length_append, List.length_take]; omega)) rfl Taken.no) rfl rfl (S' := (110, _) :: (106, .dead) :: _) rfl ?_
      refine SL.val (O.fld_ref (o' := 1) rfl Try.underlying32 rfl (m := 0) (by kernel_rfl) rfl rfl Taken.no) ?_
      refine SL.effS (O.st_ref (m := 1) rfl rfl rfl (js := [_]) rfl rfl (by kernel_rfl) (by simp) (Nat.le_of_ble_eq_true rfl) rfl (is' := [_, _, _]) rfl Taken.no) (S' := (105, _) :: _) rfl ?_
      refine SL.nil (E.inn (E.to ?_))
      refine W.pick (K:=[(2,_),(3,_),(4,_),(5,_),(61,_),(62,_),(63,_)]) (Z:=[(101,_),(102,_),(105,_),(107,_),(108,_),(109,_),(110,_)]) ⟨rfl,rfl,rfl,rfl,rfl,rfl,rfl,trivial⟩ ⟨rfl,rfl,rfl,rfl,rfl,rfl,rfl,trivial⟩ ?_
      refine W.region ?_
      refine SL.val (O.det (fun _ => by first | exact G.R.add64 rfl rfl (by omega) | exact G.R.add rfl rfl) rfl Taken.no) ?_
      refine SL.mv rfl rfl (SL.nil ?_)
      refine E.again ((k + 1)) (rn [(106, 110)]) ?_ ?_ rfl (fixL_spec rfl) ?_ ?_
      · exact (SubF.cons rfl (SubF.cons rfl (SubF.cons rfl (SubF.cons rfl (SubF.cons rfl (SubF.cons rfl (SubF.cons rfl SubF.nil)))))))
      · exact (SubS.val rfl (by (try dsimp only); exact sb_data (by rw [snoc_map _ _ (by omega)]; try exact app_map)) (SubS.cons rfl (SubS.cons rfl (SubS.cons rfl (SubS.cons rfl SubS.nil)))))
      ·try dsimp only
       omega
      · (try dsimp only); omega
     ·skip
      refine W.exit (E.th (E.th (E.hit (E.to (W.seq (W.rg ?_))))))
      refine SL.val (O.fld_ref (o' := 2) rfl Try.underlying25 rfl (m := 0) (by kernel_rfl) rfl rfl Taken.no) ?_
      refine SL.val (O.ld1 (PtI.ref rfl rfl) rfl Try.underlying23 rfl rfl Taken.no) ?_
      refine SL.val (O.lenE (SlOf.fz rfl (by decide)) (by first | exact List.length_map _ | rfl) Try.underlying23 rfl Taken.no) ?_
      refine SL.mv rfl rfl (E.fo (W.block ?_))
      refine W.loopx1 (fun (i : Nat) => [(89, vI (i : Int))]) (fun (i : Nat) => [(111, .data 36 3 ((pa ++ pb.map (shP a)).map ePr)), (112, .data 38 3 ((ra ++ (rb.take i).map (shR a)).map eRu)), (105, .cells 32 [vI ((a + b : Nat) : Int), .own 111, .own 112])]) (fun (i : Nat) => i ≤ rb.length) (fun (i : Nat) => rb.length - i) (0) (rn [(111, 106), (112, 107)]) (.cons (t := 2) rfl (.cons (t := 3) rfl (.cons (t := 4) rfl (.cons (t := 5) rfl (.cons (t := 87) rfl (.cons (t := 88) rfl .nil)))))) (.cons (t := 101) rfl (.cons (t := 102) rfl .nil)) rfl ?_ ?_ rfl rfl ?_ ?_
      · exact (SubF.cons rfl SubF.nil)
      · exact (SubS.val rfl (by exact sb_data (by rw [show k = pb.length by omega, List.take_length])) (SubS.val rfl (by exact sb_data (by rw [List.take_zero, List.map_nil, List.append_nil])) (SubS.cons rfl SubS.nil)))
      ·skip
       omega
      intro i hinv
      have hi := hinv
      refine W.rg ?_
      refine SL.val (O.det (fun _ => G.R.lss rfl rfl) rfl Taken.no) ?_
      refine E.fo (W.seq ?_)
      first | refine W.cond_d rfl (fun hc8 => ?_) (fun hc8 => ?_) | refine W.cond_nd rfl (fun hc8 => ?_) (fun hc8 => ?_) | refine W.cond rfl (fun hc8 => ?_) (fun hc8 => ?_)
      ·skip
       have hrk : ruOk (b : Int) rb[i]! := hokb.1.2.2.2.2 i (by show i < rb.length; omega)
       unfold ruOk at hrk
       refine W.skip (E.to (W.seq (W.block (W.rg ?_))))
       refine SL.val (O.idx_fz (i := i) rfl rfl (rfl) (row_get (by omega)) Try.underlying23 hi38 hs38 rfl Taken.no) ?_
       refine SL.val (O.ldU (m := 3) (PtU.fz rfl) rfl Try.underlying38 rfl (by kernel_rfl) rfl Taken.no) ?_
       refine SL.memS (O.alloc (z := .agg #[.int .i64 0, .int .i64 0, .int .i64 0]) (is := [.u (.sc (.int .i64 0)), .u (.sc (.int .i64 0)), .u (.sc (.int .i64 0))]) 113 (by kernel_rfl) rfl rfl rfl Taken.no) rfl rfl (S' := (113, _) :: _) rfl ?_
       refine SL.effS (O.st_ref (m := 3) rfl rfl rfl (js := [_, _, _]) rfl rfl (by kernel_rfl) (by simp) (Nat.le_of_ble_eq_true rfl) rfl (is' := [_, _, _]) rfl Taken.no) (S' := (113, _) :: _) rfl ?_
       refine E.fo (W.region ?_)
       refine SL.val (O.fld_ref (o' := 2) rfl Try.underlying32 rfl (m := 0) (by kernel_rfl) rfl rfl Taken.no) ?_
       refine SL.val (O.ld1 (PtI.ref rfl rfl) rfl Try.underlying23 rfl rfl Taken.no) ?_
       refine SL.val (O.fld_ref (o' := 0) rfl Try.underlying38 rfl (m := 0) (by kernel_rfl) rfl rfl Taken.no) ?_
       refine SL.val (O.ld1 (PtI.ref rfl rfl) rfl Try.underlying3 rfl rfl Taken.no) ?_
       refine SL.val (O.fld_ref (o' := 1) rfl Try.underlying38 rfl (m := 0) (by kernel_rfl) rfl rfl Taken.no) ?_
       refine SL.val (O.ld1 (PtI.ref rfl rfl) rfl Try.underlying3 rfl rfl Taken.no) ?_
       refine SL.val (O.fld_ref (o' := 0) rfl Try.underlying25 rfl (m := 0) (by kernel_rfl) rfl rfl Taken.no) ?_
       refine SL.val (O.ld1 (PtI.ref rfl rfl) rfl Try.underlying3 rfl rfl Taken.no) ?_
       refine SL.val (O.det (fun _ => by first | exact G.R.add64 rfl rfl (by omega) | exact G.R.add rfl rfl) rfl Taken.no) ?_
       refine SL.val (O.fld_ref (o' := 2) rfl Try.underlying38 rfl (m := 0) (by kernel_rfl) rfl rfl Taken.no) ?_
       refine SL.val (O.ld1 (PtI.ref rfl rfl) rfl Try.underlying3 rfl rfl Taken.no) ?_
       refine SL.val (O.fld_ref (o' := 0) rfl Try.underlying25 rfl (m := 0) (by kernel_rfl) rfl rfl Taken.no) ?_
       refine SL.val (O.ld1 (PtI.ref rfl rfl) rfl Try.underlying3 rfl rfl Taken.no) ?_
       refine SL.val (O.det (fun _ => by first | exact G.R.add64 rfl rfl (by omega) | exact G.R.add rfl rfl) rfl Taken.no) ?_
       refine SL.val (O.build (res := [_, _, _]) (z := .agg #[.int .i64 0, .int .i64 0, .int .i64 0]) (places := [(0, 1), (1, 1), (2, 1)]) rfl rfl Try.underlying38 (by kernel_rfl) (fun _ => by kernel_rfl) rfl rfl Taken.no) ?_
       refine SL.memS (O.buildSlice 114 (rows := [shR a rb[i]!].map eRu) rfl rfl Try.underlying23 hi38 hz38 hs38 (by decide) rfl (by decide) rfl rfl rfl Taken.no) rfl rfl (S' := (114, .data 38 3 ([shR a rb[i]!].map eRu)) :: _) rfl ?_
       refine SL.memS (O.app (k' := 115) rfl rfl (SlOf.own rfl rfl) Try.underlying23 hi38 hz38 hs38 rfl rfl (by exact app_map) (by rw [hb38]; (simp only [List.length_map, List.length_singleton, List.length_append, List.length_take]; omega)) (by (simp only [List.length_map, List.length_singleton, List.length_append, List.length_take]; omega)) rfl Taken.no) rfl rfl (S' := (115, _) :: (112, .dead) :: _) rfl ?_
       refine SL.val (O.fld_ref (o' := 2) rfl Try.underlying32 rfl (m := 0) (by kernel_rfl) rfl rfl Taken.no) ?_
       refine SL.effS (O.st_ref (m := 1) rfl rfl rfl (js := [_]) rfl rfl (by kernel_rfl) (by simp) (Nat.le_of_ble_eq_true rfl) rfl (is' := [_, _, _]) rfl Taken.no) (S' := (105, _) :: _) rfl ?_
       refine SL.nil (E.inn (E.to ?_))
       refine W.pick (K:=[(2,_),(3,_),(4,_),(5,_),(87,_),(88,_),(89,_)]) (Z:=[(101,_),(102,_),(105,_),(111,_),(113,_),(114,_),(115,_)]) ⟨rfl,rfl,rfl,rfl,rfl,rfl,rfl,trivial⟩ ⟨rfl,rfl,rfl,rfl,rfl,rfl,rfl,trivial⟩ ?_
       refine W.region ?_
       refine SL.val (O.det (fun _ => by first | exact G.R.add64 rfl rfl (by omega) | exact G.R.add rfl rfl) rfl Taken.no) ?_
       refine SL.mv rfl rfl (SL.nil ?_)
       refine E.again ((i + 1)) (rn [(112, 115)]) ?_ ?_ rfl (fixL_spec rfl) ?_ ?_
       · exact (SubF.cons rfl (SubF.cons rfl (SubF.cons rfl (SubF.cons rfl (SubF.cons rfl (SubF.cons rfl (SubF.cons rfl SubF.nil)))))))
       · exact (SubS.cons rfl (SubS.val rfl (by (try dsimp only); exact sb_data (by rw [snoc_map _ _ (by omega)]; try exact app_map)) (SubS.cons rfl (SubS.cons rfl (SubS.cons rfl SubS.nil)))))
       ·try dsimp only
        omega
       · (try dsimp only); omega
      ·skip
       refine W.exit (E.th (E.th (E.hit (E.to (W.seq ?_)))))
       have hil : i = rb.length := by omega
       rw [hil, List.take_length]
       refine W.freezeC 105 1 111 (is' := [_, _, _]) rfl rfl rfl rfl ?_
       refine W.freezeC 105 2 112 (is' := [_, _, _]) rfl rfl rfl rfl ?_
       refine W.region ?_
       refine SL.val (O.ldN (m := 3) (PtI.ref rfl rfl) (js := [_, _, _]) rfl (Nat.le_of_ble_eq_true rfl) Try.underlying32 rfl (by kernel_rfl) rfl Taken.no) ?_
       refine SL.memS (O.call (rn []) [] rfl rfl rfl (solveC_ok hjo) (.cons (ArgOk.aggU (.cons (ArgOk.same rfl) (.cons (ArgOk.same rfl) (.cons (ArgOk.same rfl) .nil)))) .nil) SubS.nil rfl rfl rfl rfl rfl (.inl rfl) hcallOk15 (r' := .tup [.u _, .u _]) rfl rfl Taken.no) rfl rfl (S' := _) rfl ?_
       refine SL.mv rfl rfl ?_
       refine SL.val (O.extract rfl rfl rfl Taken.no) ?_
       refine SL.val (O.extract rfl rfl rfl Taken.no) ?_
       refine SL.an rfl rfl (SL.an rfl rfl (E.fo (W.rg ?_)))
       refine SL.val (O.ldN (m := 3) (PtI.ref rfl rfl) (js := [_, _, _]) rfl (Nat.le_of_ble_eq_true rfl) Try.underlying25 rfl (by kernel_rfl) rfl Taken.no) ?_
       refine SL.memS (O.call (rn []) [] rfl rfl rfl (Con.fz (Con.fz (own_o (by omega) (by omega)) rfl rfl) rfl rfl) (.cons (ArgOk.aggU (.cons (ArgOk.same rfl) (.cons (ArgOk.same rfl) (.cons (ArgOk.same rfl) .nil)))) .nil) SubS.nil rfl rfl rfl rfl rfl (.inl rfl) hcallOk14 (r' := .agg [.u _, .u _, .u _]) rfl rfl Taken.no) rfl rfl (S' := _) rfl ?_
       refine SL.memS (O.call (rn []) [] rfl rfl rfl (solveC_ok hoka) (.cons (ArgOk.aggU (.cons (ArgOk.same rfl) (.cons (ArgOk.same rfl) (.cons (ArgOk.same rfl) .nil)))) .nil) SubS.nil rfl rfl rfl rfl rfl (.inl rfl) hcallOk15 (r' := .tup [.u _, .u _]) rfl rfl Taken.no) rfl rfl (S' := _) rfl ?_
       refine SL.mv rfl rfl ?_
       refine SL.val (O.extract rfl rfl rfl Taken.no) ?_
       refine SL.val (O.extract rfl rfl rfl Taken.no) ?_
       refine SL.an rfl rfl (SL.an rfl rfl (E.fo (W.rg ?_)))
       refine SL.val (O.ldN (m := 3) (PtI.ref rfl rfl) (js := [_, _, _]) rfl (Nat.le_of_ble_eq_true rfl) Try.underlying25 rfl (by kernel_rfl) rfl Taken.no) ?_
       refine SL.memS (O.call (rn []) [] rfl rfl rfl (Con.fz (Con.fz (own_o (by omega) (by omega)) rfl rfl) rfl rfl) (.cons (ArgOk.aggU (.cons (ArgOk.same rfl) (.cons (ArgOk.same rfl) (.cons (ArgOk.same rfl) .nil)))) .nil) SubS.nil rfl rfl rfl rfl rfl (.inl rfl) hcallOk14 (r' := .agg [.u _, .u _, .u _]) rfl rfl Taken.no) rfl rfl (S' := _) rfl ?_
       refine SL.memS (O.call (rn []) [] rfl rfl rfl (solveC_ok hokb) (.cons (ArgOk.aggU (.cons (ArgOk.same rfl) (.cons (ArgOk.same rfl) (.cons (ArgOk.same rfl) .nil)))) .nil) SubS.nil rfl rfl rfl rfl rfl (.inl rfl) hcallOk15 (r' := .tup [.u _, .u _]) rfl rfl Taken.no) rfl rfl (S' := _) rfl ?_
       refine SL.mv rfl rfl ?_
       refine SL.val (O.extract rfl rfl rfl Taken.no) ?_
       refine SL.val (O.extract rfl rfl rfl Taken.no) ?_
       refine SL.an rfl rfl (SL.an rfl rfl (E.fo ?_))
       refine W.pick (K:=[(2,_),(4,_),(10,_),(11,_),(12,_),(13,_),(14,_),(15,_)]) (Z:=[(101,_),(102,_),(105,_)]) ⟨rfl,rfl,rfl,rfl,rfl,rfl,rfl,rfl,trivial⟩ ⟨rfl,rfl,rfl,trivial⟩ ?_
       refine W.seq (W.rg (SL.mv rfl rfl ?_))
       refine SL.val (O.det (fun _ => G.R.mv (G.R.neq rfl rfl) (congrArg Value.bool (decide_eq_false (by decide)))) rfl Taken.no) ?_
       refine SL.mv rfl rfl ?_
       have hg9 : false = false := by decide
       refine SL.val (O.move rfl rfl (Taken.yes rfl rfl hg9)) ?_
       refine SL.val (O.det (fun _ => G.R.mv (G.R.neq rfl rfl) (congrArg Value.bool (decide_eq_false (by decide)))) rfl (Taken.yes rfl rfl hg9)) ?_
       refine SL.val (O.pick_f rfl rfl rfl rfl Taken.no) ?_
       refine SL.mv rfl rfl ?_
       have hg10 : false = false := by decide
       refine SL.val (O.move rfl rfl (Taken.yes rfl rfl hg10)) ?_
       refine SL.val (O.det (fun _ => G.R.mv (G.R.neq rfl rfl) (congrArg Value.bool (decide_eq_false (by decide)))) rfl (Taken.yes rfl rfl hg10)) ?_
       refine SL.val (O.pick_f rfl rfl rfl rfl Taken.no) ?_
       refine E.fo ?_
       refine W.cond_f rfl ?_
       refine W.skip (E.to (W.rg ?_))
       have hsa := (solveR_spec hoka).1.1
       have hsb := (solveR_spec hokb).1
       refine SL.memS (O.buildSlice 116 (rows := ([] : List Nat).map eN) rfl rfl Try.underlying39 hi3 hz3 hs3 (by decide) rfl (by decide) rfl rfl rfl Taken.no) rfl rfl (S' := (116, .data 3 1 (([] : List Nat).map eN)) :: _) rfl ?_
       refine SL.mv rfl rfl ?_
       refine SL.memS (O.app (k' := 117) rfl rfl (SlOf.fz rfl (by decide)) Try.underlying39 hi3 hz3 hs3 rfl rfl (by exact List.nil_append _) (by rw [hb3]; (simp only [List.length_map, List.length_nil]; omega)) (by (simp only [List.length_map, List.length_nil]; omega)) rfl Taken.no) rfl rfl (S' := (117, _) :: (116, .dead) :: _) rfl ?_
       refine SL.an rfl rfl (E.fo (W.seq (W.rg (SL.mv rfl rfl ?_))))
       refine SL.val (O.lenE (SlOf.fz rfl (by decide)) (by first | exact List.length_map _ | rfl) Try.underlying39 rfl Taken.no) ?_
       refine SL.mv rfl rfl (E.fo ?_)
       refine W.pick (K:=[(2,_),(4,_),(10,_),(16,_),(142,_),(143,_),(144,_)]) (Z:=[(101,_),(102,_),(105,_),(117,_)]) ⟨rfl,rfl,rfl,rfl,rfl,rfl,rfl,trivial⟩ ⟨rfl,rfl,rfl,rfl,trivial⟩ ?_
       refine W.block ?_
       refine W.loopx1 (fun (j : Nat) => [(144, vI (j : Int)), (16, .own 118)]) (fun (j : Nat) => [(118, .data 3 1 (((solveR a pa ra) ++ ((solveR b pb rb).take j).map (· + a)).map eN))]) (fun (j : Nat) => j ≤ b) (fun (j : Nat) => b - j) (0) (rn [(118, 117)]) (.cons (t := 2) rfl (.cons (t := 4) rfl (.cons (t := 10) rfl (.cons (t := 142) rfl (.cons (t := 143) rfl .nil))))) (.cons (t := 101) rfl (.cons (t := 102) rfl (.cons (t := 105) rfl .nil))) rfl ?_ ?_ rfl rfl ?_ ?_
       · exact (SubF.cons rfl (SubF.cons rfl SubF.nil))
       · exact (SubS.val rfl (by exact sb_data (by rw [List.take_zero, List.map_nil, List.append_nil])) SubS.nil)
       ·skip
        omega
       intro j hinv
       have hj := hinv
       refine W.rg ?_
       refine SL.val (O.det (fun _ => G.R.lss rfl rfl) rfl Taken.no) ?_
       refine E.fo (W.seq ?_)
       first | refine W.cond_d rfl (fun hc11 => ?_) (fun hc11 => ?_) | refine W.cond_nd rfl (fun hc11 => ?_) (fun hc11 => ?_) | refine W.cond rfl (fun hc11 => ?_) (fun hc11 => ?_)
       ·skip
        have hsl := hsb.1
        have hjs2 := (hsb.2 j (by omega)).1
        refine W.skip (E.to (W.seq (W.block (W.rg ?_))))
        refine SL.val (O.idx_fz (i := j) rfl rfl (rfl) (row_get (by omega)) Try.underlying39 hi3 hs3 rfl Taken.no) ?_
        refine SL.val (O.ld1 (PtI.ofU (PtU.fz rfl)) rfl Try.underlying3 rfl rfl Taken.no) ?_
        refine SL.an rfl rfl (E.fo (W.region (SL.mv rfl rfl (SL.mv rfl rfl ?_))))
        refine SL.val (O.fld_ref (o' := 0) rfl Try.underlying25 rfl (m := 0) (by kernel_rfl) rfl rfl Taken.no) ?_
        refine SL.val (O.ld1 (PtI.ref rfl rfl) rfl Try.underlying3 rfl rfl Taken.no) ?_
        refine SL.val (O.det (fun _ => G.R.mv (G.R.add64 rfl rfl (by omega)) (congrArg (Value.int .i64) (show _ = ((((solveR b pb rb)[j]! + a : Nat)) : Int) by omega))) rfl Taken.no) ?_
        refine SL.memS (O.buildSlice 119 (rows := [(solveR b pb rb)[j]! + a].map eN) rfl rfl Try.underlying39 hi3 hz3 hs3 (by decide) rfl (by decide) rfl rfl rfl Taken.no) rfl rfl (S' := (119, .data 3 1 ([(solveR b pb rb)[j]! + a].map eN)) :: _) rfl ?_
        refine SL.memS (O.app (k' := 120) rfl rfl (SlOf.own rfl rfl) Try.underlying39 hi3 hz3 hs3 rfl rfl (by exact app_map) (by rw [hb3]; (simp only [List.length_map, List.length_singleton, List.length_append, List.length_take]; omega)) (by (simp only [List.length_map, List.length_singleton, List.length_append, List.length_take]; omega)) rfl Taken.no) rfl rfl (S' := (120, _) :: (118, .dead) :: _) rfl ?_
        refine SL.an rfl rfl (SL.nil (E.inn (E.to (W.region ?_))))
        refine SL.val (O.det (fun _ => by first | exact G.R.add64 rfl rfl (by omega) | exact G.R.add rfl rfl) rfl Taken.no) ?_
        refine SL.mv rfl rfl (SL.nil ?_)
        refine E.again ((j + 1)) (rn [(118, 120)]) ?_ ?_ rfl (fixL_spec rfl) ?_ ?_
        · exact (SubF.cons rfl (SubF.cons rfl (SubF.cons rfl (SubF.cons rfl (SubF.cons rfl (SubF.cons rfl (SubF.cons rfl SubF.nil)))))))
        · exact (SubS.val rfl (by (try dsimp only); exact sb_data (by rw [snoc_map _ _ (by have := hsb.1; omega)]; try exact app_map)) (SubS.cons rfl (SubS.cons rfl (SubS.cons rfl SubS.nil))))
        ·try dsimp only
         omega
        · (try dsimp only); omega
       ·skip
        refine W.exit (E.th (E.th (E.hit (E.to (W.seq ?_)))))
        have hsl := hsb.1
        have hjl : j = (solveR b pb rb).length := by omega
        rw [hjl, List.take_length]
        refine W.region (SL.mv rfl rfl (SL.mv rfl rfl ?_))
        refine SL.memS (O.call (rn []) [118] rfl rfl rfl (same_h (a := solveR (a + b) (pa ++ pb.map (shP a)) (ra ++ rb.map (shR a))) (b := (solveR a pa ra) ++ (solveR b pb rb).map (· + a))) (.cons (ArgOk.same rfl) (.cons (ArgOk.own rfl rfl) .nil)) SubS.nil rfl rfl rfl rfl rfl (.inr ⟨rfl, fun x hx => by simp at hx⟩) hcallOk16 (r' := .u _) rfl rfl Taken.no) rfl rfl (S' := _) rfl ?_
        refine SL.as (i' := vB true) 158 rfl (by exact iv_bool (dec_t hjs)) ?_
        refine SL.an rfl rfl (E.fo (W.ret ?_))
        refine E.fin (rs := [_]) (rn []) (.inl rfl) rfl (.cons (ResOne.tmp rfl) .nil) ?_ ?_ rfl (fixL_spec rfl)
        ·skip
         first | rfl | simp_all
        · exact SubS.nil
    ·skip
     first | have hg5p := G.gA7 hg5 | have hg5p := G.gA8 hg5 | have hg5p := hg5
     refine SL.sk rfl rfl rfl hg5 (SL.sk rfl rfl rfl hg5 (SL.sk rfl rfl rfl hg5 ?_))
     refine SL.val (O.pick_t rfl (G.ne_f hg5) rfl rfl Taken.no) ?_
     refine SL.mv rfl rfl ?_
     have hg12 : true ≠ false := by decide
     refine SL.sk rfl rfl rfl hg12 (SL.sk rfl rfl rfl hg12 (SL.sk rfl rfl rfl hg12 ?_))
     refine SL.val (O.pick_t rfl rfl rfl rfl Taken.no) ?_
     refine E.fo ?_
     refine W.pick (K:=[(2,_),(3,_),(4,_),(50,_)]) (Z:=[(101,_),(102,_)]) ⟨rfl,rfl,rfl,rfl,trivial⟩ ⟨rfl,rfl,trivial⟩ ?_
     refine W.cond_t rfl ?_
     refine W.rg ?_
     refine SL.val (O.callp rfl rfl rfl (awake_h) .nil hcallOk11 rfl Taken.no) ?_
     refine SL.an rfl rfl (E.fo (W.ret (E.thr ?_)))
     refine E.fin (rs := [_]) (rn []) (.inl rfl) rfl (.cons (ResOne.tmp rfl) .nil) ?_ ?_ rfl (fixL_spec rfl)
     ·skip
      first | rfl | simp_all
     · exact SubS.nil
   ·skip
    first | have hg4p := G.gA7 hg4 | have hg4p := G.gA8 hg4 | have hg4p := hg4
    refine SL.sk rfl rfl rfl hg4 (SL.sk rfl rfl rfl hg4 (SL.sk rfl rfl rfl hg4 ?_))
    refine SL.val (O.pick_t rfl (G.ne_f hg4) rfl rfl Taken.no) ?_
    refine SL.mv rfl rfl ?_
    have hg13 : true ≠ false := by decide
    refine SL.sk rfl rfl rfl hg13 (SL.sk rfl rfl rfl hg13 (SL.sk rfl rfl rfl hg13 ?_))
    refine SL.val (O.pick_t rfl rfl rfl rfl Taken.no) ?_
    refine SL.mv rfl rfl ?_
    have hg14 : true ≠ false := by decide
    refine SL.sk rfl rfl rfl hg14 (SL.sk rfl rfl rfl hg14 (SL.sk rfl rfl rfl hg14 ?_))
    refine SL.val (O.pick_t rfl rfl rfl rfl Taken.no) ?_
    refine E.fo ?_
    refine W.pick (K:=[(2,_),(3,_),(4,_),(50,_)]) (Z:=[(101,_),(102,_)]) ⟨rfl,rfl,rfl,rfl,trivial⟩ ⟨rfl,rfl,trivial⟩ ?_
    refine W.cond_t rfl ?_
    refine W.rg ?_
    refine SL.val (O.callp rfl rfl rfl (awake_h) .nil hcallOk11 rfl Taken.no) ?_
    refine SL.an rfl rfl (E.fo (W.ret (E.thr ?_)))
    refine E.fin (rs := [_]) (rn []) (.inl rfl) rfl (.cons (ResOne.tmp rfl) .nil) ?_ ?_ rfl (fixL_spec rfl)
    ·skip
     first | rfl | simp_all
    · exact SubS.nil
  ·skip
   first | have hg3p := G.gA7 hg3 | have hg3p := G.gA8 hg3 | have hg3p := hg3
   refine SL.sk rfl rfl rfl hg3 (SL.sk rfl rfl rfl hg3 (SL.sk rfl rfl rfl hg3 ?_))
   refine SL.val (O.pick_t rfl (G.ne_f hg3) rfl rfl Taken.no) ?_
   refine SL.mv rfl rfl ?_
   have hg15 : true ≠ false := by decide
   refine SL.sk rfl rfl rfl hg15 (SL.sk rfl rfl rfl hg15 (SL.sk rfl rfl rfl hg15 ?_))
   refine SL.val (O.pick_t rfl rfl rfl rfl Taken.no) ?_
   refine SL.mv rfl rfl ?_
   have hg16 : true ≠ false := by decide
   refine SL.sk rfl rfl rfl hg16 (SL.sk rfl rfl rfl hg16 (SL.sk rfl rfl rfl hg16 ?_))
   refine SL.val (O.pick_t rfl rfl rfl rfl Taken.no) ?_
   refine SL.mv rfl rfl ?_
   have hg17 : true ≠ false := by decide
   refine SL.sk rfl rfl rfl hg17 (SL.sk rfl rfl rfl hg17 (SL.sk rfl rfl rfl hg17 ?_))
   refine SL.val (O.pick_t rfl rfl rfl rfl Taken.no) ?_
   refine E.fo ?_
   refine W.pick (K:=[(2,_),(3,_),(4,_),(50,_)]) (Z:=[(101,_),(102,_)]) ⟨rfl,rfl,rfl,rfl,trivial⟩ ⟨rfl,rfl,trivial⟩ ?_
   refine W.cond_t rfl ?_
   refine W.rg ?_
   refine SL.val (O.callp rfl rfl rfl (awake_h) .nil hcallOk11 rfl Taken.no) ?_
   refine SL.an rfl rfl (E.fo (W.ret (E.thr ?_)))
   refine E.fin (rs := [_]) (rn []) (.inl rfl) rfl (.cons (ResOne.tmp rfl) .nil) ?_ ?_ rfl (fixL_spec rfl)
   ·skip
    first | rfl | simp_all
   · exact SubS.nil
 ·skip
  first | have hg2p := G.gA7 hg2 | have hg2p := G.gA8 hg2 | have hg2p := hg2
  refine SL.sk rfl rfl rfl hg2 (SL.sk rfl rfl rfl hg2 (SL.sk rfl rfl rfl hg2 ?_))
  refine SL.val (O.pick_t rfl (G.ne_f hg2) rfl rfl Taken.no) ?_
  refine SL.mv rfl rfl ?_
  have hg18 : true ≠ false := by decide
  refine SL.sk rfl rfl rfl hg18 (SL.sk rfl rfl rfl hg18 (SL.sk rfl rfl rfl hg18 ?_))
  refine SL.val (O.pick_t rfl rfl rfl rfl Taken.no) ?_
  refine SL.mv rfl rfl ?_
  have hg19 : true ≠ false := by decide
  refine SL.sk rfl rfl rfl hg19 (SL.sk rfl rfl rfl hg19 (SL.sk rfl rfl rfl hg19 ?_))
  refine SL.val (O.pick_t rfl rfl rfl rfl Taken.no) ?_
  refine SL.mv rfl rfl ?_
  have hg20 : true ≠ false := by decide
  refine SL.sk rfl rfl rfl hg20 (SL.sk rfl rfl rfl hg20 (SL.sk rfl rfl rfl hg20 ?_))
  refine SL.val (O.pick_t rfl rfl rfl rfl Taken.no) ?_
  refine SL.mv rfl rfl ?_
  have hg21 : true ≠ false := by decide
  refine SL.sk rfl rfl rfl hg21 (SL.sk rfl rfl rfl hg21 (SL.sk rfl rfl rfl hg21 ?_))
  refine SL.val (O.pick_t rfl rfl rfl rfl Taken.no) ?_
  refine E.fo ?_
  refine W.pick (K:=[(2,_),(3,_),(4,_),(50,_)]) (Z:=[(101,_),(102,_)]) ⟨rfl,rfl,rfl,rfl,trivial⟩ ⟨rfl,rfl,trivial⟩ ?_
  refine W.cond_t rfl ?_
  refine W.rg ?_
  refine SL.val (O.callp rfl rfl rfl (awake_h) .nil hcallOk11 rfl Taken.no) ?_
  refine SL.an rfl rfl (E.fo (W.ret (E.thr ?_)))
  refine E.fin (rs := [_]) (rn []) (.inl rfl) rfl (.cons (ResOne.tmp rfl) .nil) ?_ ?_ rfl (fixL_spec rfl)
  ·skip
   first | rfl | simp_all
  · exact SubS.nil

set_option maxRecDepth 8000 in
/-- bookplate/bookplatelaw33.ClusterJoined. -/
theorem clusterJoined_badA {N M : Int} {pa pb : List Pr} {ra rb : List Ru} (hok : ¬ (Prob.mk N pa ra).ok) :
    Con Try.prog 3 [vA [uI N, .sl 3 (pa.map ePr), .sl 3 (ra.map eRu)], vA [uI M, .sl 3 (pb.map ePr), .sl 3 (rb.map eRu)]] [] (vB true) [] := by
 have he : (Prob.mk N pa ra).err ≠ 0 := fun q => hok (Prob.err_iff.1 q)
 refine Con.enterL (n := 159) Try.func3 rfl rfl rfl (fun τ w ok vs hin => ?_)
 have hl0_1 := hin.lenA (i := 0) (j := 1) rfl rfl
 try rw [List.length_map] at hl0_1
 have hl0_2 := hin.lenA (i := 0) (j := 2) rfl rfl
 try rw [List.length_map] at hl0_2
 have hl1_1 := hin.lenA (i := 1) (j := 1) rfl rfl
 try rw [List.length_map] at hl1_1
 have hl1_2 := hin.lenA (i := 1) (j := 2) rfl rfl
 try rw [List.length_map] at hl1_2
 clear hin
 refine W.rg ?_
 refine SL.memS (O.box (is := [_, _, _]) 101 rfl rfl (by simp) rfl rfl Taken.no) rfl rfl (S' := (101, _) :: _) rfl ?_
 refine SL.memS (O.box (is := [_, _, _]) 102 rfl rfl (by simp) rfl rfl Taken.no) rfl rfl (S' := (102, _) :: _) rfl ?_
 refine SL.an rfl rfl (E.fo (W.seq (W.rg ?_)))
 refine SL.val (O.callp rfl rfl rfl (awake_h) .nil hcallOk11 rfl Taken.no) ?_
 refine SL.as (i' := vB true) 19 rfl (by rfl) ?_
 refine SL.val (O.det (fun _ => G.R.mv (G.R.not rfl) rfl) rfl Taken.no) ?_
 refine SL.mv rfl rfl ?_
 have hg1 : false = false := by decide
 refine SL.val (O.ldN (m := 3) (PtI.ref rfl rfl) (js := [_, _, _]) rfl (Nat.le_of_ble_eq_true rfl) Try.underlying25 rfl (by kernel_rfl) rfl (Taken.yes rfl rfl hg1)) ?_
 refine SL.val (O.callp rfl rfl rfl (few_h) (.cons (ArgOk.aggU (.cons (ArgOk.same rfl) (.cons (ArgOk.same rfl) (.cons (ArgOk.same rfl) .nil)))) .nil) hcallOk12 rfl (Taken.yes rfl rfl hg1)) ?_
 refine SL.val (O.det (fun _ => G.R.not rfl) rfl (Taken.yes rfl rfl hg1)) ?_
 refine SL.val (O.pick_f rfl rfl rfl rfl Taken.no) ?_
 refine SL.mv rfl rfl ?_
 refine SL.case (j := 7) (g := 26) (want := false) rfl rfl (fun hg2 => ?_) (fun hg2 => ?_)
 ·skip
  first | have hg2p := G.gA3 hg2 | have hg2p := G.gA4 hg2 | have hg2p := hg2
  refine SL.val (O.ldN (m := 3) (PtI.ref rfl rfl) (js := [_, _, _]) rfl (Nat.le_of_ble_eq_true rfl) Try.underlying25 rfl (by kernel_rfl) rfl (Taken.yes rfl rfl hg2)) ?_
  refine SL.val (O.callp rfl rfl rfl (few_h) (.cons (ArgOk.aggU (.cons (ArgOk.same rfl) (.cons (ArgOk.same rfl) (.cons (ArgOk.same rfl) .nil)))) .nil) hcallOk12 rfl (Taken.yes rfl rfl hg2)) ?_
  refine SL.val (O.det (fun _ => G.R.not rfl) rfl (Taken.yes rfl rfl hg2)) ?_
  refine SL.val (O.pick_f rfl hg2 rfl rfl Taken.no) ?_
  refine SL.mv rfl rfl ?_
  refine SL.case (j := 12) (g := 31) (want := false) rfl rfl (fun hg3 => ?_) (fun hg3 => ?_)
  ·skip
   first | have hg3p := G.gA3 hg3 | have hg3p := G.gA4 hg3 | have hg3p := hg3
   refine SL.val (O.fld_ref (o' := 0) rfl Try.underlying25 rfl (m := 0) (by kernel_rfl) rfl rfl (Taken.yes rfl rfl hg3)) ?_
   refine SL.val (O.ld1 (PtI.ref rfl rfl) rfl Try.underlying3 rfl rfl (Taken.yes rfl rfl hg3)) ?_
   refine SL.val (O.det (fun _ => G.R.gtr rfl rfl) rfl (Taken.yes rfl rfl hg3)) ?_
   refine SL.val (O.pick_f rfl hg3 rfl rfl Taken.no) ?_
   refine SL.mv rfl rfl ?_
   refine SL.case (j := 17) (g := 36) (want := false) rfl rfl (fun hg4 => ?_) (fun hg4 => ?_)
   ·skip
    first | have hg4p := G.gA3 hg4 | have hg4p := G.gA4 hg4 | have hg4p := hg4
    refine SL.val (O.fld_ref (o' := 0) rfl Try.underlying25 rfl (m := 0) (by kernel_rfl) rfl rfl (Taken.yes rfl rfl hg4)) ?_
    refine SL.val (O.ld1 (PtI.ref rfl rfl) rfl Try.underlying3 rfl rfl (Taken.yes rfl rfl hg4)) ?_
    refine SL.val (O.det (fun _ => G.R.gtr rfl rfl) rfl (Taken.yes rfl rfl hg4)) ?_
    refine SL.val (O.pick_f rfl hg4 rfl rfl Taken.no) ?_
    refine SL.mv rfl rfl ?_
    refine SL.case (j := 22) (g := 41) (want := false) rfl rfl (fun hg5 => ?_) (fun hg5 => ?_)
    ·skip
     first | have hg5p := G.gA3 hg5 | have hg5p := G.gA4 hg5 | have hg5p := hg5
     refine SL.val (O.ldN (m := 3) (PtI.ref rfl rfl) (js := [_, _, _]) rfl (Nat.le_of_ble_eq_true rfl) Try.underlying25 rfl (by kernel_rfl) rfl (Taken.yes rfl rfl hg5)) ?_
     refine SL.val (O.callp rfl rfl rfl (refvalid_h (N := N) (ps := pa) (rs := ra)) (.cons (ArgOk.aggU (.cons (ArgOk.same rfl) (.cons (ArgOk.same rfl) (.cons (ArgOk.same rfl) .nil)))) .nil) hcallOk13 rfl (Taken.yes rfl rfl hg5)) ?_
     refine SL.val (O.det (fun _ => G.R.mv (G.R.neq rfl rfl) (congrArg Value.bool (decide_eq_true (by exact he)))) rfl (Taken.yes rfl rfl hg5)) ?_
     refine SL.val (O.pick_f rfl hg5 rfl rfl Taken.no) ?_
     refine SL.mv rfl rfl ?_
     have hg6 : true ≠ false := by decide
     refine SL.sk rfl rfl rfl hg6 (SL.sk rfl rfl rfl hg6 (SL.sk rfl rfl rfl hg6 ?_))
     refine SL.val (O.pick_t rfl rfl rfl rfl Taken.no) ?_
     refine E.fo ?_
     refine W.pick (K:=[(2,_),(3,_),(4,_),(50,_)]) (Z:=[(101,_),(102,_)]) ⟨rfl,rfl,rfl,rfl,trivial⟩ ⟨rfl,rfl,trivial⟩ ?_
     refine W.cond_t rfl ?_
     refine W.rg ?_
     refine SL.val (O.callp rfl rfl rfl (awake_h) .nil hcallOk11 rfl Taken.no) ?_
     refine SL.an rfl rfl (E.fo (W.ret (E.thr ?_)))
     refine E.fin (rs := [_]) (rn []) (.inl rfl) rfl (.cons (ResOne.tmp rfl) .nil) ?_ ?_ rfl (fixL_spec rfl)
     ·skip
      first | rfl | simp_all
     · exact SubS.nil
    ·skip
     first | have hg5p := G.gA7 hg5 | have hg5p := G.gA8 hg5 | have hg5p := hg5
     refine SL.sk rfl rfl rfl hg5 (SL.sk rfl rfl rfl hg5 (SL.sk rfl rfl rfl hg5 ?_))
     refine SL.val (O.pick_t rfl (G.ne_f hg5) rfl rfl Taken.no) ?_
     refine SL.mv rfl rfl ?_
     have hg7 : true ≠ false := by decide
     refine SL.sk rfl rfl rfl hg7 (SL.sk rfl rfl rfl hg7 (SL.sk rfl rfl rfl hg7 ?_))
     refine SL.val (O.pick_t rfl rfl rfl rfl Taken.no) ?_
     refine E.fo ?_
     refine W.pick (K:=[(2,_),(3,_),(4,_),(50,_)]) (Z:=[(101,_),(102,_)]) ⟨rfl,rfl,rfl,rfl,trivial⟩ ⟨rfl,rfl,trivial⟩ ?_
     refine W.cond_t rfl ?_
     refine W.rg ?_
     refine SL.val (O.callp rfl rfl rfl (awake_h) .nil hcallOk11 rfl Taken.no) ?_
     refine SL.an rfl rfl (E.fo (W.ret (E.thr ?_)))
     refine E.fin (rs := [_]) (rn []) (.inl rfl) rfl (.cons (ResOne.tmp rfl) .nil) ?_ ?_ rfl (fixL_spec rfl)
     ·skip
      first | rfl | simp_all
     · exact SubS.nil
   ·skip
    first | have hg4p := G.gA7 hg4 | have hg4p := G.gA8 hg4 | have hg4p := hg4
    refine SL.sk rfl rfl rfl hg4 (SL.sk rfl rfl rfl hg4 (SL.sk rfl rfl rfl hg4 ?_))
    refine SL.val (O.pick_t rfl (G.ne_f hg4) rfl rfl Taken.no) ?_
    refine SL.mv rfl rfl ?_
    have hg8 : true ≠ false := by decide
    refine SL.sk rfl rfl rfl hg8 (SL.sk rfl rfl rfl hg8 (SL.sk rfl rfl rfl hg8 ?_))
    refine SL.val (O.pick_t rfl rfl rfl rfl Taken.no) ?_
    refine SL.mv rfl rfl ?_
    have hg9 : true ≠ false := by decide
    refine SL.sk rfl rfl rfl hg9 (SL.sk rfl rfl rfl hg9 (SL.sk rfl rfl rfl hg9 ?_))
    refine SL.val (O.pick_t rfl rfl rfl rfl Taken.no) ?_
    refine E.fo ?_
    refine W.pick (K:=[(2,_),(3,_),(4,_),(50,_)]) (Z:=[(101,_),(102,_)]) ⟨rfl,rfl,rfl,rfl,trivial⟩ ⟨rfl,rfl,trivial⟩ ?_
    refine W.cond_t rfl ?_
    refine W.rg ?_
    refine SL.val (O.callp rfl rfl rfl (awake_h) .nil hcallOk11 rfl Taken.no) ?_
    refine SL.an rfl rfl (E.fo (W.ret (E.thr ?_)))
    refine E.fin (rs := [_]) (rn []) (.inl rfl) rfl (.cons (ResOne.tmp rfl) .nil) ?_ ?_ rfl (fixL_spec rfl)
    ·skip
     first | rfl | simp_all
    · exact SubS.nil
  ·skip
   first | have hg3p := G.gA7 hg3 | have hg3p := G.gA8 hg3 | have hg3p := hg3
   refine SL.sk rfl rfl rfl hg3 (SL.sk rfl rfl rfl hg3 (SL.sk rfl rfl rfl hg3 ?_))
   refine SL.val (O.pick_t rfl (G.ne_f hg3) rfl rfl Taken.no) ?_
   refine SL.mv rfl rfl ?_
   have hg10 : true ≠ false := by decide
   refine SL.sk rfl rfl rfl hg10 (SL.sk rfl rfl rfl hg10 (SL.sk rfl rfl rfl hg10 ?_))
   refine SL.val (O.pick_t rfl rfl rfl rfl Taken.no) ?_
   refine SL.mv rfl rfl ?_
   have hg11 : true ≠ false := by decide
   refine SL.sk rfl rfl rfl hg11 (SL.sk rfl rfl rfl hg11 (SL.sk rfl rfl rfl hg11 ?_))
   refine SL.val (O.pick_t rfl rfl rfl rfl Taken.no) ?_
   refine SL.mv rfl rfl ?_
   have hg12 : true ≠ false := by decide
   refine SL.sk rfl rfl rfl hg12 (SL.sk rfl rfl rfl hg12 (SL.sk rfl rfl rfl hg12 ?_))
   refine SL.val (O.pick_t rfl rfl rfl rfl Taken.no) ?_
   refine E.fo ?_
   refine W.pick (K:=[(2,_),(3,_),(4,_),(50,_)]) (Z:=[(101,_),(102,_)]) ⟨rfl,rfl,rfl,rfl,trivial⟩ ⟨rfl,rfl,trivial⟩ ?_
   refine W.cond_t rfl ?_
   refine W.rg ?_
   refine SL.val (O.callp rfl rfl rfl (awake_h) .nil hcallOk11 rfl Taken.no) ?_
   refine SL.an rfl rfl (E.fo (W.ret (E.thr ?_)))
   refine E.fin (rs := [_]) (rn []) (.inl rfl) rfl (.cons (ResOne.tmp rfl) .nil) ?_ ?_ rfl (fixL_spec rfl)
   ·skip
    first | rfl | simp_all
   · exact SubS.nil
 ·skip
  first | have hg2p := G.gA7 hg2 | have hg2p := G.gA8 hg2 | have hg2p := hg2
  refine SL.sk rfl rfl rfl hg2 (SL.sk rfl rfl rfl hg2 (SL.sk rfl rfl rfl hg2 ?_))
  refine SL.val (O.pick_t rfl (G.ne_f hg2) rfl rfl Taken.no) ?_
  refine SL.mv rfl rfl ?_
  have hg13 : true ≠ false := by decide
  refine SL.sk rfl rfl rfl hg13 (SL.sk rfl rfl rfl hg13 (SL.sk rfl rfl rfl hg13 ?_))
  refine SL.val (O.pick_t rfl rfl rfl rfl Taken.no) ?_
  refine SL.mv rfl rfl ?_
  have hg14 : true ≠ false := by decide
  refine SL.sk rfl rfl rfl hg14 (SL.sk rfl rfl rfl hg14 (SL.sk rfl rfl rfl hg14 ?_))
  refine SL.val (O.pick_t rfl rfl rfl rfl Taken.no) ?_
  refine SL.mv rfl rfl ?_
  have hg15 : true ≠ false := by decide
  refine SL.sk rfl rfl rfl hg15 (SL.sk rfl rfl rfl hg15 (SL.sk rfl rfl rfl hg15 ?_))
  refine SL.val (O.pick_t rfl rfl rfl rfl Taken.no) ?_
  refine SL.mv rfl rfl ?_
  have hg16 : true ≠ false := by decide
  refine SL.sk rfl rfl rfl hg16 (SL.sk rfl rfl rfl hg16 (SL.sk rfl rfl rfl hg16 ?_))
  refine SL.val (O.pick_t rfl rfl rfl rfl Taken.no) ?_
  refine E.fo ?_
  refine W.pick (K:=[(2,_),(3,_),(4,_),(50,_)]) (Z:=[(101,_),(102,_)]) ⟨rfl,rfl,rfl,rfl,trivial⟩ ⟨rfl,rfl,trivial⟩ ?_
  refine W.cond_t rfl ?_
  refine W.rg ?_
  refine SL.val (O.callp rfl rfl rfl (awake_h) .nil hcallOk11 rfl Taken.no) ?_
  refine SL.an rfl rfl (E.fo (W.ret (E.thr ?_)))
  refine E.fin (rs := [_]) (rn []) (.inl rfl) rfl (.cons (ResOne.tmp rfl) .nil) ?_ ?_ rfl (fixL_spec rfl)
  ·skip
   first | rfl | simp_all
  · exact SubS.nil

set_option maxRecDepth 8000 in
/-- bookplate/bookplatelaw33.ClusterJoined. -/
theorem clusterJoined_badB {N M : Int} {pa pb : List Pr} {ra rb : List Ru} (hok : ¬ (Prob.mk M pb rb).ok) :
    Con Try.prog 3 [vA [uI N, .sl 3 (pa.map ePr), .sl 3 (ra.map eRu)], vA [uI M, .sl 3 (pb.map ePr), .sl 3 (rb.map eRu)]] [] (vB true) [] := by
 have he : (Prob.mk M pb rb).err ≠ 0 := fun q => hok (Prob.err_iff.1 q)
 refine Con.enterL (n := 159) Try.func3 rfl rfl rfl (fun τ w ok vs hin => ?_)
 have hl0_1 := hin.lenA (i := 0) (j := 1) rfl rfl
 try rw [List.length_map] at hl0_1
 have hl0_2 := hin.lenA (i := 0) (j := 2) rfl rfl
 try rw [List.length_map] at hl0_2
 have hl1_1 := hin.lenA (i := 1) (j := 1) rfl rfl
 try rw [List.length_map] at hl1_1
 have hl1_2 := hin.lenA (i := 1) (j := 2) rfl rfl
 try rw [List.length_map] at hl1_2
 clear hin
 refine W.rg ?_
 refine SL.memS (O.box (is := [_, _, _]) 101 rfl rfl (by simp) rfl rfl Taken.no) rfl rfl (S' := (101, _) :: _) rfl ?_
 refine SL.memS (O.box (is := [_, _, _]) 102 rfl rfl (by simp) rfl rfl Taken.no) rfl rfl (S' := (102, _) :: _) rfl ?_
 refine SL.an rfl rfl (E.fo (W.seq (W.rg ?_)))
 refine SL.val (O.callp rfl rfl rfl (awake_h) .nil hcallOk11 rfl Taken.no) ?_
 refine SL.as (i' := vB true) 19 rfl (by rfl) ?_
 refine SL.val (O.det (fun _ => G.R.mv (G.R.not rfl) rfl) rfl Taken.no) ?_
 refine SL.mv rfl rfl ?_
 have hg1 : false = false := by decide
 refine SL.val (O.ldN (m := 3) (PtI.ref rfl rfl) (js := [_, _, _]) rfl (Nat.le_of_ble_eq_true rfl) Try.underlying25 rfl (by kernel_rfl) rfl (Taken.yes rfl rfl hg1)) ?_
 refine SL.val (O.callp rfl rfl rfl (few_h) (.cons (ArgOk.aggU (.cons (ArgOk.same rfl) (.cons (ArgOk.same rfl) (.cons (ArgOk.same rfl) .nil)))) .nil) hcallOk12 rfl (Taken.yes rfl rfl hg1)) ?_
 refine SL.val (O.det (fun _ => G.R.not rfl) rfl (Taken.yes rfl rfl hg1)) ?_
 refine SL.val (O.pick_f rfl rfl rfl rfl Taken.no) ?_
 refine SL.mv rfl rfl ?_
 refine SL.case (j := 7) (g := 26) (want := false) rfl rfl (fun hg2 => ?_) (fun hg2 => ?_)
 ·skip
  first | have hg2p := G.gA3 hg2 | have hg2p := G.gA4 hg2 | have hg2p := hg2
  refine SL.val (O.ldN (m := 3) (PtI.ref rfl rfl) (js := [_, _, _]) rfl (Nat.le_of_ble_eq_true rfl) Try.underlying25 rfl (by kernel_rfl) rfl (Taken.yes rfl rfl hg2)) ?_
  refine SL.val (O.callp rfl rfl rfl (few_h) (.cons (ArgOk.aggU (.cons (ArgOk.same rfl) (.cons (ArgOk.same rfl) (.cons (ArgOk.same rfl) .nil)))) .nil) hcallOk12 rfl (Taken.yes rfl rfl hg2)) ?_
  refine SL.val (O.det (fun _ => G.R.not rfl) rfl (Taken.yes rfl rfl hg2)) ?_
  refine SL.val (O.pick_f rfl hg2 rfl rfl Taken.no) ?_
  refine SL.mv rfl rfl ?_
  refine SL.case (j := 12) (g := 31) (want := false) rfl rfl (fun hg3 => ?_) (fun hg3 => ?_)
  ·skip
   first | have hg3p := G.gA3 hg3 | have hg3p := G.gA4 hg3 | have hg3p := hg3
   refine SL.val (O.fld_ref (o' := 0) rfl Try.underlying25 rfl (m := 0) (by kernel_rfl) rfl rfl (Taken.yes rfl rfl hg3)) ?_
   refine SL.val (O.ld1 (PtI.ref rfl rfl) rfl Try.underlying3 rfl rfl (Taken.yes rfl rfl hg3)) ?_
   refine SL.val (O.det (fun _ => G.R.gtr rfl rfl) rfl (Taken.yes rfl rfl hg3)) ?_
   refine SL.val (O.pick_f rfl hg3 rfl rfl Taken.no) ?_
   refine SL.mv rfl rfl ?_
   refine SL.case (j := 17) (g := 36) (want := false) rfl rfl (fun hg4 => ?_) (fun hg4 => ?_)
   ·skip
    first | have hg4p := G.gA3 hg4 | have hg4p := G.gA4 hg4 | have hg4p := hg4
    refine SL.val (O.fld_ref (o' := 0) rfl Try.underlying25 rfl (m := 0) (by kernel_rfl) rfl rfl (Taken.yes rfl rfl hg4)) ?_
    refine SL.val (O.ld1 (PtI.ref rfl rfl) rfl Try.underlying3 rfl rfl (Taken.yes rfl rfl hg4)) ?_
    refine SL.val (O.det (fun _ => G.R.gtr rfl rfl) rfl (Taken.yes rfl rfl hg4)) ?_
    refine SL.val (O.pick_f rfl hg4 rfl rfl Taken.no) ?_
    refine SL.mv rfl rfl ?_
    refine SL.case (j := 22) (g := 41) (want := false) rfl rfl (fun hg5 => ?_) (fun hg5 => ?_)
    ·skip
     first | have hg5p := G.gA3 hg5 | have hg5p := G.gA4 hg5 | have hg5p := hg5
     refine SL.val (O.ldN (m := 3) (PtI.ref rfl rfl) (js := [_, _, _]) rfl (Nat.le_of_ble_eq_true rfl) Try.underlying25 rfl (by kernel_rfl) rfl (Taken.yes rfl rfl hg5)) ?_
     refine SL.val (O.callp rfl rfl rfl (refvalid_h (N := N) (ps := pa) (rs := ra)) (.cons (ArgOk.aggU (.cons (ArgOk.same rfl) (.cons (ArgOk.same rfl) (.cons (ArgOk.same rfl) .nil)))) .nil) hcallOk13 rfl (Taken.yes rfl rfl hg5)) ?_
     refine SL.val (O.det (fun _ => G.R.neq rfl rfl) rfl (Taken.yes rfl rfl hg5)) ?_
     refine SL.val (O.pick_f rfl hg5 rfl rfl Taken.no) ?_
     refine SL.mv rfl rfl ?_
     refine SL.case (j := 27) (g := 46) (want := false) rfl rfl (fun hg6 => ?_) (fun hg6 => ?_)
     ·skip
      first | have hg6p := G.gA3 hg6 | have hg6p := G.gA4 hg6 | have hg6p := hg6
      refine SL.val (O.ldN (m := 3) (PtI.ref rfl rfl) (js := [_, _, _]) rfl (Nat.le_of_ble_eq_true rfl) Try.underlying25 rfl (by kernel_rfl) rfl (Taken.yes rfl rfl hg6)) ?_
      refine SL.val (O.callp rfl rfl rfl (refvalid_h (N := M) (ps := pb) (rs := rb)) (.cons (ArgOk.aggU (.cons (ArgOk.same rfl) (.cons (ArgOk.same rfl) (.cons (ArgOk.same rfl) .nil)))) .nil) hcallOk13 rfl (Taken.yes rfl rfl hg6)) ?_
      refine SL.val (O.det (fun _ => G.R.mv (G.R.neq rfl rfl) (congrArg Value.bool (decide_eq_true (by exact he)))) rfl (Taken.yes rfl rfl hg6)) ?_
      refine SL.val (O.pick_f rfl hg6 rfl rfl Taken.no) ?_
      refine E.fo ?_
      refine W.pick (K:=[(2,_),(3,_),(4,_),(50,_)]) (Z:=[(101,_),(102,_)]) ⟨rfl,rfl,rfl,rfl,trivial⟩ ⟨rfl,rfl,trivial⟩ ?_
      refine W.cond_t rfl ?_
      refine W.rg ?_
      refine SL.val (O.callp rfl rfl rfl (awake_h) .nil hcallOk11 rfl Taken.no) ?_
      refine SL.an rfl rfl (E.fo (W.ret (E.thr ?_)))
      refine E.fin (rs := [_]) (rn []) (.inl rfl) rfl (.cons (ResOne.tmp rfl) .nil) ?_ ?_ rfl (fixL_spec rfl)
      ·skip
       first | rfl | simp_all
      · exact SubS.nil
     ·skip
      first | have hg6p := G.gA7 hg6 | have hg6p := G.gA8 hg6 | have hg6p := hg6
      refine SL.sk rfl rfl rfl hg6 (SL.sk rfl rfl rfl hg6 (SL.sk rfl rfl rfl hg6 ?_))
      refine SL.val (O.pick_t rfl (G.ne_f hg6) rfl rfl Taken.no) ?_
      refine E.fo ?_
      refine W.pick (K:=[(2,_),(3,_),(4,_),(50,_)]) (Z:=[(101,_),(102,_)]) ⟨rfl,rfl,rfl,rfl,trivial⟩ ⟨rfl,rfl,trivial⟩ ?_
      refine W.cond_t rfl ?_
      refine W.rg ?_
      refine SL.val (O.callp rfl rfl rfl (awake_h) .nil hcallOk11 rfl Taken.no) ?_
      refine SL.an rfl rfl (E.fo (W.ret (E.thr ?_)))
      refine E.fin (rs := [_]) (rn []) (.inl rfl) rfl (.cons (ResOne.tmp rfl) .nil) ?_ ?_ rfl (fixL_spec rfl)
      ·skip
       first | rfl | simp_all
      · exact SubS.nil
    ·skip
     first | have hg5p := G.gA7 hg5 | have hg5p := G.gA8 hg5 | have hg5p := hg5
     refine SL.sk rfl rfl rfl hg5 (SL.sk rfl rfl rfl hg5 (SL.sk rfl rfl rfl hg5 ?_))
     refine SL.val (O.pick_t rfl (G.ne_f hg5) rfl rfl Taken.no) ?_
     refine SL.mv rfl rfl ?_
     have hg7 : true ≠ false := by decide
     refine SL.sk rfl rfl rfl hg7 (SL.sk rfl rfl rfl hg7 (SL.sk rfl rfl rfl hg7 ?_))
     refine SL.val (O.pick_t rfl rfl rfl rfl Taken.no) ?_
     refine E.fo ?_
     refine W.pick (K:=[(2,_),(3,_),(4,_),(50,_)]) (Z:=[(101,_),(102,_)]) ⟨rfl,rfl,rfl,rfl,trivial⟩ ⟨rfl,rfl,trivial⟩ ?_
     refine W.cond_t rfl ?_
     refine W.rg ?_
     refine SL.val (O.callp rfl rfl rfl (awake_h) .nil hcallOk11 rfl Taken.no) ?_
     refine SL.an rfl rfl (E.fo (W.ret (E.thr ?_)))
     refine E.fin (rs := [_]) (rn []) (.inl rfl) rfl (.cons (ResOne.tmp rfl) .nil) ?_ ?_ rfl (fixL_spec rfl)
     ·skip
      first | rfl | simp_all
     · exact SubS.nil
   ·skip
    first | have hg4p := G.gA7 hg4 | have hg4p := G.gA8 hg4 | have hg4p := hg4
    refine SL.sk rfl rfl rfl hg4 (SL.sk rfl rfl rfl hg4 (SL.sk rfl rfl rfl hg4 ?_))
    refine SL.val (O.pick_t rfl (G.ne_f hg4) rfl rfl Taken.no) ?_
    refine SL.mv rfl rfl ?_
    have hg8 : true ≠ false := by decide
    refine SL.sk rfl rfl rfl hg8 (SL.sk rfl rfl rfl hg8 (SL.sk rfl rfl rfl hg8 ?_))
    refine SL.val (O.pick_t rfl rfl rfl rfl Taken.no) ?_
    refine SL.mv rfl rfl ?_
    have hg9 : true ≠ false := by decide
    refine SL.sk rfl rfl rfl hg9 (SL.sk rfl rfl rfl hg9 (SL.sk rfl rfl rfl hg9 ?_))
    refine SL.val (O.pick_t rfl rfl rfl rfl Taken.no) ?_
    refine E.fo ?_
    refine W.pick (K:=[(2,_),(3,_),(4,_),(50,_)]) (Z:=[(101,_),(102,_)]) ⟨rfl,rfl,rfl,rfl,trivial⟩ ⟨rfl,rfl,trivial⟩ ?_
    refine W.cond_t rfl ?_
    refine W.rg ?_
    refine SL.val (O.callp rfl rfl rfl (awake_h) .nil hcallOk11 rfl Taken.no) ?_
    refine SL.an rfl rfl (E.fo (W.ret (E.thr ?_)))
    refine E.fin (rs := [_]) (rn []) (.inl rfl) rfl (.cons (ResOne.tmp rfl) .nil) ?_ ?_ rfl (fixL_spec rfl)
    ·skip
     first | rfl | simp_all
    · exact SubS.nil
  ·skip
   first | have hg3p := G.gA7 hg3 | have hg3p := G.gA8 hg3 | have hg3p := hg3
   refine SL.sk rfl rfl rfl hg3 (SL.sk rfl rfl rfl hg3 (SL.sk rfl rfl rfl hg3 ?_))
   refine SL.val (O.pick_t rfl (G.ne_f hg3) rfl rfl Taken.no) ?_
   refine SL.mv rfl rfl ?_
   have hg10 : true ≠ false := by decide
   refine SL.sk rfl rfl rfl hg10 (SL.sk rfl rfl rfl hg10 (SL.sk rfl rfl rfl hg10 ?_))
   refine SL.val (O.pick_t rfl rfl rfl rfl Taken.no) ?_
   refine SL.mv rfl rfl ?_
   have hg11 : true ≠ false := by decide
   refine SL.sk rfl rfl rfl hg11 (SL.sk rfl rfl rfl hg11 (SL.sk rfl rfl rfl hg11 ?_))
   refine SL.val (O.pick_t rfl rfl rfl rfl Taken.no) ?_
   refine SL.mv rfl rfl ?_
   have hg12 : true ≠ false := by decide
   refine SL.sk rfl rfl rfl hg12 (SL.sk rfl rfl rfl hg12 (SL.sk rfl rfl rfl hg12 ?_))
   refine SL.val (O.pick_t rfl rfl rfl rfl Taken.no) ?_
   refine E.fo ?_
   refine W.pick (K:=[(2,_),(3,_),(4,_),(50,_)]) (Z:=[(101,_),(102,_)]) ⟨rfl,rfl,rfl,rfl,trivial⟩ ⟨rfl,rfl,trivial⟩ ?_
   refine W.cond_t rfl ?_
   refine W.rg ?_
   refine SL.val (O.callp rfl rfl rfl (awake_h) .nil hcallOk11 rfl Taken.no) ?_
   refine SL.an rfl rfl (E.fo (W.ret (E.thr ?_)))
   refine E.fin (rs := [_]) (rn []) (.inl rfl) rfl (.cons (ResOne.tmp rfl) .nil) ?_ ?_ rfl (fixL_spec rfl)
   ·skip
    first | rfl | simp_all
   · exact SubS.nil
 ·skip
  first | have hg2p := G.gA7 hg2 | have hg2p := G.gA8 hg2 | have hg2p := hg2
  refine SL.sk rfl rfl rfl hg2 (SL.sk rfl rfl rfl hg2 (SL.sk rfl rfl rfl hg2 ?_))
  refine SL.val (O.pick_t rfl (G.ne_f hg2) rfl rfl Taken.no) ?_
  refine SL.mv rfl rfl ?_
  have hg13 : true ≠ false := by decide
  refine SL.sk rfl rfl rfl hg13 (SL.sk rfl rfl rfl hg13 (SL.sk rfl rfl rfl hg13 ?_))
  refine SL.val (O.pick_t rfl rfl rfl rfl Taken.no) ?_
  refine SL.mv rfl rfl ?_
  have hg14 : true ≠ false := by decide
  refine SL.sk rfl rfl rfl hg14 (SL.sk rfl rfl rfl hg14 (SL.sk rfl rfl rfl hg14 ?_))
  refine SL.val (O.pick_t rfl rfl rfl rfl Taken.no) ?_
  refine SL.mv rfl rfl ?_
  have hg15 : true ≠ false := by decide
  refine SL.sk rfl rfl rfl hg15 (SL.sk rfl rfl rfl hg15 (SL.sk rfl rfl rfl hg15 ?_))
  refine SL.val (O.pick_t rfl rfl rfl rfl Taken.no) ?_
  refine SL.mv rfl rfl ?_
  have hg16 : true ≠ false := by decide
  refine SL.sk rfl rfl rfl hg16 (SL.sk rfl rfl rfl hg16 (SL.sk rfl rfl rfl hg16 ?_))
  refine SL.val (O.pick_t rfl rfl rfl rfl Taken.no) ?_
  refine E.fo ?_
  refine W.pick (K:=[(2,_),(3,_),(4,_),(50,_)]) (Z:=[(101,_),(102,_)]) ⟨rfl,rfl,rfl,rfl,trivial⟩ ⟨rfl,rfl,trivial⟩ ?_
  refine W.cond_t rfl ?_
  refine W.rg ?_
  refine SL.val (O.callp rfl rfl rfl (awake_h) .nil hcallOk11 rfl Taken.no) ?_
  refine SL.an rfl rfl (E.fo (W.ret (E.thr ?_)))
  refine E.fin (rs := [_]) (rn []) (.inl rfl) rfl (.cons (ResOne.tmp rfl) .nil) ?_ ?_ rfl (fixL_spec rfl)
  ·skip
   first | rfl | simp_all
  · exact SubS.nil

theorem clusterJoined_h {N N2 : Int} {ps ps2 : List Pr} {rs rs2 : List Ru} : Con Try.prog 3 [vA [uI N, .sl 3 (ps.map ePr), .sl 3 (rs.map eRu)], vA [uI N2, .sl 3 (ps2.map ePr), .sl 3 (rs2.map eRu)]] [] (vB true) [] := by
  by_cases h : (Prob.mk N ps rs).ok
  · by_cases h2 : (Prob.mk N2 ps2 rs2).ok
    · obtain ⟨a, rfl⟩ : ∃ n : Nat, N = (n : Int) := ⟨N.toNat, Prob.nat h.1⟩
      obtain ⟨b, rfl⟩ : ∃ n : Nat, N2 = (n : Int) := ⟨N2.toNat, Prob.nat h2.1⟩
      exact clusterJoined_ok h h2
    · exact clusterJoined_badB h2
  · exact clusterJoined_badA h

end Go.Proofs.Ytppamigboeaefaa
end
