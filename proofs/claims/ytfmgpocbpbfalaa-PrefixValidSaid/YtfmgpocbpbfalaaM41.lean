/-
  Trees of words: a tree is known by its words.
-/
import Derived.Test.YtfmgpocbpbfalaaHMore
namespace Go.D41
open Go Go.RowKit Go.H
abbrev Str := List UInt8
/-! ### The order of strings -/
def lt (a b : Str) : Prop := Op.bytesLess a b = true
instance (a b : Str) : Decidable (lt a b) := by unfold lt; infer_instance
theorem lt_nil {c : UInt8} {x : Str} : lt [] (c :: x) := rfl
theorem not_lt_nil {a : Str} : ¬ lt a [] := by unfold lt; cases a <;> simp [Op.bytesLess]
theorem lt_cons {a b : UInt8} {x y : Str} : lt (a :: x) (b :: y) ↔ a < b ∨ (a = b ∧ lt x y) := by
  unfold lt
  simp [Op.bytesLess]
theorem lt_irrefl : ∀ a : Str, ¬ lt a a
  | [] => not_lt_nil
  | a :: x => by
    rw [lt_cons]
    rintro (h | ⟨_, h⟩)
    · exact absurd h (UInt8.lt_irrefl a)
    · exact lt_irrefl x h
theorem lt_trans : ∀ {a b c : Str}, lt a b → lt b c → lt a c
  | _, [], _, h, _ => absurd h not_lt_nil
  | _, _ :: _, [], _, k => absurd k not_lt_nil
  | [], _ :: _, _ :: _, _, _ => rfl
  | a :: x, b :: y, c :: z, h, k => by
    rw [lt_cons] at h k ⊢
    rcases h with h | ⟨h, h'⟩
    · rcases k with k | ⟨k, k'⟩
      · exact .inl (UInt8.lt_trans h k)
      · subst k; exact .inl h
    · subst h
      rcases k with k | ⟨k, k'⟩
      · exact .inl k
      · exact .inr ⟨k, lt_trans h' k'⟩
theorem u8_tri (a b : UInt8) : a < b ∨ a = b ∨ b < a := by
  rcases Nat.lt_trichotomy a.toNat b.toNat with h | h | h
  · exact .inl (UInt8.lt_iff_toNat_lt.2 h)
  · exact .inr (.inl (UInt8.toNat_inj.1 h))
  · exact .inr (.inr (UInt8.lt_iff_toNat_lt.2 h))
theorem lt_tri : ∀ a b : Str, lt a b ∨ a = b ∨ lt b a
  | [], [] => .inr (.inl rfl)
  | [], _ :: _ => .inl rfl
  | _ :: _, [] => .inr (.inr rfl)
  | a :: x, b :: y => by
    rw [lt_cons, lt_cons]
    rcases u8_tri a b with h | h | h
    · exact .inl (.inl h)
    · subst h
      rcases lt_tri x y with k | k | k
      · exact .inl (.inr ⟨rfl, k⟩)
      · subst k; exact .inr (.inl rfl)
      · exact .inr (.inr (.inr ⟨rfl, k⟩))
    · exact .inr (.inr (.inl h))
theorem lt_asymm {a b : Str} (h : lt a b) : ¬ lt b a := fun k => lt_irrefl a (lt_trans h k)
theorem lt_app (p a b : Str) : lt (p ++ a) (p ++ b) ↔ lt a b := by
  induction p with
  | nil => rfl
  | cons c p ih =>
    show lt (c :: (p ++ a)) (c :: (p ++ b)) ↔ _
    rw [lt_cons, ih]
    constructor
    · rintro (h | h)
      · exact absurd h (UInt8.lt_irrefl c)
      · exact h.2
    · exact fun h => .inr ⟨rfl, h⟩
abbrev Asc (l : List Str) : Prop := l.Pairwise lt
/-- Ascending lists are known by their members. -/
theorem asc_ext : ∀ {a b : List Str}, Asc a → Asc b → (∀ x, x ∈ a ↔ x ∈ b) → a = b
  | [], [], _, _, _ => rfl
  | [], y :: b, _, _, h => absurd ((h y).2 (by simp)) (by simp)
  | x :: a, [], _, _, h => absurd ((h x).1 (by simp)) (by simp)
  | x :: a, y :: b, ha, hb, h => by
    obtain ⟨ha1, ha2⟩ := List.pairwise_cons.1 ha
    obtain ⟨hb1, hb2⟩ := List.pairwise_cons.1 hb
    have e : x = y := by
      rcases List.mem_cons.1 ((h x).1 (by simp)) with e | m
      · exact e
      · rcases List.mem_cons.1 ((h y).2 (by simp)) with e | m'
        · exact e.symm
        · exact absurd (lt_trans (hb1 x m) (ha1 y m')) (lt_irrefl _)
    subst e
    congr 1
    apply asc_ext ha2 hb2
    intro z
    constructor
    · intro hz
      rcases List.mem_cons.1 ((h z).1 (List.mem_cons_of_mem _ hz)) with e | m
      · subst e; exact absurd (ha1 z hz) (lt_irrefl _)
      · exact m
    · intro hz
      rcases List.mem_cons.1 ((h z).2 (List.mem_cons_of_mem _ hz)) with e | m
      · subst e; exact absurd (hb1 z hz) (lt_irrefl _)
      · exact m
theorem asc_app {a b : List Str} (ha : Asc a) (hb : Asc b) (h : ∀ x ∈ a, ∀ y ∈ b, lt x y) : Asc (a ++ b) := List.pairwise_append.2 ⟨ha, hb, h⟩
theorem asc_map {a : List Str} (p : Str) (h : Asc a) : Asc (a.map (p ++ ·)) := by
  rw [Asc, List.pairwise_map]
  exact h.imp fun hh => (lt_app p _ _).2 hh
/-! ### Trees -/
inductive Tr where
  | nd (lab : Str) (wd : Bool) (kids : List Tr)
namespace Tr
def lab : Tr → Str | .nd l _ _ => l
def wd : Tr → Bool | .nd _ w _ => w
def kids : Tr → List Tr | .nd _ _ ks => ks
def hd (t : Tr) : UInt8 := t.lab.headD 0
instance : Inhabited Tr := ⟨.nd [] false []⟩
theorem eta (t : Tr) : .nd t.lab t.wd t.kids = t := by cases t; rfl
theorem sz_kid {t x : Tr} (h : x ∈ t.kids) : SizeOf.sizeOf x < SizeOf.sizeOf t := by
  cases t with
  | nd l w ks =>
    have := List.sizeOf_lt_of_mem (show x ∈ ks from h)
    simp only [Tr.nd.sizeOf_spec]; omega
/-- What holds of a tree if it holds of its kids holds of all. -/
theorem ind {p : Tr → Prop} (h : ∀ t, (∀ x ∈ t.kids, p x) → p t) (t : Tr) : p t := by
  have key : ∀ n (t : Tr), SizeOf.sizeOf t < n → p t := fun n => by
    induction n with
    | zero => exact fun t ht => absurd ht (by omega)
    | succ n ih => exact fun t ht => h t fun x hx => ih x (by have := sz_kid hx; omega)
  exact key _ t (Nat.lt_succ_self _)
end Tr
mutual
def Tr.ws : Tr → List Str
  | .nd l w ks => ((if w then [[]] else []) ++ wsL ks).map (l ++ ·)
termination_by structural t => t
def wsL : List Tr → List Str
  | [] => []
  | k :: r => k.ws ++ wsL r
termination_by structural l => l
end
/-- The words of a node, behind its label. -/
def Tr.inn (t : Tr) : List Str := (if t.wd then [[]] else []) ++ wsL t.kids
theorem Tr.ws_eq (t : Tr) : t.ws = t.inn.map (t.lab ++ ·) := by cases t; rw [Tr.ws]; rfl
mutual
def Tr.can : Tr → Prop
  | .nd l w ks => l ≠ [] ∧ (w = false → 2 ≤ ks.length) ∧ canL ks
termination_by structural t => t
def canL : List Tr → Prop
  | [] => True
  | k :: r => k.can ∧ (∀ x ∈ r, k.hd < x.hd) ∧ canL r
termination_by structural l => l
end
theorem Tr.can_iff (t : Tr) : t.can ↔ t.lab ≠ [] ∧ (t.wd = false → 2 ≤ t.kids.length) ∧ canL t.kids := by cases t; rw [Tr.can]; rfl
theorem canL_iff : ∀ ks : List Tr, canL ks ↔ (∀ k ∈ ks, k.can) ∧ ks.Pairwise (fun a b => a.hd < b.hd)
  | [] => by simp [canL]
  | k :: r => by
    rw [canL, canL_iff r, List.pairwise_cons]
    constructor
    · rintro ⟨a, b, c, d⟩
      exact ⟨fun x hx => by rcases List.mem_cons.1 hx with e | m; subst e; exact a; exact c x m, b, d⟩
    · rintro ⟨a, b, c⟩
      exact ⟨a k (by simp), b, fun x hx => a x (by simp [hx]), c⟩
theorem wsL_mem {x : Str} : ∀ {ks : List Tr}, x ∈ wsL ks ↔ ∃ k ∈ ks, x ∈ k.ws
  | [] => by simp [wsL]
  | k :: r => by rw [wsL, List.mem_append, wsL_mem (ks := r)]; simp
theorem Tr.ws_mem {x : Str} {t : Tr} : x ∈ t.ws ↔ ∃ y ∈ t.inn, x = t.lab ++ y := by
  rw [Tr.ws_eq, List.mem_map]
  constructor
  · rintro ⟨y, h, rfl⟩; exact ⟨y, h, rfl⟩
  · rintro ⟨y, h, rfl⟩; exact ⟨y, h, rfl⟩
theorem wsL_app (a b : List Tr) : wsL (a ++ b) = wsL a ++ wsL b := by
  induction a with
  | nil => rfl
  | cons k a ih => rw [List.cons_append, wsL, ih, wsL, List.append_assoc]
theorem Tr.inn_mem {x : Str} {t : Tr} : x ∈ t.inn ↔ (x = [] ∧ t.wd = true) ∨ x ∈ wsL t.kids := by
  rw [Tr.inn, List.mem_append]
  cases t.wd <;> simp
theorem Tr.lab_hd {t : Tr} (h : t.lab ≠ []) : ∃ x, t.lab = t.hd :: x := by
  cases e : t.lab with
  | nil => exact absurd e h
  | cons c x => exact ⟨x, by rw [Tr.hd, e]; rfl⟩
theorem ws_hd {t : Tr} (h : t.can) {x : Str} (hx : x ∈ t.ws) : ∃ y, x = t.hd :: y := by
  obtain ⟨y, _, rfl⟩ := Tr.ws_mem.1 hx
  obtain ⟨z, e⟩ := Tr.lab_hd ((Tr.can_iff t).1 h).1
  exact ⟨z ++ y, by rw [e]; rfl⟩
theorem wsL_hd {ks : List Tr} (h : canL ks) {x : Str} (hx : x ∈ wsL ks) : ∃ k ∈ ks, x ∈ k.ws ∧ ∃ y, x = k.hd :: y := by
  obtain ⟨k, hk, hxk⟩ := wsL_mem.1 hx
  exact ⟨k, hk, hxk, ws_hd (((canL_iff ks).1 h).1 k hk) hxk⟩
theorem wsL_ne {ks : List Tr} (h : canL ks) : [] ∉ wsL ks := fun hx => by
  obtain ⟨k, _, _, y, e⟩ := wsL_hd h hx
  cases e
/-- Each node has a word. -/
theorem ws_some : ∀ t : Tr, t.can → ∃ x, x ∈ t.inn := Tr.ind fun t ih h => by
  obtain ⟨_, h2, h3⟩ := (Tr.can_iff t).1 h
  by_cases e : t.wd = true
  · exact ⟨[], Tr.inn_mem.2 (.inl ⟨rfl, e⟩)⟩
  · have := h2 (by simpa using e)
    obtain ⟨k, hk⟩ := List.exists_mem_of_length_pos (show 0 < t.kids.length by omega)
    obtain ⟨y, hy⟩ := ih k hk (((canL_iff _).1 h3).1 k hk)
    exact ⟨k.lab ++ y, Tr.inn_mem.2 (.inr (wsL_mem.2 ⟨k, hk, Tr.ws_mem.2 ⟨y, hy, rfl⟩⟩))⟩
theorem kid_word {ks : List Tr} (h : canL ks) {k : Tr} (hk : k ∈ ks) : ∃ y, k.hd :: y ∈ wsL ks := by
  have hc := ((canL_iff ks).1 h).1 k hk
  obtain ⟨y, hy⟩ := ws_some k hc
  obtain ⟨z, e⟩ := ws_hd hc (Tr.ws_mem.2 ⟨y, hy, rfl⟩)
  exact ⟨z, by rw [← e]; exact wsL_mem.2 ⟨k, hk, Tr.ws_mem.2 ⟨y, hy, rfl⟩⟩⟩
mutual
theorem inn_asc : ∀ t : Tr, canL t.kids → Asc t.inn
  | .nd l w ks, h => by
    refine asc_app ?_ (wsL_asc ks h) ?_
    · show Asc (if w then [[]] else [])
      cases w <;> simp
    · intro x hx y hy
      obtain ⟨_, _, _, z, e⟩ := wsL_hd h hy
      have : x = [] := by cases hw : (Tr.nd l w ks).wd <;> simp [hw] at hx; exact hx
      rw [this, e]; rfl
theorem wsL_asc : ∀ ks : List Tr, canL ks → Asc (wsL ks)
  | [], _ => List.Pairwise.nil
  | k :: r, h => by
    rw [wsL]
    have h' := h
    rw [canL] at h
    refine asc_app (by rw [Tr.ws_eq]; exact asc_map _ (inn_asc k ((Tr.can_iff k).1 h.1).2.2)) (wsL_asc r h.2.2) ?_
    intro x hx y hy
    obtain ⟨x', e⟩ := ws_hd h.1 hx
    obtain ⟨k', hk', _, y', e'⟩ := wsL_hd h.2.2 hy
    rw [e, e', lt_cons]
    exact .inl (h.2.1 k' hk')
end
/-- Two words with other first bytes lie below two kids. -/
theorem two_kids {ks : List Tr} (h : canL ks) {c d : UInt8} {x y : Str} (hx : c :: x ∈ wsL ks) (hy : d :: y ∈ wsL ks) (hn : c ≠ d) : 2 ≤ ks.length := by
  obtain ⟨k, hk, _, z, e⟩ := wsL_hd h hx
  obtain ⟨k', hk', _, z', e'⟩ := wsL_hd h hy
  cases e; cases e'
  match ks, hk, hk' with
  | [], hk, _ => cases hk
  | [a], hk, hk' =>
    simp only [List.mem_singleton] at hk hk'
    subst hk; subst hk'; exact absurd rfl hn
  | _ :: _ :: _, _, _ => simp
theorem kids_two {ks : List Tr} (h : canL ks) (h2 : 2 ≤ ks.length) : ∃ c d x y, c ≠ d ∧ c :: x ∈ wsL ks ∧ d :: y ∈ wsL ks := by
  match ks, h2 with
  | a :: b :: r, _ =>
    obtain ⟨x, hx⟩ := kid_word h (k := a) (by simp)
    obtain ⟨y, hy⟩ := kid_word h (k := b) (by simp)
    rw [canL] at h
    have := h.2.1 b (by simp)
    exact ⟨a.hd, b.hd, x, y, fun e => by rw [e] at this; exact absurd this (UInt8.lt_irrefl _), hx, hy⟩
/-- The words behind a node's label have nothing in common. -/
theorem inn_split {t : Tr} (h : t.can) (c : UInt8) : ∃ x ∈ t.inn, ∀ y, x ≠ c :: y := by
  obtain ⟨_, h2, h3⟩ := (Tr.can_iff t).1 h
  by_cases e : t.wd = true
  · exact ⟨[], Tr.inn_mem.2 (.inl ⟨rfl, e⟩), fun y => by simp⟩
  · obtain ⟨a, b, x, y, hn, hx, hy⟩ := kids_two h3 (h2 (by simpa using e))
    by_cases e : a = c
    · subst e; exact ⟨b :: y, Tr.inn_mem.2 (.inr hy), fun z hz => by cases hz; exact hn rfl⟩
    · exact ⟨a :: x, Tr.inn_mem.2 (.inr hx), fun z hz => by cases hz; exact e rfl⟩
theorem inn_kids {t u : Tr} (ht : canL t.kids) (hu : canL u.kids) (h : ∀ x, x ∈ t.inn ↔ x ∈ u.inn) : t.wd = u.wd ∧ ∀ x, x ∈ wsL t.kids ↔ x ∈ wsL u.kids := by
  constructor
  · have := h []
    rw [Tr.inn_mem, Tr.inn_mem] at this
    have a := wsL_ne ht
    have b := wsL_ne hu
    cases hw : t.wd <;> cases hv : u.wd <;> simp [hw, hv, a, b] at this <;> rfl
  · intro x
    have := h x
    rw [Tr.inn_mem, Tr.inn_mem] at this
    by_cases e : x = []
    · subst e; exact ⟨fun k => absurd k (wsL_ne ht), fun k => absurd k (wsL_ne hu)⟩
    · simpa [e] using this
/-- Trees that are as described are known by their words. -/
theorem uniq (n : Nat) : (∀ t u : Tr, SizeOf.sizeOf t < n → t.can → u.can → (∀ x, x ∈ t.ws ↔ x ∈ u.ws) → t = u) ∧ (∀ ks ms : List Tr, SizeOf.sizeOf ks < n → canL ks → canL ms → (∀ x, x ∈ wsL ks ↔ x ∈ wsL ms) → ks = ms) := by
  induction n with
  | zero => exact ⟨fun _ _ h => absurd h (by omega), fun _ _ h => absurd h (by omega)⟩
  | succ n ih =>
    refine ⟨fun t u hs ht hu h => ?_, fun ks ms hs hk hm h => ?_⟩
    · have ht' := (Tr.can_iff t).1 ht
      have hu' := (Tr.can_iff u).1 hu
      have hl : t.lab = u.lab := by
        obtain ⟨x, hx⟩ := ws_some t ht
        obtain ⟨y, hy, e⟩ := Tr.ws_mem.1 ((h _).1 (Tr.ws_mem.2 ⟨x, hx, rfl⟩))
        rcases List.append_eq_append_iff.1 e with ⟨m, e1, _⟩ | ⟨m, e1, _⟩
        · cases m with
          | nil => rw [e1, List.append_nil]
          | cons c m =>
            obtain ⟨z, hz, hn⟩ := inn_split ht c
            obtain ⟨y', _, e2⟩ := Tr.ws_mem.1 ((h _).1 (Tr.ws_mem.2 ⟨z, hz, rfl⟩))
            rw [e1, List.append_assoc] at e2
            exact absurd (List.append_cancel_left e2) (hn _)
        · cases m with
          | nil => rw [e1, List.append_nil]
          | cons c m =>
            obtain ⟨z, hz, hn⟩ := inn_split hu c
            obtain ⟨y', _, e2⟩ := Tr.ws_mem.1 ((h _).2 (Tr.ws_mem.2 ⟨z, hz, rfl⟩))
            rw [e1, List.append_assoc] at e2
            exact absurd (List.append_cancel_left e2) (hn _)
      have hi : ∀ x, x ∈ t.inn ↔ x ∈ u.inn := fun x => by
        have := h (t.lab ++ x)
        rw [Tr.ws_mem, Tr.ws_mem, ← hl] at this
        simpa using this
      obtain ⟨hw, hk⟩ := inn_kids ht'.2.2 hu'.2.2 hi
      have := ih.2 t.kids u.kids (by cases t; simp only [Tr.nd.sizeOf_spec] at hs; show SizeOf.sizeOf _ < _; simp only [Tr.kids]; omega) ht'.2.2 hu'.2.2 hk
      rw [← Tr.eta t, ← Tr.eta u, hl, hw, this]
    · match ks, ms with
      | [], [] => rfl
      | [], b :: ms =>
        obtain ⟨y, hy⟩ := kid_word hm (k := b) (by simp)
        exact absurd ((h _).2 hy) (by simp [wsL])
      | a :: ks, [] =>
        obtain ⟨y, hy⟩ := kid_word hk (k := a) (by simp)
        exact absurd ((h _).1 hy) (by simp [wsL])
      | a :: ks, b :: ms =>
        have hk0 := hk
        have hm0 := hm
        rw [canL] at hk hm
        have hle : ∀ {a b : Tr} {ks ms : List Tr}, canL (a :: ks) → canL (b :: ms) → (∀ x, x ∈ wsL (a :: ks) → x ∈ wsL (b :: ms)) → ¬ a.hd < b.hd := fun {a b ks ms} hk hm h hlt => by
          obtain ⟨y, hy⟩ := kid_word hk (k := a) (by simp)
          obtain ⟨k', hk', _, z, e⟩ := wsL_hd hm (h _ hy)
          rw [canL] at hm
          injection e with e _
          rw [e] at hlt
          rcases List.mem_cons.1 hk' with q | q
          · subst q; exact absurd hlt (UInt8.lt_irrefl _)
          · exact absurd (UInt8.lt_trans hlt (hm.2.1 k' q)) (UInt8.lt_irrefl _)
        have hh : a.hd = b.hd := by
          rcases u8_tri a.hd b.hd with q | q | q
          · exact absurd q (hle hk0 hm0 fun x => (h x).1)
          · exact q
          · exact absurd q (hle hm0 hk0 fun x => (h x).2)
        have part : ∀ {a b : Tr} {ks ms : List Tr}, canL (a :: ks) → canL (b :: ms) → a.hd = b.hd → ∀ x, x ∈ wsL (a :: ks) → x ∈ wsL (b :: ms) → (x ∈ a.ws → x ∈ b.ws) ∧ (x ∈ wsL ks → x ∈ wsL ms) := fun {a b ks ms} hk hm e x h1 h2 => by
          rw [canL] at hk hm
          rw [wsL, List.mem_append] at h2
          constructor
          · intro q
            rcases h2 with h2 | h2
            · exact h2
            · obtain ⟨y, e1⟩ := ws_hd hk.1 q
              obtain ⟨k', hk', _, z, e2⟩ := wsL_hd hm.2.2 h2
              rw [e1] at e2; injection e2 with e2 _
              have := hm.2.1 k' hk'
              rw [← e, e2] at this; exact absurd this (UInt8.lt_irrefl _)
          · intro q
            rcases h2 with h2 | h2
            · obtain ⟨y, e1⟩ := ws_hd hm.1 h2
              obtain ⟨k', hk', _, z, e2⟩ := wsL_hd hk.2.2 q
              rw [e1] at e2; injection e2 with e2 _
              have := hk.2.1 k' hk'
              rw [e, e2] at this; exact absurd this (UInt8.lt_irrefl _)
            · exact h2
        have hs' : SizeOf.sizeOf a < n ∧ SizeOf.sizeOf ks < n := by
          simp only [List.cons.sizeOf_spec] at hs; omega
        congr 1
        · refine ih.1 a b hs'.1 hk.1 hm.1 fun x => ⟨fun q => ?_, fun q => ?_⟩
          · have m : x ∈ wsL (a :: ks) := by rw [wsL]; exact List.mem_append_left _ q
            exact (part hk0 hm0 hh x m ((h x).1 m)).1 q
          · have m : x ∈ wsL (b :: ms) := by rw [wsL]; exact List.mem_append_left _ q
            exact (part hm0 hk0 hh.symm x m ((h x).2 m)).1 q
        · refine ih.2 ks ms hs'.2 hk.2.2 hm.2.2 fun x => ⟨fun q => ?_, fun q => ?_⟩
          · have m : x ∈ wsL (a :: ks) := by rw [wsL]; exact List.mem_append_right _ q
            exact (part hk0 hm0 hh x m ((h x).1 m)).2 q
          · have m : x ∈ wsL (b :: ms) := by rw [wsL]; exact List.mem_append_right _ q
            exact (part hm0 hk0 hh.symm x m ((h x).2 m)).2 q
theorem uniqL {ks ms : List Tr} (hk : canL ks) (hm : canL ms) (h : ∀ x, x ∈ wsL ks ↔ x ∈ wsL ms) : ks = ms := (uniq _).2 ks ms (Nat.lt_succ_self _) hk hm h
theorem uniqT {t u : Tr} (hl : t.lab = u.lab) (hk : canL t.kids) (hm : canL u.kids) (h : ∀ x, x ∈ t.inn ↔ x ∈ u.inn) : t = u := by
  obtain ⟨hw, h2⟩ := inn_kids hk hm h
  rw [← Tr.eta t, ← Tr.eta u, hl, hw, uniqL hk hm h2]
end Go.D41
