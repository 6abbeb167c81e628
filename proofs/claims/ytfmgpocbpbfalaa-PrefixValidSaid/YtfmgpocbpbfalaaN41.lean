/-
  The tree of words, and what becomes of a tree.
-/
import Derived.Test.YtfmgpocbpbfalaaM41
namespace Go.D41
/-! ### Common beginnings -/
def comm : Str → Str → Nat
  | a :: x, b :: y => if a = b then comm x y + 1 else 0
  | _, _ => 0
theorem comm_take : ∀ a b : Str, a.take (comm a b) = b.take (comm a b) ∧ comm a b ≤ a.length ∧ comm a b ≤ b.length
  | [], b => by simp [comm]
  | a :: x, [] => by simp [comm]
  | a :: x, b :: y => by
    rw [comm]
    split
    · rename_i e; subst e
      obtain ⟨h1, h2, h3⟩ := comm_take x y
      exact ⟨by simp [h1], by simp; exact h2, by simp; exact h3⟩
    · simp
/-- Behind what is common the next bytes differ. -/
theorem comm_next : ∀ a b : Str, comm a b < a.length → comm a b < b.length → ∃ c d x y, c ≠ d ∧ a.drop (comm a b) = c :: x ∧ b.drop (comm a b) = d :: y
  | [], b, h, _ => absurd h (by simp)
  | a :: x, [], _, h => absurd h (by simp)
  | a :: x, b :: y, h1, h2 => by
    rw [comm] at h1 h2 ⊢
    split
    · rename_i e
      rw [if_pos e] at h1 h2
      simp only [List.length_cons] at h1 h2
      simpa using comm_next x y (by omega) (by omega)
    · rename_i e
      exact ⟨a, b, x, y, e, rfl, rfl⟩
theorem comm_pos {c : UInt8} {x y : Str} : 0 < comm (c :: x) (c :: y) := by rw [comm, if_pos rfl]; omega
theorem comm_full {a b : Str} : comm a b = b.length ↔ b <+: a := by
  constructor
  · intro h
    have := (comm_take a b).1
    rw [h, List.take_length] at this
    rw [← this]; exact List.take_prefix _ _
  · rintro ⟨z, rfl⟩
    induction b with
    | nil => cases z <;> simp [comm]
    | cons c b ih => rw [List.cons_append, comm, if_pos rfl, ih]; rfl
/-- Between two strings with a beginning all have it. -/
theorem between : ∀ {p a v b : Str}, p <+: a → p <+: b → ¬ lt v a → ¬ lt b v → p <+: v
  | [], _, v, _, _, _, _, _ => List.nil_prefix
  | c :: p, a, v, b, ⟨x, ha⟩, ⟨y, hb⟩, h1, h2 => by
    subst ha; subst hb
    cases v with
    | nil => exact absurd rfl h1
    | cons d v =>
      rw [List.cons_append, lt_cons] at h1 h2
      have e : c = d := by
        rcases u8_tri c d with q | q | q
        · exact absurd (.inl q) h2
        · exact q
        · exact absurd (.inl q) h1
      subst e
      have := between (p := p) (a := p ++ x) (v := v) (b := p ++ y) ⟨x, rfl⟩ ⟨y, rfl⟩ (fun q => h1 (.inr ⟨rfl, q⟩)) (fun q => h2 (.inr ⟨rfl, q⟩))
      exact (List.cons_prefix_cons).2 ⟨rfl, this⟩
/-! ### The tree of words -/
def hd0 (w : Str) : UInt8 := w.headD 0
def grp (w : Str) (r : List Str) : List Str := r.takeWhile fun v => hd0 v == hd0 w
def rst (w : Str) (r : List Str) : List Str := r.dropWhile fun v => hd0 v == hd0 w
def cut (n : Nat) (l : List Str) : List Str := (l.filter fun v => decide (n < v.length)).map (·.drop n)
def comN (w : Str) (r : List Str) : Nat := comm w ((w :: grp w r).getLastD w)
def kidsF : Nat → List Str → List Tr
  | 0, _ => []
  | _ + 1, [] => []
  | f + 1, w :: r => .nd (w.take (comN w r)) (w.length == comN w r) (kidsF f (cut (comN w r) (w :: grp w r))) :: kidsF f (rst w r)
def msr (l : List Str) : Nat := (l.map fun w => w.length + 1).sum
theorem msr_cons (w : Str) (l : List Str) : msr (w :: l) = w.length + 1 + msr l := by simp [msr]
theorem msr_app (a b : List Str) : msr (a ++ b) = msr a + msr b := by simp [msr]
theorem msr_cut (n : Nat) (l : List Str) : msr (cut n l) ≤ msr l := by
  induction l with
  | nil => simp [cut, msr]
  | cons w l ih =>
    rw [msr_cons, cut, List.filter_cons]
    split
    · rw [List.map_cons, msr_cons, List.length_drop]
      have : msr (cut n l) = msr ((l.filter fun v => decide (n < v.length)).map (·.drop n)) := rfl
      omega
    · have : msr (cut n l) = msr ((l.filter fun v => decide (n < v.length)).map (·.drop n)) := rfl
      omega
theorem msr_cut1 {n : Nat} (h : 0 < n) (w : Str) (l : List Str) : msr (cut n (w :: l)) < msr (w :: l) := by
  have := msr_cut n l
  rw [msr_cons, cut, List.filter_cons]
  have e : msr (cut n l) = msr ((l.filter fun v => decide (n < v.length)).map (·.drop n)) := rfl
  split
  · rename_i q
    have q := of_decide_eq_true q
    rw [List.map_cons, msr_cons, List.length_drop]
    omega
  · omega
theorem cut_mem {n : Nat} {l : List Str} {x : Str} : x ∈ cut n l ↔ ∃ v ∈ l, n < v.length ∧ v.drop n = x := by
  simp [cut, and_assoc]
theorem cut_asc {p : Str} {l : List Str} (h : Asc l) (hp : ∀ v ∈ l, p <+: v) : Asc (cut p.length l) := by
  rw [cut, Asc, List.pairwise_map]
  have h2 : (l.filter fun v => decide (p.length < v.length)).Pairwise lt := h.filter _
  refine List.Pairwise.imp_of_mem ?_ h2
  intro a b ha hb hab
  obtain ⟨x, rfl⟩ := hp a (List.mem_filter.1 ha).1
  obtain ⟨y, rfl⟩ := hp b (List.mem_filter.1 hb).1
  rw [List.drop_left, List.drop_left]
  exact (lt_app p x y).1 hab
theorem grp_rst (w : Str) (r : List Str) : grp w r ++ rst w r = r := List.takeWhile_append_dropWhile
theorem grp_hd {w v : Str} {r : List Str} (h : v ∈ grp w r) : hd0 v = hd0 w := by
  have key : ∀ l : List Str, v ∈ l.takeWhile (fun v => hd0 v == hd0 w) → hd0 v = hd0 w := fun l => by
    induction l with
    | nil => intro q; cases q
    | cons a l ih =>
      intro q
      rw [List.takeWhile_cons] at q
      split at q
      · rename_i e
        rcases List.mem_cons.1 q with k | k
        · rw [k]; exact eq_of_beq e
        · exact ih k
      · cases q
  exact key r h
theorem hd0_lt {a b : Str} (ha : a ≠ []) (hb : b ≠ []) (h : lt a b) : hd0 a < hd0 b ∨ hd0 a = hd0 b := by
  cases a with
  | nil => exact absurd rfl ha
  | cons c x =>
    cases b with
    | nil => exact absurd rfl hb
    | cons d y =>
      rw [lt_cons] at h
      rcases h with h | h
      · exact .inl h
      · exact .inr h.1
theorem rst_hd {w : Str} {r : List Str} (ha : Asc (w :: r)) (hn : [] ∉ w :: r) {v : Str} (h : v ∈ rst w r) : hd0 w < hd0 v := by
  have hw : w ≠ [] := fun e => hn (by rw [e]; simp)
  have hr : ∀ x ∈ r, x ≠ [] := fun x hx e => hn (by rw [← e]; simp [hx])
  obtain ⟨h1, h2⟩ := List.pairwise_cons.1 ha
  cases e : rst w r with
  | nil => rw [e] at h; cases h
  | cons a s =>
    have hs : (a :: s).Sublist r := by rw [← e]; exact List.dropWhile_sublist _
    have am : a ∈ r := hs.subset (by simp)
    have hna : hd0 a ≠ hd0 w := fun q => by
      have := List.head_dropWhile_not (p := fun v => hd0 v == hd0 w) (l := r) (by show rst w r ≠ []; rw [e]; simp)
      have e2 : (r.dropWhile fun v => hd0 v == hd0 w) = a :: s := e
      simp [e2, q] at this
    have h3 : hd0 w < hd0 a := (hd0_lt hw (hr a am) (h1 a am)).resolve_right fun q => hna q.symm
    rw [e] at h
    rcases List.mem_cons.1 h with q | q
    · rw [q]; exact h3
    · have hp := h2.sublist hs
      have := (List.pairwise_cons.1 hp).1 v q
      rcases hd0_lt (hr a am) (hr v (hs.subset (by simp [q]))) this with k | k
      · exact UInt8.lt_trans h3 k
      · rw [← k]; exact h3
theorem asc_first {w v : Str} {l : List Str} (h : Asc (w :: l)) (hv : v ∈ w :: l) : ¬ lt v w := by
  rcases List.mem_cons.1 hv with e | m
  · rw [e]; exact lt_irrefl _
  · exact lt_asymm ((List.pairwise_cons.1 h).1 v m)
theorem asc_last {w v : Str} : ∀ {l : List Str}, Asc l → v ∈ l → ¬ lt (l.getLastD w) v
  | [], _, hv => by cases hv
  | [a], _, hv => by
    rw [List.mem_singleton] at hv; subst hv
    exact lt_irrefl _
  | a :: b :: l, h, hv => by
    have h' := (List.pairwise_cons.1 h).2
    have e : (a :: b :: l).getLastD w = (b :: l).getLastD w := by simp [List.getLastD]
    rw [e]
    rcases List.mem_cons.1 hv with q | q
    · rw [q]
      intro k
      have hm : (b :: l).getLastD w ∈ b :: l := by
        have : (b :: l).getLastD w = (b :: l).getLast (by simp) := by simp [List.getLastD]
        rw [this]; exact List.getLast_mem _
      exact lt_asymm ((List.pairwise_cons.1 h).1 _ hm) k
    · exact asc_last h' q
theorem last_mem (w : Str) (g : List Str) : (w :: g).getLastD w ∈ w :: g := by
  have : (w :: g).getLastD w = (w :: g).getLast (by simp) := by simp [List.getLastD]
  rw [this]; exact List.getLast_mem _
/-- What the words of a group have in common. -/
theorem group {w : Str} {r : List Str} (ha : Asc (w :: r)) (hn : [] ∉ w :: r) :
    0 < comN w r ∧ comN w r ≤ w.length ∧ (∀ v ∈ w :: grp w r, w.take (comN w r) <+: v) ∧ Asc (w :: grp w r) ∧ (w.length ≠ comN w r → ∃ c d x y, c ≠ d ∧ c :: x ∈ cut (comN w r) (w :: grp w r) ∧ d :: y ∈ cut (comN w r) (w :: grp w r)) := by
  have hsub : (w :: grp w r).Sublist (w :: r) := (List.takeWhile_sublist _).cons_cons w
  have hg : Asc (w :: grp w r) := ha.sublist hsub
  have hw : w ≠ [] := fun e => hn (by rw [e]; simp)
  have hlm := last_mem w (grp w r)
  have hl : (w :: grp w r).getLastD w ≠ [] := fun e => hn (by rw [← e]; exact hsub.subset hlm)
  have hh : hd0 ((w :: grp w r).getLastD w) = hd0 w := by
    rcases List.mem_cons.1 hlm with e | m
    · rw [e]
    · exact grp_hd m
  have hpos : 0 < comN w r := by
    unfold comN
    generalize (w :: grp w r).getLastD w = u at hl hh
    cases w with
    | nil => exact absurd rfl hw
    | cons c x =>
      cases u with
      | nil => exact absurd rfl hl
      | cons d y =>
        have : d = c := hh
        subst this; exact comm_pos
  obtain ⟨t1, t2, t3⟩ := comm_take w ((w :: grp w r).getLastD w)
  have hp : ∀ v ∈ w :: grp w r, w.take (comN w r) <+: v := fun v hv => by
    refine between (List.take_prefix _ w) (b := (w :: grp w r).getLastD w) ?_ (asc_first hg hv) (asc_last hg hv)
    show w.take (comm w _) <+: _
    rw [t1]; exact List.take_prefix _ _
  refine ⟨hpos, t2, hp, hg, fun hne => ?_⟩
  have hlt : comN w r < w.length := by have : comN w r ≤ w.length := t2; omega
  have hlt2 : comN w r < ((w :: grp w r).getLastD w).length := by
    have h3 : comN w r ≤ ((w :: grp w r).getLastD w).length := t3
    rcases Nat.lt_or_eq_of_le h3 with q | q
    · exact q
    · exfalso
      have e : (w :: grp w r).getLastD w <+: w := comm_full.1 q
      obtain ⟨z, hz⟩ := e
      cases z with
      | nil =>
        rw [List.append_nil] at hz
        rw [hz] at q; omega
      | cons c z =>
        have := asc_first hg hlm
        apply this
        have hz' := hz
        generalize (w :: grp w r).getLastD w = u at hz'
        have k : lt (u ++ []) (u ++ c :: z) := (lt_app u [] (c :: z)).2 rfl
        rw [List.append_nil, hz'] at k
        exact k
  obtain ⟨c, d, x, y, q1, q2, q3⟩ := comm_next w _ hlt hlt2
  exact ⟨c, d, x, y, q1, cut_mem.2 ⟨w, by simp, hlt, q2⟩, cut_mem.2 ⟨_, hlm, hlt2, q3⟩⟩
theorem kidsF_ok : ∀ (f : Nat) (l : List Str), Asc l → [] ∉ l → msr l < f → canL (kidsF f l) ∧ ∀ x, x ∈ wsL (kidsF f l) ↔ x ∈ l
  | 0, _, _, _, h => absurd h (by omega)
  | f + 1, [], _, _, _ => ⟨trivial, fun x => Iff.rfl⟩
  | f + 1, w :: r, ha, hn, hf => by
    obtain ⟨g1, g2, g3, g4, g5⟩ := group ha hn
    have hr : Asc (rst w r) := (List.pairwise_cons.1 ha).2.sublist (List.dropWhile_sublist _)
    have hrs : ∀ x ∈ rst w r, x ∈ r := fun x hx => (List.dropWhile_sublist _).subset hx
    have hm : msr (w :: r) = msr (w :: grp w r) + msr (rst w r) := by
      rw [msr_cons, msr_cons]
      have : msr r = msr (grp w r) + msr (rst w r) := by rw [← msr_app, grp_rst]
      omega
    have hm1 : 0 < msr (w :: grp w r) := by rw [msr_cons]; omega
    have hm2 := msr_cut1 g1 w (grp w r)
    have hlen : (w.take (comN w r)).length = comN w r := by rw [List.length_take]; omega
    have hca : Asc (cut (comN w r) (w :: grp w r)) := by have := cut_asc g4 g3; rwa [hlen] at this
    have hcn : [] ∉ cut (comN w r) (w :: grp w r) := fun q => by
      obtain ⟨v, _, h1, h2⟩ := cut_mem.1 q
      have := congrArg List.length h2
      rw [List.length_drop, List.length_nil] at this; omega
    obtain ⟨k1, k2⟩ := kidsF_ok f _ hca hcn (by omega)
    obtain ⟨r1, r2⟩ := kidsF_ok f (rst w r) hr (fun q => hn (by simp [hrs _ q])) (by omega)
    have hc : (Tr.nd (w.take (comN w r)) (w.length == comN w r) (kidsF f (cut (comN w r) (w :: grp w r)))).can := by
      rw [Tr.can]
      refine ⟨fun e => by rw [e] at hlen; simp at hlen; omega, fun e => ?_, k1⟩
      obtain ⟨c, d, x, y, q1, q2, q3⟩ := g5 (by simpa using e)
      exact two_kids k1 ((k2 _).2 q2) ((k2 _).2 q3) q1
    have hh : (Tr.nd (w.take (comN w r)) (w.length == comN w r) (kidsF f (cut (comN w r) (w :: grp w r)))).hd = hd0 w := by
      show (w.take _).headD 0 = w.headD 0
      cases w with
      | nil => exact absurd (by simp) hn
      | cons c x =>
        obtain ⟨m, e⟩ : ∃ m, comN (c :: x) r = m + 1 := ⟨_, (Nat.succ_pred_eq_of_pos g1).symm⟩
        rw [e]; rfl
    rw [kidsF, canL]
    refine ⟨⟨hc, fun x hx => ?_, r1⟩, fun x => ?_⟩
    · obtain ⟨y, hy⟩ := kid_word r1 hx
      rw [hh]
      exact rst_hd ha hn (v := x.hd :: y) ((r2 _).1 hy)
    · rw [wsL, List.mem_append, r2]
      have e1 : x ∈ (Tr.nd (w.take (comN w r)) (w.length == comN w r) (kidsF f (cut (comN w r) (w :: grp w r)))).ws ↔ x ∈ w :: grp w r := by
        rw [Tr.ws_mem]
        constructor
        · rintro ⟨y, hy, rfl⟩
          rcases Tr.inn_mem.1 hy with ⟨rfl, q⟩ | q
          · have q : (w.length == comN w r) = true := q
            have q := eq_of_beq q
            show w.take _ ++ [] ∈ _
            rw [List.append_nil, ← q, List.take_length]; simp
          · obtain ⟨v, h1, h2, h3⟩ := cut_mem.1 ((k2 _).1 q)
            show w.take _ ++ y ∈ _
            obtain ⟨z, hz⟩ := g3 v h1
            have e : v.drop (comN w r) = z := by
              have e2 := congrArg (List.drop (comN w r)) hz
              rw [← e2]
              exact List.drop_left' hlen
            rw [← h3, e, hz]; exact h1
        · intro hx
          obtain ⟨z, hz⟩ := g3 x hx
          refine ⟨z, Tr.inn_mem.2 ?_, hz.symm⟩
          cases z with
          | nil =>
            left
            refine ⟨rfl, ?_⟩
            show (w.length == comN w r) = true
            rw [List.append_nil] at hz
            have : ¬ lt x w := asc_first g4 hx
            rw [← hz] at this
            have hw : w.take (comN w r) ++ w.drop (comN w r) = w := List.take_append_drop _ _
            cases e : w.drop (comN w r) with
            | nil =>
              have := congrArg List.length e
              rw [List.length_drop, List.length_nil] at this
              exact beq_iff_eq.2 (by omega)
            | cons c u =>
              exfalso; apply this
              have k : lt (w.take (comN w r) ++ []) (w.take (comN w r) ++ c :: u) := (lt_app _ [] (c :: u)).2 rfl
              rwa [List.append_nil, ← e, hw] at k
          | cons c z =>
            right
            refine (k2 _).2 (cut_mem.2 ⟨x, hx, ?_, ?_⟩)
            · rw [← hz, List.length_append, hlen, List.length_cons]; omega
            · rw [← hz]; exact List.drop_left' hlen
      rw [e1]
      have : x ∈ w :: r ↔ x ∈ w :: grp w r ∨ x ∈ rst w r := by
        rw [← List.mem_append, List.cons_append, grp_rst]
      exact this.symm
def kidsR (l : List Str) : List Tr := kidsF (msr l + 1) l
theorem kidsR_ok {l : List Str} (h : Asc l) (hn : [] ∉ l) : canL (kidsR l) ∧ ∀ x, x ∈ wsL (kidsR l) ↔ x ∈ l := kidsF_ok _ l h hn (Nat.lt_succ_self _)
theorem kidsR_ws {l : List Str} (h : Asc l) (hn : [] ∉ l) : wsL (kidsR l) = l := asc_ext (wsL_asc _ (kidsR_ok h hn).1) h (kidsR_ok h hn).2
theorem kidsF_eq {l : List Str} (h : Asc l) (hn : [] ∉ l) {f : Nat} (hf : msr l < f) : kidsF f l = kidsR l :=
  uniqL (kidsF_ok f l h hn hf).1 (kidsR_ok h hn).1 fun x => by rw [(kidsF_ok f l h hn hf).2, (kidsR_ok h hn).2]
theorem kidsR_cons {w : Str} {r : List Str} (ha : Asc (w :: r)) (hn : [] ∉ w :: r) : kidsR (w :: r) = .nd (w.take (comN w r)) (w.length == comN w r) (kidsR (cut (comN w r) (w :: grp w r))) :: kidsR (rst w r) := by
  obtain ⟨g1, g2, g3, g4, g5⟩ := group ha hn
  have hm : msr (w :: r) = msr (w :: grp w r) + msr (rst w r) := by
    rw [msr_cons, msr_cons]
    have : msr r = msr (grp w r) + msr (rst w r) := by rw [← msr_app, grp_rst]
    omega
  have hm2 := msr_cut1 g1 w (grp w r)
  have hm1 : 0 < msr (w :: grp w r) := by rw [msr_cons]; omega
  have hlen : (w.take (comN w r)).length = comN w r := by rw [List.length_take]; omega
  have hca : Asc (cut (comN w r) (w :: grp w r)) := by have := cut_asc g4 g3; rwa [hlen] at this
  have hcn : [] ∉ cut (comN w r) (w :: grp w r) := fun q => by
    obtain ⟨v, _, h1, h2⟩ := cut_mem.1 q
    have := congrArg List.length h2
    rw [List.length_drop, List.length_nil] at this; omega
  have hr : Asc (rst w r) := (List.pairwise_cons.1 ha).2.sublist (List.dropWhile_sublist _)
  have hrn : [] ∉ rst w r := fun q => hn (by simp [(List.dropWhile_sublist _).subset q])
  rw [kidsR, kidsF, kidsF_eq hca hcn (by omega), kidsF_eq hr hrn (by omega)]
theorem kidsR_nil : kidsR [] = [] := rfl
/-- The node with a label, behind which the words are these. -/
def mkT (lab : Str) (I : List Str) : Tr := .nd lab (decide ([] ∈ I)) (kidsR (I.filter fun w => decide (w ≠ [])))
theorem mkT_ok (lab : Str) {I : List Str} (h : Asc I) : canL (mkT lab I).kids ∧ ∀ x, x ∈ (mkT lab I).inn ↔ x ∈ I := by
  have hn : [] ∉ I.filter fun w => decide (w ≠ []) := by simp
  obtain ⟨a, b⟩ := kidsR_ok (h.filter _) hn
  refine ⟨a, fun x => ?_⟩
  rw [Tr.inn_mem]
  show (x = [] ∧ decide ([] ∈ I) = true) ∨ x ∈ wsL (kidsR _) ↔ _
  rw [b, List.mem_filter]
  by_cases e : x = []
  · subst e; simp
  · simp [e]
theorem mkT_inn (lab : Str) {I : List Str} (h : Asc I) : (mkT lab I).inn = I := asc_ext (inn_asc _ (mkT_ok lab h).1) h (mkT_ok lab h).2
theorem eqT {t : Tr} {I : List Str} (hc : canL t.kids) (hI : Asc I) (h : ∀ x, x ∈ t.inn ↔ x ∈ I) : t = mkT t.lab I :=
  uniqT rfl hc (mkT_ok _ hI).1 fun x => by rw [h, (mkT_ok _ hI).2]
/-! ### Sorted insertion -/
def insS (w : Str) : List Str → List Str
  | [] => [w]
  | x :: r => if lt x w then x :: insS w r else if x = w then x :: r else w :: x :: r
theorem insS_mem {w x : Str} : ∀ {l : List Str}, x ∈ insS w l ↔ x = w ∨ x ∈ l
  | [] => by simp [insS]
  | y :: r => by
    rw [insS]
    split
    · rw [List.mem_cons, insS_mem (l := r), List.mem_cons]
      constructor
      · rintro (h | h | h) <;> simp [h]
      · rintro (h | h | h) <;> simp [h]
    · split
      · rename_i e; subst e; simp
      · simp
theorem insS_asc {w : Str} : ∀ {l : List Str}, Asc l → Asc (insS w l)
  | [], _ => by simp [insS]
  | y :: r, h => by
    obtain ⟨h1, h2⟩ := List.pairwise_cons.1 h
    rw [insS]
    split
    · rename_i q
      refine List.pairwise_cons.2 ⟨fun x hx => ?_, insS_asc h2⟩
      rcases insS_mem.1 hx with e | m
      · rw [e]; exact q
      · exact h1 x m
    · split
      · exact h
      · rename_i q1 q2
        have hl : lt w y := by
          rcases lt_tri w y with k | k | k
          · exact k
          · exact absurd k.symm q2
          · exact absurd k q1
        refine List.pairwise_cons.2 ⟨fun x hx => ?_, h⟩
        rcases List.mem_cons.1 hx with e | m
        · rw [e]; exact hl
        · exact lt_trans hl (h1 x m)
def sortF : List Str → List Str → List Str
  | a, [] => a
  | a, w :: r => sortF (insS w a) r
theorem sortF_asc : ∀ {r a : List Str}, Asc a → Asc (sortF a r)
  | [], _, h => h
  | w :: r, a, h => by rw [sortF]; exact sortF_asc (insS_asc h)
theorem sortF_mem {x : Str} : ∀ {r a : List Str}, x ∈ sortF a r ↔ x ∈ a ∨ x ∈ r
  | [], a => by simp [sortF]
  | w :: r, a => by
    rw [sortF, sortF_mem (r := r), insS_mem, List.mem_cons]
    constructor
    · rintro ((h | h) | h) <;> simp [h]
    · rintro (h | h | h) <;> simp [h]
def sortS (l : List Str) : List Str := sortF [] l
theorem sortS_asc (l : List Str) : Asc (sortS l) := sortF_asc List.Pairwise.nil
theorem sortS_mem {x : Str} {l : List Str} : x ∈ sortS l ↔ x ∈ l := by rw [sortS, sortF_mem]; simp
end Go.D41
