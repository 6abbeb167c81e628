/-
  Short names; steps with the store written out; more about nil.
-/
import Derived.Test.YtfmgpocbpbfalaaHLoop
namespace Go.H
open Go Go.RowKit
open Go.G (Gr)

theorem ResAll.cons {P : Program} {F : Frm} {S : Sto} {rv : ResultVar} {rs : List ResultVar} {i : IV} {is : List IV} (h : ResOne P F S rv i) (r : ResAll P F S rs is) : ResAll P F S (rv :: rs) (i :: is) := ⟨h, r⟩
theorem ResAll.nil {P : Program} {F : Frm} {S : Sto} : ResAll P F S [] [] := trivial
theorem ArgsOk.cons {ρ : Nat → Nat} {S : Sto} {bor : List Nat} {i j : IV} {is js : List IV} (h : ArgOk ρ S bor i j) (r : ArgsOk ρ S bor is js) : ArgsOk ρ S bor (i :: is) (j :: js) := ⟨h, r⟩
theorem ArgsOk.nil {ρ : Nat → Nat} {S : Sto} {bor : List Nat} : ArgsOk ρ S bor [] [] := trivial
abbrev vI (n : Int) : IV := .u (.sc (.int .i64 n))
abbrev vN (k : IntKind) (n : Int) : IV := .u (.sc (.int k n))
abbrev vB (b : Bool) : IV := .u (.sc (.bool b))
abbrev vS (s : ByteArray) : IV := .u (.sc (.string s))
abbrev vL (sz : Nat) (rows : List (List UV)) : IV := .u (.sl sz rows)
abbrev vA (us : List UV) : IV := .u (.agg us)
abbrev uI (n : Int) : UV := .sc (.int .i64 n)
abbrev uN (k : IntKind) (n : Int) : UV := .sc (.int k n)
abbrev uB (b : Bool) : UV := .sc (.bool b)
abbrev uS (s : ByteArray) : UV := .sc (.string s)
/-- A slice of bytes as an element. -/
def eL (l : List UInt8) : List UV := [.sl 1 (l.map eB)]

section
variable {c : Ctx} {P : Program} {Q : Exit → Act → World → Prop} {F F' K : Frm} {S S' Z : Sto} {ops : Array Oper} {l r : List Oper} {d : Nat} {op : Op} {ty : TypeId} {pos : String} {af : Array Edge} {gd : Option (Nat × Bool)} {T N : List Nat} {i : IV} {δ : Chg}
  {pl : List Pl} {Zp : Frm → Sto → Prop} {m : Nat}
theorem SL.memS (hg : OpOk c P ops ⟨some d, op, ty, pos, af, gd⟩ F S T N (some i) δ) (hf : freshB N F S = true) (hp : disj N c.pk = true) (hS : updS δ S = S') (h : SL c P ops Q r ((d, i) :: F) S') : SL c P ops Q (⟨some d, op, ty, pos, af, gd⟩ :: r) F S := SL.mem hg hf hp (hS ▸ h)
theorem SL.effS (hg : OpOk c P ops ⟨none, op, ty, pos, af, gd⟩ F S T [] none δ) (hS : updS δ S = S') (h : SL c P ops Q r F S') : SL c P ops Q (⟨none, op, ty, pos, af, gd⟩ :: r) F S := SL.eff hg (hS ▸ h)
theorem WH.memS (hg : OpOk c P ops ⟨some d, op, ty, pos, af, gd⟩ F S T N (some i) δ) (hT : subl T (pl.getD m default).T = true) (hN : subl N (pl.getD m default).N = true) (hk : subl (keysC δ) (pl.getD m default).Wr = true) (hi : subl i.tags (pl.getD m default).T = true) (hd : subl (tagsC δ) (pl.getD m default).T = true)
    (hS : updS δ S = S') (h : WH c P ops pl Zp (m + 1) r ((d, i) :: F) S') : WH c P ops pl Zp m (⟨some d, op, ty, pos, af, gd⟩ :: r) F S := WH.mem hg hT hN hk hi hd (hS ▸ h)
theorem WH.effS (hg : OpOk c P ops ⟨none, op, ty, pos, af, gd⟩ F S T [] none δ) (hT : subl T (pl.getD m default).T = true) (hk : subl (keysC δ) (pl.getD m default).Wr = true) (hd : subl (tagsC δ) (pl.getD m default).T = true)
    (hS : updS δ S = S') (h : WH c P ops pl Zp (m + 1) r F S') : WH c P ops pl Zp m (⟨none, op, ty, pos, af, gd⟩ :: r) F S := WH.eff hg hT hk hd (hS ▸ h)
theorem SL.pick (hF : Pick F K) (hS : PickS S Z) (h : SL c P ops Q l K Z) : SL c P ops Q l F S := fun a w ha => h a w (ha.pick hF hS)
theorem E.nilsl {e : Exit} (t sz : Nat) (hx : look t F = some (.u (.sc (.slice none 0 0)))) (h : E c Q e ((t, .u (.sl sz [])) :: F) S) : E c Q e F S := fun a w ha => h a w (ha.nilsl sz hx)
theorem E.adopt {e : Exit} (t k : Nat) (et : TypeId) (sz : Nat) (hp : 0 < sz) (hx : look t F = some (.u (.sc (.slice none 0 0)))) (hf : freshB [k] F S = true) (hk : disj [k] c.pk = true)
    (h : E c Q e ((t, .own k) :: F) ((k, .data et sz []) :: S)) : E c Q e F S := fun a w ha => h a w (ha.adopt t k et sz hp hx hf hk)
theorem E.as {e : Exit} {i' : IV} (t : Nat) (hl : look t F = some i) (he : i = i') (h : E c Q e ((t, i') :: F) S) : E c Q e F S := by
  subst he
  intro a w ha
  refine h a w ?_
  have : mk ((t, i) :: F) S = mk F S := by
    unfold mk
    congr 1
    funext s
    by_cases e : t = s
    · subst e; rw [look_eq, hl]
    · rw [look_ne e]
  rw [this]; exact ha

/-- A nil slice in a block of the call's own, as a slice of the call's own. -/
theorem Sat.adoptC {a : Act} {w : World} (kb q k : Nat) (e : TypeId) (sz : Nat) {tb : TypeId} {is is' : List IV} (hp : 0 < sz) (hb : lookS kb S = some (.cells tb is)) (hq : is[q]? = some (.u (.sc (.slice none 0 0)))) (hf : freshB [k] F S = true) (hk : disj [k] c.pk = true) (he : is.set q (.own k) = is')
    (h : Sat c (mk F S) a w) : Sat c (mk F ((kb, .cells tb is') :: (k, .data e sz []) :: S)) a w := by
  subst he
  obtain ⟨τ, h⟩ := h
  have hfr := freshB_spec hf
  have hkb : kb ≠ k := fun e => by subst e; have := (hfr kb (by simp)).2; rw [show (mk F S).sto kb = some (.cells tb is) from hb] at this; cases this
  have := h.new (k := k) (sb := .data e sz []) (v := .slice none 0 0) (fun j hj => ⟨(hfr j hj).1, (hfr j hj).2, disj_spec hk j hj⟩) (G.Ext.rfl' w) (fun b hb => by simp [vblk] at hb)
    (fun _ => RepB.of_own hp (xs := []) (by rw [upτ_eq]; exact G.Own.nil _ _ _ _) ⟨rfl, fun i row x h1 => by simp at h1⟩ (by simp))
  refine ⟨upτ τ k (.slice none 0 0), ?_⟩
  have he := mk_upd none none [(k, some (.data e sz []))] F S
  have hsat := this.1
  rw [← he] at hsat
  have hs1 : lookS kb ((k, SB.data e sz []) :: S) = some (.cells tb is) := by rw [lookS_ne (Ne.symm hkb)]; exact hb
  have hall : ∀ j sb, lookS j ((kb, SB.cells tb (is.set q (.own k))) :: (k, SB.data e sz []) :: S) = some sb → (j = kb ∧ sb = .cells tb (is.set q (.own k))) ∨ (j ≠ kb ∧ lookS j ((k, SB.data e sz []) :: S) = some sb) := fun j sb hj => by
    by_cases e : kb = j
    · subst e; rw [lookS_cells] at hj; exact .inl ⟨rfl, (Option.some.inj hj).symm⟩
    · rw [lookS_ne e] at hj; exact .inr ⟨Ne.symm e, hj⟩
  have hlive : ∀ j sb, lookS j ((kb, SB.cells tb (is.set q (.own k))) :: (k, SB.data e sz []) :: S) = some sb → ∃ sb', lookS j ((k, SB.data e sz []) :: S) = some sb' := fun j sb hj => by
    rcases hall j sb hj with ⟨rfl, _⟩ | ⟨_, h2⟩
    · exact ⟨_, hs1⟩
    · exact ⟨_, h2⟩
  have hok : ∀ b, okOf c (upτ τ k (.slice none 0 0)) (mk (push none none F) (updS [(k, some (.data e sz []))] S)).sto b → b < w.heap.size → okOf c (upτ τ k (.slice none 0 0)) (mk F ((kb, .cells tb (is.set q (.own k))) :: (k, .data e sz []) :: S)).sto b ∧ w.heap[b]? = w.heap[b]? :=
    fun b hb' _ => ⟨⟨hb'.1, fun j sb hj => by obtain ⟨sb', h2⟩ := hlive j sb hj; exact hb'.2 j sb' h2⟩, rfl⟩
  refine ⟨hsat.size, hsat.defers, hsat.gr, fun s i hl => ?_, fun j sb hj => ?_, fun j j' s s' b h1 h2 => ?_, fun j sb b h1 => ?_, hsat.pin⟩
  · obtain ⟨u, h1, h2⟩ := hsat.slot s i hl
    exact ⟨u, h1, h2.mono (Nat.le_refl _) hok (fun _ _ => rfl)⟩
  · rcases hall j sb hj with ⟨rfl, rfl⟩ | ⟨_, h2⟩
    · obtain ⟨g, vs, e1, e2, e3, e4⟩ := (hsat.sto j _ hs1).mono (Nat.le_refl _) hok (fun _ _ => rfl) rfl (fun _ _ => rfl)
      refine ⟨g, vs, e1, e2, ⟨by simpa using e3.1, fun n u v h1 h2 => ?_⟩, fun i hi => ?_⟩
      · rw [List.getElem?_set] at h1
        split at h1
        · rename_i hn
          subst hn
          split at h1
          · cases h1
            have := e3.2 q _ v hq h2
            cases this with
            | u h => cases h; have hr := RepI.own (τ := upτ τ k (.slice none 0 0)) (w := w) (ok := okOf c (upτ τ k (.slice none 0 0)) (mk F ((j, .cells tb (is.set q (.own k))) :: (k, .data e sz []) :: S)).sto) k (by rw [upτ_eq]; rfl)
                     rw [upτ_eq] at hr; exact hr
          · cases h1
        · exact e3.2 n u v h1 h2
      · rcases List.mem_or_eq_of_mem_set hi with hi | hi
        · exact e4 i hi
        · subst hi; rfl
    · exact (hsat.sto j sb h2).mono (Nat.le_refl _) hok (fun _ _ => rfl) rfl (fun _ _ => rfl)
  · obtain ⟨a1, q1⟩ := hlive j s h1
    obtain ⟨a2, q2⟩ := hlive j' s' h2
    exact hsat.inj j j' a1 a2 b q1 q2
  · obtain ⟨a1, q1⟩ := hlive j sb h1
    exact hsat.own j a1 b q1
theorem W.adoptC {cd : Code} (kb q k : Nat) (e : TypeId) (sz : Nat) {tb : TypeId} {is is' : List IV} (hp : 0 < sz) (hb : lookS kb S = some (.cells tb is)) (hq : is[q]? = some (.u (.sc (.slice none 0 0)))) (hf : freshB [k] F S = true) (hk : disj [k] c.pk = true) (he : is.set q (.own k) = is')
    (h : W c P cd Q F ((kb, .cells tb is') :: (k, .data e sz []) :: S)) : W c P cd Q F S := fun a w ha => h a w (ha.adoptC kb q k e sz hp hb hq hf hk he)
theorem SL.adoptC (kb q k : Nat) (e : TypeId) (sz : Nat) {tb : TypeId} {is is' : List IV} (hp : 0 < sz) (hb : lookS kb S = some (.cells tb is)) (hq : is[q]? = some (.u (.sc (.slice none 0 0)))) (hf : freshB [k] F S = true) (hk : disj [k] c.pk = true) (he : is.set q (.own k) = is')
    (h : SL c P ops Q l F ((kb, .cells tb is') :: (k, .data e sz []) :: S)) : SL c P ops Q l F S := fun a w ha => h a w (ha.adoptC kb q k e sz hp hb hq hf hk he)
theorem E.adoptC {x : Exit} (kb q k : Nat) (e : TypeId) (sz : Nat) {tb : TypeId} {is is' : List IV} (hp : 0 < sz) (hb : lookS kb S = some (.cells tb is)) (hq : is[q]? = some (.u (.sc (.slice none 0 0)))) (hf : freshB [k] F S = true) (hk : disj [k] c.pk = true) (he : is.set q (.own k) = is')
    (h : E c Q x F ((kb, .cells tb is') :: (k, .data e sz []) :: S)) : E c Q x F S := fun a w ha => h a w (ha.adoptC kb q k e sz hp hb hq hf hk he)
end

theorem sub_lo {α : Type} {enc : α → List UV} {xs : List α} {i : Nat} : ((xs.map enc).take (xs.map enc).length).drop i = (xs.drop i).map enc := by
  rw [List.take_of_length_le (Nat.le_refl _), List.map_drop]
theorem sub_hi {α : Type} {enc : α → List UV} {xs : List α} {j : Nat} : ((xs.map enc).take j).drop 0 = (xs.take j).map enc := by simp
section
variable {c : Ctx} {P : Program} {F : Frm} {S : Sto} {ops : Array Oper} {T : List Nat} {d : Nat} {ty : TypeId} {pos : String} {af : Array Edge} {gd : Option (Nat × Bool)}
theorem O.lenE {x : Operand} {t e : TypeId} {sz n : Nat} {rows : List (List UV)} (hs : SlOf F S T x sz rows) (hn : rows.length = n) (ht : P.underlying t = some (.slice e)) (hd : Nat.blt d c.n = true) (hg : Taken ops F gd) :
    OpOk c P ops ⟨some d, .call { callee := .builtin .len, args := #[x], argTypes := #[t] }, ty, pos, af, gd⟩ F S T [] (some (.u (.sc (.int .i64 n)))) [] := by
  subst hn; exact O.len hs ht hd hg
end

theorem RepU.len {w : World} {ok : Nat → Prop} {sz : Nat} {rows : List (List UV)} {v : Value} (h : RepU w ok (.sl sz rows) v) : rows.length ≤ 9223372036854775807 := by
  cases h with
  | sl0 => simp
  | sl hne h1 h2 => simp only [maxLen] at h2; omega
section
variable {τ : Nat → Value} {w : World} {ok : Nat → Prop} {as : List IV} {S : Sto} {vs : List Value} {i j sz : Nat} {rows : List (List UV)} {us : List UV}
theorem In.len (h : In τ w ok as S vs) (hi : as[i]? = some (.u (.sl sz rows))) : rows.length ≤ 9223372036854775807 := by
  have hl : i < vs.length := by rw [← h.args.1]; exact (List.getElem?_eq_some_iff.1 hi).1
  have := h.args.2 i _ vs[i] hi (List.getElem?_eq_getElem hl)
  cases this with
  | u h => exact h.len
theorem In.lenA (h : In τ w ok as S vs) (hi : as[i]? = some (.u (.agg us))) (hj : us[j]? = some (.sl sz rows)) : rows.length ≤ 9223372036854775807 := by
  have hl : i < vs.length := by rw [← h.args.1]; exact (List.getElem?_eq_some_iff.1 hi).1
  have := h.args.2 i _ vs[i] hi (List.getElem?_eq_getElem hl)
  cases this with
  | u h =>
    generalize vs[i] = x at h
    cases h with
    | agg hl hg =>
      rename_i ws
      have hl2 : j < ws.length := by rw [← hl]; exact (List.getElem?_eq_some_iff.1 hj).1
      exact (hg j _ ws[j] hj (List.getElem?_eq_getElem hl2)).len
end
theorem Con.enterL {P : Program} {fn : Func} {f : FuncId} {cd : Code} {n : Nat} {S S' : Sto} {as : List IV} {r : IV} (hf : P.funcs[f]? = some fn) (hb : fn.body = some cd) (hn : fn.ntmps = n) (hl : Nat.ble as.length n = true)
    (h : ∀ τ w ok vs, In τ w ok as S vs → W (cx n S τ w ok) P cd (Post P fn S τ w ok r S') (args0 0 as) S) : Con P f as S r S' := by
  intro τ w vs ok hin
  exact Con.enter' hf hb hn hl (h τ w ok vs hin) hin

theorem take_flat {sz : Nat} : ∀ {rows : List (List UV)} {j : Nat}, (∀ r ∈ rows, r.length = sz) → (rows.take j).flatten = rows.flatten.take (j * sz)
  | [], j, _ => by simp
  | r :: rows, 0, _ => by simp
  | r :: rows, j + 1, h => by
    have e := h r (by simp)
    have t1 : r.take (j * sz + sz) = r := List.take_of_length_le (by omega)
    rw [List.take_succ_cons, List.flatten_cons, List.flatten_cons, take_flat (fun q hq => h q (by simp [hq])), Nat.add_mul, Nat.one_mul, List.take_append, t1, e, Nat.add_sub_cancel]
/-! ### Cells of a block of the call's own, described otherwise -/
section
variable {c : Ctx} {P : Program} {Q : Exit → Act → World → Prop} {F F' : Frm} {S S' : Sto} {ops : Array Oper} {l : List Oper}
theorem lookS_hd {kb tb j : Nat} {is : List IV} {sb : SB} (hj : lookS j ((kb, SB.cells tb is) :: S) = some sb) : (j = kb ∧ sb = .cells tb is) ∨ (j ≠ kb ∧ lookS j S = some sb) := by
  by_cases e : kb = j
  · subst e; rw [lookS_cells] at hj; exact .inl ⟨rfl, (Option.some.inj hj).symm⟩
  · rw [lookS_ne e] at hj; exact .inr ⟨Ne.symm e, hj⟩
theorem lookS_hdd {k j : Nat} {sb : SB} (hj : lookS j ((k, SB.dead) :: S) = some sb) : j ≠ k ∧ lookS j S = some sb := by
  by_cases e : k = j
  · subst e; rw [lookS_dead] at hj; cases hj
  · rw [lookS_ne e] at hj; exact ⟨Ne.symm e, hj⟩
theorem rep_set {τ : Nat → Value} {w : World} {ok : Nat → Prop} {kb tb q : Nat} {is : List IV} {i i' : IV} (h : RepB τ w ok kb (.cells tb is)) (hq : is[q]? = some i) (h1 : i'.one = true) (hi : ∀ v, RepI τ w ok i v → RepI τ w ok i' v) : RepB τ w ok kb (.cells tb (is.set q i')) := by
  obtain ⟨g, vs, e1, e2, e3, e4⟩ := h
  refine ⟨g, vs, e1, e2, ⟨by simpa using e3.1, fun n u v h1 h2 => ?_⟩, fun j hj => ?_⟩
  · rw [List.getElem?_set] at h1
    split at h1
    · rename_i hn
      subst hn
      split at h1
      · cases h1; exact hi v (e3.2 q i v hq h2)
      · cases h1
    · exact e3.2 n u v h1 h2
  · rcases List.mem_or_eq_of_mem_set hj with hj | hj
    · exact e4 j hj
    · subst hj; exact h1
theorem Sat.nilslC {a : Act} {w : World} (kb q sz : Nat) {tb : TypeId} {is is' : List IV} (hb : lookS kb S = some (.cells tb is)) (hq : is[q]? = some (.u (.sc (.slice none 0 0)))) (he : is.set q (.u (.sl sz [])) = is')
    (h : Sat c (mk F S) a w) : Sat c (mk F ((kb, .cells tb is') :: S)) a w := by
  subst he
  obtain ⟨τ, h⟩ := h
  have hlive : ∀ j sb, lookS j ((kb, SB.cells tb (is.set q (.u (.sl sz [])))) :: S) = some sb → ∃ sb', lookS j S = some sb' := fun j sb hj => by
    rcases lookS_hd hj with ⟨rfl, _⟩ | ⟨_, h2⟩
    · exact ⟨_, hb⟩
    · exact ⟨_, h2⟩
  have hok : ∀ b, okOf c τ (mk F S).sto b → b < w.heap.size → okOf c τ (mk F ((kb, .cells tb (is.set q (.u (.sl sz [])))) :: S)).sto b ∧ w.heap[b]? = w.heap[b]? :=
    fun b hb' _ => ⟨⟨hb'.1, fun j sb hj => by obtain ⟨sb', h2⟩ := hlive j sb hj; exact hb'.2 j sb' h2⟩, rfl⟩
  refine ⟨τ, h.size, h.defers, h.gr, fun s i hl => ?_, fun j sb hj => ?_, fun j j' s s' b h1 h2 => ?_, fun j sb b h1 => ?_, h.pin⟩
  · obtain ⟨u, h1, h2⟩ := h.slot s i hl
    exact ⟨u, h1, h2.mono (Nat.le_refl _) hok (fun _ _ => rfl)⟩
  · rcases lookS_hd hj with ⟨rfl, rfl⟩ | ⟨_, h2⟩
    · exact rep_set ((h.sto j _ hb).mono (Nat.le_refl _) hok (fun _ _ => rfl) rfl (fun _ _ => rfl)) hq rfl (fun v hv => by cases hv with | u hv => cases hv; exact .u (.sl0 (by simp [maxLen]) (fun _ => rfl)))
    · exact (h.sto j sb h2).mono (Nat.le_refl _) hok (fun _ _ => rfl) rfl (fun _ _ => rfl)
  · obtain ⟨a1, q1⟩ := hlive j s h1
    obtain ⟨a2, q2⟩ := hlive j' s' h2
    exact h.inj j j' a1 a2 b q1 q2
  · obtain ⟨a1, q1⟩ := hlive j sb h1
    exact h.own j a1 b q1
theorem Sat.freezeC {a : Act} {w : World} (kb q k : Nat) {t sz : Nat} {rows : List (List UV)} {tb : TypeId} {is is' : List IV} (hS : lookS k S = some (.data t sz rows)) (hb : lookS kb S = some (.cells tb is)) (hq : is[q]? = some (.own k)) (he : is.set q (.u (.sl sz rows)) = is')
    (h : Sat c (mk F S) a w) : Sat c (mk F ((kb, .cells tb is') :: (k, .dead) :: S)) a w := by
  subst he
  obtain ⟨τ, h⟩ := h
  have hkb : kb ≠ k := fun e => by subst e; rw [hb] at hS; cases hS
  have hlive : ∀ j sb, lookS j ((kb, SB.cells tb (is.set q (.u (.sl sz rows)))) :: (k, .dead) :: S) = some sb → j ≠ k ∧ ∃ sb', lookS j S = some sb' := fun j sb hj => by
    rcases lookS_hd hj with ⟨rfl, _⟩ | ⟨_, h2⟩
    · exact ⟨hkb, _, hb⟩
    · obtain ⟨h3, h4⟩ := lookS_hdd h2; exact ⟨h3, _, h4⟩
  have hok : ∀ b, okOf c τ (mk F S).sto b → b < w.heap.size → okOf c τ (mk F ((kb, .cells tb (is.set q (.u (.sl sz rows)))) :: (k, .dead) :: S)).sto b ∧ w.heap[b]? = w.heap[b]? :=
    fun b hb' _ => ⟨⟨hb'.1, fun j sb hj => by obtain ⟨_, sb', h2⟩ := hlive j sb hj; exact hb'.2 j sb' h2⟩, rfl⟩
  have hx : RepU w (okOf c τ (mk F ((kb, .cells tb (is.set q (.u (.sl sz rows)))) :: (k, .dead) :: S)).sto) (.sl sz rows) (τ k) := by
    refine own_sl (h.sto k _ hS) (fun b hv => ⟨?_, fun j sb hj hv' => ?_⟩) (fun b hb' => ⟨hb'.1, fun j sb hj => by obtain ⟨_, sb', h2⟩ := hlive j sb hj; exact hb'.2 j sb' h2⟩)
    · rcases h.own k _ b hS hv with h1 | h1
      · exact .inr (.inl h1)
      · exact .inr (.inr h1)
    · obtain ⟨h1, sb', h2⟩ := hlive j sb hj
      exact h1 (h.inj j k sb' _ b h2 hS hv' hv)
  refine ⟨τ, h.size, h.defers, h.gr, fun s i hl => ?_, fun j sb hj => ?_, fun j j' s s' b h1 h2 => ?_, fun j sb b h1 => ?_, h.pin⟩
  · obtain ⟨u, h1, h2⟩ := h.slot s i hl
    exact ⟨u, h1, h2.mono (Nat.le_refl _) hok (fun _ _ => rfl)⟩
  · rcases lookS_hd hj with ⟨rfl, rfl⟩ | ⟨_, h2⟩
    · exact rep_set ((h.sto j _ hb).mono (Nat.le_refl _) hok (fun _ _ => rfl) rfl (fun _ _ => rfl)) hq rfl (fun v hv => by cases hv; exact .u hx)
    · exact (h.sto j sb (lookS_hdd h2).2).mono (Nat.le_refl _) hok (fun _ _ => rfl) rfl (fun _ _ => rfl)
  · obtain ⟨_, a1, q1⟩ := hlive j s h1
    obtain ⟨_, a2, q2⟩ := hlive j' s' h2
    exact h.inj j j' a1 a2 b q1 q2
  · obtain ⟨_, a1, q1⟩ := hlive j sb h1
    exact h.own j a1 b q1
theorem W.nilslC {cd : Code} (kb q sz : Nat) {tb : TypeId} {is is' : List IV} (hb : lookS kb S = some (.cells tb is)) (hq : is[q]? = some (.u (.sc (.slice none 0 0)))) (he : is.set q (.u (.sl sz [])) = is') (h : W c P cd Q F ((kb, .cells tb is') :: S)) : W c P cd Q F S := fun a w ha => h a w (ha.nilslC kb q sz hb hq he)
theorem E.nilslC {x : Exit} (kb q sz : Nat) {tb : TypeId} {is is' : List IV} (hb : lookS kb S = some (.cells tb is)) (hq : is[q]? = some (.u (.sc (.slice none 0 0)))) (he : is.set q (.u (.sl sz [])) = is') (h : E c Q x F ((kb, .cells tb is') :: S)) : E c Q x F S := fun a w ha => h a w (ha.nilslC kb q sz hb hq he)
theorem SL.nilslC (kb q sz : Nat) {tb : TypeId} {is is' : List IV} (hb : lookS kb S = some (.cells tb is)) (hq : is[q]? = some (.u (.sc (.slice none 0 0)))) (he : is.set q (.u (.sl sz [])) = is') (h : SL c P ops Q l F ((kb, .cells tb is') :: S)) : SL c P ops Q l F S := fun a w ha => h a w (ha.nilslC kb q sz hb hq he)
theorem W.freezeC {cd : Code} (kb q k : Nat) {t sz : Nat} {rows : List (List UV)} {tb : TypeId} {is is' : List IV} (hS : lookS k S = some (.data t sz rows)) (hb : lookS kb S = some (.cells tb is)) (hq : is[q]? = some (.own k)) (he : is.set q (.u (.sl sz rows)) = is') (h : W c P cd Q F ((kb, .cells tb is') :: (k, .dead) :: S)) : W c P cd Q F S := fun a w ha => h a w (ha.freezeC kb q k hS hb hq he)
theorem E.freezeC {x : Exit} (kb q k : Nat) {t sz : Nat} {rows : List (List UV)} {tb : TypeId} {is is' : List IV} (hS : lookS k S = some (.data t sz rows)) (hb : lookS kb S = some (.cells tb is)) (hq : is[q]? = some (.own k)) (he : is.set q (.u (.sl sz rows)) = is') (h : E c Q x F ((kb, .cells tb is') :: (k, .dead) :: S)) : E c Q x F S := fun a w ha => h a w (ha.freezeC kb q k hS hb hq he)
theorem SL.freezeC (kb q k : Nat) {t sz : Nat} {rows : List (List UV)} {tb : TypeId} {is is' : List IV} (hS : lookS k S = some (.data t sz rows)) (hb : lookS kb S = some (.cells tb is)) (hq : is[q]? = some (.own k)) (he : is.set q (.u (.sl sz rows)) = is') (h : SL c P ops Q l F ((kb, .cells tb is') :: (k, .dead) :: S)) : SL c P ops Q l F S := fun a w ha => h a w (ha.freezeC kb q k hS hb hq he)
end

/-! ### Tests for nil, and the beginning of a slice of the call's own -/
section
variable {c : Ctx} {P : Program} {Q : Exit → Act → World → Prop} {F F' : Frm} {S S' : Sto} {ops : Array Oper} {l r : List Oper} {T : List Nat} {d : Nat} {ty : TypeId} {pos : String} {af : Array Edge} {gd : Option (Nat × Bool)}
/-- In a list in the text's order: whether a slice is nil, if nothing is known but its elements. -/
theorem SL.isnil {x : Operand} {tx t' e : TypeId} {sz : Nat} {rows : List (List UV)} (hs : SlOf F S T x sz rows) (ht : P.underlying tx = some (.slice e)) (hd : Nat.blt d c.n = true) (hg : Taken ops F gd)
    (h : ∀ b : Bool, (b = true → rows.length = 0) → SL c P ops Q r ((d, .u (.sc (.bool b))) :: F) S) : SL c P ops Q (⟨some d, .binOp .eql tx x (.const (.slice none 0 0)) t', ty, pos, af, gd⟩ :: r) F S := by
  intro a w ha
  obtain ⟨τ, h0⟩ := ha
  obtain ⟨i, hx, hs⟩ := hs
  obtain ⟨p1, p2⟩ := h0.opd (o := ⟨some d, .binOp .eql tx x (.const (.slice none 0 0)) t', ty, pos, af, gd⟩) (F := F) (ops := ops) (fun _ _ _ hl => hl) (by simp [Op.operands]) hx
  obtain ⟨hp, xs, lo, hi, h3, h4, _⟩ := hs c _ τ a w _ (fun _ _ => rfl) h0 p1
  have hrun := G.R.isnil (t' := t') (ty := ty) p2 h3 ht
  have hnil : G.nilB (a.eval x) = true → rows.length = 0 := fun hb => by
    obtain ⟨A, cc, e1, _, _, e4⟩ := h3.out
    rw [h4.1]
    by_cases hne : xs = []
    · rw [hne]; rfl
    · obtain ⟨ad, rfl, _⟩ := e4 hne
      rw [e1] at hb; cases hb
  have hSL : SL c P ops Q (⟨some d, .binOp .eql tx x (.const (.slice none 0 0)) t', ty, pos, af, gd⟩ :: r) F S → wpList P ops Q (⟨some d, .binOp .eql tx x (.const (.slice none 0 0)) t', ty, pos, af, gd⟩ :: r) a w := fun hh => hh a w ⟨τ, h0⟩
  refine wpList_step fun K hK => ?_
  have hw := wanted_of (o := ⟨some d, .binOp .eql tx x (.const (.slice none 0 0)) t', ty, pos, af, gd⟩) (ops := ops) h0 (fun _ _ _ hl => hl) hg
  rw [if_pos hw]
  refine upon_wp ?_
  rw [hrun ⟨some d, .binOp .eql tx x (.const (.slice none 0 0)) t', ty, pos, af, gd⟩ a.eval rfl rfl (fun _ _ _ hx => actF_of hx)]
  refine hK _ _ (h _ hnil _ _ ⟨τ, ?_⟩)
  have := h0.put (d := d) (by simpa [Nat.blt_eq] using hd) (i := .u (.sc (.bool (G.nilB (a.eval x))))) (.u (.sc _))
  have he := mk_upd (some d) (some (.u (.sc (.bool (G.nilB (a.eval x)))))) [] F S
  rw [← he] at this
  exact this
/-- The beginning of a slice of the call's own, as one by itself. -/
theorem Sat.trunc {a : Act} {w : World} {t k k' sz j tb : Nat} {rows rows' : List (List UV)} (hx : look t F = some (.osl k sz 0 j)) (hS : lookS k S = some (.data tb sz rows)) (hr : rows.take j = rows') (hf : freshB [k'] F S = true) (hk : disj [k'] c.pk = true) (h : Sat c (mk F S) a w) :
    Sat c (mk ((t, .own k') :: F) ((k', .data tb sz rows') :: (k, .dead) :: S)) a w := by
  subst hr
  obtain ⟨τ, h⟩ := h
  have hfr := freshB_spec hf k' (by simp)
  have hpk := disj_spec hk k' (by simp)
  have hkk : k ≠ k' := fun e => by subst e; rw [show (mk F S).sto k = some (.data tb sz rows) from hS] at hfr; cases hfr.2
  obtain ⟨u, h1, h2⟩ := h.slot t _ hx
  have hB := h.sto k _ hS
  cases h2 with
  | @osl _ _ _ _ n cc A hk1 q1 q2 =>
    have hl1 : ∀ q x, look q [(k', some (SB.data tb sz (rows.take j))), (k, none)] = some (some x) → q = k' ∧ x = .data tb sz (rows.take j) := fun q x hq => by
      by_cases e1 : k' = q
      · subst e1; rw [look_eq] at hq; simp at hq; exact ⟨rfl, hq.symm⟩
      · rw [look_ne e1] at hq
        by_cases e2 : k = q
        · subst e2; rw [look_eq] at hq; cases hq
        · rw [look_ne e2] at hq; simp [look] at hq
    have hk0 : look k [(k', some (SB.data tb sz (rows.take j))), (k, none)] ≠ none := by rw [look_ne (Ne.symm hkk), look_eq]; simp
    have hv : G.subSl (.slice A n cc) sz 0 j = .slice A j cc := by
      simp only [G.subSl, Nat.sub_zero, Nat.zero_mul]
      congr 1
      split
      · rfl
      · cases A <;> simp [Addr.add]
    rw [hv] at h1
    have hrb : ∀ {τ2 ok2}, τ2 k' = .slice A j cc → (∀ b, okOf c τ (mk F S).sto b → ok2 b) → RepB τ2 w ok2 k' (.data tb sz (rows.take j)) := fun {τ2 ok2} e hok => by
      obtain ⟨vs, ⟨f0, f1⟩, f2, f3, f4, f5⟩ := hB
      have hjl : j ≤ rows.length := by
        rcases f1 with ⟨f1, fn⟩ | ⟨g, cap, cur, f1, _⟩
        · rw [hk1] at f1; simp only [Value.slice.injEq] at f1; obtain ⟨_, e1, _⟩ := f1; omega
        · rw [hk1] at f1; simp only [Value.slice.injEq] at f1; obtain ⟨_, e1, _⟩ := f1; omega
      have hfl : (rows.take j).flatten = rows.flatten.take (j * sz) := take_flat f3
      refine ⟨vs.take (j * sz), ⟨?_, ?_⟩, ?_, fun r hr => f3 r (List.mem_of_mem_take hr), f4, fun u hu => ?_⟩
      · rw [List.length_take, f0, List.length_take, Nat.min_eq_left hjl, Nat.min_eq_left (Nat.mul_le_mul_right _ hjl)]
      · rw [e, List.length_take, Nat.min_eq_left hjl]
        rcases f1 with ⟨f1, fn⟩ | ⟨g, cap, cur, f1, _, f6, f7, f8, f9, f10⟩
        · rw [hk1] at f1; simp only [Value.slice.injEq] at f1
          obtain ⟨rfl, e1, rfl⟩ := f1
          have : j = 0 := by omega
          subst this
          exact .inl ⟨rfl, rfl⟩
        · rw [hk1] at f1; simp only [Value.slice.injEq] at f1
          obtain ⟨rfl, rfl, rfl⟩ := f1
          refine .inr ⟨g, cc, cur, rfl, Nat.zero_le _, f6, by omega, f8, f9, ?_⟩
          rw [← f10, List.take_take, Nat.min_eq_left (Nat.mul_le_mul_right _ hjl)]
      · rw [hfl]; exact (f2.take _).mono (Nat.le_refl _) (fun b hb _ => ⟨hok b hb, rfl⟩)
      · rw [hfl] at hu; exact f5 u (List.mem_of_mem_take hu)
    have hvb : vblk (Value.slice A j cc) = vblk (τ k) := by rw [hk1]; cases A <;> rfl
    have := h.chg (N := [k']) (τ' := upτ τ k' (.slice A j cc)) (δ := [(k', some (.data tb sz (rows.take j))), (k, none)]) (w' := w) (B := fun _ => False)
      (fun q hq => by rw [List.mem_singleton] at hq; subst hq; exact ⟨hfr.1, hfr.2, hpk⟩) (Gr.refl _ _) (fun b hb => hb.elim) (fun q hq => upτ_ne (by simpa using hq))
      (fun q s hq b hb => by
        obtain ⟨rfl, _⟩ := hl1 q s hq
        rw [upτ_eq, hvb] at hb
        exact .inr ⟨k, _, hk0, hS, hb⟩)
      (fun q q' s s' b hq hq' _ _ => by rw [(hl1 q s hq).1, (hl1 q' s' hq').1])
      (fun hok q s hq => by
        obtain ⟨rfl, rfl⟩ := hl1 q s hq
        exact (hrb upτ_eq (fun b hb => hb)).mono (Nat.le_refl _) (fun b hb hb2 => hok b hb hb2) (fun _ _ => rfl) rfl (fun _ _ => rfl))
    have he := mk_upd none none [(k', some (.data tb sz (rows.take j))), (k, none)] F S
    have hsat := this.1
    rw [← he] at hsat
    refine ⟨upτ τ k' (.slice A j cc), hsat.size, hsat.defers, hsat.gr, fun s i hl => ?_, hsat.sto, hsat.inj, hsat.own, hsat.pin⟩
    by_cases e2 : t = s
    · subst e2
      have hi : i = .own k' := by
        have : look t ((t, IV.own k') :: F) = some i := hl
        rw [look_eq] at this; exact (Option.some.inj this).symm
      subst hi
      have hr := RepI.own (τ := upτ τ k' (.slice A j cc)) (w := w) (ok := okOf c (upτ τ k' (.slice A j cc)) (mk ((t, .own k') :: F) ((k', .data tb sz (rows.take j)) :: (k, .dead) :: S)).sto) k' (by rw [upτ_eq]; rfl)
      rw [upτ_eq] at hr
      exact ⟨_, h1, hr⟩
    · have : look s ((t, IV.own k') :: F) = some i := hl
      rw [look_ne e2] at this
      exact hsat.slot s i this
theorem SL.trunc (t k' : Nat) {k sz j tb : Nat} {rows rows' : List (List UV)} (hx : look t F = some (.osl k sz 0 j)) (hS : lookS k S = some (.data tb sz rows)) (hr : rows.take j = rows') (hf : freshB [k'] F S = true) (hk : disj [k'] c.pk = true)
    (h : SL c P ops Q l ((t, .own k') :: F) ((k', .data tb sz rows') :: (k, .dead) :: S)) : SL c P ops Q l F S := fun a w ha => h a w (ha.trunc hx hS hr hf hk)
theorem W.trunc {cd : Code} (t k' : Nat) {k sz j tb : Nat} {rows rows' : List (List UV)} (hx : look t F = some (.osl k sz 0 j)) (hS : lookS k S = some (.data tb sz rows)) (hr : rows.take j = rows') (hf : freshB [k'] F S = true) (hk : disj [k'] c.pk = true)
    (h : W c P cd Q ((t, .own k') :: F) ((k', .data tb sz rows') :: (k, .dead) :: S)) : W c P cd Q F S := fun a w ha => h a w (ha.trunc hx hS hr hf hk)
end

theorem flatP_eB {t : Nat} {l : List UInt8} : (SB.data t 1 (l.map eB)).flatP := fun u hu => by
  rw [flat_eB, List.mem_map] at hu
  obtain ⟨b, _, rfl⟩ := hu; rfl
theorem flatP_eI {t : Nat} {l : List Int} : (SB.data t 1 (l.map eI)).flatP := fun u hu => by
  obtain ⟨r, hr, hu⟩ := List.mem_flatten.1 hu
  obtain ⟨b, _, rfl⟩ := List.mem_map.1 hr
  simp [eI] at hu
  subst hu; rfl
theorem flatP_eS {t : Nat} {l : List ByteArray} : (SB.data t 1 (l.map eS)).flatP := fun u hu => by
  obtain ⟨r, hr, hu⟩ := List.mem_flatten.1 hu
  obtain ⟨b, _, rfl⟩ := List.mem_map.1 hr
  simp [eS] at hu
  subst hu; rfl
/-! ### What is made out of nil -/
section
variable {c : Ctx} {P : Program} {F : Frm} {S : Sto} {ops : Array Oper} {T : List Nat} {d : Nat} {ty : TypeId} {pos : String} {af : Array Edge} {gd : Option (Nat × Bool)} {G0 : G.Frm} {w : World}
theorem R.cap_nil {x : Operand} {t e : TypeId} (hx : G.ev G0 x = some (.slice none 0 0)) (ht : P.underlying t = some (.slice e)) :
    G.Runs P w G0 (.call { callee := .builtin .cap, args := #[x], argTypes := #[t] }) ty (.int .i64 0) :=
  G.R.call1 hx (fun cc => by simp [builtin, Builtin.cap_, run_underlying ht, goInt])
theorem R.sub_nil {x h : Operand} {t e : TypeId} {k : IntKind} {ii : Int} (hx : G.ev G0 x = some (.slice none 0 0)) (hh : G.ev G0 h = some (.int k ii)) (hii : ii = 0) (ht : P.underlying t = some (.slice e)) (he : (P.info? e).isSome = true) :
    G.Runs P w G0 (.slice t x none (some h) none) ty (.slice none 0 0) := fun o ρ ho _ hρ => by
  subst hii
  obtain ⟨i, hi⟩ := Option.isSome_iff_exists.1 he
  simp only [execOp, ho, hρ x (by simp [Op.operands]) _ hx, hρ h (by simp [Op.operands]) _ hh, Option.map_none, Option.map_some]
  simp [Instr.sliceAt, Instr.slice, Instr.sliceBounds, Instr.sliceBound, asIntOf, run_underlying ht, sizeOf, typeInfo, hi]
theorem run_append_zeros (w : World) (t ti ty e : TypeId) (i : TypeInfo) (z : Value) (ht : P.underlying t = some (.slice e)) (hti : P.underlying ti = some (.int .i64)) (hi : P.info? e = some i) (hz : i.zero = some z) (hs : 0 < i.size)
    (n : Nat) (h0 : 0 < n) (h63 : n ≤ 9223372036854775807) (h48 : n * i.bytes ≤ 140737488355328) :
    (Builtin.append_ #[t, ti] ty #[.slice none 0 0, .int .i64 (n : Int)]).run P w =
      .ok (.slice (some ⟨w.heap.size, 0, none⟩) n (grownCap w n 0 e)) (w.drew.alloc (.cells (Builtin.zeroCells z.cells n ++ Builtin.zeroCells z.cells (grownCap w n 0 e - n)) e)) := by
  have hn : n ≠ 0 := by omega
  have h63' : ¬ (9223372036854775807 < (n : Int)) := by omega
  have h48' : ¬ (281474976710656 < Builtin.nextslicecap n 0 * i.bytes) := by rw [nextslicecap_zero h0]; omega
  have hw : IntKind.i64.wrap (n : Int) = n := IntWalk.i64_in _ (by omega)
  have hb1 : ¬ (281474976710656 < (n : Int) * (i.bytes : Int)) := by
    have : ((n * i.bytes : Nat) : Int) ≤ 140737488355328 := by omega
    rw [Int.natCast_mul] at this
    omega
  have hnz : ¬ (n = 0 ∨ i.size = 0) := by omega
  have hsz : i.size ≠ 0 := by omega
  have hge : ¬ ((n : Int) < 0) := by omega
  simp [Builtin.append_, run_underlying ht, run_underlying hti, sizeOf, typeInfo, zeroValue, hi, hz, Builtin.lenOf, hn, h63', h48', Question.forced, run_firstCells_none, newRow, grownCap, asInt, asIntOf, hw, hb1, hge]
  intro hh; rcases Nat.mul_eq_zero.1 hh with h | h <;> omega
theorem zero_rep (z : Array Value) (n : Nat) (hz : 0 < z.size) : (Builtin.zeroCells z n).toList = (List.replicate n z.toList).flatten := by
  apply List.ext_getElem?
  intro j
  have hl : (List.replicate n z.toList).flatten.length = n * z.size := by simp
  by_cases hj : j < n * z.size
  · rw [Array.getElem?_toList, Builtin.zeroCells, Array.getElem?_map, Array.getElem?_range, if_pos hj]
    have : ∀ (n j : Nat), j < n * z.size → (List.replicate n z.toList).flatten[j]? = z.toList[j % z.size]? := by
      intro n
      induction n with
      | zero => intro j hj; omega
      | succ n ih =>
        intro j hj
        rw [List.replicate_succ, List.flatten_cons]
        by_cases h1 : j < z.size
        · rw [List.getElem?_append_left (by simpa using h1), Nat.mod_eq_of_lt h1]
        · rw [List.getElem?_append_right (by simpa using h1), Array.length_toList, ih (j - z.size) (by rw [Nat.add_mul, Nat.one_mul] at hj; omega), ← Nat.mod_eq_sub_mod (by omega)]
    rw [this n j hj]
    have hm := Nat.mod_lt j hz
    simp [hm]
  · rw [List.getElem?_eq_none (by simp [Builtin.zeroCells]; omega), List.getElem?_eq_none (by rw [hl]; omega)]
/-- append(nil, make([]T, n)...): the compiler's own form. -/
theorem O.zeros {x y : Operand} {t ti e : TypeId} {k' sz n : Nat} {ii : Int} {inf : TypeInfo} {z : Value} {zr : List UV} (hx : ev F x = some (.u (.sc (.slice none 0 0)))) (hy : ev F y = some (.u (.sc (.int .i64 ii)))) (hii : ii = (n : Int)) (h0 : 0 < n)
    (ht : P.underlying t = some (.slice e)) (hti : P.underlying ti = some (.int .i64)) (hi : P.info? e = some inf) (hz : inf.zero = some z) (hsz : inf.size = sz) (hzr : (z.cells.toList.map .sc) = zr) (hzl : zr.length = sz) (hp : 0 < sz) (h1 : zr.all UV.one = true)
    (hb : n * inf.bytes ≤ 140737488355328) (hlen : n ≤ 9223372036854775807) (hd : Nat.blt d c.n = true) (hg : Taken ops F gd) :
    OpOk c P ops ⟨some d, .call { callee := .builtin .append, args := #[x, y], argTypes := #[t, ti] }, ty, pos, af, gd⟩ F S [k'] [k'] (some (.own k')) [(k', some (.data e sz (List.replicate n zr)))] := by
  refine OpOk.mem hd hg fun σ τ a w hA _ hN h => ?_
  subst hii; subst hzr; subst hsz
  have hzl' : z.cells.size = inf.size := by simpa using hzl
  have ex := (h.sc hA (by simp [Op.operands, Call.operands]) hx).1
  have ey := (h.sc hA (by simp [Op.operands, Call.operands]) hy).1
  have hr := run_append_zeros (P := P) w t ti ty e inf z ht hti hi hz hp n h0 hlen hb
  have hrun : (execOp a.eval ⟨some d, .call { callee := .builtin .append, args := #[x, y], argTypes := #[t, ti] }, ty, pos, af, gd⟩).run P w = .ok (.value (.slice (some ⟨w.heap.size, 0, none⟩) n (grownCap w n 0 e))) (w.drew.alloc (.cells (Builtin.zeroCells z.cells n ++ Builtin.zeroCells z.cells (grownCap w n 0 e - n)) e)) := by
    simp only [execOp, resolve, invoke, builtin, Sem.run_bind, Sem.run_pure, Result.andThen_ok, List.map_toArray, List.map_cons, List.map_nil, ex, ey, hr]
  have he : G.Ext w (w.drew.alloc (.cells (Builtin.zeroCells z.cells n ++ Builtin.zeroCells z.cells (grownCap w n 0 e - n)) e)) := ⟨rfl, rfl, rfl, by simp, fun k hk => heap_alloc_old w.drew _ hk⟩
  have hge := grownCap_ge w n 0 e
  have hcm := grownCap_le_maxLen w n 0 e (by simp only [maxLen]; omega)
  have hzc := zero_rep z.cells n (by omega)
  have := h.new (k := k') (sb := .data e inf.size (List.replicate n (z.cells.toList.map .sc))) (v := .slice (some ⟨w.heap.size, 0, none⟩) n (grownCap w n 0 e)) hN he (fun b hb => by cases hb; exact Nat.le_refl _)
    (fun _ => ⟨(List.replicate n z.cells.toList).flatten, ⟨by simp [hzl'], .inr ⟨w.heap.size, _, _, by rw [upτ_eq]; simp, Nat.zero_le _, heap_alloc_new w.drew _, by simpa using hge, hcm, ?_, ?_⟩⟩, ⟨by simp, fun i u v q1 q2 => ?_⟩, fun r hr => ?_, hp, fun u hu => ?_⟩)
  · have e' := own_one (this.1.sto k' (.data e inf.size (List.replicate n (z.cells.toList.map .sc))) (by simp [Sig.upd, look]))
    have hr := RepI.own (τ := upτ τ k' (.slice (some ⟨w.heap.size, 0, none⟩) n (grownCap w n 0 e))) (w := w.drew.alloc (.cells (Builtin.zeroCells z.cells n ++ Builtin.zeroCells z.cells (grownCap w n 0 e - n)) e))
      (ok := okOf c (upτ τ k' (.slice (some ⟨w.heap.size, 0, none⟩) n (grownCap w n 0 e))) (σ.upd none none [(k', some (.data e inf.size (List.replicate n (z.cells.toList.map .sc))))]).sto) k' e'
    rw [upτ_eq] at hr
    exact ⟨_, _, _, hrun, this.1, hr⟩
  · simp only [Array.size_append, size_zeroCells, hzl', ← Nat.add_mul]
    congr 1; omega
  · rw [Array.toList_append, hzc, List.take_append_of_le_length (by simp [hzl']), List.take_of_length_le (by simp [hzl'])]
  · have e1 : (List.replicate n (z.cells.toList.map UV.sc)).flatten = (List.replicate n z.cells.toList).flatten.map UV.sc := by
      rw [List.map_flatten, List.map_replicate]
    rw [e1, List.getElem?_map, q2] at q1
    cases q1
    exact .sc v
  · rw [(List.mem_replicate.1 hr).2]; simpa using hzl'
  · obtain ⟨r, hr, hu⟩ := List.mem_flatten.1 hu
    rw [(List.mem_replicate.1 hr).2] at hu
    exact List.all_eq_true.1 h1 u hu
end

/-! ### []byte of a constant -/
theorem vals_u8 {w : World} {ok : Nat → Prop} {l : List UInt8} {vs : List Value} (h : AllU w ok (l.map eB).flatten vs) : vs = G.encU8.all l := by
  rw [flat_eB] at h
  rw [G.encU8_all]
  apply List.ext_getElem?
  intro j
  by_cases hj : j < l.length
  · have hj2 : j < vs.length := by rw [← h.1]; simpa using hj
    have := h.2 j (.sc (.int .u8 (l[j]).toNat)) _ (by simp [hj]) (List.getElem?_eq_getElem hj2)
    rw [List.getElem?_eq_getElem hj2]
    generalize vs[j] = v at this
    cases this
    simp [hj]
  · rw [List.getElem?_eq_none (by rw [← h.1]; simpa using hj), List.getElem?_eq_none (by simpa using hj)]
theorem own_u8 {τ : Nat → Value} {w : World} {ok : Nat → Prop} {k t : Nat} {l : List UInt8} (h : RepB τ w ok k (.data t 1 (l.map eB))) : G.Own G.encU8 w 0 t (τ k) l := by
  obtain ⟨vs, h1, h2, _⟩ := h
  rw [vals_u8 h2, List.length_map] at h1
  exact h1
theorem u8_sl {w : World} {ok : Nat → Prop} {lo hi : Nat} {v : Value} {l : List UInt8} (h : G.Sl G.encU8 w lo hi v l) (hne : l ≠ []) (ho : ∀ b, lo ≤ b → b < hi → ok b) : RepU w ok (.sl 1 (l.map eB)) v := by
  obtain ⟨A, cc, e1, e2, e3, e4⟩ := h.out
  obtain ⟨ad, rfl, z2, z3, z4⟩ := e4 hne
  subst e1
  have := RepU.sl (w := w) (ok := ok) (sz := 1) (rows := l.map eB) (a := ad) (c := cc) (cv := fun j => (G.encU8.all l).getD j undef) (by simpa using hne) (by simpa using e2) e3 (fun r hr => by obtain ⟨b, _, rfl⟩ := List.mem_map.1 hr; rfl) (by decide)
    (fun u hu => by rw [flat_eB, List.mem_map] at hu; obtain ⟨b, _, rfl⟩ := hu; rfl)
    (G.Sl.lt_size hne z4) (ho _ z2 z3) (fun j u hj => by
      have hj2 : j < l.length := by have := (List.getElem?_eq_some_iff.1 hj).1; rw [flat_eB] at this; simpa using this
      have hj3 : j < (G.encU8.all l).length := by rw [G.encU8_all]; simpa using hj2
      rw [List.getD_eq_getElem?_getD, List.getElem?_eq_getElem hj3]
      exact z4 j _ (List.getElem?_eq_getElem hj3))
    (fun j u hj => by
      rw [flat_eB, List.getElem?_map, Option.map_eq_some_iff] at hj
      obtain ⟨b, hj, rfl⟩ := hj
      rw [G.encU8_all, List.getD_eq_getElem?_getD, List.getElem?_map, hj]
      exact .sc _)
  rw [List.length_map] at this
  exact this
section
variable {c : Ctx} {P : Program} {F : Frm} {S : Sto} {ops : Array Oper} {d : Nat} {ty : TypeId} {pos : String} {af : Array Edge} {gd : Option (Nat × Bool)}
theorem O.b2b {x : Operand} {s e k t : Nat} {l : List UInt8} (hx : ev F x = some (.own k)) (hS : lookS k S = some (.data t 1 (l.map eB))) (hne : l ≠ []) (hs : P.underlying s = some (.slice e)) (he : P.underlying e = some (.int .u8)) (hd : Nat.blt d c.n = true) (hg : Taken ops F gd) :
    OpOk c P ops ⟨some d, .convert s s x, ty, pos, af, gd⟩ F S [k] [] (some (.u (.sl 1 (l.map eB)))) [(k, none)] := by
  refine OpOk.mem hd hg fun σ τ a w hA hB hN h => ?_
  obtain ⟨p1, p2⟩ := h.opd hA (by simp [Op.operands]) hx
  have h0 := (hB k (by simp)).trans hS
  have hown := own_u8 (h.sto k _ h0)
  obtain ⟨g, cc, e1, _⟩ := hown.form hne
  generalize a.eval x = v at p1 p2
  cases p1 with
  | own _ hone =>
    rw [e1] at p2 hown
    obtain ⟨v', w', r1, rfl, r3, r4, r5⟩ := run_value (o := ⟨some d, .convert s s x, ty, pos, af, gd⟩) (G.M.b2b (P := P) (ty := ty) p2 hown hs he) rfl rfl rfl
    have hl1 : ∀ q x, look q [(k, (none : Option SB))] = some (some x) → False := fun q x hq => by
      by_cases e1 : k = q
      · subst e1; rw [look_eq] at hq; cases hq
      · rw [look_ne e1] at hq; simp [look] at hq
    have hvb : vblk (τ k) = some g := by rw [e1]; rfl
    have := h.chg (N := []) (τ' := τ) (δ := [(k, none)]) (w' := w') (B := fun b => vblk (τ k) = some b) (fun q hq => by cases hq) (Gr.of_grown r3 fun b hb => by rw [hvb]; exact hb)
      (fun b hb _ => ⟨k, _, by rw [look_eq]; simp, h0, hb⟩) (fun _ _ => rfl) (fun q s hq => (hl1 q s hq).elim) (fun q q' s s' b hq => (hl1 q s hq).elim) (fun _ q s hq => (hl1 q s hq).elim)
    refine ⟨_, w', τ, r1, this.1, .u (u8_sl r5 hne fun b h1 h2 => ⟨?_, fun j sb hj hv => ?_⟩)⟩
    · have hbg : b = g := by omega
      subst hbg
      rcases h.own k _ b h0 hvb with h3 | h3
      · exact .inr (.inl h3)
      · exact .inr (.inr h3)
    · have hbg : b = g := by omega
      subst hbg
      rcases upd_sto hj with hj | ⟨hn, hj⟩
      · exact hl1 _ _ hj
      · have := h.inj j k sb _ b hj h0 hv hvb
        subst this
        rw [look_eq] at hn; cases hn
end

/-! ### Out of the first layer's contracts -/
theorem sl_u8 {w : World} {ok : Nat → Prop} {v : Value} {l : List UInt8} (h : RepU w ok (.sl 1 (l.map eB)) v) : ∃ lo hi, G.Sl G.encU8 w lo hi v l := by
  generalize hr : l.map eB = rows at h
  cases h with
  | @sl0 _ A cc hc =>
    have : l = [] := by simpa using hr
    subst this
    exact ⟨0, 0, A, cc, rfl, Nat.zero_le _, hc, fun hne => absurd rfl hne⟩
  | @sl _ _ ad cc cv hne h1 h2 h3 h4 h5 hb ho hc hu =>
    subst hr
    refine ⟨ad.block, ad.block + 1, some ad, cc, by simp, by simpa using h1, h2, fun _ => ⟨ad, rfl, Nat.le_refl _, Nat.lt_succ_self _, fun j u hj => ?_⟩⟩
    rw [G.encU8_all, List.getElem?_map, Option.map_eq_some_iff] at hj
    obtain ⟨x, hj, rfl⟩ := hj
    have hfl : (l.map eB).flatten[j]? = some (.sc (.int .u8 x.toNat)) := by rw [flat_eB]; simp [hj]
    have h6 := hu j _ hfl
    have h7 := hc j _ hfl
    generalize cv j = y at h6 h7
    cases h6
    exact h7
section
variable {c : Ctx} {P : Program} {F : Frm} {S : Sto} {ops : Array Oper} {T : List Nat} {i : IV}
theorem OpOk.re {i' : IV} {N : List Nat} {o : Oper} {δ : Chg} (h : OpOk c P ops o F S T N (some i) δ) (e : i = i') : OpOk c P ops o F S T N (some i') δ := by subst e; exact h
theorem O.st_els {ty : TypeId} {pos : String} {af : Array Edge} {gd : Option (Nat × Bool)} {x y : Operand} {t tb : TypeId} {k sz i off m : Nat} {rows rows' : List (List UV)} {row row' us : List UV} {j : IV} (hx : ev F x = some (.el k sz i off)) (hS : lookS k S = some (.data tb sz rows)) (hy : ev F y = some j) (hj : j.cells = us.map .u) (hm : us.length = m) (hs : (P.info? t).map (·.size) = some m)
    (hn : us ≠ []) (hrow : rows[i]? = some row) (hfit : off + us.length ≤ row.length) (h1 : us.all UV.one = true) (hr : row.take off ++ us ++ row.drop (off + us.length) = row') (hq : rows.set i row' = rows') (hg : Taken ops F gd) :
    OpOk c P ops ⟨none, .store t x y, ty, pos, af, gd⟩ F S [k] [] none [(k, some (.data tb sz rows'))] := by
  subst hq
  exact O.st_el hx hS hy hj hm hs hn hrow hfit h1 hr hg
end
theorem Con.ofG {P : Program} {f : FuncId} {as : List IV} {r : Value} (h : ∀ τ w ok vs, AllI τ w ok as vs → G.CallsTo P f vs w (fun v w' => v = r ∧ G.Ext w w')) : Con P f as [] (.u (.sc r)) [] := by
  intro τ w vs ok hin
  refine Calls.mono (h τ w ok vs hin.args) ?_
  rintro e w' ⟨v, he, hv, hx⟩
  refine ⟨v, τ, he, ?_⟩
  subst hv
  exact ⟨G.Gr.of_ext hx, fun k hk => rfl, .u (.sc _), fun k sb hk => by simp [lookS, look] at hk, fun k k' sb sb' b hk => by simp [lookS, look] at hk, fun k sb b hk => by simp [lookS, look] at hk⟩
theorem allI_2 {τ : Nat → Value} {w : World} {ok : Nat → Prop} {i j : IV} {vs : List Value} (h : AllI τ w ok [i, j] vs) : ∃ u v, vs = [u, v] ∧ RepI τ w ok i u ∧ RepI τ w ok j v := by
  match vs, h with
  | [u, v], h => exact ⟨u, v, rfl, h.2 0 i u rfl rfl, h.2 1 j v rfl rfl⟩
  | [], h => have := h.1; simp at this
  | [_], h => have := h.1; simp at this
  | _ :: _ :: _ :: _, h => have := h.1; simp at this
theorem rep_sc {τ : Nat → Value} {w : World} {ok : Nat → Prop} {u v : Value} (h : RepI τ w ok (.u (.sc u)) v) : v = u := by
  cases h with
  | u h => cases h; rfl
theorem rep_u8 {τ : Nat → Value} {w : World} {ok : Nat → Prop} {l : List UInt8} {v : Value} (h : RepI τ w ok (vL 1 (l.map eB)) v) : ∃ lo hi, G.Sl G.encU8 w lo hi v l := by
  cases h with
  | u h => exact sl_u8 h
end Go.H
