/-
  Operations one by one, and regions that draw their order: what an operation asks and changes is said by slots and names; a static check on the region's edges does the rest.
-/
import Derived.Test.YtfmgpocbpbfalaaHCore
namespace Go.H
open Go Go.RowKit
open Go.G (Ext Gr Blk)

abbrev Chg := List (Nat × Option SB)
def push (d : Option Nat) (i : Option IV) (F : Frm) : Frm :=
  match d, i with
  | some d, some i => (d, i) :: F
  | some d, none => (d, .junk) :: F
  | none, _ => F
def updS : Chg → Sto → Sto
  | [], S => S
  | (k, some b) :: r, S => (k, b) :: updS r S
  | (k, none) :: r, S => (k, .dead) :: updS r S
def Sig.upd (σ : Sig) (d : Option Nat) (i : Option IV) (δ : Chg) : Sig :=
  ⟨fun t => if d = some t then some (i.getD .junk) else σ.slot t, fun k => match look k δ with | some ob => (match ob with | some .dead => none | x => x) | none => σ.sto k⟩
theorem look_updS (k : Nat) (S : Sto) : ∀ δ : Chg, lookS k (updS δ S) = match look k δ with | some ob => (match ob with | some .dead => none | x => x) | none => lookS k S
  | [] => rfl
  | (j, some b) :: r => by
    by_cases e : j = k
    · subst e; rw [updS, look_eq]; cases b <;> simp [lookS, look]
    · rw [updS, lookS_ne e, look_ne e]; exact look_updS k S r
  | (j, none) :: r => by
    by_cases e : j = k
    · subst e; rw [updS, lookS_dead, look_eq]
    · rw [updS, lookS_ne e, look_ne e]; exact look_updS k S r
theorem mk_upd (d : Option Nat) (i : Option IV) (δ : Chg) (F : Frm) (S : Sto) : mk (push d i F) (updS δ S) = (mk F S).upd d i δ := by
  unfold mk Sig.upd
  congr 1
  · funext t
    cases d with
    | none => simp [push]
    | some d =>
      cases i with
      | none =>
        by_cases e : d = t
        · subst e; simp [push, look_eq]
        · simp [push, look_ne e, e]
      | some i =>
        by_cases e : d = t
        · subst e; simp [push, look_eq]
        · simp [push, look_ne e, e]
  · funext k; exact look_updS k S δ

def AgreeF (l : List Nat) (F : Frm) (σ : Sig) : Prop := ∀ t ∈ l, ∀ i, look t F = some i → σ.slot t = some i
def AgreeS (T : List Nat) (S : Sto) (σ : Sig) : Prop := ∀ k ∈ T, σ.sto k = lookS k S
def Sig.fresh (σ : Sig) (k : Nat) : Prop := (∀ t i, σ.slot t = some i → k ∉ i.tags) ∧ (∀ k' sb, σ.sto k' = some sb → k ∉ sb.tags)
def upon (P : Program) (K : Value → World → Prop) : Result Next → Prop
  | .ok (.value u) w' => K u w'
  | .ok .skip w' => K undef w'
  | .ok (.enter f args) w' => Calls P f args w' (fun e w'' => ∃ v, e = .returned v ∧ K v w'')
  | _ => False
/-- An operation, as it acts on any picture that agrees where it looks. -/
def OpOk (c : Ctx) (P : Program) (ops : Array Oper) (o : Oper) (F : Frm) (S : Sto) (T N : List Nat) (i : Option IV) (δ : Chg) : Prop :=
  ∀ σ a w, AgreeF (o.looksAt ops) F σ → AgreeS T S σ → (∀ k ∈ N, σ.fresh k ∧ σ.sto k = none ∧ k ∉ c.pk) → Sat c σ a w →
    if Region.wanted o (yielded ops a.tmps) then upon P (fun u w' => Sat c (σ.upd o.dst i δ) (a.put o.dst u) w') ((execOp a.eval o).run P w)
    else Sat c (σ.upd o.dst i δ) (a.put o.dst undef) w

def hasTag (k : Nat) : List Nat → Bool
  | [] => false
  | j :: r => Nat.beq j k || hasTag k r
theorem hasTag_iff {k : Nat} : ∀ {l : List Nat}, hasTag k l = true ↔ k ∈ l
  | [] => by simp [hasTag]
  | j :: r => by
    simp only [hasTag, Bool.or_eq_true, hasTag_iff (l := r), List.mem_cons]
    constructor
    · rintro (h | h)
      · exact .inl (Nat.eq_of_beq_eq_true h).symm
      · exact .inr h
    · rintro (h | h)
      · subst h; simp
      · exact .inr h
def subl (l m : List Nat) : Bool := l.all fun k => hasTag k m
theorem subl_spec {l m : List Nat} (h : subl l m = true) : ∀ k ∈ l, k ∈ m := fun k hk => hasTag_iff.1 (List.all_eq_true.1 h k hk)
def disj (l m : List Nat) : Bool := l.all fun k => !hasTag k m
theorem disj_spec {l m : List Nat} (h : disj l m = true) : ∀ k ∈ l, k ∉ m := fun k hk hm => by
  have := List.all_eq_true.1 h k hk
  rw [hasTag_iff.2 hm] at this; cases this
def freshB (N : List Nat) (F : Frm) (S : Sto) : Bool :=
  N.all fun k => (F.all fun x => !hasTag k x.2.tags) && (S.all fun x => !Nat.beq x.1 k && !hasTag k x.2.tags)
theorem freshB_spec {N : List Nat} {F : Frm} {S : Sto} (h : freshB N F S = true) : ∀ k ∈ N, (mk F S).fresh k ∧ (mk F S).sto k = none := fun k hk => by
  have h1 := List.all_eq_true.1 h k hk
  rw [Bool.and_eq_true] at h1
  have h2 : ∀ k' sb, lookS k' S = some sb → k' ≠ k ∧ k ∉ sb.tags := fun k' sb hl => by
    have h3 := List.all_eq_true.1 h1.2 _ (look_mem (lookS_look hl))
    simp only [Bool.and_eq_true, Bool.not_eq_true'] at h3
    exact ⟨fun e => by subst e; simp at h3, fun hm => by rw [hasTag_iff.2 hm] at h3; cases h3.2⟩
  refine ⟨⟨fun t i hl hm => ?_, fun k' sb hl => (h2 k' sb hl).2⟩, ?_⟩
  · have h3 := List.all_eq_true.1 h1.1 _ (look_mem hl)
    simp only [Bool.not_eq_true'] at h3
    rw [hasTag_iff.2 hm] at h3; cases h3
  · cases hs : (mk F S).sto k with
    | none => rfl
    | some sb => exact absurd rfl (h2 k sb hs).1

section
variable {c : Ctx} {P : Program} {Q : Exit → Act → World → Prop} {F F' : Frm} {S S' : Sto} {ops : Array Oper} {o : Oper} {r : List Oper} {T N : List Nat} {i : Option IV} {δ : Chg}
theorem upon_wp {a : Act} {w : World} {K : Act → World → Prop} (h : upon P (fun u w' => K (a.put o.dst u) w') ((execOp a.eval o).run P w)) : o.wp P a w K Q := by
  unfold Oper.wp
  generalize (execOp a.eval o).run P w = r at h
  cases r with
  | ok nx w' =>
    cases nx <;> simp only [upon] at h <;> simp only [Oper.upon]
    case value u => exact h
    case skip => exact h
    case enter f' args =>
      refine h.mono fun e w'' ⟨v, he, hk⟩ => ?_
      subst he
      exact hk
  | halt x w' => simp only [upon] at h
def SL (c : Ctx) (P : Program) (ops : Array Oper) (Q : Exit → Act → World → Prop) (l : List Oper) (F : Frm) (S : Sto) : Prop := ∀ a w, Sat c (mk F S) a w → wpList P ops Q l a w
theorem W.region {id : Nat} {l : List Oper} (h : SL c P l.toArray Q l F S) : W c P (.region id l.toArray false) Q F S := fun a w ha => wp_region_lit (h a w ha)
theorem SL.nil (h : E c Q .normal F S) : SL c P ops Q [] F S := h
theorem SL.go (hg : OpOk c P ops o F S T N i δ) (hf : freshB N F S = true) (hp : disj N c.pk = true) (h : SL c P ops Q r (push o.dst i F) (updS δ S)) : SL c P ops Q (o :: r) F S := by
  intro a w ha
  have hfr := freshB_spec hf
  have := hg _ a w (fun _ _ _ hl => hl) (fun _ _ => rfl) (fun k hk => ⟨(hfr k hk).1, (hfr k hk).2, disj_spec hp k hk⟩) ha
  rw [← mk_upd] at this
  refine wpList_step fun K hK => ?_
  split
  · rename_i hw
    rw [if_pos hw] at this
    refine upon_wp ?_
    revert this
    generalize (execOp a.eval o).run P w = rr
    intro this
    cases rr with
    | ok nx w' =>
      cases nx <;> simp only [upon] at this ⊢
      case value u => exact hK _ _ (h _ _ this)
      case skip => exact hK _ _ (h _ _ this)
      case enter f' args => exact this.mono fun e w'' ⟨v, he, hk⟩ => ⟨v, he, hK _ _ (h _ _ hk)⟩
    | halt x w' => simp only [upon] at this
  · rename_i hw
    rw [if_neg hw] at this
    exact hK _ _ (h _ _ this)
theorem SL.weak {l : List Oper} (ρ : Nat → Nat) (hF : SubF ρ F F') (hS : SubS ρ S S') (hd : distinct (S'.map fun x => ρ x.1) = true) (hp : ∀ k ∈ c.pk, ρ k = k) (h : SL c P ops Q l F' S') : SL c P ops Q l F S :=
  fun a w ha => h a w (ha.sub ρ hF hS hd hp)

/-! ### A region that draws its order -/
structure Pl where
  /-- names that are touched -/
  T : List Nat
  /-- names that are turned, made or ended -/
  Wr : List Nat
  /-- names that are made -/
  N : List Nat
instance : Inhabited Pl := ⟨⟨[], [], []⟩⟩
def tagsO : Option IV → List Nat
  | some i => i.tags
  | none => []
def keysC (δ : Chg) : List Nat := δ.map (·.1)
def tagsC : Chg → List Nat
  | [] => []
  | (_, some b) :: r => b.tags ++ tagsC r
  | (_, none) :: r => tagsC r
def WH (c : Ctx) (P : Program) (ops : Array Oper) (pl : List Pl) (Z : Frm → Sto → Prop) : Nat → List Oper → Frm → Sto → Prop
  | _, [], F, S => Z F S
  | m, o :: r, F, S => ∃ (i : Option IV) (δ : Chg), OpOk c P ops o F S (pl.getD m default).T (pl.getD m default).N i δ ∧
      subl (keysC δ) (pl.getD m default).Wr = true ∧ subl (tagsO i) (pl.getD m default).T = true ∧ subl (tagsC δ) (pl.getD m default).T = true ∧ WH c P ops pl Z (m + 1) r (push o.dst i F) (updS δ S)
theorem OpOk.wider {T' N' : List Nat} (h : OpOk c P ops o F S T N i δ) (hT : subl T T' = true) (hN : subl N N' = true) : OpOk c P ops o F S T' N' i δ :=
  fun σ a w h1 h2 h3 h4 => h σ a w h1 (fun k hk => h2 k (subl_spec hT k hk)) (fun k hk => h3 k (subl_spec hN k hk)) h4
theorem WH.go {pl : List Pl} {Z : Frm → Sto → Prop} {m : Nat} (hg : OpOk c P ops o F S T N i δ) (hT : subl T (pl.getD m default).T = true) (hN : subl N (pl.getD m default).N = true)
    (hk : subl (keysC δ) (pl.getD m default).Wr = true) (hi : subl (tagsO i) (pl.getD m default).T = true) (hd : subl (tagsC δ) (pl.getD m default).T = true)
    (h : WH c P ops pl Z (m + 1) r (push o.dst i F) (updS δ S)) : WH c P ops pl Z m (o :: r) F S := ⟨i, δ, hg.wider hT hN, hk, hi, hd, h⟩
theorem WH.nil {pl : List Pl} {Z : Frm → Sto → Prop} {m : Nat} (h : Z F S) : WH c P ops pl Z m [] F S := h

def allN : List Pl → List Nat
  | [] => []
  | p :: r => p.N ++ allN r
def ordB (ms : List Nat) (i j : Nat) : Bool := if Nat.blt i j then G.ahead ms i j else G.ahead ms j i
/-- Who touches what another one turns is forced ahead of it or behind it, and who touches what another one makes is behind it. -/
def planRow (ms : List Nat) (pl : List Pl) (h m : Nat) : Bool :=
  let p := pl.getD m default
  subl p.Wr p.T && (p.Wr.isEmpty && p.N.isEmpty || (List.range h).all fun j => Nat.beq j m || (let q := pl.getD j default
    (p.Wr.all fun k => !hasTag k q.T || ordB ms m j) && (p.N.all fun k => !hasTag k q.T || G.ahead ms m j)))
def planOk (ms : List Nat) (h : Nat) (pl : List Pl) : Bool := (List.range h).all fun m => planRow ms pl h m

structure PlanSpec (ms : List Nat) (h : Nat) (pl : List Pl) : Prop where
  sub : ∀ m, m < h → ∀ k ∈ (pl.getD m default).Wr, k ∈ (pl.getD m default).T
  wr : ∀ m j, m < h → j < h → j ≠ m → ∀ k ∈ (pl.getD m default).Wr, k ∈ (pl.getD j default).T → (m < j → G.ahead ms m j = true) ∧ (j < m → G.ahead ms j m = true)
  new : ∀ m j, m < h → j < h → j ≠ m → ∀ k ∈ (pl.getD m default).N, k ∈ (pl.getD j default).T → G.ahead ms m j = true
theorem planOk_spec {ms : List Nat} {h : Nat} {pl : List Pl} (hk : planOk ms h pl = true) : PlanSpec ms h pl := by
  have key : ∀ m, m < h → planRow ms pl h m = true := fun m hm => List.all_eq_true.1 hk m (List.mem_range.2 hm)
  have row : ∀ m j, m < h → j < h → j ≠ m → (pl.getD m default).Wr = [] ∧ (pl.getD m default).N = [] ∨
      ((∀ k ∈ (pl.getD m default).Wr, k ∈ (pl.getD j default).T → ordB ms m j = true) ∧ (∀ k ∈ (pl.getD m default).N, k ∈ (pl.getD j default).T → G.ahead ms m j = true)) := by
    intro m j hm hj hne
    have h1 := key m hm
    simp only [planRow, Bool.and_eq_true, Bool.or_eq_true, List.isEmpty_iff] at h1
    rcases h1.2 with h2 | h2
    · exact .inl h2
    · refine .inr ?_
      have h3 := List.all_eq_true.1 h2 j (List.mem_range.2 hj)
      simp only [Bool.or_eq_true, Bool.and_eq_true] at h3
      rcases h3 with h3 | ⟨h3, h4⟩
      · exact absurd (Nat.eq_of_beq_eq_true h3) hne
      · refine ⟨fun k hk hq => ?_, fun k hk hq => ?_⟩
        · have := List.all_eq_true.1 h3 k hk
          rw [hasTag_iff.2 hq] at this; simpa using this
        · have := List.all_eq_true.1 h4 k hk
          rw [hasTag_iff.2 hq] at this; simpa using this
  refine ⟨fun m hm k hk => ?_, fun m j hm hj hne k hk hq => ?_, fun m j hm hj hne k hk hq => ?_⟩
  · have h1 := key m hm
    simp only [planRow, Bool.and_eq_true] at h1
    exact subl_spec h1.1 k hk
  · rcases row m j hm hj hne with h1 | h1
    · rw [h1.1] at hk; cases hk
    · have := h1.1 k hk hq
      unfold ordB at this
      refine ⟨fun hlt => ?_, fun hlt => ?_⟩
      · rwa [if_pos (by simpa [Nat.blt_eq] using hlt)] at this
      · rwa [if_neg (by simp [Nat.blt_eq]; omega)] at this
  · rcases row m j hm hj hne with h1 | h1
    · rw [h1.2] at hk; cases hk
    · exact h1.2 k hk hq

/-- The picture behind those of L. -/
def sg (σ0 : Sig) (dst : Nat → Option Nat) (inf : Nat → Option IV) (del : Nat → Chg) (L : Nat → Bool) : Nat → Sig
  | 0 => σ0
  | m + 1 => if L m then (sg σ0 dst inf del L m).upd (dst m) (inf m) (del m) else sg σ0 dst inf del L m
section
variable {σ0 : Sig} {dst : Nat → Option Nat} {inf : Nat → Option IV} {del : Nat → Chg} {L L' : Nat → Bool}
theorem upd_slot_ne {σ : Sig} {d : Option Nat} {j : Option IV} {δ : Chg} {t : Nat} (h : d ≠ some t) : (σ.upd d j δ).slot t = σ.slot t := if_neg h
theorem upd_sto_ne {σ : Sig} {d : Option Nat} {j : Option IV} {δ : Chg} {k : Nat} (h : look k δ = none) : (σ.upd d j δ).sto k = σ.sto k := by simp [Sig.upd, h]
theorem sg_slot_same {t : Nat} : ∀ {m : Nat}, (∀ j, j < m → dst j = some t → L j = L' j) → (sg σ0 dst inf del L m).slot t = (sg σ0 dst inf del L' m).slot t
  | 0, _ => rfl
  | m + 1, h => by
    have ih := sg_slot_same (m := m) fun j hj => h j (by omega)
    by_cases e : dst m = some t
    · have := h m (by omega) e
      simp only [sg, this]
      cases L' m
      · simpa using ih
      · simp [Sig.upd, e]
    · simp only [sg]
      split <;> split <;> (try simp only [upd_slot_ne e]) <;> exact ih
theorem sg_slot_tail {t m : Nat} : ∀ {h : Nat}, m ≤ h → (∀ j, m ≤ j → j < h → dst j = some t → L j = false) → (sg σ0 dst inf del L h).slot t = (sg σ0 dst inf del L m).slot t
  | 0, hm, _ => by rw [Nat.le_zero.1 hm]
  | h + 1, hm, hj => by
    rcases Nat.lt_or_ge h m with hlt | hge
    · rw [show m = h + 1 by omega]
    · have ih := sg_slot_tail (h := h) hge fun j h1 h2 => hj j h1 (by omega)
      simp only [sg]
      split
      · rename_i hl
        rw [upd_slot_ne (fun e => by rw [hj h hge (by omega) e] at hl; cases hl)]; exact ih
      · exact ih
theorem sg_sto_same {k : Nat} : ∀ {m : Nat}, (∀ j, j < m → look k (del j) ≠ none → L j = L' j) → (sg σ0 dst inf del L m).sto k = (sg σ0 dst inf del L' m).sto k
  | 0, _ => rfl
  | m + 1, h => by
    have ih := sg_sto_same (m := m) fun j hj => h j (by omega)
    by_cases e : look k (del m) = none
    · simp only [sg]
      split <;> split <;> (try simp only [upd_sto_ne e]) <;> exact ih
    · have := h m (by omega) e
      simp only [sg, this]
      cases L' m
      · simpa using ih
      · obtain ⟨x, hx⟩ := Option.ne_none_iff_exists'.1 e
        simp [Sig.upd, hx]
theorem sg_sto_tail {k m : Nat} : ∀ {h : Nat}, m ≤ h → (∀ j, m ≤ j → j < h → look k (del j) ≠ none → L j = false) → (sg σ0 dst inf del L h).sto k = (sg σ0 dst inf del L m).sto k
  | 0, hm, _ => by rw [Nat.le_zero.1 hm]
  | h + 1, hm, hj => by
    rcases Nat.lt_or_ge h m with hlt | hge
    · rw [show m = h + 1 by omega]
    · have ih := sg_sto_tail (h := h) hge fun j h1 h2 => hj j h1 (by omega)
      simp only [sg]
      split
      · rename_i hl
        rw [upd_sto_ne (by
          cases hx : look k (del h) with
          | none => rfl
          | some x => rw [hj h hge (by omega) (by rw [hx]; simp)] at hl; cases hl)]; exact ih
      · exact ih
theorem sg_slot_of {k : Nat} (h0 : ∀ t i, σ0.slot t = some i → k ∉ i.tags) : ∀ {m : Nat}, (∀ j, j < m → L j = true → k ∉ tagsO (inf j)) → ∀ t i, (sg σ0 dst inf del L m).slot t = some i → k ∉ i.tags
  | 0, _, t, i, hl => h0 t i hl
  | m + 1, h, t, i, hl => by
    simp only [sg] at hl
    split at hl
    · rename_i hL
      by_cases e : dst m = some t
      · have := h m (by omega) hL
        simp only [Sig.upd, e, if_true, Option.some.injEq] at hl
        subst hl
        cases hi : inf m with
        | none => simp [IV.tags]
        | some i => rw [hi] at this; exact this
      · rw [upd_slot_ne e] at hl
        exact sg_slot_of h0 (fun j hj => h j (by omega)) t i hl
    · exact sg_slot_of h0 (fun j hj => h j (by omega)) t i hl
theorem mem_tagsC {k k' : Nat} {sb : SB} : ∀ {δ : Chg}, look k' δ = some (some sb) → k ∈ sb.tags → k ∈ tagsC δ
  | (j, some b) :: r, h, hk => by
    rw [tagsC, List.mem_append]
    by_cases e : j = k'
    · subst e; rw [look_eq] at h; cases h; exact .inl hk
    · rw [look_ne e] at h; exact .inr (mem_tagsC h hk)
  | (j, none) :: r, h, hk => by
    rw [tagsC]
    by_cases e : j = k'
    · subst e; rw [look_eq] at h; cases h
    · rw [look_ne e] at h; exact mem_tagsC h hk
theorem sg_sto_of {k : Nat} (h0 : ∀ t i, σ0.sto t = some i → k ∉ i.tags) : ∀ {m : Nat}, (∀ j, j < m → L j = true → k ∉ tagsC (del j)) → ∀ t i, (sg σ0 dst inf del L m).sto t = some i → k ∉ i.tags
  | 0, _, t, i, hl => h0 t i hl
  | m + 1, h, t, i, hl => by
    simp only [sg] at hl
    split at hl
    · rename_i hL
      cases hx : look t (del m) with
      | none => rw [upd_sto_ne hx] at hl; exact sg_sto_of h0 (fun j hj => h j (by omega)) t i hl
      | some x =>
        simp only [Sig.upd, hx] at hl
        have : x = some i := by
          split at hl
          · cases hl
          · exact hl
        subst this
        exact fun hk => h m (by omega) hL (mem_tagsC hx hk)
    · exact sg_sto_of h0 (fun j hj => h j (by omega)) t i hl
theorem look_keys {k : Nat} : ∀ {δ : Chg}, look k δ ≠ none → k ∈ keysC δ
  | [], h => absurd rfl h
  | (j, b) :: r, h => by
    by_cases e : j = k
    · subst e; simp [keysC]
    · rw [look_ne e] at h
      have := look_keys h
      simp only [keysC, List.map_cons, List.mem_cons] at this ⊢
      exact .inr this
end

/-- What a walk in the text's order says of each operation. -/
theorem WH.infos {pl : List Pl} {Z : Frm → Sto → Prop} : ∀ (l : List Oper) (m0 : Nat) (F : Frm) (S : Sto), WH c P ops pl Z m0 l F S →
    ∃ (inf : Nat → Option IV) (del : Nat → Chg) (Fs : Nat → Frm) (Ss : Nat → Sto), Fs 0 = F ∧ Ss 0 = S ∧ Z (Fs l.length) (Ss l.length) ∧ ∀ m o, l[m]? = some o →
      Fs (m + 1) = push o.dst (inf m) (Fs m) ∧ Ss (m + 1) = updS (del m) (Ss m) ∧
      OpOk c P ops o (Fs m) (Ss m) (pl.getD (m0 + m) default).T (pl.getD (m0 + m) default).N (inf m) (del m) ∧
      (∀ k ∈ keysC (del m), k ∈ (pl.getD (m0 + m) default).Wr) ∧ (∀ k ∈ tagsO (inf m), k ∈ (pl.getD (m0 + m) default).T) ∧ (∀ k ∈ tagsC (del m), k ∈ (pl.getD (m0 + m) default).T)
  | [], m0, F, S, h => ⟨fun _ => none, fun _ => [], fun _ => F, fun _ => S, rfl, rfl, h, fun m o hm => by simp at hm⟩
  | o :: r, m0, F, S, h => by
    obtain ⟨i, δ, hg, h1, h2, h3, hr⟩ := h
    obtain ⟨inf, del, Fs, Ss, e1, e2, e3, e4⟩ := WH.infos r (m0 + 1) _ _ hr
    refine ⟨fun m => match m with | 0 => i | m + 1 => inf m, fun m => match m with | 0 => δ | m + 1 => del m, fun m => match m with | 0 => F | m + 1 => Fs m, fun m => match m with | 0 => S | m + 1 => Ss m, rfl, rfl, e3, fun m o' hm => ?_⟩
    cases m with
    | zero =>
      simp only [List.getElem?_cons_zero, Option.some.injEq] at hm
      subst hm
      exact ⟨e1, e2, hg, subl_spec h1, subl_spec h2, subl_spec h3⟩
    | succ m =>
      simp only [List.getElem?_cons_succ] at hm
      have := e4 m o' hm
      rw [show m0 + 1 + m = m0 + (m + 1) by omega] at this
      exact this

/-- **A region that draws its order.** -/
theorem W.draw {id : Nat} {l : List Oper} (pl : List Pl) (hm : P.follows .mixedOrders = true) (hB : G.drawOk l.toArray l.length = true) (hk : planOk (G.masks l []) l.length pl = true)
    (hf : freshB (allN pl) F S = true) (hp : disj (allN pl) c.pk = true) (H : WH c P l.toArray pl (fun F' S' => E c Q .normal F' S') 0 l F S) : W c P (.region id l.toArray true) Q F S := by
  obtain ⟨inf, del, Fs, Ss, e1, e2, e3, e4⟩ := WH.infos l 0 F S H
  have hc := G.Chk.of hB
  have hpl := planOk_spec hk
  obtain ⟨ms, hms⟩ : ∃ ms, ms = G.masks l [] := ⟨_, rfl⟩
  rw [← hms] at hpl
  have hmk : G.MaskOk l.toArray ms := by rw [hms]; exact G.masks_ok l.toArray l [] (fun k => by simp) (fun _ _ j i hb => by simp at hb)
  obtain ⟨dst, hdst⟩ : ∃ dst : Nat → Option Nat, dst = fun m => (l[m]?).bind (·.dst) := ⟨_, rfl⟩
  have hd : ∀ m o, l[m]? = some o → dst m = o.dst := fun m o h => by rw [hdst]; simp [h]
  obtain ⟨σ0, hσ0⟩ : ∃ σ0, σ0 = mk F S := ⟨_, rfl⟩
  have hfull : ∀ m, m ≤ l.length → sg σ0 dst inf del (fun _ => true) m = mk (Fs m) (Ss m) := by
    intro m
    induction m with
    | zero => intro _; rw [e1, e2, hσ0]; rfl
    | succ m ih =>
      intro hle
      obtain ⟨q1, q2, _⟩ := e4 m l[m] (List.getElem?_eq_getElem (by omega))
      rw [q1, q2, mk_upd, sg, ih (by omega), hd m l[m] (List.getElem?_eq_getElem (by omega))]; rfl
  have h4 : ∀ m o, l[m]? = some o → OpOk c P l.toArray o (Fs m) (Ss m) (pl.getD m default).T (pl.getD m default).N (inf m) (del m) ∧
      (∀ k ∈ keysC (del m), k ∈ (pl.getD m default).Wr) ∧ (∀ k ∈ tagsO (inf m), k ∈ (pl.getD m default).T) ∧ (∀ k ∈ tagsC (del m), k ∈ (pl.getD m default).T) := fun m o h => by
    have := (e4 m o h).2.2
    simpa using this
  have hfr0 := freshB_spec hf
  have hN : ∀ (pl : List Pl) m k, k ∈ (pl.getD m default).N → k ∈ allN pl := by
    intro pl
    induction pl with
    | nil => intro m k hk; simp [default] at hk
    | cons p r ih =>
      intro m k hk
      rw [allN, List.mem_append]
      cases m with
      | zero => exact .inl (by simpa using hk)
      | succ m => exact .inr (ih m k (by simpa using hk))
  have main : ∀ f listed a w, HeadInv .any l.toArray l.length listed → Sat c (sg σ0 dst inf del (fun m => listed.getD m false) l.length) a w → G.cntU listed l.length = f →
      wpAny P .any l.toArray Q f listed a w := by
    intro f
    induction f with
    | zero =>
      intro listed a w hH hS hcn
      have hall := G.cntU_zero l.length hcn
      refine ⟨?_, ?_⟩
      · cases hr : Region.ready .any l.toArray listed with
        | nil => rfl
        | cons i r =>
          have hi : i ∈ Region.ready .any l.toArray listed := by rw [hr]; exact List.mem_cons_self
          obtain ⟨hiu, oi, hoi, _⟩ := mem_ready.1 hi
          have := hall i (by have := (Array.getElem?_eq_some_iff.1 hoi).1; simpa using this)
          rw [getD_both hiu] at this; cases this
      · have hE := e3 a w
        rw [← hfull l.length (Nat.le_refl _)] at hE
        refine hE ?_
        have : sg σ0 dst inf del (fun m => listed.getD m false) l.length = sg σ0 dst inf del (fun _ => true) l.length := by
          have h1 : ∀ t, (sg σ0 dst inf del (fun m => listed.getD m false) l.length).slot t = (sg σ0 dst inf del (fun _ => true) l.length).slot t := fun t => sg_slot_same fun j hj _ => hall j hj
          have h2 : ∀ t, (sg σ0 dst inf del (fun m => listed.getD m false) l.length).sto t = (sg σ0 dst inf del (fun _ => true) l.length).sto t := fun t => sg_sto_same fun j hj _ => hall j hj
          cases hA : sg σ0 dst inf del (fun m => listed.getD m false) l.length
          cases hB' : sg σ0 dst inf del (fun _ => true) l.length
          rw [hA, hB'] at h1 h2
          congr 1
          · funext t; exact h1 t
          · funext t; exact h2 t
        rwa [← this]
    | succ f ih =>
      intro listed a w hH hS hcn
      have hcl : G.Closed l.toArray listed := fun j o ho hl e he hb => hH.closed j o ho hl e he hb
      obtain ⟨i0, hi0, hu0, hmin⟩ := G.cntU_pos l.length (by omega : 0 < G.cntU listed l.length)
      have hr0 : i0 ∈ Region.ready .any l.toArray listed := by
        refine mem_ready.2 ⟨getD_in (by rw [hH.size]; simpa using hi0) hu0, l.toArray[i0]'(by simpa using hi0), Array.getElem?_eq_getElem (by simpa using hi0), fun e he hb => ?_⟩
        exact hmin _ (hc.back i0 _ (Array.getElem?_eq_getElem (by simpa using hi0)) e he hb)
      refine ⟨fun h0 => (by rw [h0] at hr0; cases hr0), fun i hi => ?_⟩
      obtain ⟨hiu, o, ho, hall⟩ := mem_ready.1 hi
      have his : i < l.length := by have := (Array.getElem?_eq_some_iff.1 ho).1; simpa using this
      have hol : l[i]? = some o := by simpa using ho
      have hiu' : listed.getD i false = false := getD_both hiu
      have hcl' : G.Closed l.toArray (listed.setIfInBounds i true) := fun j' o' ho' hl' e he hb => (hH.set hi his).closed j' o' ho' hl' e he hb
      have hseti : (listed.setIfInBounds i true).getD i false = true := by simp [hH.size, his]
      -- who is forced ahead of i is listed; who is listed is not forced behind i
      have hahead : ∀ j, G.ahead ms j i = true → j ≠ i → listed.getD j false = true := fun j hj hne => by
        have := hmk _ hcl' i j hj hseti
        rwa [getD_set_ne false (Ne.symm hne)] at this
      have hbehind : ∀ j, G.ahead ms i j = true → listed.getD j false = false := fun j hj => by
        cases hlj : listed.getD j false with
        | false => rfl
        | true => have := hmk listed hcl j i hj hlj; rw [hiu'] at this; cases this
      have hnm := fun t ht j oj (hj : j < l.length) (hoj : l[j]? = some oj) hdj hne => hc.names i o his ho t ht j oj hj (by simpa using hoj) hdj hne
      obtain ⟨hop, hWr, hTi, hTd⟩ := h4 i o hol
      have getl : ∀ j, j < l.length → ∃ oj, l[j]? = some oj := fun j hj => ⟨l[j], List.getElem?_eq_getElem hj⟩
      have hA : AgreeF (o.looksAt l.toArray) (Fs i) (sg σ0 dst inf del (fun m => listed.getD m false) l.length) := by
        intro t ht j hl
        have hl' : (mk (Fs i) (Ss i)).slot t = some j := hl
        rw [← hl', ← hfull i (by omega)]
        rw [sg_slot_tail (m := i) (by omega) (fun q h1 h2 hdq => ?_)]
        · refine sg_slot_same fun q hq hdq => ?_
          obtain ⟨oq, hoq⟩ := getl q (by omega)
          rw [hd q oq hoq] at hdq
          have := (hnm t (List.mem_append_left _ ht) q oq (by omega) hoq hdq (by omega) _ hcl').1 hq hseti
          rwa [getD_set_ne false (by omega)] at this
        · obtain ⟨oq, hoq⟩ := getl q h2
          rw [hd q oq hoq] at hdq
          rcases Nat.lt_or_ge i q with hlt | hge
          · cases hlq : listed.getD q false with
            | false => rfl
            | true =>
              have := (hnm t (List.mem_append_left _ ht) q oq h2 hoq hdq (by omega) listed hcl).2 hlt hlq
              rw [hiu'] at this; cases this
          · rw [show q = i by omega]; exact hiu'
      have hB2 : AgreeS (pl.getD i default).T (Ss i) (sg σ0 dst inf del (fun m => listed.getD m false) l.length) := by
        intro k hk
        have : lookS k (Ss i) = (mk (Fs i) (Ss i)).sto k := rfl
        rw [this, ← hfull i (by omega)]
        rw [sg_sto_tail (m := i) (by omega) (fun q h1 h2 hdq => ?_)]
        · refine sg_sto_same fun q hq hdq => ?_
          obtain ⟨oq, hoq⟩ := getl q (by omega)
          have h5 := (h4 q oq hoq).2.1 k (look_keys hdq)
          exact hahead q ((hpl.wr q i (by omega) his (by omega) k h5 hk).1 hq) (by omega)
        · obtain ⟨oq, hoq⟩ := getl q h2
          rcases Nat.lt_or_ge i q with hlt | hge
          · have h5 := (h4 q oq hoq).2.1 k (look_keys hdq)
            exact hbehind q ((hpl.wr q i h2 his (by omega) k h5 hk).2 hlt)
          · rw [show q = i by omega]; exact hiu'
      have hnT : ∀ k ∈ (pl.getD i default).N, ∀ j, j < l.length → listed.getD j false = true → k ∉ (pl.getD j default).T := fun k hk j hj hlj hin => by
        have hne : j ≠ i := fun e => by subst e; rw [hiu'] at hlj; cases hlj
        have := hbehind j (hpl.new i j his hj hne k hk hin)
        rw [hlj] at this; cases this
      have hfresh : ∀ k ∈ (pl.getD i default).N, (sg σ0 dst inf del (fun m => listed.getD m false) l.length).fresh k ∧ (sg σ0 dst inf del (fun m => listed.getD m false) l.length).sto k = none ∧ k ∉ c.pk := by
        intro k hk
        obtain ⟨⟨q1, q2⟩, q3⟩ := hfr0 k (hN pl i k hk)
        rw [← hσ0] at q1 q2 q3
        refine ⟨⟨sg_slot_of q1 fun j hj hlj hin => ?_, sg_sto_of q2 fun j hj hlj hin => ?_⟩, ?_, disj_spec hp k (hN pl i k hk)⟩
        · obtain ⟨oj, hoj⟩ := getl j hj
          exact hnT k hk j hj hlj ((h4 j oj hoj).2.2.1 k hin)
        · obtain ⟨oj, hoj⟩ := getl j hj
          exact hnT k hk j hj hlj ((h4 j oj hoj).2.2.2 k hin)
        · rw [sg_sto_tail (m := 0) (Nat.zero_le _) (fun q _ h2 hdq => ?_)]
          · exact q3
          · cases hlq : listed.getD q false with
            | false => rfl
            | true =>
              obtain ⟨oq, hoq⟩ := getl q h2
              have h5 := (h4 q oq hoq).2.1 k (look_keys hdq)
              exact absurd (hpl.sub q h2 k h5) (hnT k hk q h2 hlq)
      have hsig : (sg σ0 dst inf del (fun m => listed.getD m false) l.length).upd o.dst (inf i) (del i) = sg σ0 dst inf del (fun m => (listed.setIfInBounds i true).getD m false) l.length := by
        have hset : ∀ j, j ≠ i → (listed.setIfInBounds i true).getD j false = listed.getD j false := fun j hj => getD_set_ne false (Ne.symm hj)
        have h1 : ∀ t, ((sg σ0 dst inf del (fun m => listed.getD m false) l.length).upd o.dst (inf i) (del i)).slot t = (sg σ0 dst inf del (fun m => (listed.setIfInBounds i true).getD m false) l.length).slot t := by
          intro t
          by_cases e : o.dst = some t
          · rw [sg_slot_tail (L := fun m => (listed.setIfInBounds i true).getD m false) (m := i + 1) (by omega) (fun q h1 h2 hdq => ?_)]
            · simp [Sig.upd, e, sg, hseti, hd i o hol]
            · rw [hset q (by omega)]
              obtain ⟨oq, hoq⟩ := getl q h2
              rw [hd q oq hoq] at hdq
              cases hlq : listed.getD q false with
              | false => rfl
              | true =>
                have := (hnm t (List.mem_append_right _ (by simp [e])) q oq h2 hoq hdq (by omega) listed hcl).2 (by omega) hlq
                rw [hiu'] at this; cases this
          · rw [upd_slot_ne e]
            refine sg_slot_same fun q _ hdq => ?_
            refine (hset q fun e2 => ?_).symm
            subst e2
            rw [hd q o hol] at hdq; exact e hdq
        have h2 : ∀ t, ((sg σ0 dst inf del (fun m => listed.getD m false) l.length).upd o.dst (inf i) (del i)).sto t = (sg σ0 dst inf del (fun m => (listed.setIfInBounds i true).getD m false) l.length).sto t := by
          intro t
          cases hx : look t (del i) with
          | none =>
            rw [upd_sto_ne hx]
            refine sg_sto_same fun q _ hdq => ?_
            refine (hset q fun e2 => ?_).symm
            subst e2
            exact hdq hx
          | some x =>
            have hin : t ∈ (pl.getD i default).T := hpl.sub i his t (hWr t (look_keys (by rw [hx]; simp)))
            rw [sg_sto_tail (L := fun m => (listed.setIfInBounds i true).getD m false) (m := i + 1) (by omega) (fun q h1 h2 hdq => ?_)]
            · simp [Sig.upd, hx, sg, hseti]
            · rw [hset q (by omega)]
              obtain ⟨oq, hoq⟩ := getl q h2
              have h5 := (h4 q oq hoq).2.1 t (look_keys hdq)
              exact hbehind q ((hpl.wr q i h2 his (by omega) t h5 hin).2 (by omega))
        cases hA' : (sg σ0 dst inf del (fun m => listed.getD m false) l.length).upd o.dst (inf i) (del i)
        cases hB' : sg σ0 dst inf del (fun m => (listed.setIfInBounds i true).getD m false) l.length
        rw [hA', hB'] at h1 h2
        congr 1
        · funext t; exact h1 t
        · funext t; exact h2 t
      have hres := hop _ a w hA hB2 hfresh hS
      rw [hsig] at hres
      have hcn' : G.cntU (listed.setIfInBounds i true) l.length = f := by
        have := G.cntU_set (listed := listed) (i := i) (by rw [hH.size]; simpa using his) hiu' l.length his
        omega
      have hH' := hH.set hi his
      unfold wpOp
      simp only [ho]
      split
      · rename_i hw
        rw [if_pos hw] at hres
        refine .inl (upon_wp ?_)
        revert hres
        generalize (execOp a.eval o).run P w = rr
        intro hres
        cases rr with
        | ok nx w' =>
          cases nx <;> simp only [upon] at hres ⊢
          case value u => exact ih _ _ _ hH' hres hcn'
          case skip => exact ih _ _ _ hH' hres hcn'
          case enter f' args => exact hres.mono fun e w'' ⟨v, he, hk⟩ => ⟨v, he, ih _ _ _ hH' hk hcn'⟩
        | halt x w' => simp only [upon] at hres
      · rename_i hw
        rw [if_neg hw] at hres
        exact ih _ _ _ hH' hres hcn'
  intro a w ha
  refine wp_region_any hm ?_
  have hstart : HeadInv .any l.toArray l.length (Array.replicate l.toArray.size false) :=
    ⟨by simp, fun j oj _ hl => (by rw [getD_replicate_false] at hl; cases hl), fun t _ ht => getD_in (by simpa using ht) (getD_replicate_false _ _)⟩
  have hcn := G.cntU_new l.toArray.size l.length
  have := main l.length (Array.replicate l.toArray.size false) a { w with drawn := w.drawn + 1 } hstart ?_ (by simpa using hcn)
  · simpa using this
  · have hz : sg σ0 dst inf del (fun m => (Array.replicate l.toArray.size false).getD m false) l.length = mk F S := by
      rw [← hσ0]
      have h0 : ∀ m, sg σ0 dst inf del (fun m => (Array.replicate l.toArray.size false).getD m false) m = σ0 := by
        intro m
        induction m with
        | zero => rfl
        | succ m ih => rw [sg, ih, getD_replicate_false]; rfl
      exact h0 _
    rw [hz]
    obtain ⟨τ, h⟩ := ha
    refine ⟨τ, h.size, h.defers, Gr.trans h.gr (Gr.of_ext (Ext.draw w)), fun t i hl => ?_, fun k sb hl => ?_, h.inj, h.own, h.pin⟩
    · obtain ⟨u, h1, h2⟩ := h.slot t i hl
      exact ⟨u, h1, h2.mono (Nat.le_refl _) (fun b hb _ => ⟨hb, rfl⟩) (fun _ _ => rfl)⟩
    · exact (h.sto k sb hl).mono (Nat.le_refl _) (fun b hb _ => ⟨hb, rfl⟩) (fun _ _ => rfl) rfl (fun _ _ => rfl)
end
end Go.H
