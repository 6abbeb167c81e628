/-
  Contracts, calls, ends of functions.
-/
import Derived.Test.YtfmgpocbpbfalaaHWrite
namespace Go.H
open Go Go.RowKit
open Go.G (Ext Gr Blk)

def keysS (S : Sto) : List Nat := S.map (·.1)
def MOf (τ : Nat → Value) (S : Sto) (b : Nat) : Prop := ∃ k sb, lookS k S = some sb ∧ vblk (τ k) = some b
theorem mem_keysS {k : Nat} {S : Sto} {sb : SB} (h : lookS k S = some sb) : k ∈ keysS S := List.mem_map.2 ⟨_, look_mem (lookS_look h), rfl⟩

/-- What a call is handed. -/
structure In (τ : Nat → Value) (w : World) (ok : Nat → Prop) (as : List IV) (S : Sto) (vs : List Value) : Prop where
  args : AllI τ w ok as vs
  sto : ∀ k sb, lookS k S = some sb → RepB τ w ok k sb
  inj : ∀ k k' sb sb' b, lookS k S = some sb → lookS k' S = some sb' → vblk (τ k) = some b → vblk (τ k') = some b → k = k'
  ap : ∀ b, ok b → ¬ MOf τ S b
def okOut (τ : Nat → Value) (w : World) (ok : Nat → Prop) (S : Sto) (τ' : Nat → Value) (S' : Sto) (b : Nat) : Prop := (ok b ∨ MOf τ S b ∨ w.heap.size ≤ b) ∧ ∀ k sb, lookS k S' = some sb → vblk (τ' k) ≠ some b
/-- What it leaves. -/
structure Out (τ : Nat → Value) (w : World) (ok : Nat → Prop) (S : Sto) (r : IV) (S' : Sto) (τ' : Nat → Value) (v : Value) (w' : World) : Prop where
  gr : Gr (MOf τ S) w w'
  pin : ∀ k ∈ keysS S, τ' k = τ k
  res : RepI τ' w' (okOut τ w ok S τ' S') r v
  sto : ∀ k sb, lookS k S' = some sb → RepB τ' w' (okOut τ w ok S τ' S') k sb
  inj : ∀ k k' sb sb' b, lookS k S' = some sb → lookS k' S' = some sb' → vblk (τ' k) = some b → vblk (τ' k') = some b → k = k'
  own : ∀ k sb b, lookS k S' = some sb → vblk (τ' k) = some b → MOf τ S b ∨ w.heap.size ≤ b
/-- A function's contract. -/
def Con (P : Program) (f : FuncId) (as : List IV) (S : Sto) (r : IV) (S' : Sto) : Prop :=
  ∀ τ w vs ok, In τ w ok as S vs → Calls P f vs.toArray w (fun e w' => ∃ v τ', e = .returned v ∧ Out τ w ok S r S' τ' v w')

def args0 : Nat → List IV → Frm
  | _, [] => []
  | k, v :: r => (k, v) :: args0 (k + 1) r
theorem look_args0 : ∀ (l : List IV) (k t : Nat) (i : IV), look t (args0 k l) = some i → k ≤ t ∧ l[t - k]? = some i
  | [], k, t, i, h => by simp [args0, look] at h
  | v :: r, k, t, i, h => by
    by_cases e : k = t
    · subst e
      rw [args0, look_eq] at h
      cases h
      exact ⟨Nat.le_refl _, by simp⟩
    · rw [args0, look_ne e] at h
      obtain ⟨h2, h3⟩ := look_args0 r (k + 1) t i h
      refine ⟨by omega, ?_⟩
      have : t - k = (t - (k + 1)) + 1 := by omega
      rw [this]
      simpa using h3
def cx (n : Nat) (S : Sto) (τ : Nat → Value) (w : World) (ok : Nat → Prop) : Ctx := ⟨n, w, MOf τ S, ok, keysS S, τ⟩
def Post (P : Program) (fn : Func) (S : Sto) (τ : Nat → Value) (w : World) (ok : Nat → Prop) (r : IV) (S' : Sto) : Exit → Act → World → Prop :=
  bodyPost P fn (fun e w' => ∃ v τ', e = .returned v ∧ Out τ w ok S r S' τ' v w')

section
variable {P : Program} {fn : Func} {f : FuncId} {cd : Code} {n : Nat} {S S' S0 S1 : Sto} {as : List IV} {r : IV} {τ : Nat → Value} {w : World} {ok : Nat → Prop} {F : Frm}
theorem Con.enter' {vs : List Value} (hf : P.funcs[f]? = some fn) (hb : fn.body = some cd) (hn : fn.ntmps = n) (hl : Nat.ble as.length n = true)
    (h : W (cx n S τ w ok) P cd (Post P fn S τ w ok r S') (args0 0 as) S) (hin : In τ w ok as S vs) : Calls P f vs.toArray w (fun e w' => ∃ v τ', e = .returned v ∧ Out τ w ok S r S' τ' v w') := by
  have hl' : as.length ≤ n := Nat.le_of_ble_eq_true hl
  refine calls_of_wp hf hb (h _ w ⟨τ, by simp [cx, hn, ← hin.args.1]; omega, rfl, Gr.refl _ _, fun t i hi => ?_, fun k sb hk => ?_, hin.inj, fun k sb b hk hv => .inl ⟨k, sb, hk, hv⟩, fun _ _ => rfl⟩)
  · obtain ⟨_, hv⟩ := look_args0 as 0 t i hi
    rw [Nat.sub_zero] at hv
    have ht : t < vs.length := by rw [← hin.args.1]; exact (List.getElem?_eq_some_iff.1 hv).1
    refine ⟨vs[t], ?_, (hin.args.2 t i vs[t] hv (List.getElem?_eq_getElem ht)).mono (Nat.le_refl _) (fun b hb _ => ⟨⟨.inl hb, fun k sb hk hv => hin.ap b hb ⟨k, sb, hk, hv⟩⟩, rfl⟩) (fun _ _ => rfl)⟩
    rw [Array.getElem?_append_left (by simpa using ht)]
    simp [ht]
  · exact (hin.sto k sb hk).mono (Nat.le_refl _) (fun b hb _ => ⟨⟨.inl hb, fun k sb hk hv => hin.ap b hb ⟨k, sb, hk, hv⟩⟩, rfl⟩) (fun _ _ => rfl) rfl (fun _ _ => rfl)

theorem Con.enter (hf : P.funcs[f]? = some fn) (hb : fn.body = some cd) (hn : fn.ntmps = n) (hl : Nat.ble as.length n = true)
    (h : ∀ τ w ok, W (cx n S τ w ok) P cd (Post P fn S τ w ok r S') (args0 0 as) S) : Con P f as S r S' := fun τ w _ ok hin => Con.enter' hf hb hn hl (h τ w ok) hin

/-! ### Results -/
def resF (tmps : Array Value) : ResultVar → Sem Value
  | .tmp t => pure (tmps.getD t undef)
  | .cell a t => do loadVar t (← asAddr (tmps.getD a undef))
theorem results_eq (fn : Func) (tmps : Array Value) : results fn tmps = (do
    let vs ← fn.results.mapM (resF tmps)
    pure (if h : vs.size = 1 then vs[0] else .tuple vs)) := rfl
def ResOne (P : Program) (F : Frm) (S : Sto) (rv : ResultVar) (i : IV) : Prop :=
  ∀ (c : Ctx) (τ : Nat → Value) (a : Act) (w : World), SatT c (mk F S) τ a w → ∃ v, (resF a.tmps rv).run P w = .ok v w ∧ RepI τ w (okOf c τ (mk F S).sto) i v
theorem ResOne.tmp {t : Nat} {i : IV} (h : look t F = some i) : ResOne P F S (.tmp t) i := fun c τ a w hS => by
  obtain ⟨u, h1, h2⟩ := hS.slot t i h
  exact ⟨u, by simp [resF, h1], h2⟩
theorem ResOne.cell1 {t : Nat} {tt : TypeId} {dd : TypeDesc} {is q : List IV} {i : IV} {T : List Nat} (hp : PtI F S T (.tmp t) is) (hi : is = i :: q) (ht : P.underlying tt = some dd) (ha : G.aggD dd = false) : ResOne P F S (.cell t tt) i := fun c τ a w hS => by
  subst hi
  obtain ⟨j, hx, hp⟩ := hp
  obtain ⟨u, h1, h2⟩ := hS.slot t j hx
  obtain ⟨ad, vs, h3, h4, h5⟩ := hp c _ τ a w u (fun _ _ => rfl) hS h2
  match vs, h5 with
  | [], h5 => have := h5.1; simp at this
  | v :: vs, h5 =>
    have hc := h4 0 v rfl
    have e0 : ad.add 0 = ad := by simp [Addr.add]
    rw [e0] at hc
    refine ⟨v, ?_, h5.2 0 i v rfl rfl⟩
    subst h3
    simp [resF, h1, asAddr, loadVar, G.run_isAgg' ht, ha, hc]
theorem ResOne.cellN {t : Nat} {tt : TypeId} {dd : TypeDesc} {is js : List IV} {m : Nat} {T : List Nat} (hp : PtI F S T (.tmp t) is) (hj : is.take m = js) (hm : m ≤ is.length) (ht : P.underlying tt = some dd) (ha : G.aggD dd = true) (hs : (P.info? tt).map (·.size) = some m) :
    ResOne P F S (.cell t tt) (.agg js) := fun c τ a w hS => by
  subst hj
  obtain ⟨j, hx, hp⟩ := hp
  obtain ⟨u, h1, h2⟩ := hS.slot t j hx
  obtain ⟨ad, vs, h3, h4, h5⟩ := hp c _ τ a w u (fun _ _ => rfl) hS h2
  subst h3
  obtain ⟨inf, hi, hs⟩ := Option.map_eq_some_iff.1 hs
  have hl : (vs.take m).length = m := by rw [List.length_take, ← h5.1]; omega
  have hld := run_loadCells_list (P := P) (w := w) ad (vs.take m) (h4.take m)
  rw [hl] at hld
  refine ⟨.agg (vs.take m).toArray, ?_, .agg (h5.take m).1 (h5.take m).2⟩
  simp [resF, h1, asAddr, loadVar, G.run_isAgg' ht, ha, sizeOf, typeInfo, hi, hs, hld]
def ResAll (P : Program) (F : Frm) (S : Sto) : List ResultVar → List IV → Prop
  | [], [] => True
  | rv :: rs, i :: is => ResOne P F S rv i ∧ ResAll P F S rs is
  | _, _ => False
theorem resAll_run {c : Ctx} {a : Act} (hS : SatT c (mk F S) τ a w) : ∀ {rs : List ResultVar} {is : List IV}, ResAll P F S rs is → ∃ vs : List Value, (rs.mapM (resF a.tmps)).run P w = .ok vs w ∧ AllI τ w (okOf c τ (mk F S).sto) is vs
  | [], [], _ => ⟨[], rfl, rfl, fun i u v h1 => by simp at h1⟩
  | rv :: rs, i :: is, h => by
    obtain ⟨v, h1, h2⟩ := h.1 c τ a w hS
    obtain ⟨vs, h3, h4⟩ := resAll_run hS h.2
    refine ⟨v :: vs, ?_, (AllI.single h2).app h4⟩
    rw [List.mapM_cons, Sem.run_bind, h1, Result.andThen_ok, Sem.run_bind, h3, Result.andThen_ok]; rfl
  | [], _ :: _, h => h.elim
  | _ :: _, [], h => h.elim
def resI : List IV → IV
  | [i] => i
  | is => .tup is
theorem E.fin {e : Exit} {rs : List ResultVar} {is : List IV} (ρ : Nat → Nat) (he : e = .ret ∨ e = .normal) (hr : fn.results = rs.toArray) (hres : ResAll P F S rs is) (hi : r.ren ρ = resI is) (hS : SubS ρ S S1) (hd : distinct (S1.map fun x => ρ x.1) = true)
    (hp : ∀ k ∈ keysS S0, ρ k = k) : E (cx n S0 τ w ok) (Post P fn S0 τ w ok r S1) e F S := by
  intro a w' ha
  obtain ⟨τ', h⟩ := ha
  obtain ⟨vs, h1, h2⟩ := resAll_run h hres
  have hval : ∃ v, (results fn a.tmps).run P w' = .ok v w' ∧ RepI τ' w' (okOf (cx n S0 τ w ok) τ' (mk F S).sto) (resI is) v := by
    have hrun : (fn.results.mapM (resF a.tmps)).run P w' = .ok vs.toArray w' := by
      rw [hr, List.mapM_toArray]
      simp only [Sem.run_map, h1]
      rfl
    rw [results_eq, Sem.run_bind, hrun, Result.andThen_ok]
    match is, vs, h2 with
    | [], [], h2 => exact ⟨_, rfl, .tup h2.1 h2.2⟩
    | [i], [v], h2 => exact ⟨v, rfl, h2.2 0 i v rfl rfl⟩
    | i :: j :: is, u :: v :: vs, h2 => exact ⟨_, rfl, .tup h2.1 h2.2⟩
    | [], _ :: _, h2 => have := h2.1; simp at this
    | [_], [], h2 => have := h2.1; simp at this
    | [_], _ :: _ :: _, h2 => have := h2.1; simp at this
    | _ :: _ :: _, [], h2 => have := h2.1; simp at this
    | _ :: _ :: _, [_], h2 => have := h2.1; simp at this
  obtain ⟨v, q1, q2⟩ := hval
  rw [← hi] at q2
  have hok : ∀ b, okOf (cx n S0 τ w ok) τ' (mk F S).sto b → b < w'.heap.size → okOut τ w ok S0 (fun k => τ' (ρ k)) S1 b ∧ w'.heap[b]? = w'.heap[b]? := fun b hb _ => by
    refine ⟨⟨?_, fun k sb hk => hb.2 _ _ (hS.get hk)⟩, rfl⟩
    exact hb.1
  have hout : Out τ w ok S0 r S1 (fun k => τ' (ρ k)) v w' := by
    refine ⟨h.gr, fun k hk => ?_, q2.ren.mono (Nat.le_refl _) hok (fun _ _ => rfl), fun k sb hk => ?_, fun k k' sb sb' b h1 h2 h3 h4 => ?_, fun k sb b h1 h2 => h.own _ _ b (hS.get h1) h2⟩
    · show τ' (ρ k) = τ k
      rw [hp k hk]; exact h.pin k hk
    · exact ((h.sto _ _ (hS.get hk)).ren).mono (Nat.le_refl _) hok (fun _ _ => rfl) rfl (fun _ _ => rfl)
    · exact distinct_inj hd (lookS_look h1) (lookS_look h2) (h.inj _ _ _ _ b (hS.get h1) (hS.get h2) h3 h4)
  rcases he with rfl | rfl <;> exact ⟨h.defers, v, q1, v, _, rfl, hout⟩
end

/-! ### Calls -/
def evs (F : Frm) : List Operand → Option (List IV)
  | [] => some []
  | x :: r => match ev F x, evs F r with
    | some i, some is => some (i :: is)
    | _, _ => none
/-- Whom a value calls, with what ahead and behind. -/
def callee : IV → Option (FuncId × List IV × List IV)
  | .u (.sc (.func (.func f) a b)) => some (f, a.toList.map fun v => .u (.sc v), b.toList.map fun v => .u (.sc v))
  | .u (.clo (.func f) a b) => some (f, a.map .u, b.map .u)
  | .clo (.func f) a b => some (f, a, b)
  | _ => none
theorem callee_rep {τ : Nat → Value} {w : World} {ok : Nat → Prop} {i : IV} {v : Value} {f : FuncId} {a b : List IV} (h : RepI τ w ok i v) (hc : callee i = some (f, a, b)) :
    ∃ va vb : List Value, v = .func (.func f) va.toArray vb.toArray ∧ AllI τ w ok a va ∧ AllI τ w ok b vb := by
  cases h with
  | u h =>
    cases h with
    | sc v =>
      cases v <;> simp [callee] at hc
      rename_i fn x y
      cases fn <;> simp at hc
      obtain ⟨rfl, rfl, rfl⟩ := hc
      refine ⟨x.toList, y.toList, by simp, AllI.sc _, AllI.sc _⟩
    | @clo fn x y vx vy hl hg hl' hg' =>
      cases fn <;> simp [callee] at hc
      obtain ⟨rfl, rfl, rfl⟩ := hc
      exact ⟨_, _, rfl, AllI.ofU ⟨hl, hg⟩, AllI.ofU ⟨hl', hg'⟩⟩
    | agg => simp [callee] at hc
    | tup => simp [callee] at hc
    | sl0 => simp [callee] at hc
    | sl => simp [callee] at hc
    | ptr => simp [callee] at hc
  | @clo fn x y vx vy hl hg hl' hg' =>
    cases fn <;> simp [callee] at hc
    obtain ⟨rfl, rfl, rfl⟩ := hc
    exact ⟨_, _, rfl, ⟨hl, hg⟩, ⟨hl', hg'⟩⟩
  | own => simp [callee] at hc
  | ref => simp [callee] at hc
  | el => simp [callee] at hc
  | osl => simp [callee] at hc
  | agg => simp [callee] at hc
  | tup => simp [callee] at hc
  | junk => simp [callee] at hc

/-- Nothing in it points to memory that is only read. -/
def UV.isSc : UV → Bool
  | .sc _ => true
  | _ => false
mutual
def IV.flat : IV → Bool
  | .u x => x.isSc
  | .agg l => IV.flatL l
  | .tup l => IV.flatL l
  | .clo _ f c => IV.flatL f && IV.flatL c
  | _ => true
termination_by structural i => i
def IV.flatL : List IV → Bool
  | [] => true
  | i :: r => i.flat && IV.flatL r
termination_by structural l => l
end
theorem IV.flatL_mem : ∀ {l : List IV} {i : IV}, IV.flatL l = true → i ∈ l → i.flat = true
  | j :: r, i, h, hi => by
    rw [IV.flatL, Bool.and_eq_true] at h
    rcases List.mem_cons.1 hi with rfl | hi
    · exact h.1
    · exact IV.flatL_mem h.2 hi
def SB.flatP : SB → Prop
  | .cells _ is => IV.flatL is = true
  | .data _ _ rows => ∀ u ∈ rows.flatten, u.isSc = true
  | .mp _ => True
  | .dead => True
section
variable {τ τ' : Nat → Value} {w w' : World} {ok ok' : Nat → Prop}
theorem RepU.of_sc {u : UV} {v : Value} (h : RepU w ok u v) (hf : u.isSc = true) : RepU w' ok' u v := by
  cases u with
  | sc x => cases h; exact .sc _
  | _ => simp [UV.isSc] at hf
theorem RepI.of_flat {i : IV} {v : Value} (h : RepI τ w ok i v) (hf : i.flat = true) : RepI τ w' ok' i v := by
  induction h with
  | u h => exact .u (h.of_sc (by simpa [IV.flat] using hf))
  | own k h => exact .own k h
  | ref h => exact .ref h
  | el h => exact .el h
  | osl h h1 h2 => exact .osl h h1 h2
  | agg hl _ ih => exact .agg hl fun i u v h1 h2 => ih i u v h1 h2 (IV.flatL_mem (by simpa [IV.flat] using hf) (List.mem_of_getElem? h1))
  | tup hl _ ih => exact .tup hl fun i u v h1 h2 => ih i u v h1 h2 (IV.flatL_mem (by simpa [IV.flat] using hf) (List.mem_of_getElem? h1))
  | clo hl _ hl' _ ih ih' =>
    rw [IV.flat, Bool.and_eq_true] at hf
    exact .clo hl (fun i u v h1 h2 => ih i u v h1 h2 (IV.flatL_mem hf.1 (List.mem_of_getElem? h1))) hl' (fun i u v h1 h2 => ih' i u v h1 h2 (IV.flatL_mem hf.2 (List.mem_of_getElem? h1)))
  | junk v => exact .junk v
theorem RepB.of_flat {k : Nat} {sb : SB} (h : RepB τ w ok k sb) (hf : sb.flatP) : RepB τ w ok' k sb := by
  cases sb with
  | cells t is =>
    obtain ⟨g, vs, h1, h2, h3, h4⟩ := h
    exact ⟨g, vs, h1, h2, ⟨h3.1, fun i u v q1 q2 => (h3.2 i u v q1 q2).of_flat (IV.flatL_mem hf (List.mem_of_getElem? q1))⟩, h4⟩
  | data t sz rows =>
    obtain ⟨vs, h1, h2, h3⟩ := h
    exact ⟨vs, h1, ⟨h2.1, fun i u v q1 q2 => (h2.2 i u v q1 q2).of_sc (hf u (List.mem_of_getElem? q1))⟩, h3⟩
  | mp ps => exact h
  | dead => exact h.elim
/-- The names over to others. -/
theorem RepI.to {ρ : Nat → Nat} {i : IV} {v : Value} (h : RepI τ w ok i v) (ht : ∀ k ∈ i.tags, τ' (ρ k) = τ k) : RepI τ' w ok (i.ren ρ) v := by
  induction h with
  | u h => exact .u h
  | own k h =>
    have e := ht k (by simp [IV.tags])
    have := RepI.own (τ := τ') (w := w) (ok := ok) (ρ k) (by rw [e]; exact h)
    rw [e] at this; exact this
  | ref h => exact .ref (by rw [ht _ (by simp [IV.tags]), h])
  | el h => exact .el (by rw [ht _ (by simp [IV.tags]), h])
  | osl h h1 h2 => exact .osl (by rw [ht _ (by simp [IV.tags]), h]) h1 h2
  | agg hl _ ih =>
    rw [IV.ren, IV.renL_map]
    refine .agg (by simpa using hl) fun i u v h1 h2 => ?_
    rw [List.getElem?_map, Option.map_eq_some_iff] at h1
    obtain ⟨x, h1, rfl⟩ := h1
    exact ih i x v h1 h2 fun k hk => ht k (by rw [IV.tags]; exact IV.tagsL_mem (List.mem_of_getElem? h1) hk)
  | tup hl _ ih =>
    rw [IV.ren, IV.renL_map]
    refine .tup (by simpa using hl) fun i u v h1 h2 => ?_
    rw [List.getElem?_map, Option.map_eq_some_iff] at h1
    obtain ⟨x, h1, rfl⟩ := h1
    exact ih i x v h1 h2 fun k hk => ht k (by rw [IV.tags]; exact IV.tagsL_mem (List.mem_of_getElem? h1) hk)
  | clo hl _ hl' _ ih ih' =>
    rw [IV.ren, IV.renL_map, IV.renL_map]
    refine .clo (by simpa using hl) (fun i u v h1 h2 => ?_) (by simpa using hl') (fun i u v h1 h2 => ?_)
    · rw [List.getElem?_map, Option.map_eq_some_iff] at h1
      obtain ⟨x, h1, rfl⟩ := h1
      exact ih i x v h1 h2 fun k hk => ht k (by rw [IV.tags, List.mem_append]; exact .inl (IV.tagsL_mem (List.mem_of_getElem? h1) hk))
    · rw [List.getElem?_map, Option.map_eq_some_iff] at h1
      obtain ⟨x, h1, rfl⟩ := h1
      exact ih' i x v h1 h2 fun k hk => ht k (by rw [IV.tags, List.mem_append]; exact .inr (IV.tagsL_mem (List.mem_of_getElem? h1) hk))
  | junk v => exact .junk v
theorem RepB.to {ρ : Nat → Nat} {k : Nat} {sb : SB} (h : RepB τ w ok k sb) (ht : ∀ j ∈ sb.tags, τ' (ρ j) = τ j) (hk : τ' (ρ k) = τ k) : RepB τ' w ok (ρ k) (sb.ren ρ) := by
  cases sb with
  | cells t is =>
    obtain ⟨g, vs, h1, h2, h3, h4⟩ := h
    refine ⟨g, vs, hk.trans h1, h2, ⟨by rw [IV.renL_map]; simpa using h3.1, fun i u v q1 q2 => ?_⟩, fun i hi => ?_⟩
    · rw [IV.renL_map, List.getElem?_map, Option.map_eq_some_iff] at q1
      obtain ⟨x, q1, rfl⟩ := q1
      exact (h3.2 i x v q1 q2).to fun j hj => ht j (IV.tagsL_mem (List.mem_of_getElem? q1) hj)
    · rw [IV.renL_map, List.mem_map] at hi
      obtain ⟨x, hx, rfl⟩ := hi
      rw [IV.one_ren]; exact h4 x hx
  | data t sz rows =>
    obtain ⟨vs, h1, h2, h3⟩ := h
    refine ⟨vs, ?_, h2, h3⟩
    rw [hk]; exact h1
  | mp ps =>
    obtain ⟨g, es, h1, h2⟩ := h
    exact ⟨g, es, hk.trans h1, h2⟩
  | dead => exact h.elim
end
end Go.H
