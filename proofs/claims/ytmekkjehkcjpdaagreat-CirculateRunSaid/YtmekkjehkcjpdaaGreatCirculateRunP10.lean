/-
  What the proof rests on: part 10 of 14.
-/
import Derived.Test.YtmekkjehkcjpdaaGreatCirculateRunP9
import Derived.WideKeyRuns
section
namespace Go.H
open Go Go.RowKit
section
variable {P : Program}
theorem run_fields {m : Nat} {b : Bool} {cs : Array Value} : ∀ (fs : List Field), (∀ f ∈ fs, f.name ≠ "_" ∧ ∀ w : World, ∃ a, (part f.type cs f.offset).run P w = .ok a w ∧ (Instr.checkKey b m f.type a).run P w = .ok () w) → ∀ w : World, (forIn fs PUnit.unit fun f _ => do
      if f.name ≠ "_" then Instr.checkKey b m f.type (← part f.type cs f.offset)
      pure (ForInStep.yield PUnit.unit) : Sem PUnit).run P w = .ok () w
  | [], _, w => by simp
  | f :: fs, h, w => by
    obtain ⟨h1, h2⟩ := h f yE
    obtain ⟨a, a1, a2⟩ := h2 w
    have ih := run_fields (m := m) (b := b) (cs := cs) fs (fun x hx => h x (by simp [hx])) w
    simp only [List.forIn_cons, Sem.run_bind, if_pos h1, a1, a2, Result.andThen_ok, Sem.run_pure]
    exact ih
theorem find_ask {α : Type} [DecidableEq α] {kt : TypeId} {kf : α → Value} (heq : ∀ (w : World) (a b : α), (Op.equal kt (kf a) (kf b)).run P w = .ok (decide (a = b)) w) (w : World) (a : α) : ∀ (es : List MapEntry) (ks : List α) (i : Nat), es.map (·.key) = ks.map kf → (Instr.findAsking kt (kf a) es i).run P w = .ok (efind a ks es i) w
  | [], [], i, _ => by simp [Instr.findAsking, efind]
  | [], _ :: _, i, h => by simp at h
  | _ :: _, [], i, h => by simp at h
  | e :: es, k :: ks, i, h => by
    simp only [List.map_cons, List.cons.injEq] at h
    rw [Instr.findAsking, efind, h.1]
    by_cases q : a = k
    · simp [Sem.run_bind, heq, q]
    · simp [Sem.run_bind, heq, q, find_ask heq w a es ks (i + 1) h.2]
theorem KeyOk.wide {α : Type} [DecidableEq α] {kt : TypeId} {kf : α → Value} (ht : P.underlying kt = some (.struct (P.fieldsOf kt))) (heq : ∀ (w : World) (a b : α), (Op.equal kt (kf a) (kf b)).run P w = .ok (decide (a = b)) w)
    (hck : ∀ (w : World) (b : Bool) (a : α), (Instr.checkKey b 10000 kt (kf a)).run P w = .ok () w) (hbits : ∀ a : α, Instr.sameBits 10000 (kf a) (kf a) = true) : KeyOk P kt kf where
  find w es ks a he := by
    rw [run_findKey_eq w (by rw [ht])]
    exact find_ask heq w a es ks 0 he
  check := hck
  bits := hbits
abbrev pairV (p : Int × Int) : Value := .agg #[.int .i64 p.1, .int .i64 p.2]
theorem run_checkv {t : TypeId} {x y : Value} (h : fitv (P.underlying t) x y = true) (e : Bool) (m : Nat) (w : World) : (Instr.checkKey e (m + 1) t x).run P w = .ok () w := by
  unfold fitv at h
  split at h
  all_goals first
    | (rename_i ht; rw [Instr.checkKey, Sem.run_bind, run_underlying ht, Result.andThen_ok]; simp; done)
    | cases h
theorem fit_fields {X : Array Value} (m : Nat) : ∀ (fs : List Field) (i : Nat) (xs ys : List Value), fitF P fs i xs ys = true → X.toList.drop i = xs → ∀ f ∈ fs, f.name ≠ "_" ∧ ∀ w : World, ∃ x, (part f.type X f.offset).run P w = .ok x w ∧ ∀ e, (Instr.checkKey e (m + 1) f.type x).run P w = .ok () w
  | [], _, _, _, _, _, f, hf => by cases hf
  | g :: fs, i, [], ys, h, _, f, hf => by simp [fitF] at h
  | g :: fs, i, x :: xs, [], h, _, f, hf => by simp [fitF] at h
  | g :: fs, i, x :: xs, y :: ys, h, hx, f, hf => by
    rw [fitF] at h
    simp only [Bool.and_eq_true, bne_iff_ne, ne_eq, beq_iff_eq] at h
    obtain ⟨⟨⟨h1, h2⟩, h3⟩, h4⟩ := h
    obtain ⟨x1, x2⟩ := drop_one hx
    rcases List.mem_cons.1 hf with q | q
    · subst q
      exact ⟨h1, fun w => ⟨x, by rw [h2]; exact run_partv h3 x1, fun e => run_checkv h3 e m w⟩⟩
    · exact fit_fields m fs (i + 1) xs ys h4 x2 f q
theorem KeyOk.pair {kt : TypeId} (ht : P.underlying kt = some (.struct (P.fieldsOf kt))) (hs : P.stoodInHeld kt = false) (hf : ∀ a b c d : Int, fitF P (P.fieldsOf kt).toList 0 [.int .i64 a, .int .i64 b] [.int .i64 c, .int .i64 d] = true) : KeyOk P kt pairV := by
  have hp : ∀ (a b : Int), ∀ f ∈ (P.fieldsOf kt).toList, f.name ≠ "_" ∧ ∀ w : World, ∃ x, (part f.type #[Value.int .i64 a, .int .i64 b] f.offset).run P w = .ok x w ∧ ∀ e, (Instr.checkKey e (9998 + 1) f.type x).run P w = .ok () w := fun a b => fit_fields 9998 _ 0 _ _ (hf a b a b) rfl
  refine KeyOk.wide ht (fun w a b => ?_) (fun w e a => ?_) fun a => ?_
  · show (Op.equalIn (9998 + 1 + 1) kt _ _).run P w = _
    rw [run_equalIn_struct w (9998 + 1) kt _ _ ht hs]
    have := run_eqFields (P := P) (w := w) (d := 9998) (X := #[Value.int .i64 a.1, .int .i64 a.2]) (Y := #[Value.int .i64 b.1, .int .i64 b.2]) (P.fieldsOf kt).toList 0 _ _ (hf a.1 a.2 b.1 b.2) rfl rfl
    rw [this]
    congr 1
    rw [Bool.eq_iff_iff]
    obtain ⟨a1, a2⟩ := a; obtain ⟨b1, b2⟩ := b
    simp [eqvL, eqv]
  · have := run_fields (P := P) (m := 9999) (b := e) (cs := #[Value.int .i64 a.1, .int .i64 a.2]) (P.fieldsOf kt).toList (fun f hm => ⟨(hp a.1 a.2 f hm).1, fun w => by obtain ⟨x, x1, x2⟩ := (hp a.1 a.2 f hm).2 w; exact ⟨x, x1, x2 e⟩⟩) w
    show (Instr.checkKey e (9999 + 1) kt _).run P w = _
    rw [Instr.checkKey]
    rw [Sem.run_bind, run_underlying ht, Result.andThen_ok]
    simpa using this
  · simp [Instr.sameBits]
end
section
variable {c : Ctx} {P : Program} {F : Frm} {S : Sto} {ops : Array Oper} {d : Nat} {ty : TypeId} {pos : String} {af : Array Edge} {gd : Option (Nat × Bool)} {α β : Type} [DecidableEq α] {kf : α → Value} {vf : β → Value}
theorem AggOf.eval {σ : Sig} {τ : Nat → Value} {a : Act} {w : World} {o : Oper} {x : Operand} {ls : List Value} (hx : AggOf F x ls) (h : SatT c σ τ a w) (hA : AgreeF (o.looksAt ops) F σ) (hm : x ∈ o.op.operands) : a.eval x = .agg ls.toArray := by
  have q := hx.val h hA hm
  rcases hx with hx | hx <;> (obtain ⟨_, p2⟩ := h.opd hA hm hx; rw [p2] at q; exact Option.some.inj q)
theorem O.lookupA {x y : Operand} {t kt et : TypeId} {k : Nat} {l : List (α × β)} {b : α} {z : β} (hx : ev F x = some (.own k)) (hS : lookS k S = some (.mp (mpE kf vf l))) {ls : List Value} (hy : AggOf F y ls) (hkb : kf b = .agg ls.toArray) (ht : P.underlying t = some (.map kt et)) (hk : KeyOk P kt kf)
    (hz : (P.info? et).bind (·.zero) = some (vf z)) (hd : Nat.blt d c.n = true) (hg : Taken ops F gd) : OpOk c P ops ⟨some d, .lookup t x y false, ty, pos, af, gd⟩ F S [k] [] (some (.u (.sc (vf (mget l b z))))) [] :=
  OpOk.val hd hg fun σ τ a w hA hB h => by
    obtain ⟨p1, p2⟩ := h.opd hA xH hx
    have q1 : a.eval y = kf b := by rw [hkb]; exact hy.eval h hA xH
    obtain ⟨g, es, clk, e1, _, e2, e3⟩ := mp_at h ((hB k yE).trans hS) p1
    obtain ⟨i, hi, hz⟩ := Option.bind_eq_some_iff.1 hz
    refine ⟨vf (mget l b z), ?_, .u (.sc _)⟩
    have hf := mp_find (P := P) (w := w) hk e3 b
    have hgo := Go.MapKept.run_getObj_map (P := P) e2
    have hck := hk.check w es.isEmpty b
    simp only [execOp, e1, q1]
    unfold mget
    cases hm : mfind b l 0 with
    | none => rw [hm] at hf; simp [Instr.lookup, run_underlying ht, hgo, hck, hf, zeroValue, typeInfo, hi, hz]
    | some p => rw [hm] at hf; simp [Instr.lookup, run_underlying ht, hgo, hck, hf]
theorem O.mapUpdateA {x y v : Operand} {t kt et : TypeId} {k : Nat} {l : List (α × β)} {b : α} {u : β} (hx : ev F x = some (.own k)) (hS : lookS k S = some (.mp (mpE kf vf l))) {ls : List Value} (hy : AggOf F y ls) (hkb : kf b = .agg ls.toArray) (hv : ev F v = some (.u (.sc (vf u))))
    (ht : P.underlying t = some (.map kt et)) (hk : KeyOk P kt kf) (hg : Taken ops F gd) : OpOk c P ops ⟨none, .mapUpdate t x y v, ty, pos, af, gd⟩ F S [k] [] none [(k, some (.mp (mpE kf vf (mset l b u))))] := by
  refine OpOk.does hg fun σ τ a w hA hB h => ?_
  obtain ⟨p1, p2⟩ := h.opd hA xH hx
  have q1 : a.eval y = kf b := by rw [hkb]; exact hy.eval h hA xH
  obtain ⟨q2, _⟩ := h.sc hA xH hv
  have h0 := (hB k yE).trans hS
  obtain ⟨g, es, clk, e1, e0, e2, e3⟩ := mp_at h h0 p1
  have hf := mp_find (P := P) (w := w) hk e3 b
  have hgo := Go.MapKept.run_getObj_map (P := P) e2
  have hck := hk.check w false b
  have hso := fun o => Go.MapKept.run_setObj_map (P := P) o e2
  unfold mset
  cases hm : mfind b l 0 with
  | none =>
    rw [hm] at hf
    refine ⟨_, τ, ?_, mp_turn h h0 e0 e2 (es' := es.push { key := kf b, val := vf u, born := clk }) (clk := clk + 1) (by simp [e3, mpE])⟩
    simp only [execOp, e1, q1, q2]
    simp [Instr.mapUpdate, run_underlying ht, hgo, hck, hf, hso]
  | some p =>
    obtain ⟨i, v0⟩ := p
    rw [hm] at hf
    obtain ⟨e, r1, r2, r3⟩ := mp_key e3 (mfind_at hm).2
    rw [Nat.sub_zero] at r1
    have hst : (Instr.keyThatStays (((es[i]?).map (·.key)).getD (kf b)) (kf b)).run P w = .ok (kf b) w := by rw [r1]; simp only [Option.map_some, Option.getD_some, r2]; exact run_stays (hk.bits b)
    refine ⟨_, τ, ?_, mp_turn h h0 e0 e2 (es' := es.modify i fun e => { e with key := kf b, val := vf u }) (clk := clk) ?_⟩
    · simp only [execOp, e1, q1, q2]
      simp [Instr.mapUpdate, run_underlying ht, hgo, hck, hf, hso, hst]
    · have hmod : (es.modify i fun e => { e with key := kf b, val := vf u }) = es.modify i fun _ => { e with key := kf b, val := vf u } := by
        apply Array.ext_getElem?
        intro j
        rw [Array.getElem?_modify, Array.getElem?_modify]
        split
        · rename_i c; subst c; rw [r1]; rfl
        · rfl
      rw [hmod, set_pairs r1, e3]
      simp [mpE, List.map_set]
end
end Go.H
end
section
namespace Go.D58
open Go Go.RowKit Go.H Go.D57
structure Cp where
  id : Int
  work : Int
  lib : List UInt8
  place : Int
  pat : Int
  due : Int
  hold : Int
  rc : Bool
deriving DecidableEq, Inhabited
structure Ln where
  work : Int
  q : List Hd
deriving Inhabited
structure St where
  now : Int
  cps : List Cp
  lns : List Ln
structure Sp where
  kind : Int
  copy : Int
  work : Int
  pat : Int
  hold : Int
  cls : Int
  days : Int
  lib : List UInt8
deriving DecidableEq, Inhabited
def inB (n lo hi : Int) : Prop := lo ≤ n ∧ n ≤ hi
instance (n lo hi : Int) : Decidable (inB n lo hi) := by unfold inB; infer_instance
def idB (n : Int) : Prop := inB n 1 1000000000
instance (n : Int) : Decidable (idB n) := by unfold idB; infer_instance
def lowB (b : UInt8) : Bool := decide (97 ≤ b.toNat ∧ b.toNat ≤ 122)
def nmB (b : UInt8) : Bool := lowB b || decide (48 ≤ b.toNat ∧ b.toNat ≤ 57) || decide (b.toNat = 45)
theorem nm_y {b : UInt8} (h : lowB b = true) : nmB b = true := by unfold nmB; rw [h]; rfl
theorem dec_b {p : Prop} [Decidable p] {b : Bool} (h : p ↔ b = true) : decide p = b := by rw [Bool.eq_iff_iff, decide_eq_true_eq]; exact h
theorem nt_f {b : Bool} (h : (!b) = true) : b = false := by cases b; rfl; cases h
theorem nt_t {b : Bool} (h : (!b) = false) : b = true := by cases b; cases h; rfl
theorem nt_t2 {b : Bool} (h : ¬ (!b) = true) : b = true := by cases b; exact absurd rfl h; rfl
theorem nm_d {b : UInt8} (h1 : 48 ≤ b.toNat) (h2 : b.toNat ≤ 57) : nmB b = true := by unfold nmB; rw [decide_eq_true (show 48 ≤ b.toNat ∧ b.toNat ≤ 57 from ⟨h1, h2⟩)]; simp
theorem nm_c {b : UInt8} (h : lowB b = false) (h2 : b.toNat < 48 ∨ 57 < b.toNat) : nmB b = decide (b.toNat = 45) := by unfold nmB; rw [h, decide_eq_false (fun q : 48 ≤ b.toNat ∧ b.toNat ≤ 57 => by omega)]; rfl
theorem at_mem {α : Type} [Inhabited α] {l : List α} {i : Nat} (h : i < l.length) : l[i]! ∈ l := by rw [getElem!_pos l i h]; exact List.getElem_mem _
def nmOk (l : List UInt8) : Prop := l ≠ [] ∧ l.length ≤ 40 ∧ lowB l[0]! = true ∧ ∀ b ∈ l, nmB b = true
def cpOk (c : Cp) (now : Int) : Prop := idB c.id ∧ idB c.work ∧ nmOk c.lib ∧
  ((c.place = 1 ∧ c.pat = 0 ∧ c.due = 0 ∧ c.hold = 0 ∧ c.rc = false) ∨ (c.place = 2 ∧ idB c.pat ∧ inB c.due 1 1000000 ∧ c.hold = 0) ∨ (c.place = 3 ∧ idB c.pat ∧ idB c.hold ∧ inB c.due now 1000000 ∧ c.rc = false))
def lnOk (l : Ln) (now : Int) : Prop := idB l.work ∧ validQ l.q ∧ 0 < l.q.length ∧ ∀ h ∈ l.q, h.tim ≤ now
instance (l : List UInt8) : Decidable (nmOk l) := by unfold nmOk; infer_instance
instance (c : Cp) (now : Int) : Decidable (cpOk c now) := by unfold cpOk; infer_instance
instance (l : Ln) (now : Int) : Decidable (lnOk l now) := by unfold lnOk; infer_instance
theorem any_iff {α : Type} [Inhabited α] {p : α → Bool} {l : List α} : (∃ x ∈ l, p x = true) ↔ 0 ≤ idxF p l := by
  constructor
  · rintro ⟨x, hx, e⟩
    unfold idxF
    split
    · omega
    · rename_i h
      rw [List.findIdx?_eq_none_iff] at h
      rw [h x hx] at e; cases e
  · intro h
    unfold idxF at h
    split at h
    · rename_i i hi
      obtain ⟨h1, h2, _⟩ := List.findIdx?_eq_some_iff_getElem.1 hi
      exact ⟨l[i], List.getElem_mem _, h2⟩
    · omega
theorem nm_fin {l : List UInt8} (hne : l ≠ []) (hl : l.length ≤ 40) (h0 : lowB l[0]! = true) : decide (nmOk l) = !decide (0 ≤ idxF (fun b => !nmB b) l) := by
  rw [← decide_not]
  refine decide_eq_decide.2 ⟨fun q hc => ?_, fun q => ⟨hne, hl, h0, fun b hb => ?_⟩⟩
  · obtain ⟨b, hb, e⟩ := any_iff.2 hc
    rw [q.2.2.2 b hb] at e; cases e
  · cases e : nmB b with
    | true => rfl
    | false => exact absurd (any_iff.1 ⟨b, hb, by rw [e]; rfl⟩) q
theorem ln_fin {l : Ln} {now : Int} (h1 : idB l.work) (h2 : validQ l.q) (h3 : 0 < l.q.length) : decide (idB l.work ∧ validQ l.q ∧ 0 < l.q.length ∧ ∀ h ∈ l.q, h.tim ≤ now) = !decide (0 ≤ idxF (fun h => decide (h.tim > now)) l.q) := by
  rw [← decide_not]
  refine decide_eq_decide.2 ⟨fun q hc => ?_, fun q => ⟨h1, h2, h3, fun b hb => ?_⟩⟩
  · obtain ⟨b, hb, e⟩ := any_iff.2 hc
    have := q.2.2.2 b hb
    have := of_decide_eq_true e
    omega
  · exact Int.not_lt.1 fun e => q (any_iff.1 ⟨b, hb, decide_eq_true e⟩)
def cntP (cs : List Cp) (work p : Int) : Nat := (cs.filter fun c => decide (c.work = work ∧ c.place = p)).length
theorem cnt_s {cs : List Cp} {w p : Int} {k : Nat} (h : k < cs.length) : cntP (cs.take (k + 1)) w p = cntP (cs.take k) w p + if cs[k]!.work = w ∧ cs[k]!.place = p then 1 else 0 := by
  unfold cntP
  rw [List.take_add_one, List.getElem?_eq_getElem h, Option.toList, List.filter_append, List.length_append, getElem!_pos cs k h, List.filter_cons]
  by_cases e : cs[k].work = w ∧ cs[k].place = p
  · rw [if_pos (decide_eq_true e), if_pos e]; rfl
  · rw [if_neg wU, if_neg e]; rfl
theorem cnt_y {cs : List Cp} {w p : Int} {k : Nat} (h : k < cs.length) (e : cs[k]!.work = w ∧ cs[k]!.place = p) : cntP (cs.take (k + 1)) w p = cntP (cs.take k) w p + 1 := by rw [cnt_s h, if_pos e]
theorem cnt_n {cs : List Cp} {w p : Int} {k : Nat} (h : k < cs.length) (e : ¬ (cs[k]!.work = w ∧ cs[k]!.place = p)) : cntP (cs.take (k + 1)) w p = cntP (cs.take k) w p := by rw [cnt_s h, if_neg e]; rfl
theorem cnt_le (cs : List Cp) (w p : Int) (k : Nat) : cntP (cs.take k) w p ≤ k := by
  unfold cntP
  have := List.length_filter_le (fun c : Cp => decide (c.work = w ∧ c.place = p)) (cs.take k)
  rw [List.length_take] at this; omega
theorem cnt_len (cs : List Cp) (w p : Int) : cntP cs w p ≤ cs.length := List.length_filter_le _ _
theorem filt_y {α : Type} [Inhabited α] {p : α → Bool} {l : List α} {k : Nat} (h : k < l.length) (e : p l[k]! = true) : (l.take (k + 1)).filter p = (l.take k).filter p ++ [l[k]!] := by
  rw [List.take_add_one, List.getElem?_eq_getElem h, Option.toList, List.filter_append, getElem!_pos l k h, List.filter_cons, if_pos (by rwa [getElem!_pos l k h] at e)]; rfl
theorem filt_n {α : Type} [Inhabited α] {p : α → Bool} {l : List α} {k : Nat} (h : k < l.length) (e : ¬ p l[k]! = true) : (l.take (k + 1)).filter p = (l.take k).filter p := by
  rw [List.take_add_one, List.getElem?_eq_getElem h, Option.toList, List.filter_append, List.filter_cons, if_neg (by rwa [getElem!_pos l k h] at e)]; simp
def idsF (pr : Cp → Bool) (cs : List Cp) : List Int := (cs.filter pr).map (·.id)
theorem ids_y {pr : Cp → Bool} {cs : List Cp} {k : Nat} (h : k < cs.length) (e : pr cs[k]! = true) : idsF pr (cs.take (k + 1)) = idsF pr (cs.take k) ++ [cs[k]!.id] := by unfold idsF; rw [filt_y h e, List.map_append]; rfl
theorem ids_n {pr : Cp → Bool} {cs : List Cp} {k : Nat} (h : k < cs.length) (e : ¬ pr cs[k]! = true) : idsF pr (cs.take (k + 1)) = idsF pr (cs.take k) := by unfold idsF; rw [filt_n h e]
theorem ids_n2 {pr : Cp → Bool} {cs : List Cp} {k : Nat} (h : k < cs.length) (e : pr cs[k]! = false) : idsF pr (cs.take (k + 1)) = idsF pr (cs.take k) := ids_n h (by rw [e]; decide)
theorem ids_le (pr : Cp → Bool) (cs : List Cp) (k : Nat) : (idsF pr (cs.take k)).length ≤ k := by
  unfold idsF
  rw [List.length_map]
  have := List.length_filter_le pr (cs.take k)
  rw [List.length_take] at this; omega
def finD (s : St) (i : Int) : Cp := if 0 ≤ idxF (fun c : Cp => decide (c.id = i)) s.cps then s.cps[(idxF (fun c : Cp => decide (c.id = i)) s.cps).toNat]! else ⟨0, 0, [], 0, 0, 0, 0, false⟩
theorem finD_y {s : St} {i : Int} (h : 0 ≤ idxF (fun c : Cp => decide (c.id = i)) s.cps) : finD s i = s.cps[(idxF (fun c : Cp => decide (c.id = i)) s.cps).toNat]! := if_pos h
theorem finD_no {s : St} {i : Int} (h : ¬ 0 ≤ idxF (fun c : Cp => decide (c.id = i)) s.cps) : finD s i = ⟨0, 0, [], 0, 0, 0, 0, false⟩ := if_neg h
def queS (s : St) (i : Int) : List Hd := if 0 ≤ idxF (fun l : Ln => decide (l.work = i)) s.lns then s.lns[(idxF (fun l : Ln => decide (l.work = i)) s.lns).toNat]!.q else []
theorem queS_y {s : St} {i : Int} (h : 0 ≤ idxF (fun l : Ln => decide (l.work = i)) s.lns) : queS s i = s.lns[(idxF (fun l : Ln => decide (l.work = i)) s.lns).toNat]!.q := if_pos h
theorem queS_no {s : St} {i : Int} (h : ¬ 0 ≤ idxF (fun l : Ln => decide (l.work = i)) s.lns) : queS s i = [] := if_neg h
theorem idxF_lt {α : Type} [Inhabited α] {p : α → Bool} {l : List α} (h : 0 ≤ idxF p l) : (idxF p l).toNat < l.length ∧ p l[(idxF p l).toNat]! = true := by
  unfold idxF at h ⊢
  split at h
  · rename_i i hi
    obtain ⟨h1, h2, _⟩ := List.findIdx?_eq_some_iff_getElem.1 hi
    show ((i : Int)).toNat < _ ∧ _
    rw [Int.toNat_natCast]
    exact ⟨h1, by show p l[((i : Int)).toNat]! = true; rw [Int.toNat_natCast, getElem!_pos l i h1]; exact h2⟩
  · omega
structure Tk where
  has : List ((Int × Int) × Bool)
  hol : List (Int × Bool)
def tkF (t : Tk) (p w h : Int) : Option Tk := if mget t.has (p, w) false = true ∨ (h ≠ 0 ∧ mget t.hol h false = true) then none else some ⟨mset t.has (p, w) true, if h ≠ 0 then mset t.hol h true else t.hol⟩
def tkN (t : Tk) (p w h : Int) : Tk := (tkF t p w h).getD t
theorem tk_no {t : Tk} {p w h : Int} (e : mget t.has (p, w) false = true ∨ (h ≠ 0 ∧ mget t.hol h false = true)) : tkF t p w h = none ∧ tkN t p w h = t := by
  have : tkF t p w h = none := if_pos e
  exact ⟨this, by unfold tkN; rw [this]; rfl⟩
theorem tk_y {t : Tk} {p w h : Int} (e : ¬ (mget t.has (p, w) false = true ∨ (h ≠ 0 ∧ mget t.hol h false = true))) : tkF t p w h = some (tkN t p w h) ∧ (tkN t p w h).has = mset t.has (p, w) true ∧ (h ≠ 0 → (tkN t p w h).hol = mset t.hol h true) ∧ (¬ h ≠ 0 → (tkN t p w h).hol = t.hol) := by
  have q : tkF t p w h = some ⟨mset t.has (p, w) true, if h ≠ 0 then mset t.hol h true else t.hol⟩ := if_neg e
  have z : tkN t p w h = ⟨mset t.has (p, w) true, if h ≠ 0 then mset t.hol h true else t.hol⟩ := by unfold tkN; rw [q]; rfl
  rw [z]
  exact ⟨q, rfl, fun h0 => if_pos h0, fun h0 => if_neg h0⟩
abbrev ApS := Tk × List (Int × Int)
def apM (m : List (Int × Int)) (p : Int) : List (Int × Int) := mset m p (mget m p 0 + 1)
def apC (x : ApS) (c : Cp) : Option ApS := if c.place = 1 then some x else if (tkF x.1 c.pat c.work c.hold).isSome then (if c.place = 2 then (if mget (apM x.2 c.pat) c.pat 0 > 5 then none else some (tkN x.1 c.pat c.work c.hold, apM x.2 c.pat)) else some (tkN x.1 c.pat c.work c.hold, x.2)) else none
def apCs : List Cp → ApS → Option ApS
  | [], x => some x
  | c :: cs, x => (apC x c).bind (apCs cs)
def apQ (w : Int) : List Hd → Tk → Option Tk
  | [], t => some t
  | h :: q, t => if (tkF t h.pat w h.id).isSome then apQ w q (tkN t h.pat w h.id) else none
def apLs : List Ln → Tk → Option Tk
  | [], t => some t
  | l :: ls, t => (apQ l.work l.q t).bind (apLs ls)
def apartB (s : St) : Bool := ((apCs s.cps (⟨[], []⟩, [])).bind fun x => apLs s.lns x.1).isSome
theorem drop_at {α : Type} [Inhabited α] {a : List α} {k : Nat} (h : k < a.length) : a.drop k = a[k]! :: a.drop (k + 1) := by rw [List.drop_eq_getElem_cons h, getElem!_pos a k h]
section
variable {cs : List Cp} {k : Nat} {t : Tk} {m : List (Int × Int)}
theorem apC_1 (h : k < cs.length) (e : cs[k]!.place = 1) : apCs (cs.drop k) (t, m) = apCs (cs.drop (k + 1)) (t, m) := by
  rw [drop_at h, apCs, apC, if_pos e]; rfl
theorem apC_t (h : k < cs.length) (e : ¬ cs[k]!.place = 1) (e2 : (tkF t cs[k]!.pat cs[k]!.work cs[k]!.hold).isSome = false) : apCs (cs.drop k) (t, m) = none := by
  rw [drop_at h, apCs, apC, if_neg e, if_neg (by rw [e2]; decide)]; rfl
theorem apC_5 (h : k < cs.length) (e : cs[k]!.place = 2) (e2 : (tkF t cs[k]!.pat cs[k]!.work cs[k]!.hold).isSome = true) (e3 : mget (apM m cs[k]!.pat) cs[k]!.pat 0 > 5) : apCs (cs.drop k) (t, m) = none := by
  rw [drop_at h, apCs, apC, if_neg xA, if_pos e2, if_pos e, if_pos e3]; rfl
theorem apC_2 (h : k < cs.length) (e : cs[k]!.place = 2) (e2 : (tkF t cs[k]!.pat cs[k]!.work cs[k]!.hold).isSome = true) (e3 : ¬ mget (apM m cs[k]!.pat) cs[k]!.pat 0 > 5) : apCs (cs.drop k) (t, m) = apCs (cs.drop (k + 1)) (tkN t cs[k]!.pat cs[k]!.work cs[k]!.hold, apM m cs[k]!.pat) := by
  rw [drop_at h, apCs, apC, if_neg xA, if_pos e2, if_pos e, if_neg e3]; rfl
theorem apC_3 (h : k < cs.length) (e : ¬ cs[k]!.place = 1) (e1 : ¬ cs[k]!.place = 2) (e2 : (tkF t cs[k]!.pat cs[k]!.work cs[k]!.hold).isSome = true) : apCs (cs.drop k) (t, m) = apCs (cs.drop (k + 1)) (tkN t cs[k]!.pat cs[k]!.work cs[k]!.hold, m) := by
  rw [drop_at h, apCs, apC, if_neg e, if_pos e2, if_neg e1]; rfl
theorem apLs_at {ls : List Ln} {i : Nat} (h : i < ls.length) : apLs (ls.drop i) t = (apQ ls[i]!.work ls[i]!.q t).bind (apLs (ls.drop (i + 1))) := by rw [drop_at h, apLs]
theorem apQ_y {w : Int} {q : List Hd} {j : Nat} (h : j < q.length) (e : (tkF t q[j]!.pat w q[j]!.id).isSome = true) : apQ w (q.drop j) t = apQ w (q.drop (j + 1)) (tkN t q[j]!.pat w q[j]!.id) := by rw [drop_at h, apQ, if_pos e]
theorem apQ_n {w : Int} {q : List Hd} {j : Nat} (h : j < q.length) (e : (tkF t q[j]!.pat w q[j]!.id).isSome = false) : apQ w (q.drop j) t = none := by rw [drop_at h, apQ, if_neg (by rw [e]; decide)]
theorem apM_b {p : Int} (hm : ∀ a, 0 ≤ mget m a 0 ∧ mget m a 0 ≤ 5) (h : ¬ mget (apM m p) p 0 > 5) : ∀ a, 0 ≤ mget (apM m p) a 0 ∧ mget (apM m p) a 0 ≤ 5 := fun a => by
  unfold apM at h ⊢
  rw [mget_mset, if_pos rfl] at h
  rw [mget_mset]
  split
  · have := hm p; omega
  · exact hm a
theorem apM_get {p : Int} : mget (apM m p) p 0 = mget m p 0 + 1 := by unfold apM; rw [mget_mset, if_pos rfl]
end
def vCp (s : St) (k : Nat) : Prop := cpOk s.cps[k]! s.now ∧ (0 < k → s.cps[k - 1]!.id < s.cps[k]!.id)
def vLn (s : St) (i : Nat) : Prop := lnOk s.lns[i]! s.now ∧ (0 < i → s.lns[i - 1]!.work < s.lns[i]!.work) ∧ cntP s.cps s.lns[i]!.work 1 = 0 ∧ ¬ cntP s.cps s.lns[i]!.work 2 + cntP s.cps s.lns[i]!.work 3 = 0
instance (s : St) (k : Nat) : Decidable (vCp s k) := by unfold vCp; infer_instance
instance (s : St) (k : Nat) : Decidable (vLn s k) := by unfold vLn; infer_instance
def validS (s : St) : Prop := inB s.now 0 1000000 ∧ s.cps.length ≤ 60 ∧ s.lns.length ≤ 60 ∧ (∀ k, k < s.cps.length → vCp s k) ∧ (∀ i, i < s.lns.length → vLn s i) ∧ apartB s = true
instance (s : St) : Decidable (validS s) := by unfold validS; infer_instance
theorem upto_s {p : Nat → Prop} {k : Nat} (h : ∀ j, j < k → p j) (hk : p k) : ∀ j, j < k + 1 → p j := fun j hj => by
  rcases Nat.lt_succ_iff_lt_or_eq.1 hj with q | q
  · exact h j q
  · rw [q]; exact hk
def fldS (x : Sp) : Sp :=
  if x.kind = 1 then ⟨x.kind, x.copy, x.work, 0, 0, 0, 0, x.lib⟩ else
  if x.kind = 2 ∨ x.kind = 4 ∨ x.kind = 5 then ⟨x.kind, x.copy, 0, 0, 0, 0, 0, []⟩ else
  if x.kind = 3 then ⟨x.kind, x.copy, 0, x.pat, 0, 0, 0, []⟩ else
  if x.kind = 6 then ⟨x.kind, 0, x.work, x.pat, x.hold, x.cls, 0, []⟩ else
  if x.kind = 7 then ⟨x.kind, 0, 0, 0, x.hold, 0, 0, []⟩ else
  if x.kind = 8 then ⟨x.kind, 0, 0, 0, 0, 0, x.days, []⟩ else ⟨x.kind, 0, 0, 0, 0, 0, 0, []⟩
section
variable {x : Sp}
theorem fld_1 (h : x.kind = 1) : fldS x = ⟨x.kind, x.copy, x.work, 0, 0, 0, 0, x.lib⟩ := if_pos h
theorem fld_c (h : x.kind = 2 ∨ x.kind = 4 ∨ x.kind = 5) : fldS x = ⟨x.kind, x.copy, 0, 0, 0, 0, 0, []⟩ := by unfold fldS; rw [if_neg xA, if_pos h]
theorem fld_3 (h : x.kind = 3) : fldS x = ⟨x.kind, x.copy, 0, x.pat, 0, 0, 0, []⟩ := by unfold fldS; rw [if_neg xA, if_neg xA, if_pos h]
theorem fld_6 (h : x.kind = 6) : fldS x = ⟨x.kind, 0, x.work, x.pat, x.hold, x.cls, 0, []⟩ := by unfold fldS; rw [if_neg xA, if_neg xA, if_neg xA, if_pos h]
theorem fld_7 (h : x.kind = 7) : fldS x = ⟨x.kind, 0, 0, 0, x.hold, 0, 0, []⟩ := by unfold fldS; rw [if_neg xA, if_neg xA, if_neg xA, if_neg xA, if_pos h]
theorem fld_8 (h : x.kind = 8) : fldS x = ⟨x.kind, 0, 0, 0, 0, 0, x.days, []⟩ := by unfold fldS; rw [if_neg xA, if_neg xA, if_neg xA, if_neg xA, if_neg xA, if_pos h]
theorem fld_no (h : ¬ (1 ≤ x.kind ∧ x.kind ≤ 8)) : fldS x = ⟨x.kind, 0, 0, 0, 0, 0, 0, []⟩ := by unfold fldS; rw [if_neg xA, if_neg xA, if_neg xA, if_neg xA, if_neg xA, if_neg xA]
end
def wtC (c : Cp) (h : Hd) (now : Int) : Cp := { c with place := 3, pat := h.pat, hold := h.id, due := if now + 7 ≤ 1000000 then now + 7 else 1000000, rc := false }
end Go.D58
end
section
namespace Go.H
open Go Go.RowKit
open Go.G (bs Ext Gr)
section
variable {c : Ctx} {P : Program} {F : Frm} {S : Sto} {ops : Array Oper} {d : Nat} {ty : TypeId} {pos : String} {af : Array Edge} {gd : Option (Nat × Bool)}
theorem O.s2b {x : Operand} {s t e : TypeId} {l : List UInt8} (hx : ev F x = some (vT l)) (hne : l ≠ []) (hlen : l.length ≤ 9223372036854775807) (hs : P.underlying s = some .string) (ht : P.underlying t = some (.slice e)) (he : P.underlying e = some (.int .u8)) (hd : Nat.blt d c.n = true) (hg : Taken ops F gd) :
    OpOk c P ops ⟨some d, .convert s t x, ty, pos, af, gd⟩ F S [] [] (some (.u (.sl 1 (l.map eB)))) [] := by
  refine OpOk.mem hd hg fun σ τ a w hA hB hN h => ?_
  obtain ⟨_, p2⟩ := h.sc hA xH hx
  have hbl : (bs l).data.toList = l := by simp
  have hbs : (bs l).size ≤ 9223372036854775807 := by
    have : (bs l).size = (bs l).data.toList.length := by rw [Array.length_toList]; rfl
    rw [this, hbl]; exact hlen
  obtain ⟨v, w', r1, r2, r3, r4⟩ := run_value (o := ⟨some d, .convert s t x, ty, pos, af, gd⟩) (G.M.s2b (P := P) (ty := ty) p2 hs ht he hbs) rfl rfl rfl
  rw [hbl] at r4
  have := h.chg (N := []) (τ' := τ) (δ := []) (w' := w') (B := fun _ => False) (fun q hq => by cases hq) (Gr.of_ext r2)
    (fun b hb => hb.elim) (fun _ _ => rfl) (fun q s hq => by simp [look] at hq) (fun q q' s s' b hq => by simp [look] at hq) (fun _ q s hq => by simp [look] at hq)
  refine ⟨_, w', τ, r1, this.1, .u (u8_sl r4 hne fun b h1 h2 => ⟨.inr (.inr (Nat.le_trans h.gr.size h1)), fun j sb hj hv => ?_⟩)⟩
  rcases upd_sto hj with hj | ⟨_, hj⟩
  · simp [look] at hj
  · have := vblk_lt (h.sto j sb hj) hv
    omega
end
end Go.H
end
section
namespace Go.Proofs.YtmekkjehkcjpdaaGreat
open Go Go.RowKit Go.H Go.D57 Go.D58

theorem hinf5 : ∃ i, Tryz.prog.info? 5 = some i ∧ i.zero = some (.int .u8 0) ∧ i.size = 1 ∧ i.bytes = 1 := G.info_of xG

abbrev eCp (c : Cp) : List UV := [uI c.id, uI c.work, uT c.lib, uI c.place, uI c.pat, uI c.due, uI c.hold, uB c.rc]
abbrev eLn (l : Ln) : List UV := [uI l.work, .sl 5 (l.q.map eH)]
abbrev eSp (x : Sp) : List UV := [uI x.kind, uI x.copy, uI x.work, uI x.pat, uI x.hold, uI x.cls, uI x.days, uT x.lib]
abbrev vSt (s : St) : IV := vA [uI s.now, .sl 8 (s.cps.map eCp), .sl 2 (s.lns.map eLn)]

set_option maxRecDepth 8000 in
theorem in_h {n lo hi : Int} :
    Con Tryz.prog 24 [vI n, vI lo, vI hi] [] (vB (decide (inB n lo hi))) [] := by
 refine Con.en 15 Tryz.func24 fun τ w ok vs hin => ?_
 clear hin
 refine W.rg (SL.a (E.fo (W.rg (SL.o (SL.o ?_)))))
 refine SL.v (O.geq) ?_
 refine SL.o ?_
 refine SL.cs 3 true (fun hg1 => ?_) fun hg1 => ?_
 ·have hg1p := gP hg1
  refine SL.v (O.mo (tY hg1)) ?_
  refine SL.v (O.mo (tY hg1)) ?_
  refine SL.v (O.leq (tY hg1)) ?_
  refine SL.v (O.pt hg1) ?_
  refine SL.a (E.fo (W.ret ?_))
  refine E.h1 [] ?_
  ·unfold inB; first | exact iv_bool (dec_iff xA) | exact iv_bool (dec_t xA) | exact iv_bool (dec_f xA)
 have hg1p := gP hg1
 refine SL.k hg1 (SL.k hg1 (SL.k hg1 ?_))
 refine SL.v (O.pf (G.ne_t hg1)) ?_
 refine SL.a (E.fo (W.ret ?_))
 refine E.h1 [] ?_
 ·unfold inB; first | exact iv_bool (dec_iff xA) | exact iv_bool (dec_t xA) | exact iv_bool (dec_f xA)

set_option maxRecDepth 8000 in
theorem id_h {n : Int} :
    Con Tryz.prog 62 [vI n] [] (vB (decide (idB n))) [] := by
 refine Con.en 5 Tryz.func62 fun τ w ok vs hin => ?_
 clear hin
 refine W.rg (SL.a (E.fo (W.rg (SL.o ?_))))
 refine SL.v (O.cp (q := in_h (n := n) (lo := 1) (hi := 1000000000))) ?_
 refine SL.a (E.fo (W.ret ?_))
 refine E.h1 [] ?_
 ·rfl

set_option maxRecDepth 8000 in
theorem name1_h {b : UInt8} :
    Con Tryz.prog 98 [.u (.sc (.int .u8 (b.toNat : Int)))] [] (vB (lowB b)) [] := by
 refine Con.en 9 Tryz.func98 fun τ w ok vs hin => ?_
 clear hin
 refine W.rg (SL.a (E.fo (W.rg (SL.o ?_))))
 refine SL.v (O.geq) ?_
 refine SL.o ?_
 refine SL.cs 2 true (fun hg1 => ?_) fun hg1 => ?_
 ·have hg1p := gP hg1
  refine SL.v (O.mo (tY hg1)) ?_
  refine SL.v (O.leq (tY hg1)) ?_
  refine SL.v (O.pt hg1) ?_
  refine SL.a (E.fo (W.ret ?_))
  refine E.h1 [] ?_
  ·unfold lowB; first | exact iv_bool (dec_iff xA) | exact iv_bool (dec_t xA) | exact iv_bool (dec_f xA)
 have hg1p := gP hg1
 refine SL.k hg1 (SL.k hg1 ?_)
 refine SL.v (O.pf (G.ne_t hg1)) ?_
 refine SL.a (E.fo (W.ret ?_))
 refine E.h1 [] ?_
 ·unfold lowB; first | exact iv_bool (dec_iff xA) | exact iv_bool (dec_t xA) | exact iv_bool (dec_f xA)

set_option maxRecDepth 8000 in
theorem name2_h {b : UInt8} :
    Con Tryz.prog 99 [.u (.sc (.int .u8 (b.toNat : Int))), .u (.ptr [.sc (.func (.func 98) #[] #[])])] [] (vB (!nmB b)) [] := by
 refine Con.en 20 Tryz.func99 fun τ w ok vs hin => ?_
 clear hin
 refine W.rg (SL.a (E.fo (W.rg ?_)))
 refine SL.v (O.l1f u137) ?_
 refine SL.o ?_
 refine SL.v (O.cp (q := name1_h (b := b))) ?_
 refine SL.v (O.nt) ?_
 refine SL.o ?_
 refine SL.cs 4 true (fun hg1 => ?_) fun hg1 => ?_
 ·have hg1p := gP hg1
  refine SL.v (O.mo (tY hg1)) ?_
  refine SL.v (O.lss (tY hg1)) ?_
  refine SL.v (O.mo (tY hg1)) ?_
  refine SL.cs 7 false (fun hg2 => ?_) fun hg2 => ?_
  ·have hg2p := gP hg2
   refine SL.v (O.mo (tY hg2)) ?_
   refine SL.v (O.gtr (tY hg2)) ?_
   refine SL.v (O.pf hg2 (tY hg1)) ?_
   refine SL.v (O.pt hg1) ?_
   refine SL.o ?_
   refine SL.cs 12 true (fun hg3 => ?_) fun hg3 => ?_
   ·have hg3p := gP hg3
    refine SL.v (O.mo (tY hg3)) ?_
    refine SL.v (O.neq (tY hg3)) ?_
    refine SL.v (O.pt hg3) ?_
    refine SL.a (E.fo (W.ret ?_))
    refine E.h1 [] ?_
    ·exact yF
   have hg3p := gP hg3
   refine SL.k hg3 (SL.k hg3 ?_)
   refine SL.v (O.pf (G.ne_t hg3)) ?_
   refine SL.a (E.fo (W.ret ?_))
   refine E.h1 [] ?_
   ·exact yF
  have hg2p := gP hg2
  refine SL.k hg2 (SL.k hg2 ?_)
  refine SL.v (O.pt (G.ne_f hg2) (tY hg1)) ?_
  refine SL.v (O.pt hg1) ?_
  refine SL.o ?_
  have hg4 : true = true := by decide
  refine SL.v (O.mo (tY hg4)) ?_
  refine SL.v (O.neq (tY hg4)) ?_
  refine SL.v (O.pt rfl) ?_
  refine SL.a (E.fo (W.ret ?_))
  refine E.h1 [] ?_
  ·exact yF
 have hg1p := gP hg1
 refine SL.k hg1 (SL.k hg1 (SL.k hg1 ?_))
 refine SL.s2 ?_
 refine SL.s2 ?_
 refine SL.k hg1 ?_
 refine SL.v (O.pf (G.ne_t hg1)) ?_
 refine SL.o ?_
 have hg5 := G.nft
 refine SL.k hg5 (SL.k hg5 ?_)
 refine SL.v (O.pf rfl) ?_
 refine SL.a (E.fo (W.ret ?_))
 refine E.h1 [] ?_
 ·exact yF

set_option maxRecDepth 8000 in
theorem indexFuncBy {f : Nat} {caps : List UV} {pr : UInt8 → Bool} {q : List UInt8} (hok : G.callOk Tryz.prog f = true) (hpr : ∀ x ∈ q, Con Tryz.prog f ([.u (.sc (.int .u8 (x.toNat : Int)))] ++ caps.map .u) [] (vB (pr x)) []) :
    Con Tryz.prog 126 [vL 1 (q.map eB), .u (.clo (.func f) [] caps)] [] (vI (idxF pr q)) [] := by
 obtain ⟨i5, hi5, hz5, hs5, hb5⟩ := hinf5
 refine Con.en 19 Tryz.func126 fun τ w ok vs hin => ?_
 have hl0 := hin.len (i := 0) rfl
 try rw [List.length_map] at hl0
 clear hin
 refine W.rg (SL.a (E.fo (W.seq (W.rg (SL.o ?_)))))
 refine SL.v (O.le u139) ?_
 refine SL.o (E.fo (W.block ?_))
 refine W.lq (fun (k : Nat) => [(8, vI (k : Int))]) (fun (k : Nat) => []) (fun (k : Nat) => k ≤ q.length ∧ ∀ j, j < k → (pr) q[j]! = false) (fun (k : Nat) => q.length - k) (0) [] [(0, _), (1, _), (7, _)] [] ?_ ?_
 ·exact yG
 intro k hinv
 obtain ⟨hk, hp⟩ := hinv
 refine W.rg ?_
 refine SL.v (O.lss) ?_
 refine E.fo (W.seq ?_)
 refine W.cc rfl (fun hc1 => ?_) fun hc1 => ?_
 ·refine W.skip (E.to (W.seq (W.block (W.rg (SL.o (SL.a (E.fo (W.rg (SL.o (SL.o (SL.o ?_)))))))))))
  refine SL.v (O.ix u139 hi5 hs5) ?_
  refine SL.v (O.l1f u5) ?_
  refine SL.v (O.cp (q := hpr q[k]! (at_mem xA)) (o := hok)) ?_
  refine E.fo ?_
  refine W.cc rfl (fun hc2 => ?_) fun hc2 => ?_
  ·refine W.rg (SL.o (SL.a (E.fo (W.ret ?_))))
   refine E.inr ?_
   refine E.thr (E.thr ?_)
   refine E.inr ?_
   refine E.thr ?_
   refine E.h1 [] ?_
   ·exact iv_int (idxF_here xA hp xK)
  refine W.skip (E.inn (E.to (W.region ?_)))
  refine SL.v (O.ad) ?_
  refine SL.o (SL.nil ?_)
  refine E.ai (k + 1) [] ?_
  ·try dsimp only
   exact zD
 refine W.exit (E.th (E.th (E.hit (E.to (W.rg (SL.a (E.fo (W.ret ?_))))))))
 refine E.h1 [] ?_
 ·exact iv_int (idxF_none xA hp)

set_option maxRecDepth 8000 in
theorem containsFuncBy {f : Nat} {caps : List UV} {pr : UInt8 → Bool} {q : List UInt8} (hok : G.callOk Tryz.prog f = true) (hpr : ∀ x ∈ q, Con Tryz.prog f ([.u (.sc (.int .u8 (x.toNat : Int)))] ++ caps.map .u) [] (vB (pr x)) []) :
    Con Tryz.prog 100 [vL 1 (q.map eB), .u (.clo (.func f) [] caps)] [] (vB (decide (0 ≤ idxF pr q))) [] := by
 refine Con.en 9 Tryz.func100 fun τ w ok vs hin => ?_
 have hl0 := hin.len (i := 0) rfl
 try rw [List.length_map] at hl0
 clear hin
 refine W.rg (SL.a (E.fo (W.rg (SL.o (SL.o ?_)))))
 refine SL.v (O.cp (q := indexFuncBy hok hpr)) ?_
 refine SL.v (O.geq) ?_
 refine SL.a (E.fo (W.ret ?_))
 refine E.h1 [] ?_
 ·rfl

end Go.Proofs.YtmekkjehkcjpdaaGreat
end
section
namespace Go.Proofs.YtmekkjehkcjpdaaGreat
open Go Go.RowKit Go.H Go.D57 Go.D58

theorem hinf55 : ∃ i, Tryz.prog.info? 55 = some i ∧ i.zero = some (.agg #[.int .i64 0, .int .i64 0, .string ByteArray.empty, .int .i64 0, .int .i64 0, .int .i64 0, .int .i64 0, .bool false]) ∧ i.size = 8 ∧ i.bytes = 72 := G.info_of xG
theorem hinf79 : ∃ i, Tryz.prog.info? 79 = some i ∧ i.zero = some (.agg #[.int .i64 0, .slice none 0 0]) ∧ i.size = 2 ∧ i.bytes = 32 := G.info_of xG
theorem hcallOk96 : G.callOk Tryz.prog 96 = true := by kernel_rfl
theorem hcallOk99 : G.callOk Tryz.prog 99 = true := by kernel_rfl

set_option maxRecDepth 8000 in
theorem name_h {l : List UInt8} :
    Con Tryz.prog 63 [vT l] [] (vB (decide (nmOk l))) [] := by
 refine Con.en 26 Tryz.func63 fun τ w ok vs hin => ?_
 clear hin
 refine W.rg (SL.a (E.fo (W.rg ?_)))
 refine SL.al2 101 ?_
 refine SL.st1_1 101 ?_
 refine E.fo (W.rg ?_)
 refine SL.v (O.makeFunc rfl rfl rfl Taken.no) ?_
 refine SL.a (E.fo (W.seq ?_))
 refine W.dr [pO, pO, pO, pO, pO, pO, pO, pO, pX 101, pO, pO, pO, pO, pO, pO, pO, pW 101, pX 101, pO, pO, pO] ?_
 refine WH.o rfl ?_
 refine WH.v (O.det (fun _ => G.R.strneL (b := []) rfl rfl) rfl Taken.no) ?_
 refine WH.o rfl ?_
 refine WH.cs 2 true (fun hg1 => ?_) fun hg1 => ?_
 ·have hg1p := gP hg1
  have hne : l ≠ [] := by first | assumption | simp_all
  have hlp : 0 < l.length := List.length_pos_iff.2 hne
  refine WH.v (O.mo (tY hg1)) ?_
  refine WH.v (O.det (fun _ => G.R.lenL rfl u9) rfl (Taken.yes rfl rfl hg1)) ?_
  refine WH.v (O.leq (tY hg1)) ?_
  refine WH.v (O.pt hg1) ?_
  refine WH.o rfl ?_
  refine WH.cs 7 true (fun hg2 => ?_) fun hg2 => ?_
  ·have hg2p := gP hg2
   refine WH.v (O.l1 u137 (tY hg2)) ?_
   refine WH.v (O.mo (tY hg2)) ?_
   refine WH.v (O.det (fun _ => G.R.stridxL (i := 0) rfl rfl u9 (by exact hlp)) rfl (Taken.yes rfl rfl hg2)) ?_
   refine WH.v (O.cp (q := name1_h (b := l[0]!)) (hg := (tY hg2))) ?_
   refine WH.v (O.pt hg2) ?_
   refine WH.o rfl ?_
   refine WH.cs 13 true (fun hg3 => ?_) fun hg3 => ?_
   ·have hg3p := gP hg3
    refine WH.v (O.mo (tY hg3)) ?_
    refine WH.memS (O.s2b (l := l) rfl (by exact hne) xA u9 u139 u5 rfl (Taken.yes rfl rfl hg3)) rfl rfl rfl rfl rfl (S' := _) rfl ?_
    refine WH.v (O.mo (tY hg3)) ?_
    refine WH.cl [] [101] (.u _) _ (q := containsFuncBy (q := l) (f := 99) (caps := [.ptr [.sc (.func (.func 98) #[] #[])]]) (pr := fun b => !nmB b) hcallOk99 (fun x hx => name2_h (b := x)))  (fl := .inr ⟨rfl, fun x hx => by simp at hx⟩) (hg := tY hg3) (h := ?_)
    refine WH.v (O.nt (tY hg3)) ?_
    refine WH.v (O.pt hg3) ?_
    refine WH.v (O.as1) ?_
    refine WH.nil (E.to ?_)
    refine W.pk [(2,_)] [(101,_)] ?_
    refine W.ret ?_
    refine E.h1 [] ?_
    ·exact yJ
   have hg3p := gP hg3
   refine WH.k hg3 (WH.k hg3 (WH.k hg3 (WH.k hg3 (WH.k hg3 ?_))))
   refine WH.v (O.pf (G.ne_t hg3)) ?_
   refine WH.v (O.as1) ?_
   refine WH.nil (E.to ?_)
   refine W.pk [(2,_)] [(101,_)] ?_
   refine W.ret ?_
   refine E.h1 [] ?_
   ·exact yJ
  have hg2p := gP hg2
  refine WH.k hg2 (WH.k hg2 (WH.k hg2 (WH.k hg2 ?_)))
  refine WH.v (O.pf (G.ne_t hg2)) ?_
  refine WH.o rfl ?_
  have hg4 := G.nft
  refine WH.k hg4 (WH.k hg4 (WH.k hg4 (WH.k hg4 (WH.k hg4 ?_))))
  refine WH.v (O.pf rfl) ?_
  refine WH.v (O.as1) ?_
  refine WH.nil (E.to ?_)
  refine W.pk [(2,_)] [(101,_)] ?_
  refine W.ret ?_
  refine E.h1 [] ?_
  ·exact yJ
 have hg1p := gP hg1
 have hne : ¬ l ≠ [] := by first | assumption | simp_all
 refine WH.k hg1 (WH.k hg1 (WH.k hg1 ?_))
 refine WH.v (O.pf (G.ne_t hg1)) ?_
 refine WH.o rfl ?_
 have hg5 := G.nft
 refine WH.k hg5 (WH.k hg5 (WH.k hg5 (WH.k hg5 ?_)))
 refine WH.v (O.pf rfl) ?_
 refine WH.o rfl ?_
 have hg6 := G.nft
 refine WH.k hg6 (WH.k hg6 (WH.k hg6 (WH.k hg6 (WH.k hg6 ?_))))
 refine WH.v (O.pf rfl) ?_
 refine WH.v (O.as1) ?_
 refine WH.nil (E.to ?_)
 refine W.pk [(2,_)] [(101,_)] ?_
 refine W.ret ?_
 refine E.h1 [] ?_
 ·exact yJ

set_option maxRecDepth 8000 in
theorem indexFuncCp {f : Nat} {caps : List UV} {pr : Cp → Bool} {q : List Cp} (hok : G.callOk Tryz.prog f = true) (hpr : ∀ x ∈ q, Con Tryz.prog f ([vA (eCp x)] ++ caps.map .u) [] (vB (pr x)) []) :
    Con Tryz.prog 60 [vL 8 (q.map eCp), .u (.clo (.func f) [] caps)] [] (vI (idxF pr q)) [] := by
 obtain ⟨i55, hi55, hz55, hs55, hb55⟩ := hinf55
 refine Con.en 19 Tryz.func60 fun τ w ok vs hin => ?_
 have hl0 := hin.len (i := 0) rfl
 try rw [List.length_map] at hl0
 clear hin
 refine W.rg (SL.a (E.fo (W.seq (W.rg (SL.o ?_)))))
 refine SL.v (O.le u30) ?_
 refine SL.o (E.fo (W.block ?_))
 refine W.lq (fun (k : Nat) => [(8, vI (k : Int))]) (fun (k : Nat) => []) (fun (k : Nat) => k ≤ q.length ∧ ∀ j, j < k → (pr) q[j]! = false) (fun (k : Nat) => q.length - k) (0) [] [(0, _), (1, _), (7, _)] [] ?_ ?_
 ·exact yG
 intro k hinv
 obtain ⟨hk, hp⟩ := hinv
 refine W.rg ?_
 refine SL.v (O.lss) ?_
 refine E.fo (W.seq ?_)
 refine W.cc rfl (fun hc1 => ?_) fun hc1 => ?_
 ·refine W.skip (E.to (W.seq (W.block (W.rg (SL.o (SL.a (E.fo (W.rg (SL.o (SL.o (SL.o ?_)))))))))))
  refine SL.v (O.ix u30 hi55 hs55) ?_
  refine SL.v (O.lU 8 u55) ?_
  refine SL.v (O.cp (q := hpr q[k]! (at_mem xA)) (o := hok)) ?_
  refine E.fo ?_
  refine W.cc rfl (fun hc2 => ?_) fun hc2 => ?_
  ·refine W.rg (SL.o (SL.a (E.fo (W.ret ?_))))
   refine E.inr ?_
   refine E.thr (E.thr ?_)
   refine E.inr ?_
   refine E.thr ?_
   refine E.h1 [] ?_
   ·exact iv_int (idxF_here xA hp xK)
  refine W.skip (E.inn (E.to (W.region ?_)))
  refine SL.v (O.ad) ?_
  refine SL.o (SL.nil ?_)
  refine E.ai (k + 1) [] ?_
  ·try dsimp only
   exact zD
 refine W.exit (E.th (E.th (E.hit (E.to (W.rg (SL.a (E.fo (W.ret ?_))))))))
 refine E.h1 [] ?_
 ·exact iv_int (idxF_none xA hp)

set_option maxRecDepth 8000 in
theorem containsFuncCp {f : Nat} {caps : List UV} {pr : Cp → Bool} {q : List Cp} (hok : G.callOk Tryz.prog f = true) (hpr : ∀ x ∈ q, Con Tryz.prog f ([vA (eCp x)] ++ caps.map .u) [] (vB (pr x)) []) :
    Con Tryz.prog 105 [vL 8 (q.map eCp), .u (.clo (.func f) [] caps)] [] (vB (decide (0 ≤ idxF pr q))) [] := by
 refine Con.en 9 Tryz.func105 fun τ w ok vs hin => ?_
 have hl0 := hin.len (i := 0) rfl
 try rw [List.length_map] at hl0
 clear hin
 refine W.rg (SL.a (E.fo (W.rg (SL.o (SL.o ?_)))))
 refine SL.v (O.cp (q := indexFuncCp hok hpr)) ?_
 refine SL.v (O.geq) ?_
 refine SL.a (E.fo (W.ret ?_))
 refine E.h1 [] ?_
 ·rfl

set_option maxRecDepth 8000 in
theorem indexFuncLn {f : Nat} {caps : List UV} {pr : Ln → Bool} {q : List Ln} (hok : G.callOk Tryz.prog f = true) (hpr : ∀ x ∈ q, Con Tryz.prog f ([vA (eLn x)] ++ caps.map .u) [] (vB (pr x)) []) :
    Con Tryz.prog 55 [vL 2 (q.map eLn), .u (.clo (.func f) [] caps)] [] (vI (idxF pr q)) [] := by
 obtain ⟨i79, hi79, hz79, hs79, hb79⟩ := hinf79
 refine Con.en 19 Tryz.func55 fun τ w ok vs hin => ?_
 have hl0 := hin.len (i := 0) rfl
 try rw [List.length_map] at hl0
 clear hin
 refine W.rg (SL.a (E.fo (W.seq (W.rg (SL.o ?_)))))
 refine SL.v (O.le u31) ?_
 refine SL.o (E.fo (W.block ?_))
 refine W.lq (fun (k : Nat) => [(8, vI (k : Int))]) (fun (k : Nat) => []) (fun (k : Nat) => k ≤ q.length ∧ ∀ j, j < k → (pr) q[j]! = false) (fun (k : Nat) => q.length - k) (0) [] [(0, _), (1, _), (7, _)] [] ?_ ?_
 ·exact yG
 intro k hinv
 obtain ⟨hk, hp⟩ := hinv
 refine W.rg ?_
 refine SL.v (O.lss) ?_
 refine E.fo (W.seq ?_)
 refine W.cc rfl (fun hc1 => ?_) fun hc1 => ?_
 ·refine W.skip (E.to (W.seq (W.block (W.rg (SL.o (SL.a (E.fo (W.rg (SL.o (SL.o (SL.o ?_)))))))))))
  refine SL.v (O.ix u31 hi79 hs79) ?_
  refine SL.v (O.lU 2 u79) ?_
  refine SL.v (O.cp (q := hpr q[k]! (at_mem xA)) (o := hok)) ?_
  refine E.fo ?_
  refine W.cc rfl (fun hc2 => ?_) fun hc2 => ?_
  ·refine W.rg (SL.o (SL.a (E.fo (W.ret ?_))))
   refine E.inr ?_
   refine E.thr (E.thr ?_)
   refine E.inr ?_
   refine E.thr ?_
   refine E.h1 [] ?_
   ·exact iv_int (idxF_here xA hp xK)
  refine W.skip (E.inn (E.to (W.region ?_)))
  refine SL.v (O.ad) ?_
  refine SL.o (SL.nil ?_)
  refine E.ai (k + 1) [] ?_
  ·try dsimp only
   exact zD
 refine W.exit (E.th (E.th (E.hit (E.to (W.rg (SL.a (E.fo (W.ret ?_))))))))
 refine E.h1 [] ?_
 ·exact iv_int (idxF_none xA hp)

set_option maxRecDepth 8000 in
theorem containsFuncLn {f : Nat} {caps : List UV} {pr : Ln → Bool} {q : List Ln} (hok : G.callOk Tryz.prog f = true) (hpr : ∀ x ∈ q, Con Tryz.prog f ([vA (eLn x)] ++ caps.map .u) [] (vB (pr x)) []) :
    Con Tryz.prog 108 [vL 2 (q.map eLn), .u (.clo (.func f) [] caps)] [] (vB (decide (0 ≤ idxF pr q))) [] := by
 refine Con.en 9 Tryz.func108 fun τ w ok vs hin => ?_
 have hl0 := hin.len (i := 0) rfl
 try rw [List.length_map] at hl0
 clear hin
 refine W.rg (SL.a (E.fo (W.rg (SL.o (SL.o ?_)))))
 refine SL.v (O.cp (q := indexFuncLn hok hpr)) ?_
 refine SL.v (O.geq) ?_
 refine SL.a (E.fo (W.ret ?_))
 refine E.h1 [] ?_
 ·rfl

set_option maxRecDepth 8000 in
theorem copyValid_h {c : Cp} {now : Int} :
    Con Tryz.prog 52 [vA (eCp c), vI now] [] (vB (decide (cpOk c now))) [] := by
 refine Con.en 79 Tryz.func52 fun τ w ok vs hin => ?_
 clear hin
 refine W.rg ?_
 refine SL.bx8 101 ?_
 refine SL.a (E.fo (W.seq (W.rg ?_)))
 refine SL.v (O.fr 0 0 u55) ?_
 refine SL.v (O.l1 u3) ?_
 refine SL.v (O.cp (q := id_h)) ?_
 refine SL.v (O.nt) ?_
 refine SL.o ?_
 refine SL.cs 4 false (fun hg1 => ?_) fun hg1 => ?_
 ·have hg1p := gP hg1
  refine SL.v (O.fr 1 0 u55 (tY hg1)) ?_
  refine SL.v (O.l1 u3 (tY hg1)) ?_
  refine SL.v (O.cp (q := id_h) (hg := (tY hg1))) ?_
  refine SL.v (O.nt (tY hg1)) ?_
  refine SL.v (O.pf hg1) ?_
  refine SL.o ?_
  refine SL.cs 10 false (fun hg2 => ?_) fun hg2 => ?_
  ·have hg2p := gP hg2
   refine SL.v (O.fr 2 0 u55 (tY hg2)) ?_
   refine SL.v (O.l1 u9 (tY hg2)) ?_
   refine SL.v (O.cp (q := name_h) (hg := (tY hg2))) ?_
   refine SL.v (O.nt (tY hg2)) ?_
   refine SL.v (O.pf hg2) ?_
   refine E.fo ?_
   refine W.cc rfl (fun hc3 => ?_) fun hc3 => ?_
   ·refine W.rg (SL.a (E.fo (W.ret (E.thr ?_))))
    refine E.h1 [] ?_
    ·unfold cpOk; first | exact iv_bool (dec_f (fun q => by simp_all)) | exact iv_bool (dec_t yU) | exact iv_bool (dec_iff yU) | exact iv_bool (dec_f (fun q => by omega)) | exact iv_bool (dec_b yO)
   refine W.skip (E.to (W.seq (W.rg ?_)))
   refine SL.v (O.fr 3 0 u55) ?_
   refine SL.v (O.l1 u3) ?_
   refine E.fo (W.block (W.rg ?_))
   refine SL.v (O.eql) ?_
   refine SL.a (E.fo ?_)
   refine W.cc rfl (fun hc4 => ?_) fun hc4 => ?_
   ·refine W.rg ?_
    refine SL.v (O.fr 4 0 u55) ?_
    refine SL.v (O.l1 u3) ?_
    refine SL.v (O.eql) ?_
    refine SL.o ?_
    refine SL.cs 3 true (fun hg5 => ?_) fun hg5 => ?_
    ·have hg5p := gP hg5
     refine SL.v (O.fr 5 0 u55 (tY hg5)) ?_
     refine SL.v (O.l1 u3 (tY hg5)) ?_
     refine SL.v (O.eql (tY hg5)) ?_
     refine SL.v (O.pt hg5) ?_
     refine SL.o ?_
     refine SL.cs 8 true (fun hg6 => ?_) fun hg6 => ?_
     ·have hg6p := gP hg6
      refine SL.v (O.fr 6 0 u55 (tY hg6)) ?_
      refine SL.v (O.l1 u3 (tY hg6)) ?_
      refine SL.v (O.eql (tY hg6)) ?_
      refine SL.v (O.pt hg6) ?_
      refine SL.o ?_
      refine SL.cs 13 true (fun hg7 => ?_) fun hg7 => ?_
      ·have hg7p := gP hg7
       refine SL.v (O.fr 7 0 u55 (tY hg7)) ?_
       refine SL.v (O.l1 u4 (tY hg7)) ?_
       refine SL.v (O.nt (tY hg7)) ?_
       refine SL.v (O.pt hg7) ?_
       refine SL.a (E.fo ?_)
       refine W.pk [(4,_)] [(101,_)] ?_
       refine W.ret ?_
       refine E.inr ?_
       refine E.thr ?_
       refine E.h1 [] ?_
       ·unfold cpOk; first | exact iv_bool (dec_f (fun q => by simp_all)) | exact iv_bool (dec_t yU) | exact iv_bool (dec_iff yU) | exact iv_bool (dec_f (fun q => by omega)) | exact iv_bool (dec_b yO)
      have hg7p := gP hg7
      refine SL.k hg7 (SL.k hg7 (SL.k hg7 ?_))
      refine SL.v (O.pf (G.ne_t hg7)) ?_
      refine SL.a (E.fo ?_)
      refine W.pk [(4,_)] [(101,_)] ?_
      refine W.ret ?_
      refine E.inr ?_
      refine E.thr ?_
      refine E.h1 [] ?_
      ·unfold cpOk; first | exact iv_bool (dec_f (fun q => by simp_all)) | exact iv_bool (dec_t yU) | exact iv_bool (dec_iff yU) | exact iv_bool (dec_f (fun q => by omega)) | exact iv_bool (dec_b yO)
     have hg6p := gP hg6
     refine SL.k hg6 (SL.k hg6 (SL.k hg6 ?_))
     refine SL.v (O.pf (G.ne_t hg6)) ?_
     refine SL.o ?_
     have hg8 := G.nft
     refine SL.k hg8 (SL.k hg8 (SL.k hg8 ?_))
     refine SL.v (O.pf rfl) ?_
     refine SL.a (E.fo ?_)
     refine W.pk [(4,_)] [(101,_)] ?_
     refine W.ret ?_
     refine E.inr ?_
     refine E.thr ?_
     refine E.h1 [] ?_
     ·unfold cpOk; first | exact iv_bool (dec_f (fun q => by simp_all)) | exact iv_bool (dec_t yU) | exact iv_bool (dec_iff yU) | exact iv_bool (dec_f (fun q => by omega)) | exact iv_bool (dec_b yO)
    have hg5p := gP hg5
    refine SL.k hg5 (SL.k hg5 (SL.k hg5 ?_))
    refine SL.v (O.pf (G.ne_t hg5)) ?_
    refine SL.o ?_
    have hg9 := G.nft
    refine SL.k hg9 (SL.k hg9 (SL.k hg9 ?_))
    refine SL.v (O.pf rfl) ?_
    refine SL.o ?_
    have hg10 := G.nft
    refine SL.k hg10 (SL.k hg10 (SL.k hg10 ?_))
    refine SL.v (O.pf rfl) ?_
    refine SL.a (E.fo ?_)
    refine W.pk [(4,_)] [(101,_)] ?_
    refine W.ret ?_
    refine E.inr ?_
    refine E.thr ?_
    refine E.h1 [] ?_
    ·unfold cpOk; first | exact iv_bool (dec_f (fun q => by simp_all)) | exact iv_bool (dec_t yU) | exact iv_bool (dec_iff yU) | exact iv_bool (dec_f (fun q => by omega)) | exact iv_bool (dec_b yO)
   refine W.rg ?_
   refine SL.v (O.eql) ?_
   refine SL.a (E.fo ?_)
   refine W.pk [(1,_),(2,_),(4,_),(22,_),(43,_)] [(101,_)] ?_
   refine W.cc rfl (fun hc11 => ?_) fun hc11 => ?_
   ·refine W.rg ?_
    refine SL.v (O.fr 4 0 u55) ?_
    refine SL.v (O.l1 u3) ?_
    refine SL.v (O.cp (q := id_h)) ?_
    refine SL.o ?_
    refine SL.cs 3 true (fun hg12 => ?_) fun hg12 => ?_
    ·have hg12p := gP hg12
     refine SL.v (O.fr 5 0 u55 (tY hg12)) ?_
     refine SL.v (O.l1 u3 (tY hg12)) ?_
     refine SL.v (O.cp (q := in_h) (hg := (tY hg12))) ?_
     refine SL.v (O.pt hg12) ?_
     refine SL.o ?_
     refine SL.cs 8 true (fun hg13 => ?_) fun hg13 => ?_
     ·have hg13p := gP hg13
      refine SL.v (O.fr 6 0 u55 (tY hg13)) ?_
      refine SL.v (O.l1 u3 (tY hg13)) ?_
      refine SL.v (O.eql (tY hg13)) ?_
      refine SL.v (O.pt hg13) ?_
      refine SL.a (E.fo (W.ret ?_))
      refine E.inr ?_
      refine E.thr ?_
      refine E.h1 [] ?_
      ·unfold cpOk; first | exact iv_bool (dec_f (fun q => by simp_all)) | exact iv_bool (dec_t yU) | exact iv_bool (dec_iff yU) | exact iv_bool (dec_f (fun q => by omega)) | exact iv_bool (dec_b yO)
     have hg13p := gP hg13
     refine SL.k hg13 (SL.k hg13 (SL.k hg13 ?_))
     refine SL.v (O.pf (G.ne_t hg13)) ?_
     refine SL.a (E.fo (W.ret ?_))
     refine E.inr ?_
     refine E.thr ?_
     refine E.h1 [] ?_
     ·unfold cpOk; first | exact iv_bool (dec_f (fun q => by simp_all)) | exact iv_bool (dec_t yU) | exact iv_bool (dec_iff yU) | exact iv_bool (dec_f (fun q => by omega)) | exact iv_bool (dec_b yO)
    have hg12p := gP hg12
    refine SL.k hg12 (SL.k hg12 (SL.k hg12 ?_))
    refine SL.v (O.pf (G.ne_t hg12)) ?_
    refine SL.o ?_
    have hg14 := G.nft
    refine SL.k hg14 (SL.k hg14 (SL.k hg14 ?_))
    refine SL.v (O.pf rfl) ?_
    refine SL.a (E.fo (W.ret ?_))
    refine E.inr ?_
    refine E.thr ?_
    refine E.h1 [] ?_
    ·unfold cpOk; first | exact iv_bool (dec_f (fun q => by simp_all)) | exact iv_bool (dec_t yU) | exact iv_bool (dec_iff yU) | exact iv_bool (dec_f (fun q => by omega)) | exact iv_bool (dec_b yO)
   refine W.rg ?_
   refine SL.v (O.eql) ?_
   refine SL.a (E.fo ?_)
   refine W.cc rfl (fun hc15 => ?_) fun hc15 => ?_
   ·refine W.rg ?_
    refine SL.v (O.fr 4 0 u55) ?_
    refine SL.v (O.l1 u3) ?_
    refine SL.v (O.cp (q := id_h)) ?_
    refine SL.o ?_
    refine SL.cs 3 true (fun hg16 => ?_) fun hg16 => ?_
    ·have hg16p := gP hg16
     refine SL.v (O.fr 6 0 u55 (tY hg16)) ?_
     refine SL.v (O.l1 u3 (tY hg16)) ?_
     refine SL.v (O.cp (q := id_h) (hg := (tY hg16))) ?_
     refine SL.v (O.pt hg16) ?_
     refine SL.o ?_
     refine SL.cs 8 true (fun hg17 => ?_) fun hg17 => ?_
     ·have hg17p := gP hg17
      refine SL.v (O.fr 5 0 u55 (tY hg17)) ?_
      refine SL.v (O.l1 u3 (tY hg17)) ?_
      refine SL.v (O.mo (tY hg17)) ?_
      refine SL.v (O.cp (q := in_h) (hg := (tY hg17))) ?_
      refine SL.v (O.pt hg17) ?_
      refine SL.o ?_
      refine SL.cs 14 true (fun hg18 => ?_) fun hg18 => ?_
      ·have hg18p := gP hg18
       refine SL.v (O.fr 7 0 u55 (tY hg18)) ?_
       refine SL.v (O.l1 u4 (tY hg18)) ?_
       refine SL.v (O.nt (tY hg18)) ?_
       refine SL.v (O.pt hg18) ?_
       refine SL.a (E.fo ?_)
       refine W.pk [(4,_)] [(101,_)] ?_
       refine W.ret ?_
       refine E.inr ?_
       refine E.thr ?_
       refine E.h1 [] ?_
       ·unfold cpOk; first | exact iv_bool (dec_f (fun q => by simp_all)) | exact iv_bool (dec_t yU) | exact iv_bool (dec_iff yU) | exact iv_bool (dec_f (fun q => by omega)) | exact iv_bool (dec_b yO)
      have hg18p := gP hg18
      refine SL.k hg18 (SL.k hg18 (SL.k hg18 ?_))
      refine SL.v (O.pf (G.ne_t hg18)) ?_
      refine SL.a (E.fo ?_)
      refine W.pk [(4,_)] [(101,_)] ?_
      refine W.ret ?_
      refine E.inr ?_
      refine E.thr ?_
      refine E.h1 [] ?_
      ·unfold cpOk; first | exact iv_bool (dec_f (fun q => by simp_all)) | exact iv_bool (dec_t yU) | exact iv_bool (dec_iff yU) | exact iv_bool (dec_f (fun q => by omega)) | exact iv_bool (dec_b yO)
     have hg17p := gP hg17
     refine SL.k hg17 (SL.k hg17 (SL.k hg17 (SL.k hg17 ?_)))
     refine SL.v (O.pf (G.ne_t hg17)) ?_
     refine SL.o ?_
     have hg19 := G.nft
     refine SL.k hg19 (SL.k hg19 (SL.k hg19 ?_))
     refine SL.v (O.pf rfl) ?_
     refine SL.a (E.fo ?_)
     refine W.pk [(4,_)] [(101,_)] ?_
     refine W.ret ?_
     refine E.inr ?_
     refine E.thr ?_
     refine E.h1 [] ?_
     ·unfold cpOk; first | exact iv_bool (dec_f (fun q => by simp_all)) | exact iv_bool (dec_t yU) | exact iv_bool (dec_iff yU) | exact iv_bool (dec_f (fun q => by omega)) | exact iv_bool (dec_b yO)
    have hg16p := gP hg16
    refine SL.k hg16 (SL.k hg16 (SL.k hg16 ?_))
    refine SL.v (O.pf (G.ne_t hg16)) ?_
    refine SL.o ?_
    have hg20 := G.nft
    refine SL.k hg20 (SL.k hg20 (SL.k hg20 (SL.k hg20 ?_)))
    refine SL.v (O.pf rfl) ?_
    refine SL.o ?_
    have hg21 := G.nft
    refine SL.k hg21 (SL.k hg21 (SL.k hg21 ?_))
    refine SL.v (O.pf rfl) ?_
    refine SL.a (E.fo ?_)
    refine W.pk [(4,_)] [(101,_)] ?_
    refine W.ret ?_
    refine E.inr ?_
    refine E.thr ?_
    refine E.h1 [] ?_
    ·unfold cpOk; first | exact iv_bool (dec_f (fun q => by simp_all)) | exact iv_bool (dec_t yU) | exact iv_bool (dec_iff yU) | exact iv_bool (dec_f (fun q => by omega)) | exact iv_bool (dec_b yO)
   refine W.skip (E.inn (E.to (W.rg (SL.a (E.fo (W.ret ?_))))))
   refine E.h1 [] ?_
   ·unfold cpOk; first | exact iv_bool (dec_f (fun q => by simp_all)) | exact iv_bool (dec_t yU) | exact iv_bool (dec_iff yU) | exact iv_bool (dec_f (fun q => by omega)) | exact iv_bool (dec_b yO)
  have hg2p := gP hg2
  refine SL.k hg2 (SL.k hg2 (SL.k hg2 (SL.k hg2 ?_)))
  refine SL.v (O.pt (G.ne_f hg2)) ?_
  refine E.fo ?_
  refine W.cond_t rfl ?_
  refine W.rg (SL.a (E.fo (W.ret (E.thr ?_))))
  refine E.h1 [] ?_
  ·unfold cpOk; first | exact iv_bool (dec_f (fun q => by simp_all)) | exact iv_bool (dec_t yU) | exact iv_bool (dec_iff yU) | exact iv_bool (dec_f (fun q => by omega)) | exact iv_bool (dec_b yO)
 have hg1p := gP hg1
 refine SL.k hg1 (SL.k hg1 (SL.k hg1 (SL.k hg1 ?_)))
 refine SL.v (O.pt (G.ne_f hg1)) ?_
 refine SL.o ?_
 have hg22 := G.ntf
 refine SL.k hg22 (SL.k hg22 (SL.k hg22 (SL.k hg22 ?_)))
 refine SL.v (O.pt rfl) ?_
 refine E.fo ?_
 refine W.cond_t rfl ?_
 refine W.rg (SL.a (E.fo (W.ret (E.thr ?_))))
 refine E.h1 [] ?_
 ·unfold cpOk; first | exact iv_bool (dec_f (fun q => by simp_all)) | exact iv_bool (dec_t yU) | exact iv_bool (dec_iff yU) | exact iv_bool (dec_f (fun q => by omega)) | exact iv_bool (dec_b yO)

set_option maxRecDepth 8000 in
theorem lineValid1_h {h : Hd} {now : Int} :
    Con Tryz.prog 96 [vA (eH h), .u (.ptr [uI now])] [] (vB (decide (h.tim > now))) [] := by
 refine Con.en 8 Tryz.func96 fun τ w ok vs hin => ?_
 clear hin
 refine W.rg ?_
 refine SL.bx5 101 ?_
 refine SL.a (E.fo (W.rg ?_))
 refine SL.v (O.fr 3 0 u96) ?_
 refine SL.v (O.l1 u3) ?_
 refine SL.v (O.l1f u3) ?_
 refine SL.v (O.gtr) ?_
 refine SL.a (E.fo (W.ret ?_))
 refine E.h1 [] ?_
 ·rfl

set_option maxRecDepth 8000 in
theorem lineValid_h {l : Ln} {now : Int} :
    Con Tryz.prog 53 [vA (eLn l), vI now] [] (vB (decide (lnOk l now))) [] := by
 refine Con.en 26 Tryz.func53 fun τ w ok vs hin => ?_
 clear hin
 refine W.rg ?_
 refine SL.bx2 101 ?_
 refine SL.bx1 102 ?_
 refine SL.a (E.fo (W.rg ?_))
 refine SL.v (O.fr 0 0 u79) ?_
 refine SL.v (O.l1 u3) ?_
 refine SL.v (O.cp (q := id_h)) ?_
 refine SL.o ?_
 refine SL.cs 3 true (fun hg1 => ?_) fun hg1 => ?_
 ·have hg1p := gP hg1
  refine SL.v (O.fr 1 0 u79 (tY hg1)) ?_
  refine SL.v (O.l1 u59 (tY hg1)) ?_
  refine SL.v (O.cp (q := valid_h) (hg := (tY hg1))) ?_
  refine SL.v (O.pt hg1) ?_
  refine SL.o ?_
  refine SL.cs 8 true (fun hg2 => ?_) fun hg2 => ?_
  ·have hg2p := gP hg2
   refine SL.v (O.fr 1 0 u79 (tY hg2)) ?_
   refine SL.v (O.l1 u59 (tY hg2)) ?_
   refine SL.v (O.le u59 (tY hg2)) ?_
   refine SL.v (O.gtr (tY hg2)) ?_
   refine SL.v (O.pt hg2) ?_
   refine SL.o ?_
   refine SL.cs 14 true (fun hg3 => ?_) fun hg3 => ?_
   ·have hg3p := gP hg3
    refine SL.v (O.fr 1 0 u79 (tY hg3)) ?_
    refine SL.v (O.l1 u59 (tY hg3)) ?_
    refine SL.v (O.makeFunc rfl rfl rfl (Taken.yes rfl rfl hg3)) ?_
    refine SL.cl [] [102] (.u _) _ (q := containsFunc_h (q := l.q) (f := 96) (caps := [.ptr [uI now]]) (pr := fun h => decide (h.tim > now)) hcallOk96 (fun x => lineValid1_h))  (fl := .inr ⟨rfl, fun x hx => by simp at hx⟩) (hg := tY hg3) (h := ?_)
    refine SL.v (O.nt (tY hg3)) ?_
    refine SL.v (O.pt hg3) ?_
    refine SL.a (E.fo ?_)
    refine W.pk [(4,_)] [(101,_),(102,_)] ?_
    refine W.ret ?_
    refine E.h1 [] ?_
    ·unfold lnOk; first | exact iv_bool (dec_f (fun q => by simp_all)) | exact iv_bool (dec_f (fun q => by omega)) | exact iv_bool (ln_fin xK xK xA)
   have hg3p := gP hg3
   refine SL.k hg3 (SL.k hg3 (SL.k hg3 (SL.k hg3 (SL.k hg3 ?_))))
   refine SL.v (O.pf (G.ne_t hg3)) ?_
   refine SL.a (E.fo ?_)
   refine W.pk [(4,_)] [(101,_),(102,_)] ?_
   refine W.ret ?_
   refine E.h1 [] ?_
   ·unfold lnOk; first | exact iv_bool (dec_f (fun q => by simp_all)) | exact iv_bool (dec_f (fun q => by omega)) | exact iv_bool (ln_fin xK xK xA)
  have hg2p := gP hg2
  refine SL.k hg2 (SL.k hg2 (SL.k hg2 (SL.k hg2 ?_)))
  refine SL.v (O.pf (G.ne_t hg2)) ?_
  refine SL.o ?_
  have hg4 := G.nft
  refine SL.k hg4 (SL.k hg4 (SL.k hg4 (SL.k hg4 (SL.k hg4 ?_))))
  refine SL.v (O.pf rfl) ?_
  refine SL.a (E.fo ?_)
  refine W.pk [(4,_)] [(101,_),(102,_)] ?_
  refine W.ret ?_
  refine E.h1 [] ?_
  ·unfold lnOk; first | exact iv_bool (dec_f (fun q => by simp_all)) | exact iv_bool (dec_f (fun q => by omega)) | exact iv_bool (ln_fin xK xK xA)
 have hg1p := gP hg1
 refine SL.k hg1 (SL.k hg1 (SL.k hg1 ?_))
 refine SL.v (O.pf (G.ne_t hg1)) ?_
 refine SL.o ?_
 have hg5 := G.nft
 refine SL.k hg5 (SL.k hg5 (SL.k hg5 (SL.k hg5 ?_)))
 refine SL.v (O.pf rfl) ?_
 refine SL.o ?_
 have hg6 := G.nft
 refine SL.k hg6 (SL.k hg6 (SL.k hg6 (SL.k hg6 (SL.k hg6 ?_))))
 refine SL.v (O.pf rfl) ?_
 refine SL.a (E.fo ?_)
 refine W.pk [(4,_)] [(101,_),(102,_)] ?_
 refine W.ret ?_
 refine E.h1 [] ?_
 ·unfold lnOk; first | exact iv_bool (dec_f (fun q => by simp_all)) | exact iv_bool (dec_f (fun q => by omega)) | exact iv_bool (ln_fin xK xK xA)

set_option maxRecDepth 8000 in
theorem find1_h {c : Cp} {i : Int} :
    Con Tryz.prog 61 [vA (eCp c), .u (.ptr [uI i])] [] (vB (decide (c.id = i))) [] := by
 refine Con.en 8 Tryz.func61 fun τ w ok vs hin => ?_
 clear hin
 refine W.rg ?_
 refine SL.bx8 101 ?_
 refine SL.a (E.fo (W.rg ?_))
 refine SL.v (O.fr 0 0 u55) ?_
 refine SL.v (O.l1 u3) ?_
 refine SL.v (O.l1f u3) ?_
 refine SL.v (O.eql) ?_
 refine SL.a (E.fo (W.ret ?_))
 refine E.h1 [] ?_
 ·rfl

set_option maxRecDepth 8000 in
theorem queue1_h {l : Ln} {i : Int} :
    Con Tryz.prog 56 [vA (eLn l), .u (.ptr [uI i])] [] (vB (decide (l.work = i))) [] := by
 refine Con.en 8 Tryz.func56 fun τ w ok vs hin => ?_
 clear hin
 refine W.rg ?_
 refine SL.bx2 101 ?_
 refine SL.a (E.fo (W.rg ?_))
 refine SL.v (O.fr 0 0 u79) ?_
 refine SL.v (O.l1 u3) ?_
 refine SL.v (O.l1f u3) ?_
 refine SL.v (O.eql) ?_
 refine SL.a (E.fo (W.ret ?_))
 refine E.h1 [] ?_
 ·rfl

end Go.Proofs.YtmekkjehkcjpdaaGreat
end
section
namespace Go.Proofs.YtmekkjehkcjpdaaGreat
open Go Go.RowKit Go.H Go.D57 Go.D58

theorem hcallOk56 : G.callOk Tryz.prog 56 = true := by kernel_rfl
theorem hcallOk61 : G.callOk Tryz.prog 61 = true := by kernel_rfl

set_option maxRecDepth 8000 in
theorem cloneQ_h {l : List Hd} (hb : l.length ≤ 1000000) :
    Con Tryz.prog 57 [vL 5 (l.map eH)] [] (.own 0) [(0, .data 96 5 (l.map eH))] := by
 obtain ⟨i96, hi96, hz96, hs96, hb96⟩ := hinf96
 refine Con.en 8 Tryz.func57 fun τ w ok vs hin => ?_
 have hl0 := hin.len (i := 0) rfl
 try rw [List.length_map] at hl0
 clear hin
 refine W.rg (SL.a (E.fo (W.seq (W.rg (SL.o ?_)))))
 refine SL.isnil (SlOf.fz rfl xI) u59 rfl Taken.no (fun bn1 hbn1 => ?_)
 refine E.fo ?_
 refine W.cc rfl (fun hc2 => ?_) fun hc2 => ?_
 ·refine W.rg (SL.a (E.fo (W.ret (E.thr ?_))))
  refine E.adopt 2 101 96 5 xI rfl rfl rfl ?_
  refine E.f1 [(0, 101)] ?_ ?_
  ·rfl
  · exact zC
 refine W.skip (E.to (W.rg ?_))
 refine SL.memS (O.buildSlice 102 rfl rfl u59 hi96 hz96 hs96 xI rfl xI rfl rfl rfl Taken.no) rfl rfl (S' := (102, _) :: _) rfl ?_
 refine SL.o ?_
 refine SL.memS (O.app (k' := 103) rfl rfl (SlOf.fz rfl xI) u59 hi96 hz96 hs96 rfl rfl yN wB xX rfl Taken.no) rfl rfl (S' := (103, _) :: (102, .dead) :: _) rfl ?_
 refine SL.a (E.fo (W.ret ?_))
 refine E.f1 [(0, 103)] ?_ ?_
 ·rfl
 · exact (SubS.val rfl yT SubS.nil)

set_option maxRecDepth 8000 in
theorem cloneC_h {l : List Cp} (hb : l.length ≤ 1000000) :
    Con Tryz.prog 81 [vL 8 (l.map eCp)] [] (.own 0) [(0, .data 55 8 (l.map eCp))] := by
 obtain ⟨i55, hi55, hz55, hs55, hb55⟩ := hinf55
 refine Con.en 8 Tryz.func81 fun τ w ok vs hin => ?_
 have hl0 := hin.len (i := 0) rfl
 try rw [List.length_map] at hl0
 clear hin
 refine W.rg (SL.a (E.fo (W.seq (W.rg (SL.o ?_)))))
 refine SL.isnil (SlOf.fz rfl xI) u30 rfl Taken.no (fun bn1 hbn1 => ?_)
 refine E.fo ?_
 refine W.cc rfl (fun hc2 => ?_) fun hc2 => ?_
 ·refine W.rg (SL.a (E.fo (W.ret (E.thr ?_))))
  refine E.adopt 2 101 55 8 xI rfl rfl rfl ?_
  refine E.f1 [(0, 101)] ?_ ?_
  ·rfl
  · exact zC
 refine W.skip (E.to (W.rg ?_))
 refine SL.memS (O.buildSlice 102 rfl rfl u30 hi55 hz55 hs55 xI rfl xI rfl rfl rfl Taken.no) rfl rfl (S' := (102, _) :: _) rfl ?_
 refine SL.o ?_
 refine SL.memS (O.app (k' := 103) rfl rfl (SlOf.fz rfl xI) u30 hi55 hz55 hs55 rfl rfl yN (by rw [hb55]; first | omega | (simp only [List.length_map]; omega) | (simp <;> omega)) xX rfl Taken.no) rfl rfl (S' := (103, _) :: (102, .dead) :: _) rfl ?_
 refine SL.a (E.fo (W.ret ?_))
 refine E.f1 [(0, 103)] ?_ ?_
 ·rfl
 · exact (SubS.val rfl yT SubS.nil)

set_option maxRecDepth 8000 in
theorem cloneL_h {l : List Ln} (hb : l.length ≤ 1000000) :
    Con Tryz.prog 82 [vL 2 (l.map eLn)] [] (.own 0) [(0, .data 79 2 (l.map eLn))] := by
 obtain ⟨i79, hi79, hz79, hs79, hb79⟩ := hinf79
 refine Con.en 8 Tryz.func82 fun τ w ok vs hin => ?_
 have hl0 := hin.len (i := 0) rfl
 try rw [List.length_map] at hl0
 clear hin
 refine W.rg (SL.a (E.fo (W.seq (W.rg (SL.o ?_)))))
 refine SL.isnil (SlOf.fz rfl xI) u31 rfl Taken.no (fun bn1 hbn1 => ?_)
 refine E.fo ?_
 refine W.cc rfl (fun hc2 => ?_) fun hc2 => ?_
 ·refine W.rg (SL.a (E.fo (W.ret (E.thr ?_))))
  refine E.adopt 2 101 79 2 xI rfl rfl rfl ?_
  refine E.f1 [(0, 101)] ?_ ?_
  ·rfl
  · exact zC
 refine W.skip (E.to (W.rg ?_))
 refine SL.memS (O.buildSlice 102 rfl rfl u31 hi79 hz79 hs79 xI rfl xI rfl rfl rfl Taken.no) rfl rfl (S' := (102, _) :: _) rfl ?_
 refine SL.o ?_
 refine SL.memS (O.app (k' := 103) rfl rfl (SlOf.fz rfl xI) u31 hi79 hz79 hs79 rfl rfl yN (by rw [hb79]; first | omega | (simp only [List.length_map]; omega) | (simp <;> omega)) xX rfl Taken.no) rfl rfl (S' := (103, _) :: (102, .dead) :: _) rfl ?_
 refine SL.a (E.fo (W.ret ?_))
 refine E.f1 [(0, 103)] ?_ ?_
 ·rfl
 · exact (SubS.val rfl yT SubS.nil)

set_option maxRecDepth 8000 in
theorem find_h {s : St} {i : Int} :
    Con Tryz.prog 22 [vA [uI s.now, .sl 8 (s.cps.map eCp), .sl 2 (s.lns.map eLn)], vI i] [] (.tup [.agg [vI (finD s i).id, vI (finD s i).work, vT (finD s i).lib, vI (finD s i).place, vI (finD s i).pat, vI (finD s i).due, vI (finD s i).hold, vB (finD s i).rc], vB (decide (0 ≤ (idxF (fun c : Cp => decide (c.id = i)) s.cps)))]) [] := by
 obtain ⟨i55, hi55, hz55, hs55, hb55⟩ := hinf55
 refine Con.en 19 Tryz.func22 fun τ w ok vs hin => ?_
 have hl0_1 := hin.lenA (i := 0) (j := 1) rfl rfl
 try rw [List.length_map] at hl0_1
 have hl0_2 := hin.lenA (i := 0) (j := 2) rfl rfl
 try rw [List.length_map] at hl0_2
 clear hin
 refine W.rg ?_
 refine SL.bx3 101 ?_
 refine SL.bx1 102 ?_
 refine SL.al3 103 ?_
 refine SL.a (E.fo (W.rg ?_))
 refine SL.v (O.fr 1 0 u33) ?_
 refine SL.v (O.l1 u30) ?_
 refine SL.v (O.makeFunc rfl rfl rfl Taken.no) ?_
 refine SL.cl [] [102] (.u _) _ (q := indexFuncCp (q := s.cps) (f := 61) (caps := [.ptr [uI i]]) (pr := fun c => decide (c.id = i)) hcallOk61 (fun x _ => find1_h))  (fl := .inr ⟨rfl, fun x hx => by simp at hx⟩) (h := ?_)
 refine SL.a (E.fo (W.seq (W.rg (SL.o ?_))))
 refine SL.v (O.lss) ?_
 refine E.fo ?_
 refine W.cc rfl (fun hc1 => ?_) fun hc1 => ?_
 ·refine W.rg ?_
  refine SL.v (O.bd2 u55) ?_
  refine SL.st8_8 103 ?_
  refine SL.a (E.fo (W.ret (E.thr ?_)))
  refine E.j2 [] rfl (ResOne.c8 u55) (ResOne.tmp rfl) ?_
  ·rw [finD_no xA, dec_f xA]; rfl
 have hlt := idxF_lt (p := fun c : Cp => decide (c.id = i)) (l := s.cps) xA
 refine W.skip (E.to (W.rg ?_))
 refine SL.v (O.fr 1 0 u33) ?_
 refine SL.v (O.l1 u30) ?_
 refine SL.o ?_
 refine SL.v (O.idx_fz (i := (idxF (fun c : Cp => decide (c.id = i)) s.cps).toNat) rfl rfl xA (row_get xA) u30 hi55 hs55 rfl Taken.no) ?_
 refine SL.v (O.lU 8 u55) ?_
 refine SL.st8_8 103 ?_
 refine SL.a (E.fo (W.ret ?_))
 refine E.j2 [] rfl (ResOne.c8 u55) (ResOne.tmp rfl) ?_
 ·rw [finD_y xA, dec_t xA]; rfl


end Go.Proofs.YtmekkjehkcjpdaaGreat
end
section
namespace Go.Proofs.YtmekkjehkcjpdaaGreat
open Go Go.RowKit Go.H Go.D57 Go.D58

theorem hcallOk59 : G.callOk Tryz.prog 59 = true := by kernel_rfl

set_option maxRecDepth 8000 in
theorem count_h {s : St} {work : Int} :
    Con Tryz.prog 19 [vA [uI s.now, .sl 8 (s.cps.map eCp), .sl 2 (s.lns.map eLn)], vI work] [] (.agg [vI ((cntP s.cps work 1 : Nat) : Int), vI ((cntP s.cps work 2 : Nat) : Int), vI ((cntP s.cps work 3 : Nat) : Int)]) [] := by
 obtain ⟨i55, hi55, hz55, hs55, hb55⟩ := hinf55
 refine Con.en 33 Tryz.func19 fun τ w ok vs hin => ?_
 have hl0_1 := hin.lenA (i := 0) (j := 1) rfl rfl
 try rw [List.length_map] at hl0_1
 have hl0_2 := hin.lenA (i := 0) (j := 2) rfl rfl
 try rw [List.length_map] at hl0_2
 clear hin
 refine W.rg ?_
 refine SL.bx3 101 ?_
 refine SL.al4 102 ?_
 refine E.fo (W.rg ?_)
 refine SL.al4 103 ?_
 refine E.fo (W.seq (W.rg ?_))
 refine SL.v (O.fr 1 0 u33) ?_
 refine SL.v (O.l1 u30) ?_
 refine SL.v (O.le u30) ?_
 refine SL.o (E.fo (W.block ?_))
 refine W.lq (fun (k : Nat) => [(11, vI (k : Int))]) (fun (k : Nat) => [(103, .cells 56 [.u (uI ((cntP (s.cps.take k) work 1 : Nat) : Int)), .u (uI ((cntP (s.cps.take k) work 2 : Nat) : Int)), .u (uI ((cntP (s.cps.take k) work 3 : Nat) : Int))])]) (fun (k : Nat) => k ≤ s.cps.length) (fun (k : Nat) => s.cps.length - k) (0) [] [(1, _), (4, _), (5, _), (9, _), (10, _)] [(101, _), (102, _)] ?_ ?_
 ·omega
 intro k hinv
 have hk := hinv
 have hc1_ := cnt_le s.cps work 1 k
 have hc2_ := cnt_le s.cps work 2 k
 have hc3_ := cnt_le s.cps work 3 k
 refine W.rg ?_
 refine SL.v (O.lss) ?_
 refine E.fo (W.seq ?_)
 refine W.cc rfl (fun hc1 => ?_) fun hc1 => ?_
 ·refine W.skip (E.to (W.seq (W.block (W.rg ?_))))
  refine SL.v (O.ix u30 hi55 hs55) ?_
  refine SL.v (O.lU 8 u55) ?_
  refine SL.al3 104 ?_
  refine SL.st8_8 104 ?_
  refine E.fo (W.rg ?_)
  refine SL.v (O.fr 1 0 u55) ?_
  refine SL.v (O.l1 u3) ?_
  refine SL.o ?_
  refine SL.v (O.eql) ?_
  refine SL.o ?_
  refine SL.cs 4 true (fun hg2 => ?_) fun hg2 => ?_
  ·have hg2p := gP hg2
   refine SL.v (O.fr 3 0 u55 (tY hg2)) ?_
   refine SL.v (O.l1 u3 (tY hg2)) ?_
   refine SL.v (O.cp (q := in_h) (hg := (tY hg2))) ?_
   refine SL.v (O.pt hg2) ?_
   refine E.fo ?_
   refine W.cc rfl (fun hc3 => ?_) fun hc3 => ?_
   ·have hin : inB s.cps[k]!.place 1 3 := by first | assumption | simp_all
    unfold inB at hin
    have hpl : s.cps[k]!.place = 1 ∨ s.cps[k]!.place = 2 ∨ s.cps[k]!.place = 3 := by omega
    rcases hpl with hpl | hpl | hpl
    ·refine W.region ?_
     refine SL.v (O.fr 3 0 u55) ?_
     refine SL.v (O.l1 u3) ?_
     refine SL.v (O.sb) ?_
     refine SL.v (O.idx_ref (i := 0) (m := 1) rfl rfl xA xI u56 xG rfl rfl Taken.no) ?_
     refine SL.v (O.l1 u3) ?_
     refine SL.v (O.ad) ?_
     refine SL.v (O.idx_ref (i := 0) (m := 1) rfl rfl xA xI u56 xG rfl rfl Taken.no) ?_
     refine SL.st1_3 103 ?_
     refine SL.nil (E.inn (E.to ?_))
     refine W.pk [(1,_),(4,_),(5,_),(9,_),(10,_),(11,_)] [(101,_),(102,_),(103,_),(104,_)] ?_
     refine W.region ?_
     refine SL.v (O.ad) ?_
     refine SL.o (SL.nil ?_)
     refine E.ag (k + 1) [] ?_ ?_ ?_ ?_
     · exact zH
     · exact xC
     ·try dsimp only
      omega
     · exact xT
    ·refine W.region ?_
     refine SL.v (O.fr 3 0 u55) ?_
     refine SL.v (O.l1 u3) ?_
     refine SL.v (O.sb) ?_
     refine SL.v (O.idx_ref (i := 1) (m := 1) rfl rfl xA xI u56 xG rfl rfl Taken.no) ?_
     refine SL.v (O.l1 u3) ?_
     refine SL.v (O.ad) ?_
     refine SL.v (O.idx_ref (i := 1) (m := 1) rfl rfl xA xI u56 xG rfl rfl Taken.no) ?_
     refine SL.st1_3 103 ?_
     refine SL.nil (E.inn (E.to ?_))
     refine W.pk [(1,_),(4,_),(5,_),(9,_),(10,_),(11,_)] [(101,_),(102,_),(103,_),(104,_)] ?_
     refine W.region ?_
     refine SL.v (O.ad) ?_
     refine SL.o (SL.nil ?_)
     refine E.ag (k + 1) [] ?_ ?_ ?_ ?_
     · exact zH
     · exact xC
     ·try dsimp only
      omega
     · exact xT
    refine W.region ?_
    refine SL.v (O.fr 3 0 u55) ?_
    refine SL.v (O.l1 u3) ?_
    refine SL.v (O.sb) ?_
    refine SL.v (O.idx_ref (i := 2) (m := 1) rfl rfl xA xI u56 xG rfl rfl Taken.no) ?_
    refine SL.v (O.l1 u3) ?_
    refine SL.v (O.ad) ?_
    refine SL.v (O.idx_ref (i := 2) (m := 1) rfl rfl xA xI u56 xG rfl rfl Taken.no) ?_
    refine SL.st1_3 103 ?_
    refine SL.nil (E.inn (E.to ?_))
    refine W.pk [(1,_),(4,_),(5,_),(9,_),(10,_),(11,_)] [(101,_),(102,_),(103,_),(104,_)] ?_
    refine W.region ?_
    refine SL.v (O.ad) ?_
    refine SL.o (SL.nil ?_)
    refine E.ag (k + 1) [] ?_ ?_ ?_ ?_
    · exact zH
    · exact xC
    ·try dsimp only
     omega
    · exact xT
   have hno : ¬ (s.cps[k]!.work = work ∧ inB s.cps[k]!.place 1 3) := by first | (intro q; simp_all; done) | simp_all
   unfold inB at hno
   refine W.skip (E.inn (E.to (W.region ?_)))
   refine SL.v (O.ad) ?_
   refine SL.o (SL.nil ?_)
   refine E.ag (k + 1) [] ?_ ?_ ?_ ?_
   · exact zH
   · exact xC
   ·try dsimp only
    omega
   · exact xT
  have hg2p := gP hg2
  refine SL.k hg2 (SL.k hg2 (SL.k hg2 ?_))
  refine SL.v (O.pf (G.ne_t hg2)) ?_
  refine E.fo ?_
  refine W.cond_f rfl ?_
  refine W.skip (E.inn (E.to (W.region ?_)))
  refine SL.v (O.ad) ?_
  refine SL.o (SL.nil ?_)
  refine E.ag (k + 1) [] ?_ ?_ ?_ ?_
  · exact zH
  · exact xC
  ·try dsimp only
   omega
  · exact xT
 refine W.exit (E.th (E.th (E.hit (E.to (W.rg ?_)))))
 refine SL.v (O.n3 u56) ?_
 refine SL.st3_3 102 ?_
 refine E.fo (W.ret ?_)
 refine E.j1 [] rfl (ResOne.c3 u56) ?_
 ·rw [show k = s.cps.length by omega, List.take_length]; rfl

set_option maxRecDepth 8000 in
theorem which_h {s : St} {f : Nat} {caps : List UV} {pr : Cp → Bool} (hok : G.callOk Tryz.prog f = true) (hpr : ∀ x, Con Tryz.prog f ([vA (eCp x)] ++ caps.map .u) [] (vB (pr x)) []) (hl : s.cps.length ≤ 1000000) :
    Con Tryz.prog 58 [vA [uI s.now, .sl 8 (s.cps.map eCp), .sl 2 (s.lns.map eLn)], .u (.clo (.func f) [] caps)] [] (.own 0) [(0, .data 3 1 ((idsF pr s.cps).map eI))] := by
 obtain ⟨i3, hi3, hz3, hs3, hb3⟩ := hinf3
 obtain ⟨i55, hi55, hz55, hs55, hb55⟩ := hinf55
 refine Con.en 25 Tryz.func58 fun τ w ok vs hin => ?_
 have hl0_1 := hin.lenA (i := 0) (j := 1) rfl rfl
 try rw [List.length_map] at hl0_1
 have hl0_2 := hin.lenA (i := 0) (j := 2) rfl rfl
 try rw [List.length_map] at hl0_2
 clear hin
 refine W.rg ?_
 refine SL.bx3 101 ?_
 refine SL.a (E.fo (W.rg (SL.a (E.fo (W.seq (W.rg ?_))))))
 refine SL.v (O.fr 1 0 u33) ?_
 refine SL.v (O.l1 u30) ?_
 refine SL.v (O.le u30) ?_
 refine SL.o (E.fo (W.block ?_))
 refine W.adopt 5 103 3 1 xI rfl rfl rfl ?_
 refine W.lp (fun (k : Nat) => [(11, vI (k : Int)), (5, .own 102)]) (fun (k : Nat) => [(102, .data 3 1 ((idsF pr (s.cps.take k)).map eI))]) (fun (k : Nat) => k ≤ s.cps.length) (fun (k : Nat) => s.cps.length - k) (0) [(102, 103)] [(1, _), (4, _), (9, _), (10, _)] [(101, _)] ?_ ?_ ?_ ?_
 · exact zH
 · exact wX
 ·omega
 intro k hinv
 have hk := hinv
 have hil := ids_le pr s.cps k
 refine W.rg ?_
 refine SL.v (O.lss) ?_
 refine E.fo (W.seq ?_)
 refine W.cc rfl (fun hc1 => ?_) fun hc1 => ?_
 ·refine W.skip (E.to (W.seq (W.block (W.rg ?_))))
  refine SL.v (O.ix u30 hi55 hs55) ?_
  refine SL.v (O.lU 8 u55) ?_
  refine SL.al3 104 ?_
  refine SL.st8_8 104 ?_
  refine E.fo (W.rg (SL.o ?_))
  refine SL.v (O.n8 u55) ?_
  refine SL.v (O.cp (q := hpr s.cps[k]!) (o := hok)) ?_
  refine E.fo ?_
  refine W.cc rfl (fun hc2 => ?_) fun hc2 => ?_
  ·refine W.region (SL.o ?_)
   refine SL.v (O.fr 0 0 u55) ?_
   refine SL.v (O.l1 u3) ?_
   refine SL.memS (O.buildSlice 105 (rows := [s.cps[k]!.id].map eI) rfl rfl u61 hi3 hz3 hs3 xI rfl xI rfl rfl rfl Taken.no) rfl rfl (S' := (105, .data 3 1 ([s.cps[k]!.id].map eI)) :: _) rfl ?_
   refine SL.memS (O.app (k' := 106) rfl rfl (SlOf.own rfl rfl) u61 hi3 hz3 hs3 rfl rfl zT wP yI rfl Taken.no) rfl rfl (S' := (106, _) :: (102, .dead) :: _) rfl ?_
   refine SL.a (SL.nil (E.inn (E.to (W.region ?_))))
   refine SL.v (O.ad) ?_
   refine SL.o (SL.nil ?_)
   refine E.ag (k + 1) [(102, 106)] ?_ ?_ ?_ ?_
   · exact zH
   · exact wV
   ·try dsimp only
    omega
   · exact xT
  refine W.skip (E.inn (E.to (W.region ?_)))
  refine SL.v (O.ad) ?_
  refine SL.o (SL.nil ?_)
  refine E.ag (k + 1) [] ?_ ?_ ?_ ?_
  · exact zH
  · exact wV
  ·try dsimp only
   omega
  · exact xT
 refine W.exit (E.th (E.th (E.hit (E.to (W.rg (SL.o (SL.a (E.fo (W.ret ?_)))))))))
 refine E.f1 [(0, 102)] ?_ ?_
 ·rfl
 · exact (SubS.val rfl zP SubS.nil)

set_option maxRecDepth 8000 in
theorem loans1_h {c : Cp} {i : Int} :
    Con Tryz.prog 59 [vA (eCp c), .u (.ptr [uI i])] [] (vB (decide (c.place = 2 ∧ c.pat = i))) [] := by
 refine Con.en 13 Tryz.func59 fun τ w ok vs hin => ?_
 clear hin
 refine W.rg ?_
 refine SL.bx8 101 ?_
 refine SL.a (E.fo (W.rg ?_))
 refine SL.v (O.fr 3 0 u55) ?_
 refine SL.v (O.l1 u3) ?_
 refine SL.v (O.eql) ?_
 refine SL.o ?_
 refine SL.cs 3 true (fun hg1 => ?_) fun hg1 => ?_
 ·have hg1p := gP hg1
  refine SL.v (O.fr 4 0 u55 (tY hg1)) ?_
  refine SL.v (O.l1 u3 (tY hg1)) ?_
  refine SL.v (O.l1f u3 (tY hg1)) ?_
  refine SL.v (O.eql (tY hg1)) ?_
  refine SL.v (O.pt hg1) ?_
  refine SL.a (E.fo (W.ret ?_))
  refine E.h1 [] ?_
  ·exact yQ
 have hg1p := gP hg1
 refine SL.k hg1 (SL.k hg1 (SL.k hg1 (SL.k hg1 ?_)))
 refine SL.v (O.pf (G.ne_t hg1)) ?_
 refine SL.a (E.fo (W.ret ?_))
 refine E.h1 [] ?_
 ·exact yQ

theorem flat_I (l : List Int) {t : TypeId} : (SB.data t 1 (l.map eI)).flatP := fun u hu => by
  obtain ⟨r, hr, hu⟩ := List.mem_flatten.1 hu
  obtain ⟨x, _, rfl⟩ := List.mem_map.1 hr
  rw [List.mem_singleton.1 hu]; rfl


end Go.Proofs.YtmekkjehkcjpdaaGreat
end
section
namespace Go.Proofs.YtmekkjehkcjpdaaGreat
open Go Go.RowKit Go.H Go.D57 Go.D58



set_option maxRecDepth 8000 in
theorem take_h {t : Tk} {p wk h : Int} :
    Con Tryz.prog 97 [vI p, vI wk, vI h, .ref 0 0, .ref 2 0] [(0, .cells 132 [.own 1]), (1, .mp (mpE pairV Value.bool t.has)), (2, .cells 133 [.own 3]), (3, .mp (mpE (fun a : Int => Value.int .i64 a) Value.bool t.hol))] (vB (tkF t p wk h).isSome) [(0, .cells 132 [.own 1]), (1, .mp (mpE pairV Value.bool (tkN t p wk h).has)), (2, .cells 133 [.own 3]), (3, .mp (mpE (fun a : Int => Value.int .i64 a) Value.bool (tkN t p wk h).hol))] := by
 refine Con.en 31 Tryz.func97 fun τ w ok vs hin => ?_
 clear hin
 refine W.rg (SL.a (E.fo (W.rg (SL.o (SL.o ?_)))))
 refine SL.v (O.bd3 u136) ?_
 refine SL.al5 101 ?_
 refine SL.st2_2 101 ?_
 refine E.fo (W.seq (W.rg ?_))
 refine SL.v (O.l1 u132) ?_
 refine SL.v (O.n2 u136) ?_
 refine SL.v (O.lookupA (kf := pairV) (vf := Value.bool) (l := t.has) (b := (p, wk)) (z := false) rfl rfl (ls := [Value.int .i64 p, Value.int .i64 wk]) (.inr rfl) rfl u132 (KeyOk.pair u136 xG (fun _ _ _ _ => rfl)) xG rfl Taken.no) ?_
 refine SL.o ?_
 refine SL.cs 3 false (fun hg1 => ?_) fun hg1 => ?_
 ·have hg1p := gP hg1
  refine SL.v (O.mo (tY hg1)) ?_
  refine SL.v (O.neq (tY hg1)) ?_
  refine SL.v (O.mo (tY hg1)) ?_
  refine SL.cs 6 true (fun hg2 => ?_) fun hg2 => ?_
  ·have hg2p := gP hg2
   refine SL.v (O.l1 u133 (tY hg2)) ?_
   refine SL.v (O.mo (tY hg2)) ?_
   refine SL.v (O.lookup (kf := (fun a : Int => Value.int .i64 a)) (vf := Value.bool) (l := t.hol) (b := h) (z := false) rfl rfl rfl u133 (KeyOk.int u3) xG rfl (Taken.yes rfl rfl hg2)) ?_
   refine SL.v (O.pt hg2 (tY hg1)) ?_
   refine SL.v (O.pf hg1) ?_
   refine E.fo ?_
   refine W.cc rfl (fun hc3 => ?_) fun hc3 => ?_
   ·refine W.rg (SL.a (E.fo (W.ret (E.thr ?_))))
    have hno := tk_no (t := t) (p := p) (w := wk) (h := h) (by first | exact .inl xK | exact .inr ⟨by assumption, by assumption⟩ | (simp_all; done))
    rw [hno.1, hno.2]
    refine E.h1 [] ?_
    ·rfl
   refine W.skip (E.to (W.rg ?_))
   refine SL.v (O.l1 u132) ?_
   refine SL.v (O.n2 u136) ?_
   refine SL.effS (O.mapUpdateA (kf := pairV) (vf := Value.bool) (l := t.has) (b := (p, wk)) (u := true) rfl rfl (ls := [Value.int .i64 p, Value.int .i64 wk]) (.inr rfl) rfl rfl u132 (KeyOk.pair u136 xG (fun _ _ _ _ => rfl)) Taken.no) (S' := (1, _) :: _) rfl ?_
   refine E.fo (W.seq (W.rg (SL.o ?_)))
   refine SL.v (O.neq) ?_
   refine E.fo ?_
   refine W.pk [(2,_),(4,_),(8,_),(28,_)] [(0,_),(1,_),(2,_),(3,_),(101,_)] ?_
   refine W.cc rfl (fun hc4 => ?_) fun hc4 => ?_
   ·have hh : h ≠ 0 := by first | assumption | simp_all
    refine W.region ?_
    refine SL.v (O.l1 u133) ?_
    refine SL.o ?_
    refine SL.effS (O.mapUpdate (kf := (fun a : Int => Value.int .i64 a)) (vf := Value.bool) (l := t.hol) (b := h) (u := true) rfl rfl rfl rfl u133 (KeyOk.int u3) Taken.no) (S' := (3, _) :: _) rfl ?_
    refine E.fo (W.rg (SL.a (E.fo (W.ret ?_))))
    have hye := tk_y (t := t) (p := p) (w := wk) (h := h) vC
    rw [hye.1, hye.2.1]
    first | rw [hye.2.2.1 hh] | rw [hye.2.2.2 hh]
    refine E.h1 [] ?_
    ·rfl
   have hh : ¬ h ≠ 0 := by first | assumption | simp_all
   refine W.skip (E.to (W.rg (SL.a (E.fo (W.ret ?_)))))
   have hye := tk_y (t := t) (p := p) (w := wk) (h := h) vC
   rw [hye.1, hye.2.1]
   first | rw [hye.2.2.1 hh] | rw [hye.2.2.2 hh]
   refine E.h1 [] ?_
   ·rfl
  have hg2p := gP hg2
  refine SL.k hg2 (SL.k hg2 (SL.k hg2 ?_))
  refine SL.v (O.pf (G.ne_t hg2) (tY hg1)) ?_
  refine SL.v (O.pf hg1) ?_
  refine E.fo ?_
  refine W.cond_f rfl ?_
  refine W.skip (E.to (W.rg ?_))
  refine SL.v (O.l1 u132) ?_
  refine SL.v (O.n2 u136) ?_
  refine SL.effS (O.mapUpdateA (kf := pairV) (vf := Value.bool) (l := t.has) (b := (p, wk)) (u := true) rfl rfl (ls := [Value.int .i64 p, Value.int .i64 wk]) (.inr rfl) rfl rfl u132 (KeyOk.pair u136 xG (fun _ _ _ _ => rfl)) Taken.no) (S' := (1, _) :: _) rfl ?_
  refine E.fo (W.seq (W.rg (SL.o ?_)))
  refine SL.v (O.neq) ?_
  refine E.fo ?_
  refine W.pk [(2,_),(4,_),(8,_),(28,_)] [(0,_),(1,_),(2,_),(3,_),(101,_)] ?_
  refine W.cc rfl (fun hc5 => ?_) fun hc5 => ?_
  ·have hh : h ≠ 0 := by first | assumption | simp_all
   refine W.region ?_
   refine SL.v (O.l1 u133) ?_
   refine SL.o ?_
   refine SL.effS (O.mapUpdate (kf := (fun a : Int => Value.int .i64 a)) (vf := Value.bool) (l := t.hol) (b := h) (u := true) rfl rfl rfl rfl u133 (KeyOk.int u3) Taken.no) (S' := (3, _) :: _) rfl ?_
   refine E.fo (W.rg (SL.a (E.fo (W.ret ?_))))
   have hye := tk_y (t := t) (p := p) (w := wk) (h := h) vC
   rw [hye.1, hye.2.1]
   first | rw [hye.2.2.1 hh] | rw [hye.2.2.2 hh]
   refine E.h1 [] ?_
   ·rfl
  have hh : ¬ h ≠ 0 := by first | assumption | simp_all
  refine W.skip (E.to (W.rg (SL.a (E.fo (W.ret ?_)))))
  have hye := tk_y (t := t) (p := p) (w := wk) (h := h) vC
  rw [hye.1, hye.2.1]
  first | rw [hye.2.2.1 hh] | rw [hye.2.2.2 hh]
  refine E.h1 [] ?_
  ·rfl
 have hg1p := gP hg1
 refine SL.k hg1 (SL.k hg1 (SL.k hg1 ?_))
 refine SL.s2 ?_
 refine SL.s2 ?_
 refine SL.s2 ?_
 refine SL.k hg1 ?_
 refine SL.v (O.pt (G.ne_f hg1)) ?_
 refine E.fo ?_
 refine W.cond_t rfl ?_
 refine W.rg (SL.a (E.fo (W.ret (E.thr ?_))))
 have hno := tk_no (t := t) (p := p) (w := wk) (h := h) (by first | exact .inl xK | exact .inr ⟨by assumption, by assumption⟩ | (simp_all; done))
 rw [hno.1, hno.2]
 refine E.h1 [] ?_
 ·rfl

end Go.Proofs.YtmekkjehkcjpdaaGreat
end
section
namespace Go.Proofs.YtmekkjehkcjpdaaGreat
open Go Go.RowKit Go.H Go.D57 Go.D58


set_option maxRecDepth 8000 in
set_option maxHeartbeats 1600000 in
theorem apart_h {s : St} (hql : ∀ l ∈ s.lns, l.q.length ≤ 1000000) :
    Con Tryz.prog 54 [vA [uI s.now, .sl 8 (s.cps.map eCp), .sl 2 (s.lns.map eLn)]] [] (vB (apartB s)) [] := by
 obtain ⟨i55, hi55, hz55, hs55, hb55⟩ := hinf55
 obtain ⟨i79, hi79, hz79, hs79, hb79⟩ := hinf79
 obtain ⟨i96, hi96, hz96, hs96, hb96⟩ := hinf96
 refine Con.en 75 Tryz.func54 fun τ w ok vs hin => ?_
 have hl0_1 := hin.lenA (i := 0) (j := 1) rfl rfl
 try rw [List.length_map] at hl0_1
 have hl0_2 := hin.lenA (i := 0) (j := 2) rfl rfl
 try rw [List.length_map] at hl0_2
 clear hin
 refine W.rg ?_
 refine SL.bx3 101 ?_
 refine SL.a (E.fo (W.rg ?_))
 refine SL.memS (O.makeMap 102 rfl Taken.no) rfl rfl (S' := (102, .mp []) :: _) rfl ?_
 refine SL.memS (O.makeMap 103 rfl Taken.no) rfl rfl (S' := (103, .mp []) :: _) rfl ?_
 refine SL.memS (O.makeMap 104 rfl Taken.no) rfl rfl (S' := (104, .mp []) :: _) rfl ?_
 refine SL.al6 105 ?_
 refine SL.al6 106 ?_
 refine SL.st1_1 105 ?_
 refine SL.st1_1 106 ?_
 refine SL.a (E.fo (W.rg ?_))
 refine SL.v (O.makeFunc rfl rfl rfl Taken.no) ?_
 refine SL.a (E.fo (W.seq (W.rg ?_)))
 refine SL.v (O.fr 1 0 u33) ?_
 refine SL.v (O.l1 u30) ?_
 refine SL.v (O.le u30) ?_
 refine SL.o (E.fo (W.block ?_))
 refine W.loopx3 (fun (k : Nat) (t : Tk) (m : List (Int × Int)) => [(20, vI (k : Int)), (5, .own 109)]) (fun (k : Nat) (t : Tk) (m : List (Int × Int)) => [(107, .mp (mpE pairV Value.bool (t.has))), (108, .mp (mpE (fun a : Int => Value.int .i64 a) Value.bool (t.hol))), (109, .mp (mpE (fun a : Int => Value.int .i64 a) (fun a : Int => Value.int .i64 a) (m))), (105, .cells 132 [.own 107]), (106, .cells 133 [.own 108])]) (fun (k : Nat) (t : Tk) (m : List (Int × Int)) => k ≤ s.cps.length ∧ apCs (s.cps.drop k) (t, m) = apCs s.cps (⟨[], []⟩, []) ∧ ∀ a, 0 ≤ mget m a 0 ∧ mget m a 0 ≤ 5) (fun (k : Nat) (t : Tk) (m : List (Int × Int)) => s.cps.length - k) (0) (⟨[], []⟩) ([]) (rn [(107, 102), (108, 103), (109, 104)]) (.cons (t := 1) rfl (.cons (t := 6) rfl (.cons (t := 18) rfl (.cons (t := 19) rfl .nil)))) (.cons (t := 101) rfl .nil) rfl ?_ ?_ rfl rfl ?_ ?_
 · exact zH
 · exact wW
 ·exact ⟨xA, rfl, fun a => by rw [mget_nil]; omega⟩
 intro k t m hinv
 obtain ⟨hk, hap, hm⟩ := hinv
 refine W.rg ?_
 refine SL.v (O.lss) ?_
 refine E.fo (W.seq ?_)
 refine W.cc rfl (fun hc1 => ?_) fun hc1 => ?_
 ·refine W.skip (E.to (W.seq (W.block (W.rg ?_))))
  refine SL.v (O.ix u30 hi55 hs55) ?_
  refine SL.v (O.lU 8 u55) ?_
  refine SL.al3 110 ?_
  refine SL.st8_8 110 ?_
  refine E.fo (W.seq (W.rg ?_))
  refine SL.v (O.fr 3 0 u55) ?_
  refine SL.v (O.l1 u3) ?_
  refine SL.v (O.eql) ?_
  refine E.fo ?_
  refine W.cc rfl (fun hc2 => ?_) fun hc2 => ?_
  ·refine W.exit (E.th (E.hit (E.to (W.region ?_))))
   refine SL.v (O.ad) ?_
   refine SL.o (SL.nil ?_)
   refine E.ai ((k + 1), (t), (m)) [] ?_
   ·try dsimp only
    exact ⟨xA, by rw [← apC_1 xA xA]; exact hap, hm⟩
  refine W.skip (E.to (W.seq (W.rg (SL.o ?_))))
  refine SL.v (O.fr 4 0 u55) ?_
  refine SL.v (O.l1 u3) ?_
  refine SL.v (O.fr 1 0 u55) ?_
  refine SL.v (O.l1 u3) ?_
  refine SL.v (O.fr 6 0 u55) ?_
  refine SL.v (O.l1 u3) ?_
  refine SL.cl [(0, 105), (1, 107), (2, 106), (3, 108)] [] (.u _) ((105, .cells _ [.own 107]) :: (107, .mp _) :: (106, .cells _ [.own 108]) :: (108, .mp _) :: _) (q := take_h (t := t) (p := s.cps[k]!.pat) (wk := s.cps[k]!.work) (h := s.cps[k]!.hold))  (h := ?_)
  refine SL.v (O.nt) ?_
  refine E.fo ?_
  refine W.cc rfl (fun hc3 => ?_) fun hc3 => ?_
  ·have htk : (tkF t s.cps[k]!.pat s.cps[k]!.work s.cps[k]!.hold).isSome = false := by first | assumption | simp_all
   refine W.rg (SL.a (E.fo (W.ret (E.thr ?_))))
   refine E.inr ?_
   refine E.thr (E.thr ?_)
   refine E.inr ?_
   refine E.thr ?_
   refine E.h1 [] ?_
   ·exact iv_bool (by unfold apartB; rw [← hap, apC_t xA xA htk]; rfl)
  have htk : (tkF t s.cps[k]!.pat s.cps[k]!.work s.cps[k]!.hold).isSome = true := by first | assumption | simp_all
  have hmp := hm s.cps[k]!.pat
  refine W.skip (E.to (W.rg ?_))
  refine SL.v (O.fr 3 0 u55) ?_
  refine SL.v (O.l1 u3) ?_
  refine SL.v (O.eql) ?_
  refine E.fo ?_
  refine W.pk [(1,_),(5,_),(6,_),(8,_),(18,_),(19,_),(20,_),(38,_)] [(101,_),(105,_),(106,_),(107,_),(108,_),(109,_),(110,_)] ?_
  refine W.cc rfl (fun hc4 => ?_) fun hc4 => ?_
  ·refine W.rg (SL.o ?_)
   refine SL.v (O.fr 4 0 u55) ?_
   refine SL.v (O.l1 u3) ?_
   refine SL.v (O.lookup (kf := (fun a : Int => Value.int .i64 a)) (vf := (fun a : Int => Value.int .i64 a)) (l := m) (b := s.cps[k]!.pat) (z := 0) rfl rfl rfl u134 (KeyOk.int u3) xG rfl Taken.no) ?_
   refine SL.v (O.ad) ?_
   refine SL.effS (O.mapUpdate (kf := (fun a : Int => Value.int .i64 a)) (vf := (fun a : Int => Value.int .i64 a)) (l := m) (b := s.cps[k]!.pat) (u := mget m s.cps[k]!.pat 0 + 1) rfl rfl rfl rfl u134 (KeyOk.int u3) Taken.no) (S' := (109, _) :: _) rfl ?_
   refine E.fo (W.rg (SL.o ?_))
   refine SL.v (O.fr 4 0 u55) ?_
   refine SL.v (O.l1 u3) ?_
   refine SL.v (O.lookup (kf := (fun a : Int => Value.int .i64 a)) (vf := (fun a : Int => Value.int .i64 a)) (l := apM m s.cps[k]!.pat) (b := s.cps[k]!.pat) (z := 0) rfl rfl rfl u134 (KeyOk.int u3) xG rfl Taken.no) ?_
   refine SL.v (O.gtr) ?_
   refine E.fo ?_
   refine W.cc rfl (fun hc5 => ?_) fun hc5 => ?_
   ·refine W.rg (SL.a (E.fo (W.ret ?_)))
    refine E.inr ?_
    refine E.thr (E.thr ?_)
    refine E.inr ?_
    refine E.thr ?_
    refine E.h1 [] ?_
    ·exact iv_bool (by unfold apartB; rw [← hap, apC_5 xA xA htk xA]; rfl)
   refine W.skip (E.inn (E.to (W.region ?_)))
   refine SL.v (O.ad) ?_
   refine SL.o (SL.nil ?_)
   refine E.ai ((k + 1), ((tkN t s.cps[k]!.pat s.cps[k]!.work s.cps[k]!.hold)), (apM m s.cps[k]!.pat)) [] ?_
   ·try dsimp only
    have h5 : ¬ mget (apM m s.cps[k]!.pat) s.cps[k]!.pat 0 > 5 := by omega
    exact ⟨xA, by rw [← apC_2 xA xA htk h5]; exact hap, apM_b hm h5⟩
  refine W.skip (E.inn (E.to (W.region ?_)))
  refine SL.v (O.ad) ?_
  refine SL.o (SL.nil ?_)
  refine E.ai ((k + 1), ((tkN t s.cps[k]!.pat s.cps[k]!.work s.cps[k]!.hold)), (m)) [] ?_
  ·try dsimp only
   exact ⟨xA, by rw [← apC_3 xA xA xA htk]; exact hap, hm⟩
 refine W.exit (E.th (E.th (E.hit (E.to (W.seq (W.rg ?_))))))
 refine SL.v (O.fr 2 0 u33) ?_
 refine SL.v (O.l1 u31) ?_
 refine SL.v (O.le u31) ?_
 refine SL.o (E.fo (W.block ?_))
 have hkn : k = s.cps.length := by omega
 rw [hkn, List.drop_length] at hap
 refine W.loopx2 (fun (i : Nat) (t : Tk) => [(53, vI (i : Int))]) (fun (i : Nat) (t : Tk) => [(111, .mp (mpE pairV Value.bool (t.has))), (112, .mp (mpE (fun a : Int => Value.int .i64 a) Value.bool (t.hol))), (105, .cells 132 [.own 111]), (106, .cells 133 [.own 112])]) (fun (i : Nat) (t : Tk) => i ≤ s.lns.length ∧ apLs (s.lns.drop i) t = ((apCs s.cps (⟨[], []⟩, [])).bind fun x => apLs s.lns x.1)) (fun (i : Nat) (t : Tk) => s.lns.length - i) (0) (t) (rn [(111, 107), (112, 108)]) (.cons (t := 6) rfl (.cons (t := 51) rfl (.cons (t := 52) rfl .nil))) (.cons (t := 101) rfl (.cons (t := 109) rfl .nil)) rfl ?_ ?_ rfl rfl ?_ ?_
 · exact zH
 · exact wW
 ·exact ⟨xA, by rw [← hap]; rfl⟩
 intro i t hinv
 obtain ⟨hi, hap⟩ := hinv
 refine W.rg ?_
 refine SL.v (O.lss) ?_
 refine E.fo (W.seq ?_)
 refine W.cc rfl (fun hc6 => ?_) fun hc6 => ?_
 ·have hqi := hql s.lns[i]! (at_mem xA)
  refine W.skip (E.to (W.seq (W.block (W.rg ?_))))
  refine SL.v (O.ix u31 hi79 hs79) ?_
  refine SL.v (O.lU 2 u79) ?_
  refine SL.al7 113 ?_
  refine SL.st2_2 113 ?_
  refine E.fo (W.rg ?_)
  refine SL.v (O.fr 1 0 u79) ?_
  refine SL.v (O.l1 u59) ?_
  refine SL.v (O.le u59) ?_
  refine SL.o (E.fo (W.block ?_))
  refine W.loopx2 (fun (j : Nat) (t : Tk) => [(60, vI (j : Int))]) (fun (j : Nat) (t : Tk) => [(114, .mp (mpE pairV Value.bool (t.has))), (115, .mp (mpE (fun a : Int => Value.int .i64 a) Value.bool (t.hol))), (105, .cells 132 [.own 114]), (106, .cells 133 [.own 115])]) (fun (j : Nat) (t : Tk) => j ≤ s.lns[i]!.q.length ∧ (apQ s.lns[i]!.work (s.lns[i]!.q.drop j) t).bind (apLs (s.lns.drop (i + 1))) = ((apCs s.cps (⟨[], []⟩, [])).bind fun x => apLs s.lns x.1)) (fun (j : Nat) (t : Tk) => s.lns[i]!.q.length - j) (0) (t) (rn [(114, 111), (115, 112)]) (.cons (t := 6) rfl (.cons (t := 10) rfl (.cons (t := 51) rfl (.cons (t := 52) rfl (.cons (t := 53) rfl (.cons (t := 58) rfl (.cons (t := 59) rfl .nil))))))) (.cons (t := 101) rfl (.cons (t := 109) rfl (.cons (t := 113) rfl .nil))) rfl ?_ ?_ rfl rfl ?_ ?_
  · exact zH
  · exact wW
  ·exact ⟨xA, by rw [← hap, apLs_at xA]; rfl⟩
  intro j t hinv
  obtain ⟨hj, hq⟩ := hinv
  refine W.rg ?_
  refine SL.v (O.lss) ?_
  refine E.fo (W.seq ?_)
  refine W.cc rfl (fun hc7 => ?_) fun hc7 => ?_
  ·refine W.skip (E.to (W.seq (W.block (W.rg ?_))))
   refine SL.v (O.ix u59 hi96 hs96) ?_
   refine SL.v (O.lU 5 u96) ?_
   refine SL.al1 116 ?_
   refine SL.st5_5 116 ?_
   refine E.fo (W.rg (SL.o ?_))
   refine SL.v (O.fr 1 0 u96) ?_
   refine SL.v (O.l1 u3) ?_
   refine SL.v (O.fr 0 0 u79) ?_
   refine SL.v (O.l1 u3) ?_
   refine SL.v (O.fr 0 0 u96) ?_
   refine SL.v (O.l1 u3) ?_
   refine SL.cl [(0, 105), (1, 114), (2, 106), (3, 115)] [] (.u _) ((105, .cells _ [.own 114]) :: (114, .mp _) :: (106, .cells _ [.own 115]) :: (115, .mp _) :: _) (q := take_h (t := t) (p := s.lns[i]!.q[j]!.pat) (wk := s.lns[i]!.work) (h := s.lns[i]!.q[j]!.id))  (h := ?_)
   refine SL.v (O.nt) ?_
   refine E.fo ?_
   refine W.cc rfl (fun hc8 => ?_) fun hc8 => ?_
   ·have htk : (tkF t s.lns[i]!.q[j]!.pat s.lns[i]!.work s.lns[i]!.q[j]!.id).isSome = false := by first | assumption | simp_all
    refine W.rg (SL.a (E.fo (W.ret ?_)))
    refine E.inr ?_
    refine E.thr (E.thr ?_)
    refine E.inr ?_
    refine E.inr ?_
    refine E.thr (E.thr ?_)
    refine E.inr ?_
    refine E.thr ?_
    refine E.h1 [] ?_
    ·exact iv_bool (by unfold apartB; rw [← hq, apQ_n xA htk]; rfl)
   have htk : (tkF t s.lns[i]!.q[j]!.pat s.lns[i]!.work s.lns[i]!.q[j]!.id).isSome = true := by first | assumption | simp_all
   refine W.skip (E.inn (E.to (W.region ?_)))
   refine SL.v (O.ad) ?_
   refine SL.o (SL.nil ?_)
   refine E.ai ((j + 1), ((tkN t s.lns[i]!.q[j]!.pat s.lns[i]!.work s.lns[i]!.q[j]!.id))) [] ?_
   ·try dsimp only
    exact ⟨xA, by rw [← apQ_y xA htk]; exact hq⟩
  refine W.exit (E.th (E.th (E.hit (E.inn (E.to (W.region ?_))))))
  refine SL.v (O.ad) ?_
  refine SL.o (SL.nil ?_)
  refine E.ai ((i + 1), (t)) [(111, 114), (112, 115)] ?_
  ·try dsimp only
   have hjn : j = s.lns[i]!.q.length := by omega
   exact ⟨xA, by rw [hjn, List.drop_length] at hq; exact hq⟩
 refine W.exit (E.th (E.th (E.hit (E.to (W.rg (SL.a (E.fo (W.ret ?_))))))))
 refine E.h1 [] ?_
 ·exact iv_bool (by rw [show i = s.lns.length by omega, List.drop_length] at hap; unfold apartB; rw [← hap]; rfl)

end Go.Proofs.YtmekkjehkcjpdaaGreat
end
section
namespace Go.Proofs.YtmekkjehkcjpdaaGreat
open Go Go.RowKit Go.H Go.D57 Go.D58


set_option maxRecDepth 8000 in
set_option maxHeartbeats 3200000 in
theorem stvalid_h {s : St} :
    Con Tryz.prog 18 [vA [uI s.now, .sl 8 (s.cps.map eCp), .sl 2 (s.lns.map eLn)]] [] (vB (decide (validS s))) [] := by
 obtain ⟨i55, hi55, hz55, hs55, hb55⟩ := hinf55
 obtain ⟨i79, hi79, hz79, hs79, hb79⟩ := hinf79
 refine Con.en 103 Tryz.func18 fun τ w ok vs hin => ?_
 have hl0_1 := hin.lenA (i := 0) (j := 1) rfl rfl
 try rw [List.length_map] at hl0_1
 have hl0_2 := hin.lenA (i := 0) (j := 2) rfl rfl
 try rw [List.length_map] at hl0_2
 clear hin
 refine W.rg ?_
 refine SL.bx3 101 ?_
 refine SL.a (E.fo (W.seq (W.rg ?_)))
 refine SL.v (O.fr 0 0 u33) ?_
 refine SL.v (O.l1 u3) ?_
 refine SL.v (O.cp (q := in_h)) ?_
 refine SL.v (O.nt) ?_
 refine SL.o ?_
 refine SL.cs 4 false (fun hg1 => ?_) fun hg1 => ?_
 ·have hg1p := gP hg1
  refine SL.v (O.fr 1 0 u33 (tY hg1)) ?_
  refine SL.v (O.l1 u30 (tY hg1)) ?_
  refine SL.v (O.le u30 (tY hg1)) ?_
  refine SL.v (O.gtr (tY hg1)) ?_
  refine SL.v (O.pf hg1) ?_
  refine SL.o ?_
  refine SL.cs 10 false (fun hg2 => ?_) fun hg2 => ?_
  ·have hg2p := gP hg2
   refine SL.v (O.fr 2 0 u33 (tY hg2)) ?_
   refine SL.v (O.l1 u31 (tY hg2)) ?_
   refine SL.v (O.le u31 (tY hg2)) ?_
   refine SL.v (O.gtr (tY hg2)) ?_
   refine SL.v (O.pf hg2) ?_
   refine E.fo ?_
   refine W.cc rfl (fun hc3 => ?_) fun hc3 => ?_
   ·refine W.rg (SL.a (E.fo (W.ret (E.thr ?_))))
    refine E.h1 [] ?_
    ·exact zK
   have h0 : inB s.now 0 1000000 ∧ s.cps.length ≤ 60 ∧ s.lns.length ≤ 60 := ⟨by first | assumption | simp_all, xA, xA⟩
   refine W.skip (E.to (W.seq (W.rg ?_)))
   refine SL.v (O.fr 1 0 u33) ?_
   refine SL.v (O.l1 u30) ?_
   refine SL.v (O.le u30) ?_
   refine SL.o (E.fo (W.block ?_))
   refine W.lq (fun (k : Nat) => [(27, vI (k : Int))]) (fun (k : Nat) => []) (fun (k : Nat) => k ≤ s.cps.length ∧ ∀ j, j < k → vCp s j) (fun (k : Nat) => s.cps.length - k) (0) [] [(1, _), (25, _), (26, _)] [(101, _)] ?_ ?_
   ·exact yG
   intro k hinv
   obtain ⟨hk, hp⟩ := hinv
   refine W.rg ?_
   refine SL.v (O.lss) ?_
   refine E.fo (W.seq ?_)
   refine W.cc rfl (fun hc4 => ?_) fun hc4 => ?_
   ·refine W.skip (E.to (W.seq (W.block (W.rg (SL.o ?_)))))
    refine SL.v (O.ix u30 hi55 hs55) ?_
    refine SL.v (O.lU 8 u55) ?_
    refine SL.al3 102 ?_
    refine SL.a ?_
    refine SL.st8_8 102 ?_
    refine E.fo (W.seq ?_)
    refine W.dr [pX 102, pW 101, pX 101, pO, pO, pO, pO, pO, pO, pW 102, pX 102, pW 101, pX 101, pO, pO, pO, pO, pO, pO, pO, pO] ?_
    refine WH.v (O.n8 u55) ?_
    refine WH.v (O.fr 0 0 u33) ?_
    refine WH.v (O.l1 u3) ?_
    refine WH.v (O.cp (q := copyValid_h (c := s.cps[k]!) (now := s.now))) ?_
    refine WH.v (O.nt) ?_
    refine WH.o rfl ?_
    refine WH.cs 5 false (fun hg5 => ?_) fun hg5 => ?_
    ·have hg5p := gP hg5
     refine WH.v (O.mo (tY hg5)) ?_
     refine WH.v (O.gtr (tY hg5)) ?_
     refine WH.v (O.mo (tY hg5)) ?_
     refine WH.cs 8 true (fun hg6 => ?_) fun hg6 => ?_
     ·have hg6p := gP hg6
      refine WH.v (O.fr 0 0 u55 (tY hg6)) ?_
      refine WH.v (O.l1 u3 (tY hg6)) ?_
      refine WH.v (O.fr 1 0 u33 (tY hg6)) ?_
      refine WH.v (O.l1 u30 (tY hg6)) ?_
      refine WH.v (O.mo (tY hg6)) ?_
      refine WH.v (O.sb (tY hg6)) ?_
      refine WH.v (O.idx_fz (i := (k - 1)) rfl rfl xA (row_get xA) u30 hi55 hs55 rfl (Taken.yes rfl rfl hg6)) ?_
      refine WH.v (O.ff 0 u55 (tY hg6)) ?_
      refine WH.v (O.l1f u3 (tY hg6)) ?_
      refine WH.v (O.leq (tY hg6)) ?_
      refine WH.v (O.pt hg6 (tY hg5)) ?_
      refine WH.v (O.pf hg5) ?_
      refine WH.nil (E.to ?_)
      refine W.pk [(1,_),(25,_),(26,_),(27,_),(52,_)] [(101,_),(102,_)] ?_
      refine W.cc rfl (fun hc7 => ?_) fun hc7 => ?_
      ·refine W.rg (SL.a (E.fo (W.ret ?_)))
       refine E.inr ?_
       refine E.thr (E.thr ?_)
       refine E.inr ?_
       refine E.thr ?_
       refine E.h1 [] ?_
       ·exact wH
      refine W.skip (E.inn (E.to (W.region ?_)))
      refine SL.v (O.ad) ?_
      refine SL.o (SL.nil ?_)
      refine E.ai (k + 1) [] ?_
      ·try dsimp only
       exact ⟨xA, upto_s hp ⟨by first | assumption | simp_all, fun h0 => by first | omega | (simp_all; omega)⟩⟩
     have hg6p := gP hg6
     refine WH.k hg6 (WH.k hg6 (WH.k hg6 (WH.k hg6 (WH.k hg6 (WH.k hg6 (WH.k hg6 (WH.k hg6 (WH.k hg6 (WH.k hg6 ?_)))))))))
     refine WH.v (O.pf (G.ne_t hg6) (tY hg5)) ?_
     refine WH.v (O.pf hg5) ?_
     refine WH.nil (E.to ?_)
     refine W.pk [(1,_),(25,_),(26,_),(27,_),(52,_)] [(101,_),(102,_)] ?_
     refine W.cond_f rfl ?_
     refine W.skip (E.inn (E.to (W.region ?_)))
     refine SL.v (O.ad) ?_
     refine SL.o (SL.nil ?_)
     refine E.ai (k + 1) [] ?_
     ·try dsimp only
      exact ⟨xA, upto_s hp ⟨by first | assumption | simp_all, fun h0 => by first | omega | (simp_all; omega)⟩⟩
    have hg5p := gP hg5
    refine WH.k hg5 (WH.k hg5 (WH.k hg5 ?_))
    refine WH.s2 ?_
    refine WH.s2 ?_
    refine WH.s2 ?_
    refine WH.s2 ?_
    refine WH.s2 ?_
    refine WH.s2 ?_
    refine WH.s2 ?_
    refine WH.s2 ?_
    refine WH.s2 ?_
    refine WH.s2 ?_
    refine WH.k hg5 ?_
    refine WH.v (O.pt (G.ne_f hg5)) ?_
    refine WH.nil (E.to ?_)
    refine W.pk [(1,_),(25,_),(26,_),(27,_),(52,_)] [(101,_),(102,_)] ?_
    refine W.cond_t rfl ?_
    refine W.rg (SL.a (E.fo (W.ret ?_)))
    refine E.inr ?_
    refine E.thr (E.thr ?_)
    refine E.inr ?_
    refine E.thr ?_
    refine E.h1 [] ?_
    ·exact wH
   refine W.exit (E.th (E.th (E.hit (E.to (W.seq (W.rg ?_))))))
   refine SL.v (O.fr 2 0 u33) ?_
   refine SL.v (O.l1 u31) ?_
   refine SL.v (O.le u31) ?_
   refine SL.o (E.fo (W.block ?_))
   refine W.lq (fun (i : Nat) => [(57, vI (i : Int))]) (fun (i : Nat) => []) (fun (i : Nat) => i ≤ s.lns.length ∧ ∀ j, j < i → vLn s j) (fun (i : Nat) => s.lns.length - i) (0) [] [(1, _), (55, _), (56, _)] [(101, _)] ?_ ?_
   ·exact yG
   intro i hinv
   obtain ⟨hi, hq⟩ := hinv
   refine W.rg ?_
   refine SL.v (O.lss) ?_
   refine E.fo (W.seq ?_)
   refine W.cc rfl (fun hc8 => ?_) fun hc8 => ?_
   ·have hc2_ := cnt_len s.cps s.lns[i]!.work 2
    have hc3_ := cnt_len s.cps s.lns[i]!.work 3
    refine W.skip (E.to (W.seq (W.block (W.rg (SL.o ?_)))))
    refine SL.v (O.ix u31 hi79 hs79) ?_
    refine SL.v (O.lU 2 u79) ?_
    refine SL.al7 103 ?_
    refine SL.a ?_
    refine SL.st2_2 103 ?_
    refine E.fo (W.rg ?_)
    refine SL.v (O.n3 u33) ?_
    refine SL.v (O.fr 0 0 u79) ?_
    refine SL.v (O.l1 u3) ?_
    refine SL.cl [] [] (.agg [.u _, .u _, .u _]) _ (q := count_h (s := s) (work := s.lns[i]!.work))  (h := ?_)
    refine SL.al4 104 ?_
    refine SL.st3_3 104 ?_
    refine E.fo (W.seq ?_)
    refine W.dr [pX 103, pW 101, pX 101, pO, pO, pO, pO, pO, pO, pW 103, pX 103, pW 101, pX 101, pO, pO, pO, pO, pO, pO, pO, pO, pO, pW 104, pX 104, pO, pO, pO, pW 104, pX 104, pW 104, pX 104, pO, pO, pO] ?_
    refine WH.v (O.n2 u79) ?_
    refine WH.v (O.fr 0 0 u33) ?_
    refine WH.v (O.l1 u3) ?_
    refine WH.v (O.cp (q := lineValid_h (l := s.lns[i]!) (now := s.now))) ?_
    refine WH.v (O.nt) ?_
    refine WH.o rfl ?_
    refine WH.cs 5 false (fun hg9 => ?_) fun hg9 => ?_
    ·have hg9p := gP hg9
     refine WH.v (O.mo (tY hg9)) ?_
     refine WH.v (O.gtr (tY hg9)) ?_
     refine WH.v (O.mo (tY hg9)) ?_
     refine WH.cs 8 true (fun hg10 => ?_) fun hg10 => ?_
     ·have hg10p := gP hg10
      refine WH.v (O.fr 0 0 u79 (tY hg10)) ?_
      refine WH.v (O.l1 u3 (tY hg10)) ?_
      refine WH.v (O.fr 2 0 u33 (tY hg10)) ?_
      refine WH.v (O.l1 u31 (tY hg10)) ?_
      refine WH.v (O.mo (tY hg10)) ?_
      refine WH.v (O.sb (tY hg10)) ?_
      refine WH.v (O.idx_fz (i := (i - 1)) rfl rfl xA (row_get xA) u31 hi79 hs79 rfl (Taken.yes rfl rfl hg10)) ?_
      refine WH.v (O.ff 0 u79 (tY hg10)) ?_
      refine WH.v (O.l1f u3 (tY hg10)) ?_
      refine WH.v (O.leq (tY hg10)) ?_
      refine WH.v (O.pt hg10 (tY hg9)) ?_
      refine WH.v (O.pf hg9) ?_
      refine WH.o rfl ?_
      refine WH.cs 21 false (fun hg11 => ?_) fun hg11 => ?_
      ·have hg11p := gP hg11
       refine WH.v (O.idx_ref (i := 0) (m := 1) rfl rfl yT xI u56 xG rfl rfl (Taken.yes rfl rfl hg11)) ?_
       refine WH.v (O.l1 u3 (tY hg11)) ?_
       refine WH.v (O.gtr (tY hg11)) ?_
       refine WH.v (O.pf hg11) ?_
       refine WH.o rfl ?_
       refine WH.cs 26 false (fun hg12 => ?_) fun hg12 => ?_
       ·have hg12p := gP hg12
        refine WH.v (O.idx_ref (i := 1) (m := 1) rfl rfl yT xI u56 xG rfl rfl (Taken.yes rfl rfl hg12)) ?_
        refine WH.v (O.l1 u3 (tY hg12)) ?_
        refine WH.v (O.idx_ref (i := 2) (m := 1) rfl rfl yT xI u56 xG rfl rfl (Taken.yes rfl rfl hg12)) ?_
        refine WH.v (O.l1 u3 (tY hg12)) ?_
        refine WH.v (O.ad (tY hg12)) ?_
        refine WH.v (O.eql (tY hg12)) ?_
        refine WH.v (O.pf hg12) ?_
        refine WH.nil (E.to ?_)
        refine W.pk [(1,_),(55,_),(56,_),(57,_),(99,_)] [(101,_),(103,_),(104,_)] ?_
        refine W.cc rfl (fun hc13 => ?_) fun hc13 => ?_
        ·refine W.rg (SL.a (E.fo (W.ret ?_)))
         refine E.inr ?_
         refine E.thr (E.thr ?_)
         refine E.inr ?_
         refine E.thr ?_
         refine E.h1 [] ?_
         ·exact xY
        refine W.skip (E.inn (E.to (W.region ?_)))
        refine SL.v (O.ad) ?_
        refine SL.o (SL.nil ?_)
        refine E.ai (i + 1) [] ?_
        ·try dsimp only
         exact ⟨xA, upto_s hq ⟨by first | assumption | simp_all, fun h0 => by first | omega | (simp_all; omega), xA, xA⟩⟩
       have hg12p := gP hg12
       refine WH.k hg12 (WH.k hg12 (WH.k hg12 (WH.k hg12 (WH.k hg12 (WH.k hg12 ?_)))))
       refine WH.v (O.pt (G.ne_f hg12)) ?_
       refine WH.nil (E.to ?_)
       refine W.pk [(1,_),(55,_),(56,_),(57,_),(99,_)] [(101,_),(103,_),(104,_)] ?_
       refine W.cond_t rfl ?_
       refine W.rg (SL.a (E.fo (W.ret ?_)))
       refine E.inr ?_
       refine E.thr (E.thr ?_)
       refine E.inr ?_
       refine E.thr ?_
       refine E.h1 [] ?_
       ·exact xY
      have hg11p := gP hg11
      refine WH.k hg11 (WH.k hg11 (WH.k hg11 ?_))
      refine WH.v (O.pt (G.ne_f hg11)) ?_
      refine WH.o rfl ?_
      have hg14 := G.ntf
      refine WH.k hg14 (WH.k hg14 (WH.k hg14 (WH.k hg14 (WH.k hg14 (WH.k hg14 ?_)))))
      refine WH.v (O.pt rfl) ?_
      refine WH.nil (E.to ?_)
      refine W.pk [(1,_),(55,_),(56,_),(57,_),(99,_)] [(101,_),(103,_),(104,_)] ?_
      refine W.cond_t rfl ?_
      refine W.rg (SL.a (E.fo (W.ret ?_)))
      refine E.inr ?_
      refine E.thr (E.thr ?_)
      refine E.inr ?_
      refine E.thr ?_
      refine E.h1 [] ?_
      ·exact xY
     have hg10p := gP hg10
     refine WH.k hg10 (WH.k hg10 (WH.k hg10 (WH.k hg10 (WH.k hg10 (WH.k hg10 (WH.k hg10 (WH.k hg10 (WH.k hg10 (WH.k hg10 ?_)))))))))
     refine WH.v (O.pf (G.ne_t hg10) (tY hg9)) ?_
     refine WH.v (O.pf hg9) ?_
     refine WH.o rfl ?_
     have hg15 : false = false := by decide
     refine WH.v (O.idx_ref (i := 0) (m := 1) rfl rfl yT xI u56 xG rfl rfl (Taken.yes rfl rfl hg15)) ?_
     refine WH.v (O.l1 u3 (tY hg15)) ?_
     refine WH.v (O.gtr (tY hg15)) ?_
     refine WH.v (O.pf rfl) ?_
     refine WH.o rfl ?_
     refine WH.cs 26 false (fun hg16 => ?_) fun hg16 => ?_
     ·have hg16p := gP hg16
      refine WH.v (O.idx_ref (i := 1) (m := 1) rfl rfl yT xI u56 xG rfl rfl (Taken.yes rfl rfl hg16)) ?_
      refine WH.v (O.l1 u3 (tY hg16)) ?_
      refine WH.v (O.idx_ref (i := 2) (m := 1) rfl rfl yT xI u56 xG rfl rfl (Taken.yes rfl rfl hg16)) ?_
      refine WH.v (O.l1 u3 (tY hg16)) ?_
      refine WH.v (O.ad (tY hg16)) ?_
      refine WH.v (O.eql (tY hg16)) ?_
      refine WH.v (O.pf hg16) ?_
      refine WH.nil (E.to ?_)
      refine W.pk [(1,_),(55,_),(56,_),(57,_),(99,_)] [(101,_),(103,_),(104,_)] ?_
      refine W.cc rfl (fun hc17 => ?_) fun hc17 => ?_
      ·refine W.rg (SL.a (E.fo (W.ret ?_)))
       refine E.inr ?_
       refine E.thr (E.thr ?_)
       refine E.inr ?_
       refine E.thr ?_
       refine E.h1 [] ?_
       ·exact xY
      refine W.skip (E.inn (E.to (W.region ?_)))
      refine SL.v (O.ad) ?_
      refine SL.o (SL.nil ?_)
      refine E.ai (i + 1) [] ?_
      ·try dsimp only
       exact ⟨xA, upto_s hq ⟨by first | assumption | simp_all, fun h0 => by first | omega | (simp_all; omega), xA, xA⟩⟩
     have hg16p := gP hg16
     refine WH.k hg16 (WH.k hg16 (WH.k hg16 (WH.k hg16 (WH.k hg16 (WH.k hg16 ?_)))))
     refine WH.v (O.pt (G.ne_f hg16)) ?_
     refine WH.nil (E.to ?_)
     refine W.pk [(1,_),(55,_),(56,_),(57,_),(99,_)] [(101,_),(103,_),(104,_)] ?_
     refine W.cond_t rfl ?_
     refine W.rg (SL.a (E.fo (W.ret ?_)))
     refine E.inr ?_
     refine E.thr (E.thr ?_)
     refine E.inr ?_
     refine E.thr ?_
     refine E.h1 [] ?_
     ·exact xY
    have hg9p := gP hg9
    refine WH.k hg9 (WH.k hg9 (WH.k hg9 ?_))
    refine WH.s2 ?_
    refine WH.s2 ?_
    refine WH.s2 ?_
    refine WH.s2 ?_
    refine WH.s2 ?_
    refine WH.s2 ?_
    refine WH.s2 ?_
    refine WH.s2 ?_
    refine WH.s2 ?_
    refine WH.s2 ?_
    refine WH.k hg9 ?_
    refine WH.v (O.pt (G.ne_f hg9)) ?_
    refine WH.o rfl ?_
    have hg18 := G.ntf
    refine WH.k hg18 (WH.k hg18 (WH.k hg18 ?_))
    refine WH.v (O.pt rfl) ?_
    refine WH.o rfl ?_
    have hg19 := G.ntf
    refine WH.k hg19 (WH.k hg19 (WH.k hg19 (WH.k hg19 (WH.k hg19 (WH.k hg19 ?_)))))
    refine WH.v (O.pt rfl) ?_
    refine WH.nil (E.to ?_)
    refine W.pk [(1,_),(55,_),(56,_),(57,_),(99,_)] [(101,_),(103,_),(104,_)] ?_
    refine W.cond_t rfl ?_
    refine W.rg (SL.a (E.fo (W.ret ?_)))
    refine E.inr ?_
    refine E.thr (E.thr ?_)
    refine E.inr ?_
    refine E.thr ?_
    refine E.h1 [] ?_
    ·exact xY
   refine W.exit (E.th (E.th (E.hit (E.to (W.rg ?_)))))
   have hin : i = s.lns.length := by omega
   have hkn : k = s.cps.length := by omega
   have hql : ∀ l ∈ s.lns, l.q.length ≤ 1000000 := fun l hl => by obtain ⟨j, hj, rfl⟩ := List.getElem_of_mem hl; have := (hq j xA).1.2.1.2; rw [getElem!_pos s.lns j hj] at this; omega
   refine SL.v (O.n3 u33) ?_
   refine SL.v (O.cp (q := apart_h (s := s) hql)) ?_
   refine SL.a (E.fo (W.ret ?_))
   refine E.h1 [] ?_
   ·exact iv_bool (dec_b ⟨fun q => q.2.2.2.2.2, fun q => ⟨h0.1, h0.2.1, h0.2.2, fun j hj => hp j xA, fun j hj => hq j xA, q⟩⟩)
  have hg2p := gP hg2
  refine SL.k hg2 (SL.k hg2 (SL.k hg2 (SL.k hg2 ?_)))
  refine SL.v (O.pt (G.ne_f hg2)) ?_
  refine E.fo ?_
  refine W.cond_t rfl ?_
  refine W.rg (SL.a (E.fo (W.ret (E.thr ?_))))
  refine E.h1 [] ?_
  ·exact zK
 have hg1p := gP hg1
 refine SL.k hg1 (SL.k hg1 (SL.k hg1 (SL.k hg1 ?_)))
 refine SL.v (O.pt (G.ne_f hg1)) ?_
 refine SL.o ?_
 have hg20 := G.ntf
 refine SL.k hg20 (SL.k hg20 (SL.k hg20 (SL.k hg20 ?_)))
 refine SL.v (O.pt rfl) ?_
 refine E.fo ?_
 refine W.cond_t rfl ?_
 refine W.rg (SL.a (E.fo (W.ret (E.thr ?_))))
 refine E.h1 [] ?_
 ·exact zK

end Go.Proofs.YtmekkjehkcjpdaaGreat
end
section
namespace Go.Proofs.YtmekkjehkcjpdaaGreat
open Go Go.RowKit Go.H Go.D57 Go.D58



set_option maxRecDepth 8000 in
theorem fields_h {x : Sp} :
    Con Tryz.prog 25 [vA (eSp x)] [] (.agg [vI (fldS x).kind, vI (fldS x).copy, vI (fldS x).work, vI (fldS x).pat, vI (fldS x).hold, vI (fldS x).cls, vI (fldS x).days, vT (fldS x).lib]) [] := by
 refine Con.en 60 Tryz.func25 fun τ w ok vs hin => ?_
 clear hin
 refine W.rg ?_
 refine SL.bx8 101 ?_
 refine SL.al8 102 ?_
 refine E.fo (W.rg ?_)
 refine SL.v (O.fr 0 0 u38) ?_
 refine SL.v (O.l1 u3) ?_
 refine SL.v (O.bd4 u38) ?_
 refine SL.al8 103 ?_
 refine SL.st8_8 103 ?_
 refine E.fo (W.seq (W.rg ?_))
 refine SL.v (O.fr 0 0 u38) ?_
 refine SL.v (O.l1 u3) ?_
 refine E.fo (W.block (W.rg ?_))
 refine SL.v (O.eql) ?_
 refine SL.a (E.fo ?_)
 refine W.cc rfl (fun hc1 => ?_) fun hc1 => ?_
 ·refine W.dr [pW 101, pX 101, pW 101, pX 101, pW 101, pX 101, pW 103, ⟨[103], [103], [], []⟩, pW 103, ⟨[103], [103], [], []⟩, pW 103, ⟨[103], [103], [], []⟩] ?_
  refine WH.v (O.fr 1 0 u38) ?_
  refine WH.v (O.l1 u3) ?_
  refine WH.v (O.fr 2 0 u38) ?_
  refine WH.v (O.l1 u3) ?_
  refine WH.v (O.fr 7 0 u38) ?_
  refine WH.v (O.l1 u9) ?_
  refine WH.v (O.fr 1 0 u38) ?_
  refine WH.st1_8 103 ?_
  refine WH.v (O.fr 2 0 u38) ?_
  refine WH.st1_8 103 ?_
  refine WH.v (O.fr 7 0 u38) ?_
  refine WH.st1_8 103 ?_
  refine WH.nil (E.inn (E.to (W.rg ?_)))
  refine SL.v (O.n8 u38) ?_
  refine SL.st8_8 102 ?_
  refine E.fo (W.ret ?_)
  refine E.j1 [] rfl (ResOne.c8 u38) ?_
  ·exact xB
 refine W.seq (W.rg ?_)
 refine SL.v (O.eql) ?_
 refine SL.a (E.fo ?_)
 refine W.cc rfl (fun hc2 => ?_) fun hc2 => ?_
 ·refine W.skip (E.to ?_)
  refine W.cc rfl (fun hc3 => ?_) fun hc3 => ?_
  ·refine W.region ?_
   refine SL.v (O.fr 1 0 u38) ?_
   refine SL.v (O.l1 u3) ?_
   refine SL.v (O.fr 1 0 u38) ?_
   refine SL.st1_8 103 ?_
   refine SL.nil (E.inn (E.to (W.rg ?_)))
   refine SL.v (O.n8 u38) ?_
   refine SL.st8_8 102 ?_
   refine E.fo (W.ret ?_)
   refine E.j1 [] rfl (ResOne.c8 u38) ?_
   ·exact xB
  refine W.rg ?_
  refine SL.v (O.eql) ?_
  refine SL.a (E.fo ?_)
  refine W.cc rfl (fun hc4 => ?_) fun hc4 => ?_
  ·refine W.dr [pW 101, pX 101, pW 101, pX 101, pW 103, ⟨[103], [103], [], []⟩, pW 103, ⟨[103], [103], [], []⟩] ?_
   refine WH.v (O.fr 1 0 u38) ?_
   refine WH.v (O.l1 u3) ?_
   refine WH.v (O.fr 3 0 u38) ?_
   refine WH.v (O.l1 u3) ?_
   refine WH.v (O.fr 1 0 u38) ?_
   refine WH.st1_8 103 ?_
   refine WH.v (O.fr 3 0 u38) ?_
   refine WH.st1_8 103 ?_
   refine WH.nil (E.inn (E.to (W.rg ?_)))
   refine SL.v (O.n8 u38) ?_
   refine SL.st8_8 102 ?_
   refine E.fo (W.ret ?_)
   refine E.j1 [] rfl (ResOne.c8 u38) ?_
   ·exact xB
  refine W.rg ?_
  refine SL.v (O.eql) ?_
  refine SL.a (E.fo ?_)
  refine W.cc rfl (fun hc5 => ?_) fun hc5 => ?_
  ·refine W.dr [pW 101, pX 101, pW 101, pX 101, pW 101, pX 101, pW 101, pX 101, pW 103, ⟨[103], [103], [], []⟩, pW 103, ⟨[103], [103], [], []⟩, pW 103, ⟨[103], [103], [], []⟩, pW 103, ⟨[103], [103], [], []⟩] ?_
   refine WH.v (O.fr 2 0 u38) ?_
   refine WH.v (O.l1 u3) ?_
   refine WH.v (O.fr 3 0 u38) ?_
   refine WH.v (O.l1 u3) ?_
   refine WH.v (O.fr 4 0 u38) ?_
   refine WH.v (O.l1 u3) ?_
   refine WH.v (O.fr 5 0 u38) ?_
   refine WH.v (O.l1 u3) ?_
   refine WH.v (O.fr 2 0 u38) ?_
   refine WH.st1_8 103 ?_
   refine WH.v (O.fr 3 0 u38) ?_
   refine WH.st1_8 103 ?_
   refine WH.v (O.fr 4 0 u38) ?_
   refine WH.st1_8 103 ?_
   refine WH.v (O.fr 5 0 u38) ?_
   refine WH.st1_8 103 ?_
   refine WH.nil (E.inn (E.to ?_))
   refine W.pk [(2,_),(3,_)] [(101,_),(102,_),(103,_)] ?_
   refine W.rg ?_
   refine SL.v (O.n8 u38) ?_
   refine SL.st8_8 102 ?_
   refine E.fo (W.ret ?_)
   refine E.j1 [] rfl (ResOne.c8 u38) ?_
   ·exact xB
  refine W.rg ?_
  refine SL.v (O.eql) ?_
  refine SL.a (E.fo ?_)
  refine W.cc rfl (fun hc6 => ?_) fun hc6 => ?_
  ·refine W.region ?_
   refine SL.v (O.fr 4 0 u38) ?_
   refine SL.v (O.l1 u3) ?_
   refine SL.v (O.fr 4 0 u38) ?_
   refine SL.st1_8 103 ?_
   refine SL.nil (E.inn (E.to (W.rg ?_)))
   refine SL.v (O.n8 u38) ?_
   refine SL.st8_8 102 ?_
   refine E.fo (W.ret ?_)
   refine E.j1 [] rfl (ResOne.c8 u38) ?_
   ·exact xB
  refine W.rg ?_
  refine SL.v (O.eql) ?_
  refine SL.a (E.fo ?_)
  refine W.cc rfl (fun hc7 => ?_) fun hc7 => ?_
  ·refine W.region ?_
   refine SL.v (O.fr 6 0 u38) ?_
   refine SL.v (O.l1 u3) ?_
   refine SL.v (O.fr 6 0 u38) ?_
   refine SL.st1_8 103 ?_
   refine SL.nil (E.inn (E.to (W.rg ?_)))
   refine SL.v (O.n8 u38) ?_
   refine SL.st8_8 102 ?_
   refine E.fo ?_
   refine W.pk [(2,_)] [(101,_),(102,_),(103,_)] ?_
   refine W.ret ?_
   refine E.j1 [] rfl (ResOne.c8 u38) ?_
   ·exact xB
  refine W.skip (E.inn (E.to (W.rg ?_)))
  refine SL.v (O.n8 u38) ?_
  refine SL.st8_8 102 ?_
  refine E.fo (W.ret ?_)
  refine E.j1 [] rfl (ResOne.c8 u38) ?_
  ·exact xB
 refine W.rg ?_
 refine SL.v (O.eql) ?_
 refine SL.a (E.fo ?_)
 refine W.cc rfl (fun hc8 => ?_) fun hc8 => ?_
 ·refine W.skip (E.to ?_)
  refine W.cc rfl (fun hc9 => ?_) fun hc9 => ?_
  ·refine W.region ?_
   refine SL.v (O.fr 1 0 u38) ?_
   refine SL.v (O.l1 u3) ?_
   refine SL.v (O.fr 1 0 u38) ?_
   refine SL.st1_8 103 ?_
   refine SL.nil (E.inn (E.to (W.rg ?_)))
   refine SL.v (O.n8 u38) ?_
   refine SL.st8_8 102 ?_
   refine E.fo (W.ret ?_)
   refine E.j1 [] rfl (ResOne.c8 u38) ?_
   ·exact xB
  refine W.rg ?_
  refine SL.v (O.eql) ?_
  refine SL.a (E.fo ?_)
  refine W.cc rfl (fun hc10 => ?_) fun hc10 => ?_
  ·refine W.dr [pW 101, pX 101, pW 101, pX 101, pW 103, ⟨[103], [103], [], []⟩, pW 103, ⟨[103], [103], [], []⟩] ?_
   refine WH.v (O.fr 1 0 u38) ?_
   refine WH.v (O.l1 u3) ?_
   refine WH.v (O.fr 3 0 u38) ?_
   refine WH.v (O.l1 u3) ?_
   refine WH.v (O.fr 1 0 u38) ?_
   refine WH.st1_8 103 ?_
   refine WH.v (O.fr 3 0 u38) ?_
   refine WH.st1_8 103 ?_
   refine WH.nil (E.inn (E.to (W.rg ?_)))
   refine SL.v (O.n8 u38) ?_
   refine SL.st8_8 102 ?_
   refine E.fo (W.ret ?_)
   refine E.j1 [] rfl (ResOne.c8 u38) ?_
   ·exact xB
  refine W.rg ?_
  refine SL.v (O.eql) ?_
  refine SL.a (E.fo ?_)
  refine W.cc rfl (fun hc11 => ?_) fun hc11 => ?_
  ·refine W.dr [pW 101, pX 101, pW 101, pX 101, pW 101, pX 101, pW 101, pX 101, pW 103, ⟨[103], [103], [], []⟩, pW 103, ⟨[103], [103], [], []⟩, pW 103, ⟨[103], [103], [], []⟩, pW 103, ⟨[103], [103], [], []⟩] ?_
   refine WH.v (O.fr 2 0 u38) ?_
   refine WH.v (O.l1 u3) ?_
   refine WH.v (O.fr 3 0 u38) ?_
   refine WH.v (O.l1 u3) ?_
   refine WH.v (O.fr 4 0 u38) ?_
   refine WH.v (O.l1 u3) ?_
   refine WH.v (O.fr 5 0 u38) ?_
   refine WH.v (O.l1 u3) ?_
   refine WH.v (O.fr 2 0 u38) ?_
   refine WH.st1_8 103 ?_
   refine WH.v (O.fr 3 0 u38) ?_
   refine WH.st1_8 103 ?_
   refine WH.v (O.fr 4 0 u38) ?_
   refine WH.st1_8 103 ?_
   refine WH.v (O.fr 5 0 u38) ?_
   refine WH.st1_8 103 ?_
   refine WH.nil (E.inn (E.to ?_))
   refine W.pk [(2,_),(3,_)] [(101,_),(102,_),(103,_)] ?_
   refine W.rg ?_
   refine SL.v (O.n8 u38) ?_
   refine SL.st8_8 102 ?_
   refine E.fo (W.ret ?_)
   refine E.j1 [] rfl (ResOne.c8 u38) ?_
   ·exact xB
  refine W.rg ?_
  refine SL.v (O.eql) ?_
  refine SL.a (E.fo ?_)
  refine W.cc rfl (fun hc12 => ?_) fun hc12 => ?_
  ·refine W.region ?_
   refine SL.v (O.fr 4 0 u38) ?_
   refine SL.v (O.l1 u3) ?_
   refine SL.v (O.fr 4 0 u38) ?_
   refine SL.st1_8 103 ?_
   refine SL.nil (E.inn (E.to (W.rg ?_)))
   refine SL.v (O.n8 u38) ?_
   refine SL.st8_8 102 ?_
   refine E.fo ?_
   refine W.pk [(2,_)] [(101,_),(102,_),(103,_)] ?_
   refine W.ret ?_
   refine E.j1 [] rfl (ResOne.c8 u38) ?_
   ·exact xB
  refine W.rg ?_
  refine SL.v (O.eql) ?_
  refine SL.a (E.fo ?_)
  refine W.cc rfl (fun hc13 => ?_) fun hc13 => ?_
  ·refine W.region ?_
   refine SL.v (O.fr 6 0 u38) ?_
   refine SL.v (O.l1 u3) ?_
   refine SL.v (O.fr 6 0 u38) ?_
   refine SL.st1_8 103 ?_
   refine SL.nil (E.inn (E.to ?_))
   refine W.pk [(2,_),(3,_)] [(101,_),(102,_),(103,_)] ?_
   refine W.rg ?_
   refine SL.v (O.n8 u38) ?_
   refine SL.st8_8 102 ?_
   refine E.fo (W.ret ?_)
   refine E.j1 [] rfl (ResOne.c8 u38) ?_
   ·exact xB
  refine W.skip (E.inn (E.to (W.rg ?_)))
  refine SL.v (O.n8 u38) ?_
  refine SL.st8_8 102 ?_
  refine E.fo (W.ret ?_)
  refine E.j1 [] rfl (ResOne.c8 u38) ?_
  ·exact xB
 refine W.region ?_
 refine SL.v (O.eql) ?_
 refine SL.a (E.fo ?_)
 refine W.cc rfl (fun hc14 => ?_) fun hc14 => ?_
 ·refine W.region ?_
  refine SL.v (O.fr 1 0 u38) ?_
  refine SL.v (O.l1 u3) ?_
  refine SL.v (O.fr 1 0 u38) ?_
  refine SL.st1_8 103 ?_
  refine SL.nil (E.inn (E.to (W.rg ?_)))
  refine SL.v (O.n8 u38) ?_
  refine SL.st8_8 102 ?_
  refine E.fo (W.ret ?_)
  refine E.j1 [] rfl (ResOne.c8 u38) ?_
  ·exact xB
 refine W.rg ?_
 refine SL.v (O.eql) ?_
 refine SL.a (E.fo ?_)
 refine W.cc rfl (fun hc15 => ?_) fun hc15 => ?_
 ·refine W.dr [pW 101, pX 101, pW 101, pX 101, pW 103, ⟨[103], [103], [], []⟩, pW 103, ⟨[103], [103], [], []⟩] ?_
  refine WH.v (O.fr 1 0 u38) ?_
  refine WH.v (O.l1 u3) ?_
  refine WH.v (O.fr 3 0 u38) ?_
  refine WH.v (O.l1 u3) ?_
  refine WH.v (O.fr 1 0 u38) ?_
  refine WH.st1_8 103 ?_
  refine WH.v (O.fr 3 0 u38) ?_
  refine WH.st1_8 103 ?_
  refine WH.nil (E.inn (E.to ?_))
  refine W.pk [(2,_),(3,_)] [(101,_),(102,_),(103,_)] ?_
  refine W.rg ?_
  refine SL.v (O.n8 u38) ?_
  refine SL.st8_8 102 ?_
  refine E.fo (W.ret ?_)
  refine E.j1 [] rfl (ResOne.c8 u38) ?_
  ·exact xB
 refine W.rg ?_
 refine SL.v (O.eql) ?_
 refine SL.a (E.fo ?_)
 refine W.cc rfl (fun hc16 => ?_) fun hc16 => ?_
 ·refine W.dr [pW 101, pX 101, pW 101, pX 101, pW 101, pX 101, pW 101, pX 101, pW 103, ⟨[103], [103], [], []⟩, pW 103, ⟨[103], [103], [], []⟩, pW 103, ⟨[103], [103], [], []⟩, pW 103, ⟨[103], [103], [], []⟩] ?_
  refine WH.v (O.fr 2 0 u38) ?_
  refine WH.v (O.l1 u3) ?_
  refine WH.v (O.fr 3 0 u38) ?_
  refine WH.v (O.l1 u3) ?_
  refine WH.v (O.fr 4 0 u38) ?_
  refine WH.v (O.l1 u3) ?_
  refine WH.v (O.fr 5 0 u38) ?_
  refine WH.v (O.l1 u3) ?_
  refine WH.v (O.fr 2 0 u38) ?_
  refine WH.st1_8 103 ?_
  refine WH.v (O.fr 3 0 u38) ?_
  refine WH.st1_8 103 ?_
  refine WH.v (O.fr 4 0 u38) ?_
  refine WH.st1_8 103 ?_
  refine WH.v (O.fr 5 0 u38) ?_
  refine WH.st1_8 103 ?_
  refine WH.nil (E.inn (E.to ?_))
  refine W.pk [(2,_),(3,_)] [(101,_),(102,_),(103,_)] ?_
  refine W.rg ?_
  refine SL.v (O.n8 u38) ?_
  refine SL.st8_8 102 ?_
  refine E.fo (W.ret ?_)
  refine E.j1 [] rfl (ResOne.c8 u38) ?_
  ·exact xB
 refine W.rg ?_
 refine SL.v (O.eql) ?_
 refine SL.a (E.fo ?_)
 refine W.cc rfl (fun hc17 => ?_) fun hc17 => ?_
 ·refine W.region ?_
  refine SL.v (O.fr 4 0 u38) ?_
  refine SL.v (O.l1 u3) ?_
  refine SL.v (O.fr 4 0 u38) ?_
  refine SL.st1_8 103 ?_
  refine SL.nil (E.inn (E.to ?_))
  refine W.pk [(2,_),(3,_)] [(101,_),(102,_),(103,_)] ?_
  refine W.rg ?_
  refine SL.v (O.n8 u38) ?_
  refine SL.st8_8 102 ?_
  refine E.fo (W.ret ?_)
  refine E.j1 [] rfl (ResOne.c8 u38) ?_
  ·exact xB
 refine W.rg ?_
 refine SL.v (O.eql) ?_
 refine SL.a (E.fo ?_)
 refine W.pk [(1,_),(2,_),(3,_),(54,_)] [(101,_),(102,_),(103,_)] ?_
 refine W.cc rfl (fun hc18 => ?_) fun hc18 => ?_
 ·refine W.region ?_
  refine SL.v (O.fr 6 0 u38) ?_
  refine SL.v (O.l1 u3) ?_
  refine SL.v (O.fr 6 0 u38) ?_
  refine SL.st1_8 103 ?_
  refine SL.nil (E.inn (E.to (W.rg ?_)))
  refine SL.v (O.n8 u38) ?_
  refine SL.st8_8 102 ?_
  refine E.fo (W.ret ?_)
  refine E.j1 [] rfl (ResOne.c8 u38) ?_
  ·exact xB
 refine W.skip (E.inn (E.to (W.rg ?_)))
 refine SL.v (O.n8 u38) ?_
 refine SL.st8_8 102 ?_
 refine E.fo (W.ret ?_)
 refine E.j1 [] rfl (ResOne.c8 u38) ?_
 ·exact xB

end Go.Proofs.YtmekkjehkcjpdaaGreat
end
section
namespace Go.Proofs.YtmekkjehkcjpdaaGreat
open Go Go.RowKit Go.H Go.D57 Go.D58


theorem set_same {l : List Ln} {k : Nat} (h : k < l.length) : (l.map eLn).set k (eLn l[k]!) = l.map eLn := by
  apply List.ext_getElem
  · simp
  · intro i h1 h2
    rw [List.getElem_set]
    split
    · rename_i e; subst e; rw [List.getElem_map, getElem!_pos l k h]
    · rfl

set_option maxRecDepth 8000 in
theorem cloned_h {s : St} (hc : s.cps.length ≤ 1000000) (hl : s.lns.length ≤ 1000000) (hql : ∀ l ∈ s.lns, l.q.length ≤ 1000000) :
    Con Tryz.prog 34 [vA [uI s.now, .sl 8 (s.cps.map eCp), .sl 2 (s.lns.map eLn)]] [] (.agg [vI s.now, .own 0, .own 1]) [(0, .data 55 8 (s.cps.map eCp)), (1, .data 79 2 (s.lns.map eLn))] := by
 obtain ⟨i79, hi79, hz79, hs79, hb79⟩ := hinf79
 refine Con.en 32 Tryz.func34 fun τ w ok vs hin => ?_
 have hl0_1 := hin.lenA (i := 0) (j := 1) rfl rfl
 try rw [List.length_map] at hl0_1
 have hl0_2 := hin.lenA (i := 0) (j := 2) rfl rfl
 try rw [List.length_map] at hl0_2
 clear hin
 refine W.rg ?_
 refine SL.bx3 101 ?_
 refine SL.al9 102 ?_
 refine E.fo (W.seq ?_)
 refine W.dr [pW 101, pX 101, ⟨[103], [103], [103], []⟩, pW 101, pX 101, ⟨[104], [104], [104], []⟩, pW 101, ⟨[101, 103], [101], [], []⟩, pW 101, ⟨[101, 103, 104], [101], [], []⟩] ?_
 refine WH.v (O.fr 1 0 u33) ?_
 refine WH.v (O.l1 u30) ?_
 refine WH.cl [(0, 103)] [] (.own 103) ((103, .data _ _ _) :: _) (q := cloneC_h (l := s.cps) xA)  (h := ?_)
 refine WH.v (O.fr 2 0 u33) ?_
 refine WH.v (O.l1 u31) ?_
 refine WH.cl [(0, 104)] [] (.own 104) ((104, .data _ _ _) :: _) (q := cloneL_h (l := s.lns) xA)  (h := ?_)
 refine WH.v (O.fr 1 0 u33) ?_
 refine WH.st1_3 101 ?_
 refine WH.v (O.fr 2 0 u33) ?_
 refine WH.st1_3 101 ?_
 refine WH.nil (E.to (W.seq (W.rg ?_)))
 refine SL.v (O.fr 2 0 u33) ?_
 refine SL.v (O.l1 u31) ?_
 refine SL.v (O.lenE (SlOf.own rfl rfl) yB u31 rfl Taken.no) ?_
 refine SL.o (E.fo (W.block ?_))
 refine W.lq (fun (k : Nat) => [(15, vI (k : Int))]) (fun (k : Nat) => [(105, .data 55 8 (s.cps.map eCp)), (106, .data 79 2 (s.lns.map eLn)), (101, .cells 33 [vI s.now, .own 105, .own 106])]) (fun (k : Nat) => k ≤ s.lns.length) (fun (k : Nat) => s.lns.length - k) (0) [(105, 103), (106, 104)] [(1, _), (2, _), (14, _)] [(102, _)] ?_ ?_
 ·omega
 intro k hinv
 have hk := hinv
 refine W.rg ?_
 refine SL.v (O.lss) ?_
 refine E.fo (W.seq ?_)
 refine W.cc rfl (fun hc1 => ?_) fun hc1 => ?_
 ·have hqk := hql s.lns[k]! (at_mem xA)
  refine W.skip (E.to (W.seq (W.block (W.rg (SL.o (SL.a (E.fo ?_)))))))
  refine W.dr [pW 101, ⟨[101], [], [], [106]⟩, pO, pW 101, ⟨[101], [], [], [106]⟩, pO, pX 106, pW 106, pX 106, pO, pX 106, pW 106, ⟨[106], [106], [], []⟩] ?_
  refine WH.v (O.fr 2 0 u33) ?_
  refine WH.v (O.l1 u31) ?_
  refine WH.o rfl ?_
  refine WH.v (O.fr 2 0 u33) ?_
  refine WH.v (O.l1 u31) ?_
  refine WH.o rfl ?_
  refine WH.v (O.idx_own (i := k) rfl rfl rfl (rfl) xS u31 hi79 hs79 rfl Taken.no) ?_
  refine WH.v (O.fe 1 0 u79) ?_
  refine WH.v (O.ld1 (PtI.ofU (PtU.el rfl rfl (row_get xA))) rfl u59 rfl rfl Taken.no) ?_
  refine WH.v (O.cp (q := Con.fz (cloneQ_h (l := s.lns[k]!.q) xA) rfl rfl)) ?_
  refine WH.v (O.idx_own (i := k) rfl rfl rfl (rfl) xS u31 hi79 hs79 rfl Taken.no) ?_
  refine WH.v (O.fe 1 0 u79) ?_
  refine WH.effS (O.st_els (m := 1) rfl rfl rfl (us := [_]) rfl rfl xG yE (row_get xA) xP rfl rfl (rows' := s.lns.map eLn) (by exact set_same xA) Taken.no) rfl rfl rfl (S' := (106, _) :: _) rfl ?_
  refine WH.nil (E.inn (E.to (W.region ?_)))
  refine SL.v (O.ad) ?_
  refine SL.o (SL.nil ?_)
  refine E.ai (k + 1) [] ?_
  ·try dsimp only
   omega
 refine W.exit (E.th (E.th (E.hit (E.to (W.rg ?_)))))
 refine SL.v (O.n3 u33) ?_
 refine SL.st3_3 102 ?_
 refine E.fo (W.ret ?_)
 refine E.j1 [(0, 105), (1, 106)] rfl (ResOne.c3 u33) ?_
 ·rfl

end Go.Proofs.YtmekkjehkcjpdaaGreat
end
section
namespace Go.Proofs.YtmekkjehkcjpdaaGreat
open Go Go.RowKit Go.H Go.D57 Go.D58



theorem wt_fin {cs : List Cp} {i : Nat} {h : Hd} {now : Int} (_ : i < cs.length) {a b c d : List UV} : (((((cs.map eCp).set i a).set i b).set i c).set i d).set i [uI cs[i]!.id, uI cs[i]!.work, uT cs[i]!.lib, uI 3, uI h.pat, uI (if now + 7 ≤ 1000000 then now + 7 else 1000000), uI h.id, uB false] = (cs.set i (wtC cs[i]! h now)).map eCp := by
  rw [List.set_set, List.set_set, List.set_set, List.set_set, List.map_set]; rfl

set_option maxRecDepth 8000 in
theorem waits_h {s : St} {i : Nat} {h : Hd} (hi : i < s.cps.length) (hn : 0 ≤ s.now ∧ s.now ≤ 1000000) :
    Con Tryz.prog 76 [.ref 0 0, .el 1 8 i 0, vA (eH h)] [(0, .cells 33 [.u (uI s.now), .own 1, .own 2]), (1, .data 55 8 ((s.cps).map eCp)), (2, .data 79 2 ((s.lns).map eLn))] (.tup []) [(0, .cells 33 [.u (uI s.now), .own 1, .own 2]), (1, .data 55 8 ((s.cps.set i (wtC s.cps[i]! h s.now)).map eCp)), (2, .data 79 2 ((s.lns).map eLn))] := by
 refine Con.en 31 Tryz.func76 fun τ w ok vs hin => ?_
 clear hin
 refine W.rg ?_
 refine SL.bx5 101 ?_
 refine E.fo ?_
 refine W.dr [pW 1, pW 1, pW 1, pW 1, pW 1, pW 101, pX 101, pW 101, pX 101, pW 0, pW 0, pW 0, pX 0, pO, pO, pW 1, pW 1, ⟨[1], [1], [], []⟩, pW 1, pW 1, ⟨[1], [1], [], []⟩, pW 1, pW 1, ⟨[1], [1], [], []⟩, pW 1, pW 1, ⟨[1], [1], [], []⟩, pW 1, pW 1, ⟨[1], [1], [], []⟩] ?_
 refine WH.o rfl (WH.o rfl (WH.o rfl (WH.o rfl (WH.o rfl ?_))))
 refine WH.v (O.fr 1 0 u96) ?_
 refine WH.v (O.l1 u3) ?_
 refine WH.v (O.fr 0 0 u96) ?_
 refine WH.v (O.l1 u3) ?_
 refine WH.o rfl ?_
 refine WH.v (O.nc) ?_
 refine WH.v (O.fr 0 0 u33) ?_
 refine WH.v (O.l1 u3) ?_
 refine WH.v (O.ad) ?_
 refine WH.v (O.det (fun _ => G.R.mv (G.R.min2 rfl rfl) (congrArg (Value.int .i64) (show _ = (if s.now + 7 ≤ 1000000 then s.now + 7 else 1000000) by omega))) rfl Taken.no) ?_
 refine WH.v (O.nc) ?_
 refine WH.v (O.fe 3 0 u55) ?_
 refine WH.effS (O.st_els (m := 1) rfl rfl rfl (us := [_]) rfl rfl xG yE (row_get xA) xP rfl rfl (rows' := ((s.cps.map eCp).set i [uI s.cps[i]!.id, uI s.cps[i]!.work, uT s.cps[i]!.lib, uI 3, uI s.cps[i]!.pat, uI s.cps[i]!.due, uI s.cps[i]!.hold, uB s.cps[i]!.rc])) yT Taken.no) rfl rfl rfl (S' := (1, _) :: _) rfl ?_
 refine WH.v (O.nc) ?_
 refine WH.v (O.fe 4 0 u55) ?_
 refine WH.effS (O.st_els (m := 1) rfl rfl rfl (us := [_]) rfl rfl xG yE (by rw [List.getElem?_set_self zX]) xP rfl rfl (rows' := (((s.cps.map eCp).set i [uI s.cps[i]!.id, uI s.cps[i]!.work, uT s.cps[i]!.lib, uI 3, uI s.cps[i]!.pat, uI s.cps[i]!.due, uI s.cps[i]!.hold, uB s.cps[i]!.rc]).set i [uI s.cps[i]!.id, uI s.cps[i]!.work, uT s.cps[i]!.lib, uI 3, uI h.pat, uI s.cps[i]!.due, uI s.cps[i]!.hold, uB s.cps[i]!.rc])) yT Taken.no) rfl rfl rfl (S' := (1, _) :: _) rfl ?_
 refine WH.v (O.nc) ?_
 refine WH.v (O.fe 6 0 u55) ?_
 refine WH.effS (O.st_els (m := 1) rfl rfl rfl (us := [_]) rfl rfl xG yE (by rw [List.getElem?_set_self xZ]) xP rfl rfl (rows' := ((((s.cps.map eCp).set i [uI s.cps[i]!.id, uI s.cps[i]!.work, uT s.cps[i]!.lib, uI 3, uI s.cps[i]!.pat, uI s.cps[i]!.due, uI s.cps[i]!.hold, uB s.cps[i]!.rc]).set i [uI s.cps[i]!.id, uI s.cps[i]!.work, uT s.cps[i]!.lib, uI 3, uI h.pat, uI s.cps[i]!.due, uI s.cps[i]!.hold, uB s.cps[i]!.rc]).set i [uI s.cps[i]!.id, uI s.cps[i]!.work, uT s.cps[i]!.lib, uI 3, uI h.pat, uI s.cps[i]!.due, uI h.id, uB s.cps[i]!.rc])) yT Taken.no) rfl rfl rfl (S' := (1, _) :: _) rfl ?_
 refine WH.v (O.nc) ?_
 refine WH.v (O.fe 5 0 u55) ?_
 refine WH.effS (O.st_els (m := 1) rfl rfl rfl (us := [_]) rfl rfl xG yE (by rw [List.getElem?_set_self xZ]) xP rfl rfl (rows' := (((((s.cps.map eCp).set i [uI s.cps[i]!.id, uI s.cps[i]!.work, uT s.cps[i]!.lib, uI 3, uI s.cps[i]!.pat, uI s.cps[i]!.due, uI s.cps[i]!.hold, uB s.cps[i]!.rc]).set i [uI s.cps[i]!.id, uI s.cps[i]!.work, uT s.cps[i]!.lib, uI 3, uI h.pat, uI s.cps[i]!.due, uI s.cps[i]!.hold, uB s.cps[i]!.rc]).set i [uI s.cps[i]!.id, uI s.cps[i]!.work, uT s.cps[i]!.lib, uI 3, uI h.pat, uI s.cps[i]!.due, uI h.id, uB s.cps[i]!.rc]).set i [uI s.cps[i]!.id, uI s.cps[i]!.work, uT s.cps[i]!.lib, uI 3, uI h.pat, uI (if s.now + 7 ≤ 1000000 then s.now + 7 else 1000000), uI h.id, uB s.cps[i]!.rc])) yT Taken.no) rfl rfl rfl (S' := (1, _) :: _) rfl ?_
 refine WH.v (O.nc) ?_
 refine WH.v (O.fe 7 0 u55) ?_
 refine WH.effS (O.st_els (m := 1) rfl rfl rfl (us := [_]) rfl rfl xG yE (by rw [List.getElem?_set_self xZ]) xP rfl rfl (rows' := ((((((s.cps.map eCp).set i [uI s.cps[i]!.id, uI s.cps[i]!.work, uT s.cps[i]!.lib, uI 3, uI s.cps[i]!.pat, uI s.cps[i]!.due, uI s.cps[i]!.hold, uB s.cps[i]!.rc]).set i [uI s.cps[i]!.id, uI s.cps[i]!.work, uT s.cps[i]!.lib, uI 3, uI h.pat, uI s.cps[i]!.due, uI s.cps[i]!.hold, uB s.cps[i]!.rc]).set i [uI s.cps[i]!.id, uI s.cps[i]!.work, uT s.cps[i]!.lib, uI 3, uI h.pat, uI s.cps[i]!.due, uI h.id, uB s.cps[i]!.rc]).set i [uI s.cps[i]!.id, uI s.cps[i]!.work, uT s.cps[i]!.lib, uI 3, uI h.pat, uI (if s.now + 7 ≤ 1000000 then s.now + 7 else 1000000), uI h.id, uB s.cps[i]!.rc]).set i [uI s.cps[i]!.id, uI s.cps[i]!.work, uT s.cps[i]!.lib, uI 3, uI h.pat, uI (if s.now + 7 ≤ 1000000 then s.now + 7 else 1000000), uI h.id, uB false])) yT Taken.no) rfl rfl rfl (S' := (1, _) :: _) rfl ?_
 refine WH.nil ?_
 refine E.fin (rs := []) (rn []) (.inr rfl) rfl .nil ?_ ?_ rfl (fixL_spec rfl)
 ·rfl
 · exact (SubS.cons rfl (SubS.val rfl (by exact sb_data (wt_fin hi)) (SubS.cons rfl SubS.nil)))

end Go.Proofs.YtmekkjehkcjpdaaGreat
end
section
namespace Go.Proofs.YtmekkjehkcjpdaaGreat
open Go Go.RowKit Go.H Go.D57 Go.D58

theorem hcallOk106 : G.callOk Tryz.prog 106 = true := by kernel_rfl

set_option maxRecDepth 8000 in
theorem owns1_h {c : Cp} {p wk : Int} :
    Con Tryz.prog 106 [vA (eCp c), .u (.ptr [uI wk]), .u (.ptr [uI p])] [] (vB (decide (c.place ≠ 1 ∧ c.work = wk ∧ c.pat = p))) [] := by
 refine Con.en 20 Tryz.func106 fun τ w ok vs hin => ?_
 clear hin
 refine W.rg ?_
 refine SL.bx8 101 ?_
 refine SL.a (E.fo (W.rg ?_))
 refine SL.v (O.fr 3 0 u55) ?_
 refine SL.v (O.l1 u3) ?_
 refine SL.v (O.neq) ?_
 refine SL.o ?_
 refine SL.cs 3 true (fun hg1 => ?_) fun hg1 => ?_
 ·have hg1p := gP hg1
  refine SL.v (O.fr 1 0 u55 (tY hg1)) ?_
  refine SL.v (O.l1 u3 (tY hg1)) ?_
  refine SL.v (O.l1f u3 (tY hg1)) ?_
  refine SL.v (O.eql (tY hg1)) ?_
  refine SL.v (O.pt hg1) ?_
  refine SL.o ?_
  refine SL.cs 9 true (fun hg2 => ?_) fun hg2 => ?_
  ·have hg2p := gP hg2
   refine SL.v (O.fr 4 0 u55 (tY hg2)) ?_
   refine SL.v (O.l1 u3 (tY hg2)) ?_
   refine SL.v (O.l1f u3 (tY hg2)) ?_
   refine SL.v (O.eql (tY hg2)) ?_
   refine SL.v (O.pt hg2) ?_
   refine SL.a (E.fo (W.ret ?_))
   refine E.h1 [] ?_
   ·exact yQ
  have hg2p := gP hg2
  refine SL.k hg2 (SL.k hg2 (SL.k hg2 (SL.k hg2 ?_)))
  refine SL.v (O.pf (G.ne_t hg2)) ?_
  refine SL.a (E.fo (W.ret ?_))
  refine E.h1 [] ?_
  ·exact yQ
 have hg1p := gP hg1
 refine SL.k hg1 (SL.k hg1 (SL.k hg1 (SL.k hg1 ?_)))
 refine SL.v (O.pf (G.ne_t hg1)) ?_
 refine SL.o ?_
 have hg3 := G.nft
 refine SL.k hg3 (SL.k hg3 (SL.k hg3 (SL.k hg3 ?_)))
 refine SL.v (O.pf rfl) ?_
 refine SL.a (E.fo (W.ret ?_))
 refine E.h1 [] ?_
 ·exact yQ

set_option maxRecDepth 8000 in
theorem owns_h {s : St} {p wk : Int} :
    Con Tryz.prog 72 [.ref 0 0, vI p, vI wk] [(0, .cells 33 [.u (uI s.now), .own 1, .own 2]), (1, .data 55 8 ((s.cps).map eCp)), (2, .data 79 2 ((s.lns).map eLn))] (vB (decide (0 ≤ idxF (fun c => decide (c.place ≠ 1 ∧ c.work = wk ∧ c.pat = p)) s.cps))) [(0, .cells 33 [.u (uI s.now), .own 1, .own 2]), (1, .data 55 8 ((s.cps).map eCp)), (2, .data 79 2 ((s.lns).map eLn))] := by
 refine Con.en 13 Tryz.func72 fun τ w ok vs hin => ?_
 clear hin
 refine W.rg ?_
 refine SL.bx1 101 ?_
 refine SL.bx1 102 ?_
 refine SL.a (E.fo (W.rg (SL.o ?_)))
 refine SL.v (O.nc) ?_
 refine SL.v (O.fr 1 0 u33) ?_
 refine SL.v (O.l1 u30) ?_
 refine SL.v (O.makeFunc rfl rfl rfl Taken.no) ?_
 refine SL.cl [] [1, 101, 102] (.u _) _ (q := containsFuncCp (q := s.cps) (f := 106) (caps := [.ptr [uI wk], .ptr [uI p]]) (pr := fun c => decide (c.place ≠ 1 ∧ c.work = wk ∧ c.pat = p)) hcallOk106 (fun x _ => owns1_h))  (fl := .inr ⟨rfl, fun x hx => by simp at hx⟩) (h := ?_)
 refine SL.a (E.fo (W.ret ?_))
 refine E.h1 [] ?_
 ·rfl

end Go.Proofs.YtmekkjehkcjpdaaGreat
end
section
namespace Go.Proofs.YtmekkjehkcjpdaaGreat
open Go Go.RowKit Go.H Go.D57 Go.D58

theorem hcallOk107 : G.callOk Tryz.prog 107 = true := by kernel_rfl
theorem hcallOk109 : G.callOk Tryz.prog 109 = true := by kernel_rfl
theorem hcallOk110 : G.callOk Tryz.prog 110 = true := by kernel_rfl

theorem or_f {a b : Bool} (h : a = false) : (a || b) = b := by rw [h]; rfl
theorem or_t {a b : Bool} (h : a = true) : (a || b) = true := by rw [h]; rfl

set_option maxRecDepth 8000 in
theorem used1_h {c : Cp} {h : Int} :
    Con Tryz.prog 107 [vA (eCp c), .u (.ptr [uI h])] [] (vB (decide (c.place = 3 ∧ c.hold = h))) [] := by
 refine Con.en 13 Tryz.func107 fun τ w ok vs hin => ?_
 clear hin
 refine W.rg ?_
 refine SL.bx8 101 ?_
 refine SL.a (E.fo (W.rg ?_))
 refine SL.v (O.fr 3 0 u55) ?_
 refine SL.v (O.l1 u3) ?_
 refine SL.v (O.eql) ?_
 refine SL.o ?_
 refine SL.cs 3 true (fun hg1 => ?_) fun hg1 => ?_
 ·have hg1p := gP hg1
  refine SL.v (O.fr 6 0 u55 (tY hg1)) ?_
  refine SL.v (O.l1 u3 (tY hg1)) ?_
  refine SL.v (O.l1f u3 (tY hg1)) ?_
  refine SL.v (O.eql (tY hg1)) ?_
  refine SL.v (O.pt hg1) ?_
  refine SL.a (E.fo (W.ret ?_))
  refine E.h1 [] ?_
  ·exact yQ
 have hg1p := gP hg1
 refine SL.k hg1 (SL.k hg1 (SL.k hg1 (SL.k hg1 ?_)))
 refine SL.v (O.pf (G.ne_t hg1)) ?_
 refine SL.a (E.fo (W.ret ?_))
 refine E.h1 [] ?_
 ·exact yQ

set_option maxRecDepth 8000 in
theorem used21_h {x : Hd} {h : Int} :
    Con Tryz.prog 110 [vA (eH x), .u (.ptr [uI h])] [] (vB (decide (x.id = h))) [] := by
 refine Con.en 8 Tryz.func110 fun τ w ok vs hin => ?_
 clear hin
 refine W.rg ?_
 refine SL.bx5 101 ?_
 refine SL.a (E.fo (W.rg ?_))
 refine SL.v (O.fr 0 0 u96) ?_
 refine SL.v (O.l1 u3) ?_
 refine SL.v (O.l1f u3) ?_
 refine SL.v (O.eql) ?_
 refine SL.a (E.fo (W.ret ?_))
 refine E.h1 [] ?_
 ·rfl

set_option maxRecDepth 8000 in
theorem used2_h {l : Ln} {h : Int} :
    Con Tryz.prog 109 [vA (eLn l), .u (.ptr [uI h])] [] (vB (decide (0 ≤ idxF (fun x : Hd => decide (x.id = h)) l.q))) [] := by
 refine Con.en 8 Tryz.func109 fun τ w ok vs hin => ?_
 clear hin
 refine W.rg ?_
 refine SL.bx2 101 ?_
 refine SL.a (E.fo (W.rg ?_))
 refine SL.v (O.fr 1 0 u79) ?_
 refine SL.v (O.l1 u59) ?_
 refine SL.v (O.makeFunc rfl rfl rfl Taken.no) ?_
 refine SL.v (O.cp (q := containsFunc_h (q := l.q) (f := 110) (caps := [.ptr [uI h]]) (pr := fun x => decide (x.id = h)) hcallOk110 (fun x => used21_h))) ?_
 refine SL.a (E.fo (W.ret ?_))
 refine E.h1 [] ?_
 ·rfl

set_option maxRecDepth 8000 in
theorem used_h {s : St} {h : Int} :
    Con Tryz.prog 73 [.ref 0 0, vI h] [(0, .cells 33 [.u (uI s.now), .own 1, .own 2]), (1, .data 55 8 ((s.cps).map eCp)), (2, .data 79 2 ((s.lns).map eLn))] (vB (decide (0 ≤ idxF (fun c : Cp => decide (c.place = 3 ∧ c.hold = h)) s.cps) || decide (0 ≤ idxF (fun l : Ln => decide (0 ≤ idxF (fun x : Hd => decide (x.id = h)) l.q)) s.lns))) [(0, .cells 33 [.u (uI s.now), .own 1, .own 2]), (1, .data 55 8 ((s.cps).map eCp)), (2, .data 79 2 ((s.lns).map eLn))] := by
 refine Con.en 19 Tryz.func73 fun τ w ok vs hin => ?_
 clear hin
 refine W.rg ?_
 refine SL.bx1 101 ?_
 refine SL.a (E.fo (W.rg (SL.o ?_)))
 refine SL.v (O.nc) ?_
 refine SL.v (O.fr 1 0 u33) ?_
 refine SL.v (O.l1 u30) ?_
 refine SL.v (O.makeFunc rfl rfl rfl Taken.no) ?_
 refine SL.cl [] [1, 101] (.u _) _ (q := containsFuncCp (q := s.cps) (f := 107) (caps := [.ptr [uI h]]) (pr := fun c => decide (c.place = 3 ∧ c.hold = h)) hcallOk107 (fun x _ => used1_h))  (fl := .inr ⟨rfl, fun x hx => by simp at hx⟩) (h := ?_)
 refine SL.o ?_
 refine SL.cs 6 false (fun hg1 => ?_) fun hg1 => ?_
 ·have hg1p := gP hg1
  refine SL.v (O.mo (tY hg1)) ?_
  refine SL.v (O.nc (tY hg1)) ?_
  refine SL.v (O.fr 2 0 u33 (tY hg1)) ?_
  refine SL.v (O.l1 u31 (tY hg1)) ?_
  refine SL.v (O.makeFunc rfl rfl rfl (Taken.yes rfl rfl hg1)) ?_
  refine SL.cl [] [2, 101] (.u _) _ (q := containsFuncLn (q := s.lns) (f := 109) (caps := [.ptr [uI h]]) (pr := fun l => decide (0 ≤ idxF (fun x : Hd => decide (x.id = h)) l.q)) hcallOk109 (fun x _ => used2_h))  (fl := .inr ⟨rfl, fun x hx => by simp at hx⟩) (hg := tY hg1) (h := ?_)
  refine SL.v (O.pf hg1) ?_
  refine SL.a (E.fo (W.ret ?_))
  refine E.h1 [] ?_
  ·exact wZ
 have hg1p := gP hg1
 refine SL.k hg1 (SL.k hg1 (SL.k hg1 (SL.k hg1 (SL.k hg1 (SL.k hg1 ?_)))))
 refine SL.v (O.pt (G.ne_f hg1)) ?_
 refine SL.a (E.fo (W.ret ?_))
 refine E.h1 [] ?_
 ·exact wZ

end Go.Proofs.YtmekkjehkcjpdaaGreat
end
section
namespace Go.Proofs.YtmekkjehkcjpdaaGreat
open Go Go.RowKit Go.H Go.D57 Go.D58



def ixC (s : St) (i : Int) : Nat := (idxF (fun c : Cp => decide (c.id = i)) s.cps).toNat

set_option maxRecDepth 8000 in
theorem copy_y {s : St} {i : Int} (hc : s.cps.length ≤ 1000000) (h0 : 0 ≤ (idxF (fun c : Cp => decide (c.id = i)) s.cps)) :
    Con Tryz.prog 64 [.ref 0 0, vI i] [(0, .cells 33 [.u (uI s.now), .own 1, .own 2]), (1, .data 55 8 ((s.cps).map eCp)), (2, .data 79 2 ((s.lns).map eLn))] (.el 1 8 (ixC s i) 0) [(0, .cells 33 [.u (uI s.now), .own 1, .own 2]), (1, .data 55 8 ((s.cps).map eCp)), (2, .data 79 2 ((s.lns).map eLn))] := by
 obtain ⟨i55, hi55, hz55, hs55, hb55⟩ := hinf55
 refine Con.en 31 Tryz.func64 fun τ w ok vs hin => ?_
 clear hin
 refine W.rg (SL.a (E.fo (W.seq (W.rg (SL.o ?_)))))
 refine SL.v (O.nc) ?_
 refine SL.v (O.fr 1 0 u33) ?_
 refine SL.v (O.l1 u30) ?_
 refine SL.v (O.lenE (SlOf.own rfl rfl) yB u30 rfl Taken.no) ?_
 refine SL.o (E.fo (W.block ?_))
 refine W.lq (fun (k : Nat) => [(11, vI (k : Int))]) (fun (k : Nat) => []) (fun (k : Nat) => k ≤ s.cps.length ∧ ∀ j, j < k → (fun c : Cp => decide (c.id = i)) s.cps[j]! = false) (fun (k : Nat) => s.cps.length - k) (0) [] [(0, _), (1, _), (10, _)] [(0, _), (1, _), (2, _)] ?_ ?_
 ·exact yG
 intro k hinv
 obtain ⟨hk, hp⟩ := hinv
 refine W.rg ?_
 refine SL.v (O.lss) ?_
 refine E.fo (W.seq ?_)
 refine W.cc rfl (fun hc1 => ?_) fun hc1 => ?_
 ·refine W.skip (E.to (W.seq (W.block (W.rg (SL.o (SL.a (E.fo (W.rg (SL.o ?_)))))))))
  refine SL.v (O.nc) ?_
  refine SL.v (O.fr 1 0 u33) ?_
  refine SL.v (O.l1 u30) ?_
  refine SL.o ?_
  refine SL.v (O.idx_own (i := k) rfl rfl rfl (rfl) xS u30 hi55 hs55 rfl Taken.no) ?_
  refine SL.v (O.fe 0 0 u55) ?_
  refine SL.v (O.ld1 (PtI.ofU (PtU.el rfl rfl (row_get xA))) rfl u3 rfl rfl Taken.no) ?_
  refine SL.o ?_
  refine SL.v (O.eql) ?_
  refine E.fo ?_
  refine W.cc rfl (fun hc2 => ?_) fun hc2 => ?_
  ·refine W.rg (SL.o ?_)
   refine SL.v (O.nc) ?_
   refine SL.v (O.fr 1 0 u33) ?_
   refine SL.v (O.l1 u30) ?_
   refine SL.o ?_
   refine SL.v (O.idx_own (i := k) rfl rfl rfl (rfl) xS u30 hi55 hs55 rfl Taken.no) ?_
   refine SL.a (E.fo (W.ret ?_))
   refine E.inr ?_
   refine E.thr (E.thr ?_)
   refine E.inr ?_
   refine E.thr ?_
   refine E.h1 [] ?_
   ·unfold ixC; rw [idxF_here (p := fun c : Cp => decide (c.id = i)) (k := k) xA hp (decide_eq_true xA)]; rfl
  refine W.skip (E.inn (E.to (W.region ?_)))
  refine SL.v (O.ad) ?_
  refine SL.o (SL.nil ?_)
  refine E.ai (k + 1) [] ?_
  ·try dsimp only
   exact zJ
 exfalso; (have hz := idxF_none (p := fun c : Cp => decide (c.id = i)) (k := k) (l := s.cps) xA hp); omega

set_option maxRecDepth 8000 in
theorem copy_n {s : St} {i : Int} (hc : s.cps.length ≤ 1000000) (h0 : ¬ 0 ≤ (idxF (fun c : Cp => decide (c.id = i)) s.cps)) :
    Con Tryz.prog 64 [.ref 0 0, vI i] [(0, .cells 33 [.u (uI s.now), .own 1, .own 2]), (1, .data 55 8 ((s.cps).map eCp)), (2, .data 79 2 ((s.lns).map eLn))] (.u (.sc (.pointer none))) [(0, .cells 33 [.u (uI s.now), .own 1, .own 2]), (1, .data 55 8 ((s.cps).map eCp)), (2, .data 79 2 ((s.lns).map eLn))] := by
 obtain ⟨i55, hi55, hz55, hs55, hb55⟩ := hinf55
 refine Con.en 31 Tryz.func64 fun τ w ok vs hin => ?_
 clear hin
 refine W.rg (SL.a (E.fo (W.seq (W.rg (SL.o ?_)))))
 refine SL.v (O.nc) ?_
 refine SL.v (O.fr 1 0 u33) ?_
 refine SL.v (O.l1 u30) ?_
 refine SL.v (O.lenE (SlOf.own rfl rfl) yB u30 rfl Taken.no) ?_
 refine SL.o (E.fo (W.block ?_))
 refine W.lq (fun (k : Nat) => [(11, vI (k : Int))]) (fun (k : Nat) => []) (fun (k : Nat) => k ≤ s.cps.length ∧ ∀ j, j < k → (fun c : Cp => decide (c.id = i)) s.cps[j]! = false) (fun (k : Nat) => s.cps.length - k) (0) [] [(0, _), (1, _), (10, _)] [(0, _), (1, _), (2, _)] ?_ ?_
 ·exact yG
 intro k hinv
 obtain ⟨hk, hp⟩ := hinv
 refine W.rg ?_
 refine SL.v (O.lss) ?_
 refine E.fo (W.seq ?_)
 refine W.cc rfl (fun hc1 => ?_) fun hc1 => ?_
 ·refine W.skip (E.to (W.seq (W.block (W.rg (SL.o (SL.a (E.fo (W.rg (SL.o ?_)))))))))
  refine SL.v (O.nc) ?_
  refine SL.v (O.fr 1 0 u33) ?_
  refine SL.v (O.l1 u30) ?_
  refine SL.o ?_
  refine SL.v (O.idx_own (i := k) rfl rfl rfl (rfl) xS u30 hi55 hs55 rfl Taken.no) ?_
  refine SL.v (O.fe 0 0 u55) ?_
  refine SL.v (O.ld1 (PtI.ofU (PtU.el rfl rfl (row_get xA))) rfl u3 rfl rfl Taken.no) ?_
  refine SL.o ?_
  refine SL.v (O.eql) ?_
  refine E.fo ?_
  refine W.cc rfl (fun hc2 => ?_) fun hc2 => ?_
  ·exfalso; (have hz := idxF_here (p := fun c : Cp => decide (c.id = i)) (k := k) (l := s.cps) xA hp (decide_eq_true xA)); omega
  refine W.skip (E.inn (E.to (W.region ?_)))
  refine SL.v (O.ad) ?_
  refine SL.o (SL.nil ?_)
  refine E.ai (k + 1) [] ?_
  ·try dsimp only
   exact zJ
 refine W.exit (E.th (E.th (E.hit (E.to (W.rg (SL.a (E.fo (W.ret ?_))))))))
 refine E.h1 [] ?_
 ·rfl

end Go.Proofs.YtmekkjehkcjpdaaGreat
end
section
namespace Go.D58
open Go Go.RowKit Go.H Go.D57
section
variable {α : Type} [Inhabited α] (key : α → Int)
def kpR (l : List α) (n : Int) : Nat → Nat
  | 0 => 0
  | k + 1 => if key l[k]! < n then k + 1 else kpR l n k
def kpos (l : List α) (n : Int) : Nat := kpR key l n l.length
def asc (l : List α) : Prop := ∀ i j, i < j → j < l.length → key l[i]! < key l[j]!
def kfnd (l : List α) (n : Int) : Bool := decide ((kpos key l n : Int) < l.length) && decide (cmpI (key l[kpos key l n]!) n = 0)
variable {key} {l : List α} {n : Int}
theorem kpR_le (l : List α) (n : Int) : ∀ k, kpR key l n k ≤ k
  | 0 => Nat.le_refl _
  | k + 1 => by
    rw [kpR]
    split
    · exact yX
    · have := kpR_le l n k; omega
theorem kpR_spec (hv : asc key l) (n : Int) : ∀ k, k ≤ l.length → (∀ j, j < kpR key l n k → key l[j]! < n) ∧ (∀ j, kpR key l n k ≤ j → j < k → ¬ key l[j]! < n)
  | 0, _ => ⟨fun j hj => by simp [kpR] at hj, fun j _ hj => xA⟩
  | k + 1, hk => by
    obtain ⟨h1, h2⟩ := kpR_spec hv n k xA
    by_cases e : key l[k]! < n
    · rw [kpR, if_pos e]
      refine ⟨fun j hj => ?_, fun j hj hj2 => xA⟩
      by_cases ej : j = k
      · subst ej; exact e
      · have := hv j k xA xA; omega
    · rw [kpR, if_neg e]
      refine ⟨h1, fun j hj hj2 => ?_⟩
      by_cases ej : j = k
      · subst ej; exact e
      · exact h2 j hj xA
theorem kpos_le (l : List α) (n : Int) : kpos key l n ≤ l.length := kpR_le l n _
theorem kpos_lo (hv : asc key l) {j : Nat} (hj : j < kpos key l n) : key l[j]! < n := (kpR_spec hv n _ (Nat.le_refl _)).1 j hj
theorem kpos_hi (hv : asc key l) {j : Nat} (hj : kpos key l n ≤ j) (hl : j < l.length) : ¬ key l[j]! < n := (kpR_spec hv n _ (Nat.le_refl _)).2 j hj hl
theorem kpos_eq (hv : asc key l) {i : Nat} (hi : i ≤ l.length) (h1 : ∀ j, j < i → key l[j]! < n) (h2 : ∀ j, i ≤ j → j < l.length → ¬ key l[j]! < n) : i = kpos key l n := by
  have hl := kpos_le (key := key) l n
  rcases Nat.lt_trichotomy i (kpos key l n) with e | e | e
  · exact absurd (kpos_lo hv e) (h2 i (Nat.le_refl _) xA)
  · exact e
  · exact absurd (h1 _ e) (kpos_hi hv (Nat.le_refl _) xA)
theorem kbs_lo (hv : asc key l) {m : Nat} (hm : m < l.length) (e : key l[m]! < n) : ∀ j, j < m + 1 → key l[j]! < n := fun j hj => by
  by_cases ej : j = m
  · subst ej; exact e
  · have := hv j m xA hm; omega
theorem kbs_hi (hv : asc key l) {m : Nat} (e : ¬ key l[m]! < n) : ∀ j, m ≤ j → j < l.length → ¬ key l[j]! < n := fun j hj hl k => by
  by_cases ej : j = m
  · subst ej; exact e k
  · have := hv m j xA hl; omega
theorem kfnd_iff (_ : asc key l) : kfnd key l n = true ↔ kpos key l n < l.length ∧ key l[kpos key l n]! = n := by
  unfold kfnd
  rw [Bool.and_eq_true, decide_eq_true_eq, decide_eq_true_eq]
  constructor
  · rintro ⟨h1, h2⟩
    refine ⟨xA, ?_⟩
    unfold cmpI at h2
    split at h2
    · cases h2
    · split at h2
      · cases h2
      · omega
  · rintro ⟨h1, h2⟩
    exact ⟨xA, by rw [cmpI_eq xA xA]⟩
theorem kfnd_no (hv : asc key l) (h : kfnd key l n = false) {i : Nat} (hi : i < l.length) : key l[i]! ≠ n := fun e => by
  have hp : kpos key l n = i := (kpos_eq hv xA (fun j hj => by have := hv j i hj hi; omega) (fun j hj hl => by
    rcases Nat.lt_or_eq_of_le hj with q | q
    · have := hv i j q hl; omega
    · subst q; omega)).symm
  have := (kfnd_iff (n := n) hv).2 ⟨xA, by rw [hp]; exact e⟩
  rw [h] at this; cases this
end
theorem asc_of {α : Type} [Inhabited α] {key : α → Int} {l : List α} (h : ∀ k, k < l.length → 0 < k → key l[k - 1]! < key l[k]!) : asc key l := fun i j hij hj => by
  induction j with
  | zero => omega
  | succ j ih =>
    have h1 := h (j + 1) hj xA
    rw [Nat.add_sub_cancel] at h1
    by_cases e : i = j
    · subst e; exact h1
    · have := ih xA xA; omega
def setQ (ls : List Ln) (w : Int) (q : List Hd) : List Ln :=
  if kfnd (·.work) ls w = true then (if q.length = 0 then ls.take (kpos (·.work) ls w) ++ ls.drop (kpos (·.work) ls w + 1) else ls.set (kpos (·.work) ls w) ⟨ls[kpos (·.work) ls w]!.work, q⟩)
  else if q.length = 0 then ls else ls.take (kpos (·.work) ls w) ++ ⟨w, q⟩ :: ls.drop (kpos (·.work) ls w)
theorem setQ_del {ls : List Ln} {w : Int} {q : List Hd} (h : kfnd (·.work) ls w = true) (h0 : q.length = 0) : setQ ls w q = ls.take (kpos (·.work) ls w) ++ ls.drop (kpos (·.work) ls w + 1) := by unfold setQ; rw [if_pos h, if_pos h0]
theorem setQ_set {ls : List Ln} {w : Int} {q : List Hd} (h : kfnd (·.work) ls w = true) (h0 : ¬ q.length = 0) : setQ ls w q = ls.set (kpos (·.work) ls w) ⟨ls[kpos (·.work) ls w]!.work, q⟩ := by unfold setQ; rw [if_pos h, if_neg h0]
theorem setQ_no {ls : List Ln} {w : Int} {q : List Hd} (h : kfnd (·.work) ls w = false) (h0 : q.length = 0) : setQ ls w q = ls := by unfold setQ; rw [if_neg (by rw [h]; decide), if_pos h0]
theorem setQ_ins {ls : List Ln} {w : Int} {q : List Hd} (h : kfnd (·.work) ls w = false) (h0 : ¬ q.length = 0) : setQ ls w q = ls.take (kpos (·.work) ls w) ++ ⟨w, q⟩ :: ls.drop (kpos (·.work) ls w) := by unfold setQ; rw [if_neg (by rw [h]; decide), if_neg h0]
theorem get_cut {α : Type} [Inhabited α] {l : List α} {k i : Nat} (hk : k < l.length) (hi : i < l.length - 1) : (l.take k ++ l.drop (k + 1))[i]! = l[if i < k then i else i + 1]! := by
  have hl : (l.take k ++ l.drop (k + 1)).length = l.length - 1 := by simp; omega
  rw [getElem!_pos _ i xA, getElem!_pos l _ (by split <;> omega)]
  by_cases e : i < k
  · rw [List.getElem_append_left (by rw [List.length_take]; omega), List.getElem_take]
    simp only [e, if_true]
  · rw [List.getElem_append_right (by rw [List.length_take]; omega), List.getElem_drop]
    simp only [e, if_false, List.length_take]
    congr 1
    omega
theorem get_ins {α : Type} [Inhabited α] {l : List α} {k i : Nat} {x : α} (hk : k ≤ l.length) (hi : i < l.length + 1) : (l.take k ++ x :: l.drop k)[i]! = if i < k then l[i]! else if i = k then x else l[i - 1]! := by
  have hl : (l.take k ++ x :: l.drop k).length = l.length + 1 := by simp; omega
  rw [getElem!_pos _ i xA]
  have h1 : (l.take k).length = k := by simp; omega
  by_cases e : i < k
  · rw [if_pos e, List.getElem_append_left xA, List.getElem_take, getElem!_pos l i xA]
  · rw [if_neg e, List.getElem_append_right xA]
    by_cases e2 : i = k
    · rw [if_pos e2]
      simp [h1, e2]
    · rw [if_neg e2]
      obtain ⟨d, hd⟩ : ∃ d, i - k = d + 1 := ⟨i - k - 1, xA⟩
      simp only [h1, hd, List.getElem_cons_succ, List.getElem_drop]
      rw [getElem!_pos l (i - 1) xA]
      congr 1
      omega
theorem get_set {α : Type} [Inhabited α] {l : List α} {k i : Nat} {x : α} (hi : i < l.length) : (l.set k x)[i]! = if k = i then x else l[i]! := by
  rw [getElem!_pos _ i (by rw [List.length_set]; omega), List.getElem_set]
  split
  · rfl
  · rw [getElem!_pos l i hi]
theorem asc_cut {α : Type} [Inhabited α] {key : α → Int} {l : List α} {k : Nat} (h : asc key l) (hk : k < l.length) : asc key (l.take k ++ l.drop (k + 1)) := fun i j hij hj => by
  have hl : (l.take k ++ l.drop (k + 1)).length = l.length - 1 := by simp; omega
  rw [get_cut hk xA, get_cut hk xA]
  exact h _ _ (by split <;> split <;> omega) (by split <;> omega)
theorem asc_ins {α : Type} [Inhabited α] {key : α → Int} {l : List α} {x : α} (h : asc key l) (hn : kfnd key l (key x) = false) : asc key (l.take (kpos key l (key x)) ++ x :: l.drop (kpos key l (key x))) := fun i j hij hj => by
  have hk := kpos_le (key := key) l (key x)
  have hl : (l.take (kpos key l (key x)) ++ x :: l.drop (kpos key l (key x))).length = l.length + 1 := by simp; omega
  rw [get_ins hk xA, get_ins hk xA]
  by_cases e1 : i < kpos key l (key x)
  · rw [if_pos e1]
    by_cases e2 : j < kpos key l (key x)
    · rw [if_pos e2]; exact h _ _ hij xA
    · rw [if_neg e2]
      by_cases e3 : j = kpos key l (key x)
      · rw [if_pos e3]; exact kpos_lo h e1
      · rw [if_neg e3]; exact h _ _ xA xA
  · rw [if_neg e1, if_neg (show ¬ j < kpos key l (key x) by omega), if_neg (show ¬ j = kpos key l (key x) by omega)]
    by_cases e3 : i = kpos key l (key x)
    · rw [if_pos e3]
      have h1 := kpos_hi (n := key x) h (j := j - 1) xA xA
      have h2 := kfnd_no h hn (i := j - 1) xA
      omega
    · rw [if_neg e3]; exact h _ _ xA xA
theorem asc_set {α : Type} [Inhabited α] {key : α → Int} {l : List α} {k : Nat} {x : α} (h : asc key l) (hx : key x = key l[k]!) : asc key (l.set k x) := fun i j hij hj => by
  rw [List.length_set] at hj
  rw [get_set xA, get_set hj]
  have := h i j hij hj
  by_cases e1 : k = i
  · subst e1; rw [if_pos rfl, if_neg xA]; omega
  · rw [if_neg e1]
    by_cases e2 : k = j
    · subst e2; rw [if_pos rfl]; omega
    · rw [if_neg e2]; exact this
def okL (ls : List Ln) (n : Nat) : Prop := asc (·.work) ls ∧ ls.length ≤ n ∧ ∀ l ∈ ls, l.q.length ≤ 60
theorem setQ_ok {ls : List Ln} {n : Nat} (h : okL ls n) (w : Int) {q : List Hd} (hq : q.length ≤ 60) : okL (setQ ls w q) (n + 1) := by
  obtain ⟨h1, h2, h3⟩ := h
  have hk := kpos_le (key := fun l : Ln => l.work) ls w
  cases hf : kfnd (·.work) ls w with
  | true =>
    have hlt := ((kfnd_iff h1).1 hf).1
    by_cases h0 : q.length = 0
    · rw [setQ_del hf h0]
      exact ⟨asc_cut h1 hlt, by simp; omega, fun l hl => (List.mem_append.1 hl).elim (fun m => h3 l (List.mem_of_mem_take m)) (fun m => h3 l (List.mem_of_mem_drop m))⟩
    · rw [setQ_set hf h0]
      exact ⟨asc_set h1 rfl, by simp; omega, fun l hl => (List.mem_or_eq_of_mem_set hl).elim (h3 l) (fun e => by rw [e]; exact hq)⟩
  | false =>
    by_cases h0 : q.length = 0
    · rw [setQ_no hf h0]; exact ⟨h1, xA, h3⟩
    · rw [setQ_ins hf h0]
      refine ⟨asc_ins (x := (⟨w, q⟩ : Ln)) h1 hf, by simp; omega, fun l hl => (List.mem_append.1 hl).elim (fun m => h3 l (List.mem_of_mem_take m)) (fun m => ?_)⟩
      rcases List.mem_cons.1 m with e | m
      · rw [e]; exact hq
      · exact h3 l (List.mem_of_mem_drop m)
theorem okL.mono {ls : List Ln} {n m : Nat} (h : okL ls n) (hm : n ≤ m) : okL ls m := ⟨h.1, by have := h.2.1; omega, h.2.2⟩
theorem queS_len {s : St} {n : Nat} (h : okL s.lns n) (w : Int) : (queS s w).length ≤ 60 := by
  unfold queS
  split
  · rename_i e; exact h.2.2 _ (at_mem (idxF_lt e).1)
  · simp
def shC (c : Cp) : Cp := { c with place := 1, pat := 0, due := 0, hold := 0, rc := false }
def freeS (s : St) (i : Nat) : St :=
  if (queS s s.cps[i]!.work).length = 0 then ⟨s.now, s.cps.set i (shC s.cps[i]!), s.lns⟩
  else ⟨s.now, s.cps.set i (wtC s.cps[i]! (nextH (queS s s.cps[i]!.work)) s.now), setQ s.lns s.cps[i]!.work (srvQ (queS s s.cps[i]!.work))⟩
theorem free_0 {s : St} {i : Nat} (h : (queS s s.cps[i]!.work).length = 0) : freeS s i = ⟨s.now, s.cps.set i (shC s.cps[i]!), s.lns⟩ := if_pos h
theorem free_1 {s : St} {i : Nat} (h : ¬ (queS s s.cps[i]!.work).length = 0) : freeS s i = ⟨s.now, s.cps.set i (wtC s.cps[i]! (nextH (queS s s.cps[i]!.work)) s.now), setQ s.lns s.cps[i]!.work (srvQ (queS s s.cps[i]!.work))⟩ := if_neg h
theorem free_now (s : St) (i : Nat) : (freeS s i).now = s.now := by unfold freeS; split <;> rfl
theorem free_len (s : St) (i : Nat) : (freeS s i).cps.length = s.cps.length := by unfold freeS; split <;> exact List.length_set
theorem free_ok {s : St} {n : Nat} (h : okL s.lns n) (i : Nat) : okL (freeS s i).lns (n + 1) := by
  by_cases e : (queS s s.cps[i]!.work).length = 0
  · rw [free_0 e]; exact h.mono xA
  · rw [free_1 e]
    have h1 := queS_len h s.cps[i]!.work
    have h2 := srvQ_len (queS s s.cps[i]!.work)
    exact setQ_ok h _ xA
def recOk (cs : List Cp) (w : Int) (b : Option Nat) (k : Nat) : Prop := cs[k]!.work = w ∧ cs[k]!.place = 2 ∧ cs[k]!.rc = false ∧ ∀ i, b = some i → cs[k]!.due < cs[i]!.due
def recC (cs : List Cp) (w : Int) (b : Option Nat) (k : Nat) : Bool := decide (cs[k]!.work = w) && decide (cs[k]!.place = 2) && !cs[k]!.rc && (match b with | none => true | some i => decide (cs[k]!.due < cs[i]!.due))
def recB (cs : List Cp) (w : Int) : Nat → Option Nat
  | 0 => none
  | k + 1 => if recC cs w (recB cs w k) k = true then some k else recB cs w k
theorem rec_y {cs : List Cp} {w : Int} {k : Nat} (h : recC cs w (recB cs w k) k = true) : recB cs w (k + 1) = some k := if_pos h
theorem rec_n {cs : List Cp} {w : Int} {k : Nat} (h : recC cs w (recB cs w k) k = false) : recB cs w (k + 1) = recB cs w k := if_neg (by rw [h]; decide)
theorem rec_lt {cs : List Cp} {w : Int} : ∀ {k i : Nat}, recB cs w k = some i → i < k ∧ cs[i]!.work = w ∧ cs[i]!.place = 2 ∧ cs[i]!.rc = false
  | k + 1, i, h => by
    rw [recB] at h
    split at h
    · rename_i e
      cases h
      unfold recC at e
      simp only [Bool.and_eq_true, decide_eq_true_eq] at e
      exact ⟨xA, e.1.1.1, e.1.1.2, nt_f e.1.2⟩
    · have := rec_lt h
      exact ⟨xA, this.2⟩
def min3 (a b c : Int) : Int := if (if a ≤ b then a else b) ≤ c then (if a ≤ b then a else b) else c
def rclC (c : Cp) (now : Int) : Cp := { c with due := min (min c.due (now + 7)) 1000000, rc := true }
def recS (s : St) (w : Int) : St := match recB s.cps w s.cps.length with
  | none => s
  | some i => ⟨s.now, s.cps.set i (rclC s.cps[i]! s.now), s.lns⟩
def ownI (s : St) (p w : Int) : Int := idxF (fun c : Cp => decide (c.place ≠ 1 ∧ c.work = w ∧ c.pat = p)) s.cps
def useB (s : St) (h : Int) : Bool := decide (0 ≤ idxF (fun c : Cp => decide (c.place = 3 ∧ c.hold = h)) s.cps) || decide (0 ≤ idxF (fun l : Ln => decide (0 ≤ idxF (fun x : Hd => decide (x.id = h)) l.q)) s.lns)
def cpI (s : St) (i : Int) : Int := idxF (fun c : Cp => decide (c.id = i)) s.cps
def atC (s : St) (i : Int) : Cp := s.cps[(cpI s i).toNat]!
def newC (x : Sp) : Cp := ⟨x.copy, x.work, x.lib, 1, 0, 0, 0, false⟩
def addE (s : St) (x : Sp) : Int := if ¬ (idB x.copy ∧ idB x.work) then 2 else if ¬ nmOk x.lib then 8 else if 0 ≤ cpI s x.copy then 10 else if s.cps.length = 60 then 20 else 0
def insC (s : St) (x : Sp) : St := ⟨s.now, s.cps.take (kpos (·.id) s.cps x.copy) ++ newC x :: s.cps.drop (kpos (·.id) s.cps x.copy), s.lns⟩
def addS (s : St) (x : Sp) : St := if addE s x = 0 then freeS (insC s x) (kpos (·.id) s.cps x.copy) else s
def remE (s : St) (x : Sp) : Int := if ¬ 0 ≤ cpI s x.copy then 9 else if (atC s x.copy).place ≠ 1 then 26 else 0
def remS (s : St) (x : Sp) : St := if remE s x = 0 then ⟨s.now, s.cps.filter (fun c => !decide (c.id = x.copy)), s.lns⟩ else s
def lenE (s : St) (x : Sp) : Int :=
  if ¬ idB x.pat then 2 else if ¬ 0 ≤ cpI s x.copy then 9 else
  if (atC s x.copy).place = 2 ∨ ((atC s x.copy).place = 3 ∧ (atC s x.copy).pat ≠ x.pat) then 26 else
  if (atC s x.copy).place = 1 ∧ 0 ≤ ownI s x.pat (atC s x.copy).work then 10 else
  if 5 ≤ (idsF (fun c => decide (c.place = 2 ∧ c.pat = x.pat)) s.cps).length then 3 else if 1000000 < s.now + 28 then 25 else 0
def lentC (c : Cp) (p now : Int) : Cp := { c with place := 2, pat := p, due := now + 28, hold := 0, rc := false }
def lenS (s : St) (x : Sp) : St := if lenE s x = 0 then ⟨s.now, s.cps.set (cpI s x.copy).toNat (lentC (atC s x.copy) x.pat s.now), s.lns⟩ else s
def bakE (s : St) (x : Sp) : Int := if ¬ 0 ≤ cpI s x.copy then 9 else if (atC s x.copy).place ≠ 2 then 11 else 0
def bakS (s : St) (x : Sp) : St := if bakE s x = 0 then freeS s (cpI s x.copy).toNat else s
def renE (s : St) (x : Sp) : Int := if ¬ 0 ≤ cpI s x.copy then 9 else if (atC s x.copy).place ≠ 2 then 11 else if (atC s x.copy).rc = true ∨ 0 < (queS s (atC s x.copy).work).length then 26 else if 1000000 < s.now + 28 then 25 else 0
def rnwC (c : Cp) (now : Int) : Cp := { c with due := now + 28 }
def renS (s : St) (x : Sp) : St := if renE s x = 0 then ⟨s.now, s.cps.set (cpI s x.copy).toNat (rnwC (atC s x.copy) s.now), s.lns⟩ else s
def patI (q : List Hd) (p : Int) : Int := idxF (fun h : Hd => decide (h.pat = p)) q
def askE (s : St) (x : Sp) : Int :=
  if ¬ (idB x.work ∧ idB x.pat ∧ idB x.hold ∧ inB x.cls 1 3) then 2 else if cntP s.cps x.work 1 = 0 ∧ cntP s.cps x.work 2 = 0 ∧ cntP s.cps x.work 3 = 0 then 9 else
  if useB s x.hold = true ∨ 0 ≤ ownI s x.pat x.work ∨ 0 ≤ patI (queS s x.work) x.pat then 10 else if (queS s x.work).length = 60 then 20 else 0
def hldX (s : St) (x : Sp) : Hd := ⟨x.hold, x.pat, x.cls, s.now, 0⟩
def shlI (s : St) (w : Int) : Int := idxF (fun c : Cp => decide (c.work = w ∧ c.place = 1)) s.cps
def putS (s : St) (x : Sp) : St := ⟨s.now, s.cps, setQ s.lns x.work (putQ (queS s x.work) (hldX s x))⟩
def askS (s : St) (x : Sp) : St :=
  if askE s x = 0 then (if 0 ≤ shlI s x.work then ⟨s.now, s.cps.set (shlI s x.work).toNat (wtC s.cps[(shlI s x.work).toNat]! (hldX s x) s.now), s.lns⟩ else recS (putS s x) x.work) else s
def wtI (s : St) (h : Int) : Int := idxF (fun c : Cp => decide (c.place = 3 ∧ c.hold = h)) s.cps
def lnI (s : St) (h : Int) : Int := idxF (fun l : Ln => decide (canE l.q h = 0)) s.lns
def clcE (s : St) (x : Sp) : Int := if 0 ≤ wtI s x.hold then 0 else if 0 ≤ lnI s x.hold then 0 else 9
def clcS (s : St) (x : Sp) : St :=
  if 0 ≤ wtI s x.hold then freeS s (wtI s x.hold).toNat else if 0 ≤ lnI s x.hold then ⟨s.now, s.cps, setQ s.lns s.lns[(lnI s x.hold).toNat]!.work (canQ s.lns[(lnI s x.hold).toNat]!.q x.hold)⟩ else s
def lateC (s : St) (k : Nat) : Bool := decide (s.cps[k]!.place = 3 ∧ s.cps[k]!.due < s.now)
def lateS (s : St) : Nat → St
  | 0 => s
  | k + 1 => if lateC (lateS s k) k = true then freeS (lateS s k) k else lateS s k
theorem late_now (s : St) : ∀ k, (lateS s k).now = s.now
  | 0 => rfl
  | k + 1 => by
    rw [lateS]
    split
    · rw [free_now, late_now s k]
    · exact late_now s k
theorem late_len (s : St) : ∀ k, (lateS s k).cps.length = s.cps.length
  | 0 => rfl
  | k + 1 => by
    rw [lateS]
    split
    · rw [free_len, late_len s k]
    · exact late_len s k
theorem late_ok {s : St} {n : Nat} (h : okL s.lns n) : ∀ k, okL (lateS s k).lns (n + k)
  | 0 => h
  | k + 1 => by
    rw [lateS]
    split
    · exact free_ok (late_ok h k) k
    · exact (late_ok h k).mono xA
theorem late_y {s : St} {k : Nat} (h : lateC (lateS s k) k = true) : lateS s (k + 1) = freeS (lateS s k) k := if_pos h
theorem late_n {s : St} {k : Nat} (h : ¬ lateC (lateS s k) k = true) : lateS s (k + 1) = lateS s k := if_neg h
def waiE (s : St) (x : Sp) : Int := if ¬ inB x.days 1 1000 then 2 else if 1000000 < s.now + x.days then 25 else 0
def waiS (s : St) (x : Sp) : St := if waiE s x = 0 then lateS ⟨s.now + x.days, s.cps, s.lns⟩ s.cps.length else s
def zeroS : St := ⟨0, [], []⟩
def stE (s : St) (x : Sp) : Int := if x.kind = 1 then addE s x else if x.kind = 2 then remE s x else if x.kind = 3 then lenE s x else if x.kind = 4 then bakE s x else if x.kind = 5 then renE s x else if x.kind = 6 then askE s x else if x.kind = 7 then clcE s x else waiE s x
def stS (s : St) (x : Sp) : St := if x.kind = 1 then addS s x else if x.kind = 2 then remS s x else if x.kind = 3 then lenS s x else if x.kind = 4 then bakS s x else if x.kind = 5 then renS s x else if x.kind = 6 then askS s x else if x.kind = 7 then clcS s x else waiS s x
def doOk (s : St) (x : Sp) : Prop := validS s ∧ inB x.kind 1 8 ∧ fldS x = x
instance (s : St) (x : Sp) : Decidable (doOk s x) := by unfold doOk; infer_instance
def doE (s : St) (x : Sp) : Int := if doOk s x then stE s x else 1
def doS (s : St) (x : Sp) : St := if doE s x = 0 then stS s x else zeroS
theorem valid_ok {s : St} (h : validS s) : okL s.lns 60 := ⟨asc_of fun k hk k0 => (h.2.2.2.2.1 k hk).2.1 k0, h.2.2.1, fun l hl => by
  obtain ⟨i, hi, rfl⟩ := List.getElem_of_mem hl
  have := (h.2.2.2.2.1 i hi).1.2.1.2
  rwa [getElem!_pos s.lns i hi] at this⟩
theorem valid_asc {s : St} (h : validS s) : asc (·.id) s.cps := asc_of fun k hk k0 => (h.2.2.2.1 k hk).2 k0
end Go.D58
end
section
namespace Go.Proofs.YtmekkjehkcjpdaaGreat
open Go Go.RowKit Go.H Go.D57 Go.D58



set_option maxRecDepth 8000 in
theorem setQueue1_h {l : Ln} {n : Int} :
    Con Tryz.prog 117 [vA (eLn l), vI n] [] (vI (cmpI l.work n)) [] := by
 refine Con.en 9 Tryz.func117 fun τ w ok vs hin => ?_
 clear hin
 refine W.rg ?_
 refine SL.bx2 101 ?_
 refine SL.a (E.fo (W.rg ?_))
 refine SL.v (O.fr 0 0 u79) ?_
 refine SL.v (O.l1 u3) ?_
 refine SL.o ?_
 refine SL.v (O.cp (q := cmpCompare_h (a := l.work) (b := n))) ?_
 refine SL.a (E.fo (W.ret ?_))
 refine E.h1 [] ?_
 ·rfl

set_option maxRecDepth 8000 in
theorem add1_h {c : Cp} {n : Int} :
    Con Tryz.prog 66 [vA (eCp c), vI n] [] (vI (cmpI c.id n)) [] := by
 refine Con.en 9 Tryz.func66 fun τ w ok vs hin => ?_
 clear hin
 refine W.rg ?_
 refine SL.bx8 101 ?_
 refine SL.a (E.fo (W.rg ?_))
 refine SL.v (O.fr 0 0 u55) ?_
 refine SL.v (O.l1 u3) ?_
 refine SL.o ?_
 refine SL.v (O.cp (q := cmpCompare_h (a := c.id) (b := n))) ?_
 refine SL.a (E.fo (W.ret ?_))
 refine E.h1 [] ?_
 ·rfl

set_option maxRecDepth 8000 in
theorem bsLine_h {f : Nat} {caps : List UV} {q : List Ln} {h : Int} (hok : G.callOk Tryz.prog f = true) (hpr : ∀ x, Con Tryz.prog f ([vA (eLn x), vI h] ++ caps.map .u) [] (vI (cmpI x.work h)) []) (hv : asc (fun c : Ln => c.work) q) (hql : q.length ≤ 1000000) :
    Con Tryz.prog 116 [vL 2 (q.map eLn), vI h, .u (.clo (.func f) [] caps)] [] (.tup [vI ((kpos (fun c : Ln => c.work) q h) : Nat), vB (kfnd (fun c : Ln => c.work) q h)]) [] := by
 obtain ⟨i79, hi79, hz79, hs79, hb79⟩ := hinf79
 refine Con.en 49 Tryz.func116 fun τ w ok vs hin => ?_
 have hl0 := hin.len (i := 0) rfl
 try rw [List.length_map] at hl0
 clear hin
 refine W.rg (SL.a (SL.a (E.fo (W.rg (SL.o ?_)))))
 refine SL.v (O.le u31) ?_
 refine SL.a (E.fo (W.rg (SL.o (SL.a (SL.a (E.fo (W.seq (W.block ?_))))))))
 refine W.loopx2 (fun (i : Nat) (j : Nat) => [(9, vI (i : Int)), (10, vI (j : Int))]) (fun (i : Nat) (j : Nat) => []) (fun (i : Nat) (j : Nat) => i ≤ j ∧ j ≤ q.length ∧ (∀ m, m < i → (fun c : Ln => c.work) q[m]! < h) ∧ (∀ m, j ≤ m → m < q.length → ¬ (fun c : Ln => c.work) q[m]! < h)) (fun (i : Nat) (j : Nat) => j - i) (0) (q.length) (rn []) (.cons (t := 0) rfl (.cons (t := 1) rfl (.cons (t := 2) rfl (.cons (t := 6) rfl (.cons (t := 7) rfl (.cons (t := 8) rfl .nil)))))) .nil rfl ?_ ?_ rfl rfl ?_ ?_
 · exact zH
 · exact SubS.nil
 ·exact ⟨xA, xA, fun m h => xA, fun m h1 h2 => xA⟩
 intro i j hinv
 obtain ⟨hij, hj, hlo, hhi⟩ := hinv
 have hm : i < j → (i + j) / 2 < j ∧ i ≤ (i + j) / 2 := fun h => by omega
 refine W.seq (W.rg (SL.o (SL.o ?_)))
 refine SL.v (O.lss) ?_
 refine E.fo ?_
 refine W.cc rfl (fun hc1 => ?_) fun hc1 => ?_
 ·refine W.skip (E.to (W.block (W.rg (SL.o (SL.o ?_)))))
  refine SL.v (O.ad) ?_
  refine SL.v (O.det (fun _ => by first | exact G.R.conv_in rfl u3 u140 (IntWalk.u64_in _ xA) | exact G.R.conv rfl u3 u140) rfl Taken.no) ?_
  refine SL.v (O.det (fun _ => G.R.shr_c (q := 2) rfl rfl xI xI) rfl Taken.no) ?_
  refine SL.v (O.det (fun _ => by first | exact G.R.conv64 rfl u140 u3 xA | exact G.R.conv rfl u140 u3) rfl Taken.no) ?_
  refine SL.a (E.fo (W.rg (SL.o (SL.o (SL.o ?_)))))
  refine SL.v (O.idx_fz (i := (i + j) / 2) rfl rfl xA (row_get xA) u31 hi79 hs79 rfl Taken.no) ?_
  refine SL.v (O.lU 2 u79) ?_
  refine SL.o ?_
  refine SL.v (O.cp (q := hpr q[(i + j) / 2]!) (o := hok)) ?_
  refine SL.v (O.lss) ?_
  refine E.fo ?_
  refine W.pk [(0,_),(1,_),(2,_),(6,_),(7,_),(8,_),(9,_),(10,_),(11,_),(31,_)] [] ?_
  refine W.cc rfl (fun hc2 => ?_) fun hc2 => ?_
  ·refine W.region (SL.o ?_)
   refine SL.v (O.ad) ?_
   refine SL.a (SL.nil (E.inn ?_))
   refine E.ai (((i + j) / 2 + 1), (j)) [] ?_
   ·try dsimp only
    exact ⟨xA, xA, kbs_lo hv xA (cmpI_neg.1 xK), hhi⟩
  refine W.region (SL.o (SL.a (SL.nil (E.inn ?_))))
  refine E.ai ((i), ((i + j) / 2)) [] ?_
  ·try dsimp only
   exact ⟨xA, xA, hlo, kbs_hi hv (fun e => absurd (cmpI_neg.2 e) xK)⟩
 refine W.exit (E.th (E.th (E.hit (E.to (W.rg ?_)))))
 obtain rfl : i = j := by omega
 have hpi := kpos_eq hv hj hlo hhi
 refine SL.o (SL.o (SL.o ?_))
 refine SL.v (O.lss) ?_
 refine SL.o ?_
 refine SL.cs 4 true (fun hg3 => ?_) fun hg3 => ?_
 ·have hg3p := gP hg3
  refine SL.v (O.mo (tY hg3)) ?_
  refine SL.v (O.mo (tY hg3)) ?_
  refine SL.v (O.mo (tY hg3)) ?_
  refine SL.v (O.ix u31 hi79 hs79 (tY hg3)) ?_
  refine SL.v (O.lU 2 u79 (tY hg3)) ?_
  refine SL.v (O.mo (tY hg3)) ?_
  refine SL.v (O.cp (q := hpr q[i]!) (o := hok) (hg := (tY hg3))) ?_
  refine SL.v (O.eql (tY hg3)) ?_
  refine SL.v (O.pt hg3) ?_
  refine SL.a (SL.a (E.fo ?_))
  refine W.pk [(6,_),(7,_)] [] ?_
  refine W.ret ?_
  refine E.h2 [] ?_
  ·rw [← hpi, kfnd, ← hpi]
   first | rw [decide_eq_true xK] | rw [decide_eq_false xK]
   rfl
 have hg3p := gP hg3
 refine SL.k hg3 (SL.k hg3 (SL.k hg3 (SL.k hg3 (SL.k hg3 (SL.k hg3 (SL.k hg3 (SL.k hg3 ?_)))))))
 refine SL.v (O.pf (G.ne_t hg3)) ?_
 refine SL.a (SL.a (E.fo ?_))
 refine W.pk [(6,_),(7,_)] [] ?_
 refine W.ret ?_
 refine E.h2 [] ?_
 ·rw [← hpi, kfnd, ← hpi]
  first | rw [decide_eq_true xK] | rw [decide_eq_false xK]
  rfl

set_option maxRecDepth 8000 in
theorem bsCopy_h {f : Nat} {caps : List UV} {q : List Cp} {h : Int} (hok : G.callOk Tryz.prog f = true) (hpr : ∀ x, Con Tryz.prog f ([vA (eCp x), vI h] ++ caps.map .u) [] (vI (cmpI x.id h)) []) (hv : asc (fun c : Cp => c.id) q) (hql : q.length ≤ 1000000) :
    Con Tryz.prog 65 [vL 8 (q.map eCp), vI h, .u (.clo (.func f) [] caps)] [] (.tup [vI ((kpos (fun c : Cp => c.id) q h) : Nat), vB (kfnd (fun c : Cp => c.id) q h)]) [] := by
 obtain ⟨i55, hi55, hz55, hs55, hb55⟩ := hinf55
 refine Con.en 49 Tryz.func65 fun τ w ok vs hin => ?_
 have hl0 := hin.len (i := 0) rfl
 try rw [List.length_map] at hl0
 clear hin
 refine W.rg (SL.a (SL.a (E.fo (W.rg (SL.o ?_)))))
 refine SL.v (O.le u30) ?_
 refine SL.a (E.fo (W.rg (SL.o (SL.a (SL.a (E.fo (W.seq (W.block ?_))))))))
 refine W.loopx2 (fun (i : Nat) (j : Nat) => [(9, vI (i : Int)), (10, vI (j : Int))]) (fun (i : Nat) (j : Nat) => []) (fun (i : Nat) (j : Nat) => i ≤ j ∧ j ≤ q.length ∧ (∀ m, m < i → (fun c : Cp => c.id) q[m]! < h) ∧ (∀ m, j ≤ m → m < q.length → ¬ (fun c : Cp => c.id) q[m]! < h)) (fun (i : Nat) (j : Nat) => j - i) (0) (q.length) (rn []) (.cons (t := 0) rfl (.cons (t := 1) rfl (.cons (t := 2) rfl (.cons (t := 6) rfl (.cons (t := 7) rfl (.cons (t := 8) rfl .nil)))))) .nil rfl ?_ ?_ rfl rfl ?_ ?_
 · exact zH
 · exact SubS.nil
 ·exact ⟨xA, xA, fun m h => xA, fun m h1 h2 => xA⟩
 intro i j hinv
 obtain ⟨hij, hj, hlo, hhi⟩ := hinv
 have hm : i < j → (i + j) / 2 < j ∧ i ≤ (i + j) / 2 := fun h => by omega
 refine W.seq (W.rg (SL.o (SL.o ?_)))
 refine SL.v (O.lss) ?_
 refine E.fo ?_
 refine W.cc rfl (fun hc1 => ?_) fun hc1 => ?_
 ·refine W.skip (E.to (W.block (W.rg (SL.o (SL.o ?_)))))
  refine SL.v (O.ad) ?_
  refine SL.v (O.det (fun _ => by first | exact G.R.conv_in rfl u3 u140 (IntWalk.u64_in _ xA) | exact G.R.conv rfl u3 u140) rfl Taken.no) ?_
  refine SL.v (O.det (fun _ => G.R.shr_c (q := 2) rfl rfl xI xI) rfl Taken.no) ?_
  refine SL.v (O.det (fun _ => by first | exact G.R.conv64 rfl u140 u3 xA | exact G.R.conv rfl u140 u3) rfl Taken.no) ?_
  refine SL.a (E.fo (W.rg (SL.o (SL.o (SL.o ?_)))))
  refine SL.v (O.idx_fz (i := (i + j) / 2) rfl rfl xA (row_get xA) u30 hi55 hs55 rfl Taken.no) ?_
  refine SL.v (O.lU 8 u55) ?_
  refine SL.o ?_
  refine SL.v (O.cp (q := hpr q[(i + j) / 2]!) (o := hok)) ?_
  refine SL.v (O.lss) ?_
  refine E.fo ?_
  refine W.pk [(0,_),(1,_),(2,_),(6,_),(7,_),(8,_),(9,_),(10,_),(11,_),(31,_)] [] ?_
  refine W.cc rfl (fun hc2 => ?_) fun hc2 => ?_
  ·refine W.region (SL.o ?_)
   refine SL.v (O.ad) ?_
   refine SL.a (SL.nil (E.inn ?_))
   refine E.ai (((i + j) / 2 + 1), (j)) [] ?_
   ·try dsimp only
    exact ⟨xA, xA, kbs_lo hv xA (cmpI_neg.1 xK), hhi⟩
  refine W.region (SL.o (SL.a (SL.nil (E.inn ?_))))
  refine E.ai ((i), ((i + j) / 2)) [] ?_
  ·try dsimp only
   exact ⟨xA, xA, hlo, kbs_hi hv (fun e => absurd (cmpI_neg.2 e) xK)⟩
 refine W.exit (E.th (E.th (E.hit (E.to (W.rg ?_)))))
 obtain rfl : i = j := by omega
 have hpi := kpos_eq hv hj hlo hhi
 refine SL.o (SL.o (SL.o ?_))
 refine SL.v (O.lss) ?_
 refine SL.o ?_
 refine SL.cs 4 true (fun hg3 => ?_) fun hg3 => ?_
 ·have hg3p := gP hg3
  refine SL.v (O.mo (tY hg3)) ?_
  refine SL.v (O.mo (tY hg3)) ?_
  refine SL.v (O.mo (tY hg3)) ?_
  refine SL.v (O.ix u30 hi55 hs55 (tY hg3)) ?_
  refine SL.v (O.lU 8 u55 (tY hg3)) ?_
  refine SL.v (O.mo (tY hg3)) ?_
  refine SL.v (O.cp (q := hpr q[i]!) (o := hok) (hg := (tY hg3))) ?_
  refine SL.v (O.eql (tY hg3)) ?_
  refine SL.v (O.pt hg3) ?_
  refine SL.a (SL.a (E.fo ?_))
  refine W.pk [(6,_),(7,_)] [] ?_
  refine W.ret ?_
  refine E.h2 [] ?_
  ·rw [← hpi, kfnd, ← hpi]
   first | rw [decide_eq_true xK] | rw [decide_eq_false xK]
   rfl
 have hg3p := gP hg3
 refine SL.k hg3 (SL.k hg3 (SL.k hg3 (SL.k hg3 (SL.k hg3 (SL.k hg3 (SL.k hg3 (SL.k hg3 ?_)))))))
 refine SL.v (O.pf (G.ne_t hg3)) ?_
 refine SL.a (SL.a (E.fo ?_))
 refine W.pk [(6,_),(7,_)] [] ?_
 refine W.ret ?_
 refine E.h2 [] ?_
 ·rw [← hpi, kfnd, ← hpi]
  first | rw [decide_eq_true xK] | rw [decide_eq_false xK]
  rfl

end Go.Proofs.YtmekkjehkcjpdaaGreat
end
section
namespace Go.Proofs.YtmekkjehkcjpdaaGreat
open Go Go.RowKit Go.H Go.D57 Go.D58

theorem hcallOk117 : G.callOk Tryz.prog 117 = true := by kernel_rfl

theorem delete_clr {α β : Type} {q : List α} {i j : Nat} {f : α → β} {z : β} (hij : i < j) (hj : j ≤ q.length) :
    ((q.take i ++ q.drop j ++ q.drop (i + (q.length - j))).map f).take (i + (q.length - j)) ++ List.replicate (q.length - (i + (q.length - j))) z ++ ((q.take i ++ q.drop j ++ q.drop (i + (q.length - j))).map f).drop q.length = (q.take i ++ q.drop j).map f ++ List.replicate (j - i) z := by
  have h1 : (q.take i ++ q.drop j).length = i + (q.length - j) := by simp; omega
  have h2 : (q.take i ++ q.drop j ++ q.drop (i + (q.length - j))).length ≤ q.length := by rw [List.length_append, h1, List.length_drop]; omega
  rw [← List.map_take, ← List.map_drop, List.take_left' h1, List.drop_eq_nil_of_le h2, show q.length - (i + (q.length - j)) = j - i by omega]
  simp
theorem flat_H (l : List Hd) {t : TypeId} : (SB.data t 5 (l.map eH)).flatP := fun u hu => by
  obtain ⟨r, hr, hu⟩ := List.mem_flatten.1 hu
  obtain ⟨x, _, rfl⟩ := List.mem_map.1 hr
  simp [eH] at hu
  rcases hu with rfl | rfl | rfl | rfl | rfl <;> rfl
theorem set_lnR {ls : List Ln} {k : Nat} {q : List Hd} : (ls.map eLn).set k [uI ls[k]!.work, .sl 5 (q.map eH)] = (ls.set k ⟨ls[k]!.work, q⟩).map eLn := by rw [List.map_set]
theorem tr_row {ls : List Ln} {p : Nat} (hp : p ≤ ls.length) {z : List UV} : ((ls.take p).map eLn ++ List.replicate (ls.length + 1 - p) z)[p]? = some z := by
  have h1 : ((ls.take p).map eLn).length = p := by simp; omega
  rw [List.getElem?_append_right xA, h1, Nat.sub_self, List.getElem?_replicate, if_pos xA]
theorem ins_ln {ls : List Ln} {p : Nat} {w : Int} {q : List Hd} (hp : p ≤ ls.length) {z : List UV} :
    ((((ls.take p).map eLn ++ List.replicate (ls.length + 1 - p) z).set p [uI w, .sl 5 (q.map eH)]).take (p + 1) ++ ((ls.drop p).map eLn) ++ (((ls.take p).map eLn ++ List.replicate (ls.length + 1 - p) z).set p [uI w, .sl 5 (q.map eH)]).drop (p + 1 + ((ls.drop p).map eLn).length)) = (ls.take p ++ ⟨w, q⟩ :: ls.drop p).map eLn := by
  have h1 : ((ls.take p).map eLn).length = p := by simp; omega
  have h2 : ((ls.take p).map eLn ++ List.replicate (ls.length + 1 - p) z).set p [uI w, .sl 5 (q.map eH)] = ((ls.take p).map eLn ++ [[uI w, .sl 5 (q.map eH)]]) ++ List.replicate (ls.length - p) z := by
    rw [List.set_append_right _ _ xA, h1, Nat.sub_self, show ls.length + 1 - p = (ls.length - p) + 1 by omega, List.replicate_succ, List.set_cons_zero]; simp
  have h3 : ((ls.take p).map eLn ++ [[uI w, UV.sl 5 (q.map eH)]]).length = p + 1 := by rw [List.length_append, h1]; rfl
  have h4 : (((ls.take p).map eLn ++ [[uI w, UV.sl 5 (q.map eH)]]) ++ List.replicate (ls.length - p) z).drop (p + 1 + ((ls.drop p).map eLn).length) = [] := List.drop_eq_nil_of_le (by rw [List.length_append, h3]; simp)
  rw [h2, List.take_left' h3, h4]; simp

set_option maxRecDepth 8000 in
theorem deleteLn {q : List Ln} (i j : Nat) (hij : i < j) (hj : j ≤ q.length) (_ : q.length ≤ 1000000) :
    Con Tryz.prog 118 [.own 0, vI (i : Int), vI (j : Int)] [(0, .data 79 2 (q.map eLn))] (.own 1) [(1, .data 79 2 ((q.take i ++ q.drop j).map eLn))] := by
 have hdl : (q.take i ++ q.drop j).length = i + (q.length - j) := by simp; omega
 have hdm : ((q.take i ++ q.drop j).map eLn).length = i + (q.length - j) := by rw [List.length_map, hdl]
 obtain ⟨i79, hi79, hz79, hs79, hb79⟩ := hinf79
 refine Con.en 33 Tryz.func118 fun τ w ok vs hin => ?_
 clear hin
 refine W.rg (SL.a (E.fo (W.rg (SL.o (SL.o (SL.o (SL.o ?_)))))))
 refine SL.v (O.lenE (SlOf.own rfl rfl) yB u31 rfl Taken.no) ?_
 refine SL.v (O.sub3_own (i := i) (j := j) (q := q.length) rfl rfl rfl yC rfl yC rfl yC xA xA (by first | omega | (rw [List.length_map]; omega)) u31 hi79 rfl Taken.no) ?_
 refine E.fo (W.seq (W.rg (SL.o (SL.o ?_))))
 refine SL.v (O.det (fun _ => G.R.mv (G.R.eql rfl rfl) (congrArg Value.bool (decide_eq_false xA))) rfl Taken.no) ?_
 refine E.fo ?_
 refine W.cond_f rfl ?_
 refine W.skip (E.to (W.rg (SL.o ?_)))
 refine SL.v (O.lenE (SlOf.own rfl rfl) yB u31 rfl Taken.no) ?_
 refine SL.a (E.fo (W.seq ?_))
 refine W.dr [pW 0, pO, pX 0, pW 0, pO, pX 0, ⟨[0], [0], [], []⟩, pW 0] ?_
 refine WH.o rfl (WH.o rfl ?_)
 refine WH.v (O.sub_own (j := i) rfl rfl Bnd.no (Bnd.at rfl yC) xA xS u31 hi79 hs79 rfl Taken.no) ?_
 refine WH.o rfl (WH.o rfl ?_)
 refine WH.v (O.sub_own (i := j) rfl rfl (Bnd.at rfl yC) Bnd.no xS yX u31 hi79 hs79 rfl Taken.no) ?_
 refine WH.memS (O.appIn (m := i + (q.length - j)) rfl rfl (SlOf.osl rfl rfl) u31 hi79 hs79 zB yE (rows' := ((q.take i ++ q.drop j) ++ q.drop (i + (q.length - j))).map eLn) (by simp [List.take_of_length_le]) rfl Taken.no) rfl rfl rfl rfl rfl (S' := (0, _) :: _) rfl ?_
 refine WH.v (O.as1) ?_
 refine WH.nil (E.to (W.rg (SL.o (SL.o ?_))))
 refine SL.v (O.lenE (n := i + (q.length - j)) (SlOf.osl rfl rfl) (by rw [List.drop_zero, List.length_take, List.length_map, List.length_append, hdl]; omega) u31 rfl Taken.no) ?_
 refine SL.o ?_
 refine SL.v (O.sub_osl (i := (i + (q.length - j))) (j := q.length) rfl rfl (Bnd.at rfl yC) (Bnd.at rfl yC) xA zQ u31 hi79 hs79 rfl Taken.no) ?_
 refine SL.effS (O.clear (PartOf.osl rfl xA zQ) rfl u31 hi79 hz79 rfl rfl rfl (rows' := (q.take i ++ q.drop j).map eLn ++ List.replicate (j - i) [uI 0, .sc (.slice none 0 0)]) (by exact delete_clr (f := eLn) hij hj) Taken.no) (S' := (0, _) :: _) rfl ?_
 refine E.fo ?_
 refine W.pk [(0,_),(6,_)] [(0,_)] ?_
 refine W.rg (SL.o ?_)
 refine SL.trunc 32 102 rfl rfl (rows' := (q.take i ++ q.drop j).map eLn) (by rw [List.take_left' hdm]) rfl rfl ?_
 refine SL.a (E.fo (W.ret ?_))
 refine E.h1 [(1, 102)] ?_
 ·rfl

set_option maxRecDepth 8000 in
theorem setQueue_h {s : St} {wk : Int} {q : List Hd} (ha : asc (fun l : Ln => l.work) s.lns) (hb : s.lns.length ≤ 1000) :
    Con Tryz.prog 78 [.ref 0 0, vI wk, vL 5 (q.map eH)] [(0, .cells 33 [.u (uI s.now), .own 1, .own 2]), (1, .data 55 8 ((s.cps).map eCp)), (2, .data 79 2 ((s.lns).map eLn))] (.tup []) [(0, .cells 33 [.u (uI s.now), .own 1, .own 3]), (1, .data 55 8 ((s.cps).map eCp)), (3, .data 79 2 (((setQ s.lns wk q)).map eLn))] := by
 have hpl := kpos_le (key := fun l : Ln => l.work) s.lns wk
 obtain ⟨i79, hi79, hz79, hs79, hb79⟩ := hinf79
 refine Con.en 86 Tryz.func78 fun τ w ok vs hin => ?_
 have hl2 := hin.len (i := 2) rfl
 try rw [List.length_map] at hl2
 clear hin
 refine W.rg (SL.o ?_)
 refine SL.v (O.nc) ?_
 refine SL.v (O.fr 2 0 u33) ?_
 refine SL.v (O.l1 u31) ?_
 refine SL.o ?_
 refine SL.cl [] [2] (.tup [.u _, .u _]) _ (q := bsLine_h (f := 117) (caps := []) (q := s.lns) (h := wk) hcallOk117 (fun x => setQueue1_h) ha xA)  (fl := .inr ⟨rfl, fun x hx => by simp at hx⟩) (h := ?_)
 refine SL.o ?_
 refine SL.v (O.ex) ?_
 refine SL.v (O.ex) ?_
 refine SL.a (SL.a (E.fo (W.block (W.rg (SL.o ?_)))))
 refine SL.v (O.le u59) ?_
 refine SL.v (O.eql) ?_
 refine SL.o ?_
 refine SL.cs 3 true (fun hg1 => ?_) fun hg1 => ?_
 ·have hg1p := gP hg1
  refine SL.v (O.mo (tY hg1)) ?_
  refine SL.v (O.pt hg1) ?_
  refine SL.a (E.fo ?_)
  refine W.cc rfl (fun hc2 => ?_) fun hc2 => ?_
  ·have hfd : kfnd (fun l : Ln => l.work) s.lns wk = true := by first | assumption | simp_all
   have hq0 : q.length = 0 := by first | omega | simp_all
   have hlt := ((kfnd_iff ha).1 hfd).1
   refine W.region (SL.o (SL.o ?_))
   refine SL.v (O.nc) ?_
   refine SL.v (O.fr 2 0 u33) ?_
   refine SL.v (O.l1 u31) ?_
   refine SL.o (SL.o ?_)
   refine SL.v (O.ad) ?_
   refine SL.cl [(0, 2), (1, 101)] [] (.own 101) ((101, .data _ _ _) :: (2, .dead) :: _) (q := deleteLn (q := s.lns) (kpos (fun l : Ln => l.work) s.lns wk) ((kpos (fun l : Ln => l.work) s.lns wk) + 1) xA xA xA)  (h := ?_)
   refine SL.v (O.nc) ?_
   refine SL.v (O.fr 2 0 u33) ?_
   refine SL.st1_3 0 ?_
   refine SL.nil (E.inn ?_)
   refine E.fin (rs := []) (rn [(3, 101)]) (.inr rfl) rfl .nil ?_ ?_ rfl (fixL_spec rfl)
   ·rfl
   · exact (SubS.cons rfl (SubS.cons rfl (SubS.val rfl (by exact sb_data (by rw [setQ_del hfd hq0])) SubS.nil)))
  have hnb : ¬ (q.length = 0 ∧ kfnd (fun l : Ln => l.work) s.lns wk = true) := by first | (rintro ⟨z1, z2⟩; simp_all; done) | (intro z; omega)
  refine W.rg (SL.o ?_)
  refine SL.v (O.le u59) ?_
  refine SL.v (O.eql) ?_
  refine SL.a (E.fo ?_)
  refine W.pk [(0,_),(1,_),(2,_),(6,_),(7,_),(72,_)] [(0,_),(1,_),(2,_)] ?_
  refine W.cc rfl (fun hc3 => ?_) fun hc3 => ?_
  ·refine W.skip (E.inn ?_)
   refine E.fin (rs := []) (rn [(3, 2)]) (.inr rfl) rfl .nil ?_ ?_ rfl (fixL_spec rfl)
   ·rfl
   · exact (SubS.cons rfl (SubS.cons rfl (SubS.val rfl (by exact sb_data (by rw [setQ_no yU xA])) SubS.nil)))
  refine W.rg (SL.o (SL.a (E.fo ?_)))
  refine W.cc rfl (fun hc4 => ?_) fun hc4 => ?_
  ·have hfd : kfnd (fun l : Ln => l.work) s.lns wk = true := by first | assumption | simp_all
   have hlt := ((kfnd_iff ha).1 hfd).1
   refine W.region (SL.o ?_)
   refine SL.v (O.nc) ?_
   refine SL.v (O.fr 2 0 u33) ?_
   refine SL.v (O.l1 u31) ?_
   refine SL.o (SL.o ?_)
   refine SL.v (O.idx_own (i := (kpos (fun l : Ln => l.work) s.lns wk)) rfl rfl rfl (rfl) xS u31 hi79 hs79 rfl Taken.no) ?_
   refine SL.v (O.fe 1 0 u79) ?_
   refine SL.effS (O.st_els (m := 1) rfl rfl rfl (us := [_]) rfl rfl xG yE (row_get xA) xP rfl rfl (rows' := (s.lns.set (kpos (fun l : Ln => l.work) s.lns wk) ⟨s.lns[(kpos (fun l : Ln => l.work) s.lns wk)]!.work, q⟩).map eLn) (by exact set_lnR) Taken.no) (S' := (2, _) :: _) rfl ?_
   refine SL.nil (E.inn ?_)
   refine E.fin (rs := []) (rn [(3, 2)]) (.inr rfl) rfl .nil ?_ ?_ rfl (fixL_spec rfl)
   ·rfl
   · exact (SubS.cons rfl (SubS.cons rfl (SubS.val rfl (by exact sb_data (by rw [setQ_set hfd xA])) SubS.nil)))
  have hfd : kfnd (fun l : Ln => l.work) s.lns wk = false := by first | assumption | simp_all
  refine W.rg (SL.o ?_)
  refine SL.v (O.nc) ?_
  refine SL.v (O.fr 2 0 u33) ?_
  refine SL.v (O.l1 u31) ?_
  refine SL.v (O.lenE (SlOf.own rfl rfl) yB u31 rfl Taken.no) ?_
  refine SL.v (O.ad) ?_
  refine SL.memS (O.make (m := s.lns.length + 1) (kk := 102) rfl rfl xA xA u31 hi79 hz79 hs79 rfl rfl xI rfl (by rw [hb79]; omega) xA rfl Taken.no) rfl rfl (S' := (102, _) :: _) rfl ?_
  refine SL.a (E.fo (W.rg (SL.o (SL.o ?_))))
  refine SL.v (O.nc) ?_
  refine SL.v (O.fr 2 0 u33) ?_
  refine SL.v (O.l1 u31) ?_
  refine SL.o ?_
  refine SL.v (O.sub_own (j := (kpos (fun l : Ln => l.work) s.lns wk)) rfl rfl Bnd.no (Bnd.at rfl yC) xA xS u31 hi79 hs79 rfl Taken.no) ?_
  refine SL.memS (O.copy (PartOf.own rfl) rfl (SlOf.osl rfl rfl) u31 hi79 hs79 zB (rows' := ((s.lns.take (kpos (fun l : Ln => l.work) s.lns wk)).map eLn ++ List.replicate (s.lns.length + 1 - (kpos (fun l : Ln => l.work) s.lns wk)) [uI 0, .sc (.slice none 0 0)])) wC rfl Taken.no) rfl rfl (S' := (102, _) :: _) rfl ?_
  refine E.fo (W.rg (SL.o (SL.o (SL.o (SL.o ?_)))))
  refine SL.v (O.bd5 u79) ?_
  refine SL.v (O.idx_own (i := (kpos (fun l : Ln => l.work) s.lns wk)) rfl rfl rfl (rfl) zB u31 hi79 hs79 rfl Taken.no) ?_
  refine SL.effS (O.st_els (m := 2) rfl rfl rfl (us := [_, _]) rfl rfl xG yE (tr_row hpl) xP rfl rfl (rows' := ((s.lns.take (kpos (fun l : Ln => l.work) s.lns wk)).map eLn ++ List.replicate (s.lns.length + 1 - (kpos (fun l : Ln => l.work) s.lns wk)) [uI 0, .sc (.slice none 0 0)]).set (kpos (fun l : Ln => l.work) s.lns wk) [uI wk, .sl 5 (q.map eH)]) yT Taken.no) (S' := (102, _) :: _) rfl ?_
  refine E.fo ?_
  refine W.pk [(0,_),(6,_),(8,_)] [(0,_),(1,_),(2,_),(102,_)] ?_
  refine W.seq ?_
  refine W.dr [pW 102, pO, pO, pX 102, pW 0, pW 0, pW 0, ⟨[0], [], [], [2]⟩, pO, pX 2, ⟨[2, 102], [102], [], []⟩] ?_
  refine WH.o rfl (WH.o rfl ?_)
  refine WH.v (O.ad) ?_
  refine WH.v (O.sub_own (i := ((kpos (fun l : Ln => l.work) s.lns wk) + 1)) rfl rfl (Bnd.at rfl yC) Bnd.no zB yX u31 hi79 hs79 rfl Taken.no) ?_
  refine WH.o rfl ?_
  refine WH.v (O.nc) ?_
  refine WH.v (O.fr 2 0 u33) ?_
  refine WH.v (O.l1 u31) ?_
  refine WH.o rfl ?_
  refine WH.v (O.sub_own (i := (kpos (fun l : Ln => l.work) s.lns wk)) rfl rfl (Bnd.at rfl yC) Bnd.no xS yX u31 hi79 hs79 rfl Taken.no) ?_
  refine WH.memS (O.copy (PartOf.osl rfl zB yX) rfl (SlOf.osl rfl rfl) u31 hi79 hs79 zB (rows' := (s.lns.take (kpos (fun l : Ln => l.work) s.lns wk) ++ ⟨wk, q⟩ :: s.lns.drop (kpos (fun l : Ln => l.work) s.lns wk)).map eLn) (by rw [List.take_of_length_le (Nat.le_refl _), ← List.map_drop]; exact ins_ln hpl) rfl Taken.no) rfl rfl rfl rfl rfl (S' := (102, _) :: _) rfl ?_
  refine WH.nil (E.to (W.region (SL.o (SL.o ?_))))
  refine SL.v (O.nc) ?_
  refine SL.v (O.fr 2 0 u33) ?_
  refine SL.st1_3 0 ?_
  refine SL.nil (E.inn ?_)
  refine E.fin (rs := []) (rn [(3, 102)]) (.inr rfl) rfl .nil ?_ ?_ rfl (fixL_spec rfl)
  ·rfl
  · exact (SubS.cons rfl (SubS.cons rfl (SubS.val rfl (by exact sb_data (by rw [setQ_ins hfd xA])) SubS.nil)))
 have hg1p := gP hg1
 refine SL.k hg1 ?_
 refine SL.v (O.pf (G.ne_t hg1)) ?_
 refine SL.a (E.fo ?_)
 refine W.cond_f rfl ?_
 refine W.rg (SL.o ?_)
 refine SL.v (O.le u59) ?_
 refine SL.v (O.eql) ?_
 refine SL.a (E.fo ?_)
 refine W.pk [(0,_),(1,_),(2,_),(6,_),(7,_),(72,_)] [(0,_),(1,_),(2,_)] ?_
 refine W.cc rfl (fun hc5 => ?_) fun hc5 => ?_
 ·refine W.skip (E.inn ?_)
  refine E.fin (rs := []) (rn [(3, 2)]) (.inr rfl) rfl .nil ?_ ?_ rfl (fixL_spec rfl)
  ·rfl
  · exact (SubS.cons rfl (SubS.cons rfl (SubS.val rfl (by exact sb_data (by rw [setQ_no yU xA])) SubS.nil)))
 refine W.rg (SL.o (SL.a (E.fo ?_)))
 refine W.cc rfl (fun hc6 => ?_) fun hc6 => ?_
 ·have hfd : kfnd (fun l : Ln => l.work) s.lns wk = true := by first | assumption | simp_all
  have hlt := ((kfnd_iff ha).1 hfd).1
  refine W.region (SL.o ?_)
  refine SL.v (O.nc) ?_
  refine SL.v (O.fr 2 0 u33) ?_
  refine SL.v (O.l1 u31) ?_
  refine SL.o (SL.o ?_)
  refine SL.v (O.idx_own (i := (kpos (fun l : Ln => l.work) s.lns wk)) rfl rfl rfl (rfl) xS u31 hi79 hs79 rfl Taken.no) ?_
  refine SL.v (O.fe 1 0 u79) ?_
  refine SL.effS (O.st_els (m := 1) rfl rfl rfl (us := [_]) rfl rfl xG yE (row_get xA) xP rfl rfl (rows' := (s.lns.set (kpos (fun l : Ln => l.work) s.lns wk) ⟨s.lns[(kpos (fun l : Ln => l.work) s.lns wk)]!.work, q⟩).map eLn) (by exact set_lnR) Taken.no) (S' := (2, _) :: _) rfl ?_
  refine SL.nil (E.inn ?_)
  refine E.fin (rs := []) (rn [(3, 2)]) (.inr rfl) rfl .nil ?_ ?_ rfl (fixL_spec rfl)
  ·rfl
  · exact (SubS.cons rfl (SubS.cons rfl (SubS.val rfl (by exact sb_data (by rw [setQ_set hfd xA])) SubS.nil)))
 have hfd : kfnd (fun l : Ln => l.work) s.lns wk = false := by first | assumption | simp_all
 refine W.rg (SL.o ?_)
 refine SL.v (O.nc) ?_
 refine SL.v (O.fr 2 0 u33) ?_
 refine SL.v (O.l1 u31) ?_
 refine SL.v (O.lenE (SlOf.own rfl rfl) yB u31 rfl Taken.no) ?_
 refine SL.v (O.ad) ?_
 refine SL.memS (O.make (m := s.lns.length + 1) (kk := 103) rfl rfl xA xA u31 hi79 hz79 hs79 rfl rfl xI rfl (by rw [hb79]; omega) xA rfl Taken.no) rfl rfl (S' := (103, _) :: _) rfl ?_
 refine SL.a (E.fo (W.rg (SL.o (SL.o ?_))))
 refine SL.v (O.nc) ?_
 refine SL.v (O.fr 2 0 u33) ?_
 refine SL.v (O.l1 u31) ?_
 refine SL.o ?_
 refine SL.v (O.sub_own (j := (kpos (fun l : Ln => l.work) s.lns wk)) rfl rfl Bnd.no (Bnd.at rfl yC) xA xS u31 hi79 hs79 rfl Taken.no) ?_
 refine SL.memS (O.copy (PartOf.own rfl) rfl (SlOf.osl rfl rfl) u31 hi79 hs79 zB (rows' := ((s.lns.take (kpos (fun l : Ln => l.work) s.lns wk)).map eLn ++ List.replicate (s.lns.length + 1 - (kpos (fun l : Ln => l.work) s.lns wk)) [uI 0, .sc (.slice none 0 0)])) wC rfl Taken.no) rfl rfl (S' := (103, _) :: _) rfl ?_
 refine E.fo (W.rg (SL.o (SL.o (SL.o (SL.o ?_)))))
 refine SL.v (O.bd5 u79) ?_
 refine SL.v (O.idx_own (i := (kpos (fun l : Ln => l.work) s.lns wk)) rfl rfl rfl (rfl) zB u31 hi79 hs79 rfl Taken.no) ?_
 refine SL.effS (O.st_els (m := 2) rfl rfl rfl (us := [_, _]) rfl rfl xG yE (tr_row hpl) xP rfl rfl (rows' := ((s.lns.take (kpos (fun l : Ln => l.work) s.lns wk)).map eLn ++ List.replicate (s.lns.length + 1 - (kpos (fun l : Ln => l.work) s.lns wk)) [uI 0, .sc (.slice none 0 0)]).set (kpos (fun l : Ln => l.work) s.lns wk) [uI wk, .sl 5 (q.map eH)]) yT Taken.no) (S' := (103, _) :: _) rfl ?_
 refine E.fo ?_
 refine W.pk [(0,_),(6,_),(8,_)] [(0,_),(1,_),(2,_),(103,_)] ?_
 refine W.seq ?_
 refine W.dr [pW 103, pO, pO, pX 103, pW 0, pW 0, pW 0, ⟨[0], [], [], [2]⟩, pO, pX 2, ⟨[2, 103], [103], [], []⟩] ?_
 refine WH.o rfl (WH.o rfl ?_)
 refine WH.v (O.ad) ?_
 refine WH.v (O.sub_own (i := ((kpos (fun l : Ln => l.work) s.lns wk) + 1)) rfl rfl (Bnd.at rfl yC) Bnd.no zB yX u31 hi79 hs79 rfl Taken.no) ?_
 refine WH.o rfl ?_
 refine WH.v (O.nc) ?_
 refine WH.v (O.fr 2 0 u33) ?_
 refine WH.v (O.l1 u31) ?_
 refine WH.o rfl ?_
 refine WH.v (O.sub_own (i := (kpos (fun l : Ln => l.work) s.lns wk)) rfl rfl (Bnd.at rfl yC) Bnd.no xS yX u31 hi79 hs79 rfl Taken.no) ?_
 refine WH.memS (O.copy (PartOf.osl rfl zB yX) rfl (SlOf.osl rfl rfl) u31 hi79 hs79 zB (rows' := (s.lns.take (kpos (fun l : Ln => l.work) s.lns wk) ++ ⟨wk, q⟩ :: s.lns.drop (kpos (fun l : Ln => l.work) s.lns wk)).map eLn) (by rw [List.take_of_length_le (Nat.le_refl _), ← List.map_drop]; exact ins_ln hpl) rfl Taken.no) rfl rfl rfl rfl rfl (S' := (103, _) :: _) rfl ?_
 refine WH.nil (E.to (W.region (SL.o (SL.o ?_))))
 refine SL.v (O.nc) ?_
 refine SL.v (O.fr 2 0 u33) ?_
 refine SL.st1_3 0 ?_
 refine SL.nil (E.inn ?_)
 refine E.fin (rs := []) (rn [(3, 103)]) (.inr rfl) rfl .nil ?_ ?_ rfl (fixL_spec rfl)
 ·rfl
 · exact (SubS.cons rfl (SubS.cons rfl (SubS.val rfl (by exact sb_data (by rw [setQ_ins hfd xA])) SubS.nil)))

end Go.Proofs.YtmekkjehkcjpdaaGreat
end
section
namespace Go.G
open Go Go.RowKit
variable {P : Program} {w : World} {F : Frm} {ty : TypeId}
end Go.G
end
section
namespace Go.G
open Go Go.RowKit
variable {P : Program} {w : World} {F : Frm} {ty : TypeId}
theorem R.min3 {x y z : Operand} {ts : Array TypeId} {k : IntKind} {a b c : Int} (hx : ev F x = some (.int k a)) (hy : ev F y = some (.int k b)) (hz : ev F z = some (.int k c)) :
    Runs P w F (.call { callee := .builtin .min, args := #[x, y, z], argTypes := ts }) ty (.int k (min (min a b) c)) := fun o ρ ho hty hρ => by
  have hm : ∀ q, q = x ∨ q = y ∨ q = z → q ∈ (Op.call { callee := .builtin .min, args := #[x, y, z], argTypes := ts }).operands := by intro q hq; simp [Op.operands, Call.operands]; exact hq
  simp only [execOp, ho, resolve, Sem.run_bind, Sem.run_pure, Result.andThen_ok, invoke, List.map_toArray, List.map_cons, List.map_nil, hρ x (hm x yE) _ hx, hρ y (hm y yE) _ hy, hρ z (hm z yE) _ hz]
  have e1 : ∀ p q : Int, (if q < p then q else p) = min p q := fun p q => by rw [Int.min_def]; split <;> split <;> omega
  simp [builtin, Builtin.min_, Builtin.min2, e1]
end Go.G
end
