/-
  What the proof rests on: part 10 of 14.
-/
import Derived.Test.YtmekkjehkcjpdaaCirculateRecallsP9
import Derived.WideKeyRuns
section
namespace Go.H
open Go Go.RowKit
section
variable {P : Program}
theorem run_fields {m : Nat} {b : Bool} {cs : Array Value} : ∀ (fs : List Field), (∀ f ∈ fs, f.name ≠ "_" ∧ ∀ w : World, ∃ a, (part f.type cs f.offset).run P w = .ok a w ∧ (Instr.checkKey b m f.type a).run P w = .ok () w) → ∀ w : World, (forIn fs PUnit.unit fun f _ => do
      if f.name ≠ "_" then Instr.checkKey b m f.type (← part f.type cs f.offset)
      pure (ForInStep.yield PUnit.unit) : Sem PUnit).run P w = .ok () w
  | [], _, w => by simp
  | f :: fs, h, w => by
    obtain ⟨h1, h2⟩ := h f (by simp)
    obtain ⟨a, a1, a2⟩ := h2 w
    have ih := run_fields (m := m) (b := b) (cs := cs) fs (fun x hx => h x (by simp [hx])) w
    simp only [List.forIn_cons, Sem.run_bind, if_pos h1, a1, a2, Result.andThen_ok, Sem.run_pure]
    exact ih
theorem find_ask {α : Type} [DecidableEq α] {kt : TypeId} {kf : α → Value} (heq : ∀ (w : World) (a b : α), (Op.equal kt (kf a) (kf b)).run P w = .ok (decide (a = b)) w) (w : World) (a : α) : ∀ (es : List MapEntry) (ks : List α) (i : Nat), es.map (·.key) = ks.map kf → (Instr.findAsking kt (kf a) es i).run P w = .ok (efind a ks es i) w
  | [], [], i, _ => by simp [Instr.findAsking, efind]
  | [], _ :: _, i, h => by simp at h
  | _ :: _, [], i, h => by simp at h
  | e :: es, k :: ks, i, h => by
    simp only [List.map_cons, List.cons.injEq] at h
    rw [Instr.findAsking, efind, h.1]
    by_cases q : a = k
    · simp [Sem.run_bind, heq, q]
    · simp [Sem.run_bind, heq, q, find_ask heq w a es ks (i + 1) h.2]
theorem KeyOk.wide {α : Type} [DecidableEq α] {kt : TypeId} {kf : α → Value} (ht : P.underlying kt = some (.struct (P.fieldsOf kt))) (heq : ∀ (w : World) (a b : α), (Op.equal kt (kf a) (kf b)).run P w = .ok (decide (a = b)) w)
    (hck : ∀ (w : World) (b : Bool) (a : α), (Instr.checkKey b 10000 kt (kf a)).run P w = .ok () w) (hbits : ∀ a : α, Instr.sameBits 10000 (kf a) (kf a) = true) : KeyOk P kt kf where
  find w es ks a he := by
    rw [run_findKey_eq w (by rw [ht])]
    exact find_ask heq w a es ks 0 he
  check := hck
  bits := hbits
abbrev pairV (p : Int × Int) : Value := .agg #[.int .i64 p.1, .int .i64 p.2]
theorem run_checkv {t : TypeId} {x y : Value} (h : fitv (P.underlying t) x y = true) (e : Bool) (m : Nat) (w : World) : (Instr.checkKey e (m + 1) t x).run P w = .ok () w := by
  unfold fitv at h
  split at h
  all_goals first
    | (rename_i ht; rw [Instr.checkKey, Sem.run_bind, run_underlying ht, Result.andThen_ok]; simp; done)
    | cases h
theorem fit_fields {X : Array Value} (m : Nat) : ∀ (fs : List Field) (i : Nat) (xs ys : List Value), fitF P fs i xs ys = true → X.toList.drop i = xs → ∀ f ∈ fs, f.name ≠ "_" ∧ ∀ w : World, ∃ x, (part f.type X f.offset).run P w = .ok x w ∧ ∀ e, (Instr.checkKey e (m + 1) f.type x).run P w = .ok () w
  | [], _, _, _, _, _, f, hf => by cases hf
  | g :: fs, i, [], ys, h, _, f, hf => by simp [fitF] at h
  | g :: fs, i, x :: xs, [], h, _, f, hf => by simp [fitF] at h
  | g :: fs, i, x :: xs, y :: ys, h, hx, f, hf => by
    rw [fitF] at h
    simp only [Bool.and_eq_true, bne_iff_ne, ne_eq, beq_iff_eq] at h
    obtain ⟨⟨⟨h1, h2⟩, h3⟩, h4⟩ := h
    obtain ⟨x1, x2⟩ := drop_one hx
    rcases List.mem_cons.1 hf with q | q
    · subst q
      exact ⟨h1, fun w => ⟨x, by rw [h2]; exact run_partv h3 x1, fun e => run_checkv h3 e m w⟩⟩
    · exact fit_fields m fs (i + 1) xs ys h4 x2 f q
theorem KeyOk.pair {kt : TypeId} (ht : P.underlying kt = some (.struct (P.fieldsOf kt))) (hs : P.stoodInHeld kt = false) (hf : ∀ a b c d : Int, fitF P (P.fieldsOf kt).toList 0 [.int .i64 a, .int .i64 b] [.int .i64 c, .int .i64 d] = true) : KeyOk P kt pairV := by
  have hp : ∀ (a b : Int), ∀ f ∈ (P.fieldsOf kt).toList, f.name ≠ "_" ∧ ∀ w : World, ∃ x, (part f.type #[Value.int .i64 a, .int .i64 b] f.offset).run P w = .ok x w ∧ ∀ e, (Instr.checkKey e (9998 + 1) f.type x).run P w = .ok () w := fun a b => fit_fields 9998 _ 0 _ _ (hf a b a b) rfl
  refine KeyOk.wide ht (fun w a b => ?_) (fun w e a => ?_) fun a => ?_
  · show (Op.equalIn (9998 + 1 + 1) kt _ _).run P w = _
    rw [run_equalIn_struct w (9998 + 1) kt _ _ ht hs]
    have := run_eqFields (P := P) (w := w) (d := 9998) (X := #[Value.int .i64 a.1, .int .i64 a.2]) (Y := #[Value.int .i64 b.1, .int .i64 b.2]) (P.fieldsOf kt).toList 0 _ _ (hf a.1 a.2 b.1 b.2) rfl rfl
    rw [this]
    congr 1
    rw [Bool.eq_iff_iff]
    obtain ⟨a1, a2⟩ := a; obtain ⟨b1, b2⟩ := b
    simp [eqvL, eqv]
  · have := run_fields (P := P) (m := 9999) (b := e) (cs := #[Value.int .i64 a.1, .int .i64 a.2]) (P.fieldsOf kt).toList (fun f hm => ⟨(hp a.1 a.2 f hm).1, fun w => by obtain ⟨x, x1, x2⟩ := (hp a.1 a.2 f hm).2 w; exact ⟨x, x1, x2 e⟩⟩) w
    show (Instr.checkKey e (9999 + 1) kt _).run P w = _
    rw [Instr.checkKey]
    rw [Sem.run_bind, run_underlying ht, Result.andThen_ok]
    simpa using this
  · simp [Instr.sameBits]
end
section
variable {c : Ctx} {P : Program} {F : Frm} {S : Sto} {ops : Array Oper} {d : Nat} {ty : TypeId} {pos : String} {af : Array Edge} {gd : Option (Nat × Bool)} {α β : Type} [DecidableEq α] {kf : α → Value} {vf : β → Value}
theorem AggOf.eval {σ : Sig} {τ : Nat → Value} {a : Act} {w : World} {o : Oper} {x : Operand} {ls : List Value} (hx : AggOf F x ls) (h : SatT c σ τ a w) (hA : AgreeF (o.looksAt ops) F σ) (hm : x ∈ o.op.operands) : a.eval x = .agg ls.toArray := by
  have q := hx.val h hA hm
  rcases hx with hx | hx <;> (obtain ⟨_, p2⟩ := h.opd hA hm hx; rw [p2] at q; exact Option.some.inj q)
theorem O.lookupA {x y : Operand} {t kt et : TypeId} {k : Nat} {l : List (α × β)} {b : α} {z : β} (hx : ev F x = some (.own k)) (hS : lookS k S = some (.mp (mpE kf vf l))) {ls : List Value} (hy : AggOf F y ls) (hkb : kf b = .agg ls.toArray) (ht : P.underlying t = some (.map kt et)) (hk : KeyOk P kt kf)
    (hz : (P.info? et).bind (·.zero) = some (vf z)) (hd : Nat.blt d c.n = true) (hg : Taken ops F gd) : OpOk c P ops ⟨some d, .lookup t x y false, ty, pos, af, gd⟩ F S [k] [] (some (.u (.sc (vf (mget l b z))))) [] :=
  OpOk.val hd hg fun σ τ a w hA hB h => by
    obtain ⟨p1, p2⟩ := h.opd hA (by simp [Op.operands]) hx
    have q1 : a.eval y = kf b := by rw [hkb]; exact hy.eval h hA (by simp [Op.operands])
    obtain ⟨g, es, clk, e1, _, e2, e3⟩ := mp_at h ((hB k (by simp)).trans hS) p1
    obtain ⟨i, hi, hz⟩ := Option.bind_eq_some_iff.1 hz
    refine ⟨vf (mget l b z), ?_, .u (.sc _)⟩
    have hf := mp_find (P := P) (w := w) hk e3 b
    have hgo := Go.MapKept.run_getObj_map (P := P) e2
    have hck := hk.check w es.isEmpty b
    simp only [execOp, e1, q1]
    unfold mget
    cases hm : mfind b l 0 with
    | none => rw [hm] at hf; simp [Instr.lookup, run_underlying ht, hgo, hck, hf, zeroValue, typeInfo, hi, hz]
    | some p => rw [hm] at hf; simp [Instr.lookup, run_underlying ht, hgo, hck, hf]
theorem O.mapUpdateA {x y v : Operand} {t kt et : TypeId} {k : Nat} {l : List (α × β)} {b : α} {u : β} (hx : ev F x = some (.own k)) (hS : lookS k S = some (.mp (mpE kf vf l))) {ls : List Value} (hy : AggOf F y ls) (hkb : kf b = .agg ls.toArray) (hv : ev F v = some (.u (.sc (vf u))))
    (ht : P.underlying t = some (.map kt et)) (hk : KeyOk P kt kf) (hg : Taken ops F gd) : OpOk c P ops ⟨none, .mapUpdate t x y v, ty, pos, af, gd⟩ F S [k] [] none [(k, some (.mp (mpE kf vf (mset l b u))))] := by
  refine OpOk.does hg fun σ τ a w hA hB h => ?_
  obtain ⟨p1, p2⟩ := h.opd hA (by simp [Op.operands]) hx
  have q1 : a.eval y = kf b := by rw [hkb]; exact hy.eval h hA (by simp [Op.operands])
  obtain ⟨q2, _⟩ := h.sc hA (by simp [Op.operands]) hv
  have h0 := (hB k (by simp)).trans hS
  obtain ⟨g, es, clk, e1, e0, e2, e3⟩ := mp_at h h0 p1
  have hf := mp_find (P := P) (w := w) hk e3 b
  have hgo := Go.MapKept.run_getObj_map (P := P) e2
  have hck := hk.check w false b
  have hso := fun o => Go.MapKept.run_setObj_map (P := P) o e2
  unfold mset
  cases hm : mfind b l 0 with
  | none =>
    rw [hm] at hf
    refine ⟨_, τ, ?_, mp_turn h h0 e0 e2 (es' := es.push { key := kf b, val := vf u, born := clk }) (clk := clk + 1) (by simp [e3, mpE])⟩
    simp only [execOp, e1, q1, q2]
    simp [Instr.mapUpdate, run_underlying ht, hgo, hck, hf, hso]
  | some p =>
    obtain ⟨i, v0⟩ := p
    rw [hm] at hf
    obtain ⟨e, r1, r2, r3⟩ := mp_key e3 (mfind_at hm).2
    rw [Nat.sub_zero] at r1
    have hst : (Instr.keyThatStays (((es[i]?).map (·.key)).getD (kf b)) (kf b)).run P w = .ok (kf b) w := by rw [r1]; simp only [Option.map_some, Option.getD_some, r2]; exact run_stays (hk.bits b)
    refine ⟨_, τ, ?_, mp_turn h h0 e0 e2 (es' := es.modify i fun e => { e with key := kf b, val := vf u }) (clk := clk) ?_⟩
    · simp only [execOp, e1, q1, q2]
      simp [Instr.mapUpdate, run_underlying ht, hgo, hck, hf, hso, hst]
    · have hmod : (es.modify i fun e => { e with key := kf b, val := vf u }) = es.modify i fun _ => { e with key := kf b, val := vf u } := by
        apply Array.ext_getElem?
        intro j
        rw [Array.getElem?_modify, Array.getElem?_modify]
        split
        · rename_i c; subst c; rw [r1]; rfl
        · rfl
      rw [hmod, set_pairs r1, e3]
      simp [mpE, List.map_set]
end
end Go.H
end
section
namespace Go.D58
open Go Go.RowKit Go.H Go.D57
structure Cp where
  id : Int
  work : Int
  lib : List UInt8
  place : Int
  pat : Int
  due : Int
  hold : Int
  rc : Bool
deriving DecidableEq, Inhabited
structure Ln where
  work : Int
  q : List Hd
deriving Inhabited
structure St where
  now : Int
  cps : List Cp
  lns : List Ln
structure Sp where
  kind : Int
  copy : Int
  work : Int
  pat : Int
  hold : Int
  cls : Int
  days : Int
  lib : List UInt8
deriving DecidableEq, Inhabited
def inB (n lo hi : Int) : Prop := lo ≤ n ∧ n ≤ hi
instance (n lo hi : Int) : Decidable (inB n lo hi) := by unfold inB; infer_instance
def idB (n : Int) : Prop := inB n 1 1000000000
instance (n : Int) : Decidable (idB n) := by unfold idB; infer_instance
def lowB (b : UInt8) : Bool := decide (97 ≤ b.toNat ∧ b.toNat ≤ 122)
def nmB (b : UInt8) : Bool := lowB b || decide (48 ≤ b.toNat ∧ b.toNat ≤ 57) || decide (b.toNat = 45)
theorem nm_y {b : UInt8} (h : lowB b = true) : nmB b = true := by unfold nmB; rw [h]; rfl
theorem dec_b {p : Prop} [Decidable p] {b : Bool} (h : p ↔ b = true) : decide p = b := by rw [Bool.eq_iff_iff, decide_eq_true_eq]; exact h
theorem nt_f {b : Bool} (h : (!b) = true) : b = false := by cases b; rfl; cases h
theorem nt_t {b : Bool} (h : (!b) = false) : b = true := by cases b; cases h; rfl
theorem nt_t2 {b : Bool} (h : ¬ (!b) = true) : b = true := by cases b; exact absurd rfl h; rfl
theorem nm_d {b : UInt8} (h1 : 48 ≤ b.toNat) (h2 : b.toNat ≤ 57) : nmB b = true := by unfold nmB; rw [decide_eq_true (show 48 ≤ b.toNat ∧ b.toNat ≤ 57 from ⟨h1, h2⟩)]; simp
theorem nm_c {b : UInt8} (h : lowB b = false) (h2 : b.toNat < 48 ∨ 57 < b.toNat) : nmB b = decide (b.toNat = 45) := by unfold nmB; rw [h, decide_eq_false (fun q : 48 ≤ b.toNat ∧ b.toNat ≤ 57 => by omega)]; rfl
theorem at_mem {α : Type} [Inhabited α] {l : List α} {i : Nat} (h : i < l.length) : l[i]! ∈ l := by rw [getElem!_pos l i h]; exact List.getElem_mem _
def nmOk (l : List UInt8) : Prop := l ≠ [] ∧ l.length ≤ 40 ∧ lowB l[0]! = true ∧ ∀ b ∈ l, nmB b = true
def cpOk (c : Cp) (now : Int) : Prop := idB c.id ∧ idB c.work ∧ nmOk c.lib ∧
  ((c.place = 1 ∧ c.pat = 0 ∧ c.due = 0 ∧ c.hold = 0 ∧ c.rc = false) ∨ (c.place = 2 ∧ idB c.pat ∧ inB c.due 1 1000000 ∧ c.hold = 0) ∨ (c.place = 3 ∧ idB c.pat ∧ idB c.hold ∧ inB c.due now 1000000 ∧ c.rc = false))
def lnOk (l : Ln) (now : Int) : Prop := idB l.work ∧ validQ l.q ∧ 0 < l.q.length ∧ ∀ h ∈ l.q, h.tim ≤ now
instance (l : List UInt8) : Decidable (nmOk l) := by unfold nmOk; infer_instance
instance (c : Cp) (now : Int) : Decidable (cpOk c now) := by unfold cpOk; infer_instance
instance (l : Ln) (now : Int) : Decidable (lnOk l now) := by unfold lnOk; infer_instance
theorem any_iff {α : Type} [Inhabited α] {p : α → Bool} {l : List α} : (∃ x ∈ l, p x = true) ↔ 0 ≤ idxF p l := by
  constructor
  · rintro ⟨x, hx, e⟩
    unfold idxF
    split
    · omega
    · rename_i h
      rw [List.findIdx?_eq_none_iff] at h
      rw [h x hx] at e; cases e
  · intro h
    unfold idxF at h
    split at h
    · rename_i i hi
      obtain ⟨h1, h2, _⟩ := List.findIdx?_eq_some_iff_getElem.1 hi
      exact ⟨l[i], List.getElem_mem _, h2⟩
    · omega
theorem nm_fin {l : List UInt8} (hne : l ≠ []) (hl : l.length ≤ 40) (h0 : lowB l[0]! = true) : decide (nmOk l) = !decide (0 ≤ idxF (fun b => !nmB b) l) := by
  rw [← decide_not]
  refine decide_eq_decide.2 ⟨fun q hc => ?_, fun q => ⟨hne, hl, h0, fun b hb => ?_⟩⟩
  · obtain ⟨b, hb, e⟩ := any_iff.2 hc
    rw [q.2.2.2 b hb] at e; cases e
  · cases e : nmB b with
    | true => rfl
    | false => exact absurd (any_iff.1 ⟨b, hb, by rw [e]; rfl⟩) q
theorem ln_fin {l : Ln} {now : Int} (h1 : idB l.work) (h2 : validQ l.q) (h3 : 0 < l.q.length) : decide (idB l.work ∧ validQ l.q ∧ 0 < l.q.length ∧ ∀ h ∈ l.q, h.tim ≤ now) = !decide (0 ≤ idxF (fun h => decide (h.tim > now)) l.q) := by
  rw [← decide_not]
  refine decide_eq_decide.2 ⟨fun q hc => ?_, fun q => ⟨h1, h2, h3, fun b hb => ?_⟩⟩
  · obtain ⟨b, hb, e⟩ := any_iff.2 hc
    have := q.2.2.2 b hb
    have := of_decide_eq_true e
    omega
  · exact Int.not_lt.1 fun e => q (any_iff.1 ⟨b, hb, decide_eq_true e⟩)
def cntP (cs : List Cp) (work p : Int) : Nat := (cs.filter fun c => decide (c.work = work ∧ c.place = p)).length
theorem cnt_s {cs : List Cp} {w p : Int} {k : Nat} (h : k < cs.length) : cntP (cs.take (k + 1)) w p = cntP (cs.take k) w p + if cs[k]!.work = w ∧ cs[k]!.place = p then 1 else 0 := by
  unfold cntP
  rw [List.take_add_one, List.getElem?_eq_getElem h, Option.toList, List.filter_append, List.length_append, getElem!_pos cs k h, List.filter_cons]
  by_cases e : cs[k].work = w ∧ cs[k].place = p
  · rw [if_pos (decide_eq_true e), if_pos e]; rfl
  · rw [if_neg (by rw [decide_eq_false e]; decide), if_neg e]; rfl
theorem cnt_y {cs : List Cp} {w p : Int} {k : Nat} (h : k < cs.length) (e : cs[k]!.work = w ∧ cs[k]!.place = p) : cntP (cs.take (k + 1)) w p = cntP (cs.take k) w p + 1 := by rw [cnt_s h, if_pos e]
theorem cnt_n {cs : List Cp} {w p : Int} {k : Nat} (h : k < cs.length) (e : ¬ (cs[k]!.work = w ∧ cs[k]!.place = p)) : cntP (cs.take (k + 1)) w p = cntP (cs.take k) w p := by rw [cnt_s h, if_neg e]; rfl
theorem cnt_le (cs : List Cp) (w p : Int) (k : Nat) : cntP (cs.take k) w p ≤ k := by
  unfold cntP
  have := List.length_filter_le (fun c : Cp => decide (c.work = w ∧ c.place = p)) (cs.take k)
  rw [List.length_take] at this; omega
theorem cnt_len (cs : List Cp) (w p : Int) : cntP cs w p ≤ cs.length := List.length_filter_le _ _
theorem filt_y {α : Type} [Inhabited α] {p : α → Bool} {l : List α} {k : Nat} (h : k < l.length) (e : p l[k]! = true) : (l.take (k + 1)).filter p = (l.take k).filter p ++ [l[k]!] := by
  rw [List.take_add_one, List.getElem?_eq_getElem h, Option.toList, List.filter_append, getElem!_pos l k h, List.filter_cons, if_pos (by rwa [getElem!_pos l k h] at e)]; rfl
theorem filt_n {α : Type} [Inhabited α] {p : α → Bool} {l : List α} {k : Nat} (h : k < l.length) (e : ¬ p l[k]! = true) : (l.take (k + 1)).filter p = (l.take k).filter p := by
  rw [List.take_add_one, List.getElem?_eq_getElem h, Option.toList, List.filter_append, List.filter_cons, if_neg (by rwa [getElem!_pos l k h] at e)]; simp
def idsF (pr : Cp → Bool) (cs : List Cp) : List Int := (cs.filter pr).map (·.id)
theorem ids_y {pr : Cp → Bool} {cs : List Cp} {k : Nat} (h : k < cs.length) (e : pr cs[k]! = true) : idsF pr (cs.take (k + 1)) = idsF pr (cs.take k) ++ [cs[k]!.id] := by unfold idsF; rw [filt_y h e, List.map_append]; rfl
theorem ids_n {pr : Cp → Bool} {cs : List Cp} {k : Nat} (h : k < cs.length) (e : ¬ pr cs[k]! = true) : idsF pr (cs.take (k + 1)) = idsF pr (cs.take k) := by unfold idsF; rw [filt_n h e]
theorem ids_n2 {pr : Cp → Bool} {cs : List Cp} {k : Nat} (h : k < cs.length) (e : pr cs[k]! = false) : idsF pr (cs.take (k + 1)) = idsF pr (cs.take k) := ids_n h (by rw [e]; decide)
theorem ids_le (pr : Cp → Bool) (cs : List Cp) (k : Nat) : (idsF pr (cs.take k)).length ≤ k := by
  unfold idsF
  rw [List.length_map]
  have := List.length_filter_le pr (cs.take k)
  rw [List.length_take] at this; omega
def finD (s : St) (i : Int) : Cp := if 0 ≤ idxF (fun c : Cp => decide (c.id = i)) s.cps then s.cps[(idxF (fun c : Cp => decide (c.id = i)) s.cps).toNat]! else ⟨0, 0, [], 0, 0, 0, 0, false⟩
theorem finD_y {s : St} {i : Int} (h : 0 ≤ idxF (fun c : Cp => decide (c.id = i)) s.cps) : finD s i = s.cps[(idxF (fun c : Cp => decide (c.id = i)) s.cps).toNat]! := if_pos h
theorem finD_no {s : St} {i : Int} (h : ¬ 0 ≤ idxF (fun c : Cp => decide (c.id = i)) s.cps) : finD s i = ⟨0, 0, [], 0, 0, 0, 0, false⟩ := if_neg h
def queS (s : St) (i : Int) : List Hd := if 0 ≤ idxF (fun l : Ln => decide (l.work = i)) s.lns then s.lns[(idxF (fun l : Ln => decide (l.work = i)) s.lns).toNat]!.q else []
theorem queS_y {s : St} {i : Int} (h : 0 ≤ idxF (fun l : Ln => decide (l.work = i)) s.lns) : queS s i = s.lns[(idxF (fun l : Ln => decide (l.work = i)) s.lns).toNat]!.q := if_pos h
theorem queS_no {s : St} {i : Int} (h : ¬ 0 ≤ idxF (fun l : Ln => decide (l.work = i)) s.lns) : queS s i = [] := if_neg h
theorem idxF_lt {α : Type} [Inhabited α] {p : α → Bool} {l : List α} (h : 0 ≤ idxF p l) : (idxF p l).toNat < l.length ∧ p l[(idxF p l).toNat]! = true := by
  unfold idxF at h ⊢
  split at h
  · rename_i i hi
    obtain ⟨h1, h2, _⟩ := List.findIdx?_eq_some_iff_getElem.1 hi
    show ((i : Int)).toNat < _ ∧ _
    rw [Int.toNat_natCast]
    exact ⟨h1, by show p l[((i : Int)).toNat]! = true; rw [Int.toNat_natCast, getElem!_pos l i h1]; exact h2⟩
  · omega
structure Tk where
  has : List ((Int × Int) × Bool)
  hol : List (Int × Bool)
def tkF (t : Tk) (p w h : Int) : Option Tk := if mget t.has (p, w) false = true ∨ (h ≠ 0 ∧ mget t.hol h false = true) then none else some ⟨mset t.has (p, w) true, if h ≠ 0 then mset t.hol h true else t.hol⟩
def tkN (t : Tk) (p w h : Int) : Tk := (tkF t p w h).getD t
theorem tk_no {t : Tk} {p w h : Int} (e : mget t.has (p, w) false = true ∨ (h ≠ 0 ∧ mget t.hol h false = true)) : tkF t p w h = none ∧ tkN t p w h = t := by
  have : tkF t p w h = none := if_pos e
  exact ⟨this, by unfold tkN; rw [this]; rfl⟩
theorem tk_y {t : Tk} {p w h : Int} (e : ¬ (mget t.has (p, w) false = true ∨ (h ≠ 0 ∧ mget t.hol h false = true))) : tkF t p w h = some (tkN t p w h) ∧ (tkN t p w h).has = mset t.has (p, w) true ∧ (h ≠ 0 → (tkN t p w h).hol = mset t.hol h true) ∧ (¬ h ≠ 0 → (tkN t p w h).hol = t.hol) := by
  have q : tkF t p w h = some ⟨mset t.has (p, w) true, if h ≠ 0 then mset t.hol h true else t.hol⟩ := if_neg e
  have z : tkN t p w h = ⟨mset t.has (p, w) true, if h ≠ 0 then mset t.hol h true else t.hol⟩ := by unfold tkN; rw [q]; rfl
  rw [z]
  exact ⟨q, rfl, fun h0 => if_pos h0, fun h0 => if_neg h0⟩
abbrev ApS := Tk × List (Int × Int)
def apM (m : List (Int × Int)) (p : Int) : List (Int × Int) := mset m p (mget m p 0 + 1)
def apC (x : ApS) (c : Cp) : Option ApS := if c.place = 1 then some x else if (tkF x.1 c.pat c.work c.hold).isSome then (if c.place = 2 then (if mget (apM x.2 c.pat) c.pat 0 > 5 then none else some (tkN x.1 c.pat c.work c.hold, apM x.2 c.pat)) else some (tkN x.1 c.pat c.work c.hold, x.2)) else none
def apCs : List Cp → ApS → Option ApS
  | [], x => some x
  | c :: cs, x => (apC x c).bind (apCs cs)
def apQ (w : Int) : List Hd → Tk → Option Tk
  | [], t => some t
  | h :: q, t => if (tkF t h.pat w h.id).isSome then apQ w q (tkN t h.pat w h.id) else none
def apLs : List Ln → Tk → Option Tk
  | [], t => some t
  | l :: ls, t => (apQ l.work l.q t).bind (apLs ls)
def apartB (s : St) : Bool := ((apCs s.cps (⟨[], []⟩, [])).bind fun x => apLs s.lns x.1).isSome
theorem drop_at {α : Type} [Inhabited α] {a : List α} {k : Nat} (h : k < a.length) : a.drop k = a[k]! :: a.drop (k + 1) := by rw [List.drop_eq_getElem_cons h, getElem!_pos a k h]
section
variable {cs : List Cp} {k : Nat} {t : Tk} {m : List (Int × Int)}
theorem apC_1 (h : k < cs.length) (e : cs[k]!.place = 1) : apCs (cs.drop k) (t, m) = apCs (cs.drop (k + 1)) (t, m) := by
  rw [drop_at h, apCs, apC, if_pos e]; rfl
theorem apC_t (h : k < cs.length) (e : ¬ cs[k]!.place = 1) (e2 : (tkF t cs[k]!.pat cs[k]!.work cs[k]!.hold).isSome = false) : apCs (cs.drop k) (t, m) = none := by
  rw [drop_at h, apCs, apC, if_neg e, if_neg (by rw [e2]; decide)]; rfl
theorem apC_5 (h : k < cs.length) (e : cs[k]!.place = 2) (e2 : (tkF t cs[k]!.pat cs[k]!.work cs[k]!.hold).isSome = true) (e3 : mget (apM m cs[k]!.pat) cs[k]!.pat 0 > 5) : apCs (cs.drop k) (t, m) = none := by
  rw [drop_at h, apCs, apC, if_neg (by omega), if_pos e2, if_pos e, if_pos e3]; rfl
theorem apC_2 (h : k < cs.length) (e : cs[k]!.place = 2) (e2 : (tkF t cs[k]!.pat cs[k]!.work cs[k]!.hold).isSome = true) (e3 : ¬ mget (apM m cs[k]!.pat) cs[k]!.pat 0 > 5) : apCs (cs.drop k) (t, m) = apCs (cs.drop (k + 1)) (tkN t cs[k]!.pat cs[k]!.work cs[k]!.hold, apM m cs[k]!.pat) := by
  rw [drop_at h, apCs, apC, if_neg (by omega), if_pos e2, if_pos e, if_neg e3]; rfl
theorem apC_3 (h : k < cs.length) (e : ¬ cs[k]!.place = 1) (e1 : ¬ cs[k]!.place = 2) (e2 : (tkF t cs[k]!.pat cs[k]!.work cs[k]!.hold).isSome = true) : apCs (cs.drop k) (t, m) = apCs (cs.drop (k + 1)) (tkN t cs[k]!.pat cs[k]!.work cs[k]!.hold, m) := by
  rw [drop_at h, apCs, apC, if_neg e, if_pos e2, if_neg e1]; rfl
theorem apLs_at {ls : List Ln} {i : Nat} (h : i < ls.length) : apLs (ls.drop i) t = (apQ ls[i]!.work ls[i]!.q t).bind (apLs (ls.drop (i + 1))) := by rw [drop_at h, apLs]
theorem apQ_y {w : Int} {q : List Hd} {j : Nat} (h : j < q.length) (e : (tkF t q[j]!.pat w q[j]!.id).isSome = true) : apQ w (q.drop j) t = apQ w (q.drop (j + 1)) (tkN t q[j]!.pat w q[j]!.id) := by rw [drop_at h, apQ, if_pos e]
theorem apQ_n {w : Int} {q : List Hd} {j : Nat} (h : j < q.length) (e : (tkF t q[j]!.pat w q[j]!.id).isSome = false) : apQ w (q.drop j) t = none := by rw [drop_at h, apQ, if_neg (by rw [e]; decide)]
theorem apM_b {p : Int} (hm : ∀ a, 0 ≤ mget m a 0 ∧ mget m a 0 ≤ 5) (h : ¬ mget (apM m p) p 0 > 5) : ∀ a, 0 ≤ mget (apM m p) a 0 ∧ mget (apM m p) a 0 ≤ 5 := fun a => by
  unfold apM at h ⊢
  rw [mget_mset, if_pos rfl] at h
  rw [mget_mset]
  split
  · have := hm p; omega
  · exact hm a
end
def vCp (s : St) (k : Nat) : Prop := cpOk s.cps[k]! s.now ∧ (0 < k → s.cps[k - 1]!.id < s.cps[k]!.id)
def vLn (s : St) (i : Nat) : Prop := lnOk s.lns[i]! s.now ∧ (0 < i → s.lns[i - 1]!.work < s.lns[i]!.work) ∧ cntP s.cps s.lns[i]!.work 1 = 0 ∧ ¬ cntP s.cps s.lns[i]!.work 2 + cntP s.cps s.lns[i]!.work 3 = 0
instance (s : St) (k : Nat) : Decidable (vCp s k) := by unfold vCp; infer_instance
instance (s : St) (k : Nat) : Decidable (vLn s k) := by unfold vLn; infer_instance
def validS (s : St) : Prop := inB s.now 0 1000000 ∧ s.cps.length ≤ 60 ∧ s.lns.length ≤ 60 ∧ (∀ k, k < s.cps.length → vCp s k) ∧ (∀ i, i < s.lns.length → vLn s i) ∧ apartB s = true
instance (s : St) : Decidable (validS s) := by unfold validS; infer_instance
theorem upto_s {p : Nat → Prop} {k : Nat} (h : ∀ j, j < k → p j) (hk : p k) : ∀ j, j < k + 1 → p j := fun j hj => by
  rcases Nat.lt_succ_iff_lt_or_eq.1 hj with q | q
  · exact h j q
  · rw [q]; exact hk
def fldS (x : Sp) : Sp :=
  if x.kind = 1 then ⟨x.kind, x.copy, x.work, 0, 0, 0, 0, x.lib⟩ else
  if x.kind = 2 ∨ x.kind = 4 ∨ x.kind = 5 then ⟨x.kind, x.copy, 0, 0, 0, 0, 0, []⟩ else
  if x.kind = 3 then ⟨x.kind, x.copy, 0, x.pat, 0, 0, 0, []⟩ else
  if x.kind = 6 then ⟨x.kind, 0, x.work, x.pat, x.hold, x.cls, 0, []⟩ else
  if x.kind = 7 then ⟨x.kind, 0, 0, 0, x.hold, 0, 0, []⟩ else
  if x.kind = 8 then ⟨x.kind, 0, 0, 0, 0, 0, x.days, []⟩ else ⟨x.kind, 0, 0, 0, 0, 0, 0, []⟩
section
variable {x : Sp}
theorem fld_1 (h : x.kind = 1) : fldS x = ⟨x.kind, x.copy, x.work, 0, 0, 0, 0, x.lib⟩ := if_pos h
theorem fld_c (h : x.kind = 2 ∨ x.kind = 4 ∨ x.kind = 5) : fldS x = ⟨x.kind, x.copy, 0, 0, 0, 0, 0, []⟩ := by unfold fldS; rw [if_neg (by omega), if_pos h]
theorem fld_3 (h : x.kind = 3) : fldS x = ⟨x.kind, x.copy, 0, x.pat, 0, 0, 0, []⟩ := by unfold fldS; rw [if_neg (by omega), if_neg (by omega), if_pos h]
theorem fld_6 (h : x.kind = 6) : fldS x = ⟨x.kind, 0, x.work, x.pat, x.hold, x.cls, 0, []⟩ := by unfold fldS; rw [if_neg (by omega), if_neg (by omega), if_neg (by omega), if_pos h]
theorem fld_7 (h : x.kind = 7) : fldS x = ⟨x.kind, 0, 0, 0, x.hold, 0, 0, []⟩ := by unfold fldS; rw [if_neg (by omega), if_neg (by omega), if_neg (by omega), if_neg (by omega), if_pos h]
theorem fld_8 (h : x.kind = 8) : fldS x = ⟨x.kind, 0, 0, 0, 0, 0, x.days, []⟩ := by unfold fldS; rw [if_neg (by omega), if_neg (by omega), if_neg (by omega), if_neg (by omega), if_neg (by omega), if_pos h]
theorem fld_no (h : ¬ (1 ≤ x.kind ∧ x.kind ≤ 8)) : fldS x = ⟨x.kind, 0, 0, 0, 0, 0, 0, []⟩ := by unfold fldS; rw [if_neg (by omega), if_neg (by omega), if_neg (by omega), if_neg (by omega), if_neg (by omega), if_neg (by omega)]
end
def wtC (c : Cp) (h : Hd) (now : Int) : Cp := { c with place := 3, pat := h.pat, hold := h.id, due := if now + 7 ≤ 1000000 then now + 7 else 1000000, rc := false }
end Go.D58
end
section
namespace Go.H
open Go Go.RowKit
open Go.G (bs Ext Gr)
section
variable {c : Ctx} {P : Program} {F : Frm} {S : Sto} {ops : Array Oper} {d : Nat} {ty : TypeId} {pos : String} {af : Array Edge} {gd : Option (Nat × Bool)}
theorem O.s2b {x : Operand} {s t e : TypeId} {l : List UInt8} (hx : ev F x = some (vT l)) (hne : l ≠ []) (hlen : l.length ≤ 9223372036854775807) (hs : P.underlying s = some .string) (ht : P.underlying t = some (.slice e)) (he : P.underlying e = some (.int .u8)) (hd : Nat.blt d c.n = true) (hg : Taken ops F gd) :
    OpOk c P ops ⟨some d, .convert s t x, ty, pos, af, gd⟩ F S [] [] (some (.u (.sl 1 (l.map eB)))) [] := by
  refine OpOk.mem hd hg fun σ τ a w hA hB hN h => ?_
  obtain ⟨_, p2⟩ := h.sc hA (by simp [Op.operands]) hx
  have hbl : (bs l).data.toList = l := by simp
  have hbs : (bs l).size ≤ 9223372036854775807 := by
    have : (bs l).size = (bs l).data.toList.length := by rw [Array.length_toList]; rfl
    rw [this, hbl]; exact hlen
  obtain ⟨v, w', r1, r2, r3, r4⟩ := run_value (o := ⟨some d, .convert s t x, ty, pos, af, gd⟩) (G.M.s2b (P := P) (ty := ty) p2 hs ht he hbs) rfl rfl rfl
  rw [hbl] at r4
  have := h.chg (N := []) (τ' := τ) (δ := []) (w' := w') (B := fun _ => False) (fun q hq => by cases hq) (Gr.of_ext r2)
    (fun b hb => hb.elim) (fun _ _ => rfl) (fun q s hq => by simp [look] at hq) (fun q q' s s' b hq => by simp [look] at hq) (fun _ q s hq => by simp [look] at hq)
  refine ⟨_, w', τ, r1, this.1, .u (u8_sl r4 hne fun b h1 h2 => ⟨.inr (.inr (Nat.le_trans h.gr.size h1)), fun j sb hj hv => ?_⟩)⟩
  rcases upd_sto hj with hj | ⟨_, hj⟩
  · simp [look] at hj
  · have := vblk_lt (h.sto j sb hj) hv
    omega
end
end Go.H
end
section
namespace Go.Proofs.Ytmekkjehkcjpdaa
open Go Go.RowKit Go.H Go.D57 Go.D58

theorem hinf5 : ∃ i, Try.prog.info? 5 = some i ∧ i.zero = some (.int .u8 0) ∧ i.size = 1 ∧ i.bytes = 1 := G.info_of (by kernel_rfl)
theorem hcallOk17 : G.callOk Try.prog 17 = true := by kernel_rfl
theorem hcallOk69 : G.callOk Try.prog 69 = true := by kernel_rfl
theorem hcallOk91 : G.callOk Try.prog 91 = true := by kernel_rfl

abbrev eCp (c : Cp) : List UV := [uI c.id, uI c.work, uT c.lib, uI c.place, uI c.pat, uI c.due, uI c.hold, uB c.rc]
abbrev eLn (l : Ln) : List UV := [uI l.work, .sl 5 (l.q.map eH)]
abbrev eSp (x : Sp) : List UV := [uI x.kind, uI x.copy, uI x.work, uI x.pat, uI x.hold, uI x.cls, uI x.days, uT x.lib]
abbrev vSt (s : St) : IV := vA [uI s.now, .sl 8 (s.cps.map eCp), .sl 2 (s.lns.map eLn)]

set_option maxRecDepth 8000 in
theorem in_h {n lo hi : Int} :
    Con Try.prog 17 [vI n, vI lo, vI hi] [] (vB (decide (inB n lo hi))) [] := by
 refine Con.enterL (n := 15) Try.func17 rfl rfl rfl (fun τ w ok vs hin => ?_)
 clear hin
 refine W.rg (SL.an rfl rfl (E.fo (W.rg (SL.mv rfl rfl (SL.mv rfl rfl ?_)))))
 refine SL.val (O.det (fun _ => G.R.geq rfl rfl) rfl Taken.no) ?_
 refine SL.mv rfl rfl ?_
 refine SL.case (j := 3) (g := 10) (want := true) rfl rfl (fun hg1 => ?_) (fun hg1 => ?_)
 ·skip
  first | have hg1p := G.gA1 hg1 | have hg1p := G.gA2 hg1 | have hg1p := hg1
  refine SL.val (O.move rfl rfl (Taken.yes rfl rfl hg1)) ?_
  refine SL.val (O.move rfl rfl (Taken.yes rfl rfl hg1)) ?_
  refine SL.val (O.det (fun _ => G.R.leq rfl rfl) rfl (Taken.yes rfl rfl hg1)) ?_
  refine SL.val (O.pick_t rfl hg1 rfl rfl Taken.no) ?_
  refine SL.an rfl rfl (E.fo (W.ret ?_))
  refine E.fin (rs := [_]) (rn []) (.inl rfl) rfl (.cons (ResOne.tmp rfl) .nil) ?_ ?_ rfl (fixL_spec rfl)
  ·skip
   unfold inB; first | exact iv_bool (dec_iff (by omega)) | exact iv_bool (dec_t (by omega)) | exact iv_bool (dec_f (by omega))
  · exact SubS.nil
 first | have hg1p := G.gA5 hg1 | have hg1p := G.gA6 hg1 | have hg1p := hg1
 refine SL.sk rfl rfl rfl hg1 (SL.sk rfl rfl rfl hg1 (SL.sk rfl rfl rfl hg1 ?_))
 refine SL.val (O.pick_f rfl (G.ne_t hg1) rfl rfl Taken.no) ?_
 refine SL.an rfl rfl (E.fo (W.ret ?_))
 refine E.fin (rs := [_]) (rn []) (.inl rfl) rfl (.cons (ResOne.tmp rfl) .nil) ?_ ?_ rfl (fixL_spec rfl)
 ·skip
  unfold inB; first | exact iv_bool (dec_iff (by omega)) | exact iv_bool (dec_t (by omega)) | exact iv_bool (dec_f (by omega))
 · exact SubS.nil

set_option maxRecDepth 8000 in
theorem id_h {n : Int} :
    Con Try.prog 42 [vI n] [] (vB (decide (idB n))) [] := by
 refine Con.enterL (n := 5) Try.func42 rfl rfl rfl (fun τ w ok vs hin => ?_)
 clear hin
 refine W.rg (SL.an rfl rfl (E.fo (W.rg (SL.mv rfl rfl ?_))))
 refine SL.val (O.callp rfl rfl rfl (in_h (n := n) (lo := 1) (hi := 1000000000)) (.cons (ArgOk.same rfl) (.cons (ArgOk.same rfl) (.cons (ArgOk.same rfl) .nil))) hcallOk17 rfl Taken.no) ?_
 refine SL.an rfl rfl (E.fo (W.ret ?_))
 refine E.fin (rs := [_]) (rn []) (.inl rfl) rfl (.cons (ResOne.tmp rfl) .nil) ?_ ?_ rfl (fixL_spec rfl)
 ·skip
  rfl
 · exact SubS.nil

set_option maxRecDepth 8000 in
theorem name1_h {b : UInt8} :
    Con Try.prog 69 [.u (.sc (.int .u8 (b.toNat : Int)))] [] (vB (lowB b)) [] := by
 refine Con.enterL (n := 9) Try.func69 rfl rfl rfl (fun τ w ok vs hin => ?_)
 clear hin
 refine W.rg (SL.an rfl rfl (E.fo (W.rg (SL.mv rfl rfl ?_))))
 refine SL.val (O.det (fun _ => G.R.geq rfl rfl) rfl Taken.no) ?_
 refine SL.mv rfl rfl ?_
 refine SL.case (j := 2) (g := 5) (want := true) rfl rfl (fun hg1 => ?_) (fun hg1 => ?_)
 ·skip
  first | have hg1p := G.gA1 hg1 | have hg1p := G.gA2 hg1 | have hg1p := hg1
  refine SL.val (O.move rfl rfl (Taken.yes rfl rfl hg1)) ?_
  refine SL.val (O.det (fun _ => G.R.leq rfl rfl) rfl (Taken.yes rfl rfl hg1)) ?_
  refine SL.val (O.pick_t rfl hg1 rfl rfl Taken.no) ?_
  refine SL.an rfl rfl (E.fo (W.ret ?_))
  refine E.fin (rs := [_]) (rn []) (.inl rfl) rfl (.cons (ResOne.tmp rfl) .nil) ?_ ?_ rfl (fixL_spec rfl)
  ·skip
   unfold lowB; first | exact iv_bool (dec_iff (by omega)) | exact iv_bool (dec_t (by omega)) | exact iv_bool (dec_f (by omega))
  · exact SubS.nil
 first | have hg1p := G.gA5 hg1 | have hg1p := G.gA6 hg1 | have hg1p := hg1
 refine SL.sk rfl rfl rfl hg1 (SL.sk rfl rfl rfl hg1 ?_)
 refine SL.val (O.pick_f rfl (G.ne_t hg1) rfl rfl Taken.no) ?_
 refine SL.an rfl rfl (E.fo (W.ret ?_))
 refine E.fin (rs := [_]) (rn []) (.inl rfl) rfl (.cons (ResOne.tmp rfl) .nil) ?_ ?_ rfl (fixL_spec rfl)
 ·skip
  unfold lowB; first | exact iv_bool (dec_iff (by omega)) | exact iv_bool (dec_t (by omega)) | exact iv_bool (dec_f (by omega))
 · exact SubS.nil

set_option maxRecDepth 8000 in
theorem name2_h {b : UInt8} :
    Con Try.prog 70 [.u (.sc (.int .u8 (b.toNat : Int))), .u (.ptr [.sc (.func (.func 69) #[] #[])])] [] (vB (!nmB b)) [] := by
 refine Con.enterL (n := 20) Try.func70 rfl rfl rfl (fun τ w ok vs hin => ?_)
 clear hin
 refine W.rg (SL.an rfl rfl (E.fo (W.rg ?_)))
 refine SL.val (O.ld1 (PtI.ofU (PtU.fz rfl)) rfl Try.underlying103 rfl rfl Taken.no) ?_
 refine SL.mv rfl rfl ?_
 refine SL.val (O.callp rfl rfl rfl (name1_h (b := b)) (.cons (ArgOk.same rfl) .nil) hcallOk69 rfl Taken.no) ?_
 refine SL.val (O.det (fun _ => G.R.not rfl) rfl Taken.no) ?_
 refine SL.mv rfl rfl ?_
 refine SL.case (j := 4) (g := 8) (want := true) rfl rfl (fun hg1 => ?_) (fun hg1 => ?_)
 ·skip
  first | have hg1p := G.gA1 hg1 | have hg1p := G.gA2 hg1 | have hg1p := hg1
  refine SL.val (O.move rfl rfl (Taken.yes rfl rfl hg1)) ?_
  refine SL.val (O.det (fun _ => G.R.lss rfl rfl) rfl (Taken.yes rfl rfl hg1)) ?_
  refine SL.val (O.move rfl rfl (Taken.yes rfl rfl hg1)) ?_
  refine SL.case (j := 7) (g := 11) (want := false) rfl rfl (fun hg2 => ?_) (fun hg2 => ?_)
  ·skip
   first | have hg2p := G.gA3 hg2 | have hg2p := G.gA4 hg2 | have hg2p := hg2
   refine SL.val (O.move rfl rfl (Taken.yes rfl rfl hg2)) ?_
   refine SL.val (O.det (fun _ => G.R.gtr rfl rfl) rfl (Taken.yes rfl rfl hg2)) ?_
   refine SL.val (O.pick_f rfl hg2 rfl rfl (Taken.yes rfl rfl hg1)) ?_
   refine SL.val (O.pick_t rfl hg1 rfl rfl Taken.no) ?_
   refine SL.mv rfl rfl ?_
   refine SL.case (j := 12) (g := 16) (want := true) rfl rfl (fun hg3 => ?_) (fun hg3 => ?_)
   ·skip
    first | have hg3p := G.gA1 hg3 | have hg3p := G.gA2 hg3 | have hg3p := hg3
    refine SL.val (O.move rfl rfl (Taken.yes rfl rfl hg3)) ?_
    refine SL.val (O.det (fun _ => G.R.neq rfl rfl) rfl (Taken.yes rfl rfl hg3)) ?_
    refine SL.val (O.pick_t rfl hg3 rfl rfl Taken.no) ?_
    refine SL.an rfl rfl (E.fo (W.ret ?_))
    refine E.fin (rs := [_]) (rn []) (.inl rfl) rfl (.cons (ResOne.tmp rfl) .nil) ?_ ?_ rfl (fixL_spec rfl)
    ·skip
     first | exact iv_bool (by rw [nm_y (by assumption)]; rfl) | exact iv_bool (by rw [nm_d (by omega) (by omega)]; rfl) | exact iv_bool (by rw [nm_c (nt_f (by assumption)) (by omega)]; rw [← decide_not]; exact decide_eq_decide.2 (by omega)) | exact iv_bool (by rw [nm_y (by first | exact nt_t (by assumption) | exact nt_t2 (by assumption))]; rfl)
    · exact SubS.nil
   first | have hg3p := G.gA5 hg3 | have hg3p := G.gA6 hg3 | have hg3p := hg3
   refine SL.sk rfl rfl rfl hg3 (SL.sk rfl rfl rfl hg3 ?_)
   refine SL.val (O.pick_f rfl (G.ne_t hg3) rfl rfl Taken.no) ?_
   refine SL.an rfl rfl (E.fo (W.ret ?_))
   refine E.fin (rs := [_]) (rn []) (.inl rfl) rfl (.cons (ResOne.tmp rfl) .nil) ?_ ?_ rfl (fixL_spec rfl)
   ·skip
    first | exact iv_bool (by rw [nm_y (by assumption)]; rfl) | exact iv_bool (by rw [nm_d (by omega) (by omega)]; rfl) | exact iv_bool (by rw [nm_c (nt_f (by assumption)) (by omega)]; rw [← decide_not]; exact decide_eq_decide.2 (by omega)) | exact iv_bool (by rw [nm_y (by first | exact nt_t (by assumption) | exact nt_t2 (by assumption))]; rfl)
   · exact SubS.nil
  first | have hg2p := G.gA7 hg2 | have hg2p := G.gA8 hg2 | have hg2p := hg2
  refine SL.sk rfl rfl rfl hg2 (SL.sk rfl rfl rfl hg2 ?_)
  refine SL.val (O.pick_t rfl (G.ne_f hg2) rfl rfl (Taken.yes rfl rfl hg1)) ?_
  refine SL.val (O.pick_t rfl hg1 rfl rfl Taken.no) ?_
  refine SL.mv rfl rfl ?_
  have hg4 : true = true := by decide
  refine SL.val (O.move rfl rfl (Taken.yes rfl rfl hg4)) ?_
  refine SL.val (O.det (fun _ => G.R.neq rfl rfl) rfl (Taken.yes rfl rfl hg4)) ?_
  refine SL.val (O.pick_t rfl rfl rfl rfl Taken.no) ?_
  refine SL.an rfl rfl (E.fo (W.ret ?_))
  refine E.fin (rs := [_]) (rn []) (.inl rfl) rfl (.cons (ResOne.tmp rfl) .nil) ?_ ?_ rfl (fixL_spec rfl)
  ·skip
   first | exact iv_bool (by rw [nm_y (by assumption)]; rfl) | exact iv_bool (by rw [nm_d (by omega) (by omega)]; rfl) | exact iv_bool (by rw [nm_c (nt_f (by assumption)) (by omega)]; rw [← decide_not]; exact decide_eq_decide.2 (by omega)) | exact iv_bool (by rw [nm_y (by first | exact nt_t (by assumption) | exact nt_t2 (by assumption))]; rfl)
  · exact SubS.nil
 first | have hg1p := G.gA5 hg1 | have hg1p := G.gA6 hg1 | have hg1p := hg1
 refine SL.sk rfl rfl rfl hg1 (SL.sk rfl rfl rfl hg1 (SL.sk rfl rfl rfl hg1 ?_))
 refine SL.skip (OpOk.not2 rfl rfl rfl) ?_
 refine SL.skip (OpOk.not2 rfl rfl rfl) ?_
 refine SL.sk rfl rfl rfl hg1 ?_
 refine SL.val (O.pick_f rfl (G.ne_t hg1) rfl rfl Taken.no) ?_
 refine SL.mv rfl rfl ?_
 have hg5 : false ≠ true := by decide
 refine SL.sk rfl rfl rfl hg5 (SL.sk rfl rfl rfl hg5 ?_)
 refine SL.val (O.pick_f rfl rfl rfl rfl Taken.no) ?_
 refine SL.an rfl rfl (E.fo (W.ret ?_))
 refine E.fin (rs := [_]) (rn []) (.inl rfl) rfl (.cons (ResOne.tmp rfl) .nil) ?_ ?_ rfl (fixL_spec rfl)
 ·skip
  first | exact iv_bool (by rw [nm_y (by assumption)]; rfl) | exact iv_bool (by rw [nm_d (by omega) (by omega)]; rfl) | exact iv_bool (by rw [nm_c (nt_f (by assumption)) (by omega)]; rw [← decide_not]; exact decide_eq_decide.2 (by omega)) | exact iv_bool (by rw [nm_y (by first | exact nt_t (by assumption) | exact nt_t2 (by assumption))]; rfl)
 · exact SubS.nil

set_option maxRecDepth 8000 in
theorem indexFuncBy {f : Nat} {caps : List UV} {pr : UInt8 → Bool} {q : List UInt8} (hok : G.callOk Try.prog f = true) (hpr : ∀ x ∈ q, Con Try.prog f ([.u (.sc (.int .u8 (x.toNat : Int)))] ++ caps.map .u) [] (vB (pr x)) []) :
    Con Try.prog 91 [vL 1 (q.map eB), .u (.clo (.func f) [] caps)] [] (vI (idxF pr q)) [] := by
 obtain ⟨i5, hi5, hz5, hs5, hb5⟩ := hinf5
 refine Con.enterL (n := 19) Try.func91 rfl rfl rfl (fun τ w ok vs hin => ?_)
 have hl0 := hin.len (i := 0) rfl
 try rw [List.length_map] at hl0
 clear hin
 refine W.rg (SL.an rfl rfl (E.fo (W.seq (W.rg (SL.mv rfl rfl ?_)))))
 refine SL.val (O.lenE (SlOf.fz rfl (by decide)) (by first | exact List.length_map _ | rfl) Try.underlying105 rfl Taken.no) ?_
 refine SL.mv rfl rfl (E.fo (W.block ?_))
 refine W.loopx1 (fun (k : Nat) => [(8, vI (k : Int))]) (fun (k : Nat) => []) (fun (k : Nat) => k ≤ q.length ∧ ∀ j, j < k → (pr) q[j]! = false) (fun (k : Nat) => q.length - k) (0) (rn []) (.cons (t := 0) rfl (.cons (t := 1) rfl (.cons (t := 7) rfl .nil))) .nil rfl ?_ ?_ rfl rfl ?_ ?_
 · exact (SubF.cons rfl SubF.nil)
 · exact SubS.nil
 ·skip
  exact ⟨by omega, fun j h => by omega⟩
 intro k hinv
 obtain ⟨hk, hp⟩ := hinv
 refine W.rg ?_
 refine SL.val (O.det (fun _ => G.R.lss rfl rfl) rfl Taken.no) ?_
 refine E.fo (W.seq ?_)
 first | refine W.cond_d rfl (fun hc1 => ?_) (fun hc1 => ?_) | refine W.cond_nd rfl (fun hc1 => ?_) (fun hc1 => ?_) | refine W.cond rfl (fun hc1 => ?_) (fun hc1 => ?_)
 ·skip
  refine W.skip (E.to (W.seq (W.block (W.rg (SL.mv rfl rfl (SL.an rfl rfl (E.fo (W.rg (SL.mv rfl rfl (SL.mv rfl rfl (SL.mv rfl rfl ?_)))))))))))
  refine SL.val (O.idx_fz rfl rfl (rfl) (row_get (by omega)) Try.underlying105 hi5 hs5 rfl Taken.no) ?_
  refine SL.val (O.ld1 (PtI.ofU (PtU.fz rfl)) rfl Try.underlying5 rfl rfl Taken.no) ?_
  refine SL.val (O.callp rfl rfl rfl (hpr q[k]! (at_mem (by omega))) (.cons (ArgOk.same rfl) (ArgsOk.caps caps)) hok rfl Taken.no) ?_
  refine E.fo ?_
  first | refine W.cond_d rfl (fun hc2 => ?_) (fun hc2 => ?_) | refine W.cond_nd rfl (fun hc2 => ?_) (fun hc2 => ?_) | refine W.cond rfl (fun hc2 => ?_) (fun hc2 => ?_)
  ·skip
   refine W.rg (SL.mv rfl rfl (SL.an rfl rfl (E.fo (W.ret ?_))))
   refine E.inr ?_
   refine E.thr (E.thr ?_)
   refine E.inr ?_
   refine E.thr ?_
   refine E.fin (rs := [_]) (rn []) (.inl rfl) rfl (.cons (ResOne.tmp rfl) .nil) ?_ ?_ rfl (fixL_spec rfl)
   ·skip
    exact iv_int (idxF_here (by omega) hp (by assumption))
   · exact SubS.nil
  refine W.skip (E.inn (E.to (W.region ?_)))
  refine SL.val (O.det (fun _ => by first | exact G.R.add64 rfl rfl (by omega) | exact G.R.add rfl rfl) rfl Taken.no) ?_
  refine SL.mv rfl rfl (SL.nil ?_)
  refine E.again ((k + 1)) (rn []) ?_ ?_ rfl (fixL_spec rfl) ?_ ?_
  · exact (SubF.cons rfl (SubF.cons rfl (SubF.cons rfl (SubF.cons rfl SubF.nil))))
  · exact SubS.nil
  ·try dsimp only
   exact ⟨by omega, fun j hj => by rcases Nat.lt_succ_iff_lt_or_eq.1 hj with h | h; exact hp j h; subst h; simp_all⟩
  · (try dsimp only); omega
 refine W.exit (E.th (E.th (E.hit (E.to (W.rg (SL.an rfl rfl (E.fo (W.ret ?_))))))))
 refine E.fin (rs := [_]) (rn []) (.inl rfl) rfl (.cons (ResOne.tmp rfl) .nil) ?_ ?_ rfl (fixL_spec rfl)
 ·skip
  exact iv_int (idxF_none (by omega) hp)
 · exact SubS.nil

set_option maxRecDepth 8000 in
theorem containsFuncBy {f : Nat} {caps : List UV} {pr : UInt8 → Bool} {q : List UInt8} (hok : G.callOk Try.prog f = true) (hpr : ∀ x ∈ q, Con Try.prog f ([.u (.sc (.int .u8 (x.toNat : Int)))] ++ caps.map .u) [] (vB (pr x)) []) :
    Con Try.prog 71 [vL 1 (q.map eB), .u (.clo (.func f) [] caps)] [] (vB (decide (0 ≤ idxF pr q))) [] := by
 refine Con.enterL (n := 9) Try.func71 rfl rfl rfl (fun τ w ok vs hin => ?_)
 have hl0 := hin.len (i := 0) rfl
 try rw [List.length_map] at hl0
 clear hin
 refine W.rg (SL.an rfl rfl (E.fo (W.rg (SL.mv rfl rfl (SL.mv rfl rfl ?_)))))
 refine SL.val (O.callp rfl rfl rfl (indexFuncBy hok hpr) (.cons (ArgOk.same rfl) (.cons (ArgOk.same rfl) .nil)) hcallOk91 rfl Taken.no) ?_
 refine SL.val (O.det (fun _ => G.R.geq rfl rfl) rfl Taken.no) ?_
 refine SL.an rfl rfl (E.fo (W.ret ?_))
 refine E.fin (rs := [_]) (rn []) (.inl rfl) rfl (.cons (ResOne.tmp rfl) .nil) ?_ ?_ rfl (fixL_spec rfl)
 ·skip
  rfl
 · exact SubS.nil

end Go.Proofs.Ytmekkjehkcjpdaa
end
section
namespace Go.Proofs.Ytmekkjehkcjpdaa
open Go Go.RowKit Go.H Go.D57 Go.D58

theorem hinf43 : ∃ i, Try.prog.info? 43 = some i ∧ i.zero = some (.agg #[.int .i64 0, .int .i64 0, .string ByteArray.empty, .int .i64 0, .int .i64 0, .int .i64 0, .int .i64 0, .bool false]) ∧ i.size = 8 ∧ i.bytes = 72 := G.info_of (by kernel_rfl)
theorem hinf51 : ∃ i, Try.prog.info? 51 = some i ∧ i.zero = some (.agg #[.int .i64 0, .slice none 0 0]) ∧ i.size = 2 ∧ i.bytes = 32 := G.info_of (by kernel_rfl)
theorem hcallOk28 : G.callOk Try.prog 28 = true := by kernel_rfl
theorem hcallOk31 : G.callOk Try.prog 31 = true := by kernel_rfl
theorem hcallOk42 : G.callOk Try.prog 42 = true := by kernel_rfl
theorem hcallOk43 : G.callOk Try.prog 43 = true := by kernel_rfl
theorem hcallOk67 : G.callOk Try.prog 67 = true := by kernel_rfl
theorem hcallOk70 : G.callOk Try.prog 70 = true := by kernel_rfl
theorem hcallOk71 : G.callOk Try.prog 71 = true := by kernel_rfl

set_option maxRecDepth 8000 in
theorem name_h {l : List UInt8} :
    Con Try.prog 43 [vT l] [] (vB (decide (nmOk l))) [] := by
 refine Con.enterL (n := 26) Try.func43 rfl rfl rfl (fun τ w ok vs hin => ?_)
 clear hin
 refine W.rg (SL.an rfl rfl (E.fo (W.rg ?_)))
 refine SL.memS (O.alloc (z := .nilFunc) (is := [.u (.sc (.nilFunc))]) 101 (by kernel_rfl) rfl rfl rfl Taken.no) rfl rfl (S' := (101, _) :: _) rfl ?_
 refine SL.effS (O.st_ref (m := 1) rfl rfl rfl (js := [_]) rfl rfl (by kernel_rfl) (by simp) (Nat.le_of_ble_eq_true rfl) rfl (is' := [_]) rfl Taken.no) (S' := (101, _) :: _) rfl ?_
 refine E.fo (W.rg ?_)
 refine SL.val (O.makeFunc rfl rfl rfl Taken.no) ?_
 refine SL.an rfl rfl (E.fo (W.seq ?_))
 refine W.draw [⟨[], [], [], []⟩, ⟨[], [], [], []⟩, ⟨[], [], [], []⟩, ⟨[], [], [], []⟩, ⟨[], [], [], []⟩, ⟨[], [], [], []⟩, ⟨[], [], [], []⟩, ⟨[], [], [], []⟩, ⟨[101], [], [], []⟩, ⟨[], [], [], []⟩, ⟨[], [], [], []⟩, ⟨[], [], [], []⟩, ⟨[], [], [], []⟩, ⟨[], [], [], []⟩, ⟨[], [], [], []⟩, ⟨[], [], [], []⟩, ⟨[], [], [], [101]⟩, ⟨[101], [], [], []⟩, ⟨[], [], [], []⟩, ⟨[], [], [], []⟩, ⟨[], [], [], []⟩] rfl (by kernel_rfl) (by kernel_rfl) rfl rfl ?_
 refine WH.mv rfl rfl rfl ?_
 refine WH.val (O.det (fun _ => G.R.strneL (b := []) rfl rfl) rfl Taken.no) rfl rfl ?_
 refine WH.mv rfl rfl rfl ?_
 refine WH.case (j := 2) (g := 8) (want := true) rfl rfl (fun hg1 => ?_) (fun hg1 => ?_)
 ·skip
  first | have hg1p := G.gA1 hg1 | have hg1p := G.gA2 hg1 | have hg1p := hg1
  have hne : l ≠ [] := by first | assumption | simp_all
  have hlp : 0 < l.length := List.length_pos_iff.2 hne
  refine WH.val (O.move rfl rfl (Taken.yes rfl rfl hg1)) rfl rfl ?_
  refine WH.val (O.det (fun _ => G.R.lenL rfl Try.underlying9) rfl (Taken.yes rfl rfl hg1)) rfl rfl ?_
  refine WH.val (O.det (fun _ => G.R.leq rfl rfl) rfl (Taken.yes rfl rfl hg1)) rfl rfl ?_
  refine WH.val (O.pick_t rfl hg1 rfl rfl Taken.no) rfl rfl ?_
  refine WH.mv rfl rfl rfl ?_
  refine WH.case (j := 7) (g := 13) (want := true) rfl rfl (fun hg2 => ?_) (fun hg2 => ?_)
  ·skip
   first | have hg2p := G.gA1 hg2 | have hg2p := G.gA2 hg2 | have hg2p := hg2
   refine WH.val (O.ld1 (PtI.ref rfl rfl) rfl Try.underlying103 rfl rfl (Taken.yes rfl rfl hg2)) rfl rfl ?_
   refine WH.val (O.move rfl rfl (Taken.yes rfl rfl hg2)) rfl rfl ?_
   refine WH.val (O.det (fun _ => G.R.stridxL (i := 0) rfl rfl Try.underlying9 (by exact hlp)) rfl (Taken.yes rfl rfl hg2)) rfl rfl ?_
   refine WH.val (O.callp rfl rfl rfl (name1_h (b := l[0]!)) (.cons (ArgOk.same rfl) .nil) hcallOk69 rfl (Taken.yes rfl rfl hg2)) rfl rfl ?_
   refine WH.val (O.pick_t rfl hg2 rfl rfl Taken.no) rfl rfl ?_
   refine WH.mv rfl rfl rfl ?_
   refine WH.case (j := 13) (g := 19) (want := true) rfl rfl (fun hg3 => ?_) (fun hg3 => ?_)
   ·skip
    first | have hg3p := G.gA1 hg3 | have hg3p := G.gA2 hg3 | have hg3p := hg3
    refine WH.val (O.move rfl rfl (Taken.yes rfl rfl hg3)) rfl rfl ?_
    refine WH.memS (O.s2b (l := l) rfl (by exact hne) (by omega) Try.underlying9 Try.underlying105 Try.underlying5 rfl (Taken.yes rfl rfl hg3)) rfl rfl rfl rfl rfl (S' := _) rfl ?_
    refine WH.val (O.move rfl rfl (Taken.yes rfl rfl hg3)) rfl rfl ?_
    refine WH.memS (O.call (rn []) [101] rfl rfl rfl (containsFuncBy (q := l) (f := 70) (caps := [.ptr [.sc (.func (.func 69) #[] #[])]]) (pr := fun b => !nmB b) hcallOk70 (fun x hx => name2_h (b := x))) (.cons (ArgOk.same rfl) (.cons (ArgOk.cloU .nil (.cons (ArgOk.ref rfl rfl rfl) .nil)) .nil)) SubS.nil rfl rfl rfl rfl rfl (.inr ⟨rfl, fun x hx => by simp at hx⟩) hcallOk71 (r' := .u _) rfl rfl (Taken.yes rfl rfl hg3)) rfl rfl rfl rfl rfl (S' := _) rfl ?_
    refine WH.val (O.det (fun _ => G.R.not rfl) rfl (Taken.yes rfl rfl hg3)) rfl rfl ?_
    refine WH.val (O.pick_t rfl hg3 rfl rfl Taken.no) rfl rfl ?_
    refine WH.val (O.assign rfl rfl Taken.no) rfl rfl ?_
    refine WH.nil (E.to ?_)
    refine W.pick (K:=[(2,_)]) (Z:=[(101,_)]) ⟨rfl,trivial⟩ ⟨rfl,trivial⟩ ?_
    refine W.ret ?_
    refine E.fin (rs := [_]) (rn []) (.inl rfl) rfl (.cons (ResOne.tmp rfl) .nil) ?_ ?_ rfl (fixL_spec rfl)
    ·skip
     first | exact iv_bool (dec_f (fun q => hne q.1)) | exact iv_bool (dec_f (fun q => by have := q.2.1; omega)) | exact iv_bool (dec_f (fun q => by have := q.2.2.1; simp_all)) | exact iv_bool (nm_fin hne (by omega) (by simp_all))
    · exact SubS.nil
   first | have hg3p := G.gA5 hg3 | have hg3p := G.gA6 hg3 | have hg3p := hg3
   refine WH.sk rfl rfl rfl hg3 (WH.sk rfl rfl rfl hg3 (WH.sk rfl rfl rfl hg3 (WH.sk rfl rfl rfl hg3 (WH.sk rfl rfl rfl hg3 ?_))))
   refine WH.val (O.pick_f rfl (G.ne_t hg3) rfl rfl Taken.no) rfl rfl ?_
   refine WH.val (O.assign rfl rfl Taken.no) rfl rfl ?_
   refine WH.nil (E.to ?_)
   refine W.pick (K:=[(2,_)]) (Z:=[(101,_)]) ⟨rfl,trivial⟩ ⟨rfl,trivial⟩ ?_
   refine W.ret ?_
   refine E.fin (rs := [_]) (rn []) (.inl rfl) rfl (.cons (ResOne.tmp rfl) .nil) ?_ ?_ rfl (fixL_spec rfl)
   ·skip
    first | exact iv_bool (dec_f (fun q => hne q.1)) | exact iv_bool (dec_f (fun q => by have := q.2.1; omega)) | exact iv_bool (dec_f (fun q => by have := q.2.2.1; simp_all)) | exact iv_bool (nm_fin hne (by omega) (by simp_all))
   · exact SubS.nil
  first | have hg2p := G.gA5 hg2 | have hg2p := G.gA6 hg2 | have hg2p := hg2
  refine WH.sk rfl rfl rfl hg2 (WH.sk rfl rfl rfl hg2 (WH.sk rfl rfl rfl hg2 (WH.sk rfl rfl rfl hg2 ?_)))
  refine WH.val (O.pick_f rfl (G.ne_t hg2) rfl rfl Taken.no) rfl rfl ?_
  refine WH.mv rfl rfl rfl ?_
  have hg4 : false ≠ true := by decide
  refine WH.sk rfl rfl rfl hg4 (WH.sk rfl rfl rfl hg4 (WH.sk rfl rfl rfl hg4 (WH.sk rfl rfl rfl hg4 (WH.sk rfl rfl rfl hg4 ?_))))
  refine WH.val (O.pick_f rfl rfl rfl rfl Taken.no) rfl rfl ?_
  refine WH.val (O.assign rfl rfl Taken.no) rfl rfl ?_
  refine WH.nil (E.to ?_)
  refine W.pick (K:=[(2,_)]) (Z:=[(101,_)]) ⟨rfl,trivial⟩ ⟨rfl,trivial⟩ ?_
  refine W.ret ?_
  refine E.fin (rs := [_]) (rn []) (.inl rfl) rfl (.cons (ResOne.tmp rfl) .nil) ?_ ?_ rfl (fixL_spec rfl)
  ·skip
   first | exact iv_bool (dec_f (fun q => hne q.1)) | exact iv_bool (dec_f (fun q => by have := q.2.1; omega)) | exact iv_bool (dec_f (fun q => by have := q.2.2.1; simp_all)) | exact iv_bool (nm_fin hne (by omega) (by simp_all))
  · exact SubS.nil
 first | have hg1p := G.gA5 hg1 | have hg1p := G.gA6 hg1 | have hg1p := hg1
 have hne : ¬ l ≠ [] := by first | assumption | simp_all
 refine WH.sk rfl rfl rfl hg1 (WH.sk rfl rfl rfl hg1 (WH.sk rfl rfl rfl hg1 ?_))
 refine WH.val (O.pick_f rfl (G.ne_t hg1) rfl rfl Taken.no) rfl rfl ?_
 refine WH.mv rfl rfl rfl ?_
 have hg5 : false ≠ true := by decide
 refine WH.sk rfl rfl rfl hg5 (WH.sk rfl rfl rfl hg5 (WH.sk rfl rfl rfl hg5 (WH.sk rfl rfl rfl hg5 ?_)))
 refine WH.val (O.pick_f rfl rfl rfl rfl Taken.no) rfl rfl ?_
 refine WH.mv rfl rfl rfl ?_
 have hg6 : false ≠ true := by decide
 refine WH.sk rfl rfl rfl hg6 (WH.sk rfl rfl rfl hg6 (WH.sk rfl rfl rfl hg6 (WH.sk rfl rfl rfl hg6 (WH.sk rfl rfl rfl hg6 ?_))))
 refine WH.val (O.pick_f rfl rfl rfl rfl Taken.no) rfl rfl ?_
 refine WH.val (O.assign rfl rfl Taken.no) rfl rfl ?_
 refine WH.nil (E.to ?_)
 refine W.pick (K:=[(2,_)]) (Z:=[(101,_)]) ⟨rfl,trivial⟩ ⟨rfl,trivial⟩ ?_
 refine W.ret ?_
 refine E.fin (rs := [_]) (rn []) (.inl rfl) rfl (.cons (ResOne.tmp rfl) .nil) ?_ ?_ rfl (fixL_spec rfl)
 ·skip
  first | exact iv_bool (dec_f (fun q => hne q.1)) | exact iv_bool (dec_f (fun q => by have := q.2.1; omega)) | exact iv_bool (dec_f (fun q => by have := q.2.2.1; simp_all)) | exact iv_bool (nm_fin hne (by omega) (by simp_all))
 · exact SubS.nil

set_option maxRecDepth 8000 in
theorem indexFuncCp {f : Nat} {caps : List UV} {pr : Cp → Bool} {q : List Cp} (hok : G.callOk Try.prog f = true) (hpr : ∀ x ∈ q, Con Try.prog f ([vA (eCp x)] ++ caps.map .u) [] (vB (pr x)) []) :
    Con Try.prog 31 [vL 8 (q.map eCp), .u (.clo (.func f) [] caps)] [] (vI (idxF pr q)) [] := by
 obtain ⟨i43, hi43, hz43, hs43, hb43⟩ := hinf43
 refine Con.enterL (n := 19) Try.func31 rfl rfl rfl (fun τ w ok vs hin => ?_)
 have hl0 := hin.len (i := 0) rfl
 try rw [List.length_map] at hl0
 clear hin
 refine W.rg (SL.an rfl rfl (E.fo (W.seq (W.rg (SL.mv rfl rfl ?_)))))
 refine SL.val (O.lenE (SlOf.fz rfl (by decide)) (by first | exact List.length_map _ | rfl) Try.underlying25 rfl Taken.no) ?_
 refine SL.mv rfl rfl (E.fo (W.block ?_))
 refine W.loopx1 (fun (k : Nat) => [(8, vI (k : Int))]) (fun (k : Nat) => []) (fun (k : Nat) => k ≤ q.length ∧ ∀ j, j < k → (pr) q[j]! = false) (fun (k : Nat) => q.length - k) (0) (rn []) (.cons (t := 0) rfl (.cons (t := 1) rfl (.cons (t := 7) rfl .nil))) .nil rfl ?_ ?_ rfl rfl ?_ ?_
 · exact (SubF.cons rfl SubF.nil)
 · exact SubS.nil
 ·skip
  exact ⟨by omega, fun j h => by omega⟩
 intro k hinv
 obtain ⟨hk, hp⟩ := hinv
 refine W.rg ?_
 refine SL.val (O.det (fun _ => G.R.lss rfl rfl) rfl Taken.no) ?_
 refine E.fo (W.seq ?_)
 first | refine W.cond_d rfl (fun hc1 => ?_) (fun hc1 => ?_) | refine W.cond_nd rfl (fun hc1 => ?_) (fun hc1 => ?_) | refine W.cond rfl (fun hc1 => ?_) (fun hc1 => ?_)
 ·skip
  refine W.skip (E.to (W.seq (W.block (W.rg (SL.mv rfl rfl (SL.an rfl rfl (E.fo (W.rg (SL.mv rfl rfl (SL.mv rfl rfl (SL.mv rfl rfl ?_)))))))))))
  refine SL.val (O.idx_fz rfl rfl (rfl) (row_get (by omega)) Try.underlying25 hi43 hs43 rfl Taken.no) ?_
  refine SL.val (O.ldU (m := 8) (PtU.fz rfl) rfl Try.underlying43 rfl (by kernel_rfl) rfl Taken.no) ?_
  refine SL.val (O.callp rfl rfl rfl (hpr q[k]! (at_mem (by omega))) (.cons (ArgOk.same rfl) (ArgsOk.caps caps)) hok rfl Taken.no) ?_
  refine E.fo ?_
  first | refine W.cond_d rfl (fun hc2 => ?_) (fun hc2 => ?_) | refine W.cond_nd rfl (fun hc2 => ?_) (fun hc2 => ?_) | refine W.cond rfl (fun hc2 => ?_) (fun hc2 => ?_)
  ·skip
   refine W.rg (SL.mv rfl rfl (SL.an rfl rfl (E.fo (W.ret ?_))))
   refine E.inr ?_
   refine E.thr (E.thr ?_)
   refine E.inr ?_
   refine E.thr ?_
   refine E.fin (rs := [_]) (rn []) (.inl rfl) rfl (.cons (ResOne.tmp rfl) .nil) ?_ ?_ rfl (fixL_spec rfl)
   ·skip
    exact iv_int (idxF_here (by omega) hp (by assumption))
   · exact SubS.nil
  refine W.skip (E.inn (E.to (W.region ?_)))
  refine SL.val (O.det (fun _ => by first | exact G.R.add64 rfl rfl (by omega) | exact G.R.add rfl rfl) rfl Taken.no) ?_
  refine SL.mv rfl rfl (SL.nil ?_)
  refine E.again ((k + 1)) (rn []) ?_ ?_ rfl (fixL_spec rfl) ?_ ?_
  · exact (SubF.cons rfl (SubF.cons rfl (SubF.cons rfl (SubF.cons rfl SubF.nil))))
  · exact SubS.nil
  ·try dsimp only
   exact ⟨by omega, fun j hj => by rcases Nat.lt_succ_iff_lt_or_eq.1 hj with h | h; exact hp j h; subst h; simp_all⟩
  · (try dsimp only); omega
 refine W.exit (E.th (E.th (E.hit (E.to (W.rg (SL.an rfl rfl (E.fo (W.ret ?_))))))))
 refine E.fin (rs := [_]) (rn []) (.inl rfl) rfl (.cons (ResOne.tmp rfl) .nil) ?_ ?_ rfl (fixL_spec rfl)
 ·skip
  exact iv_int (idxF_none (by omega) hp)
 · exact SubS.nil

set_option maxRecDepth 8000 in
theorem containsFuncCp {f : Nat} {caps : List UV} {pr : Cp → Bool} {q : List Cp} (hok : G.callOk Try.prog f = true) (hpr : ∀ x ∈ q, Con Try.prog f ([vA (eCp x)] ++ caps.map .u) [] (vB (pr x)) []) :
    Con Try.prog 75 [vL 8 (q.map eCp), .u (.clo (.func f) [] caps)] [] (vB (decide (0 ≤ idxF pr q))) [] := by
 refine Con.enterL (n := 9) Try.func75 rfl rfl rfl (fun τ w ok vs hin => ?_)
 have hl0 := hin.len (i := 0) rfl
 try rw [List.length_map] at hl0
 clear hin
 refine W.rg (SL.an rfl rfl (E.fo (W.rg (SL.mv rfl rfl (SL.mv rfl rfl ?_)))))
 refine SL.val (O.callp rfl rfl rfl (indexFuncCp hok hpr) (.cons (ArgOk.same rfl) (.cons (ArgOk.same rfl) .nil)) hcallOk31 rfl Taken.no) ?_
 refine SL.val (O.det (fun _ => G.R.geq rfl rfl) rfl Taken.no) ?_
 refine SL.an rfl rfl (E.fo (W.ret ?_))
 refine E.fin (rs := [_]) (rn []) (.inl rfl) rfl (.cons (ResOne.tmp rfl) .nil) ?_ ?_ rfl (fixL_spec rfl)
 ·skip
  rfl
 · exact SubS.nil

set_option maxRecDepth 8000 in
theorem indexFuncLn {f : Nat} {caps : List UV} {pr : Ln → Bool} {q : List Ln} (hok : G.callOk Try.prog f = true) (hpr : ∀ x ∈ q, Con Try.prog f ([vA (eLn x)] ++ caps.map .u) [] (vB (pr x)) []) :
    Con Try.prog 28 [vL 2 (q.map eLn), .u (.clo (.func f) [] caps)] [] (vI (idxF pr q)) [] := by
 obtain ⟨i51, hi51, hz51, hs51, hb51⟩ := hinf51
 refine Con.enterL (n := 19) Try.func28 rfl rfl rfl (fun τ w ok vs hin => ?_)
 have hl0 := hin.len (i := 0) rfl
 try rw [List.length_map] at hl0
 clear hin
 refine W.rg (SL.an rfl rfl (E.fo (W.seq (W.rg (SL.mv rfl rfl ?_)))))
 refine SL.val (O.lenE (SlOf.fz rfl (by decide)) (by first | exact List.length_map _ | rfl) Try.underlying26 rfl Taken.no) ?_
 refine SL.mv rfl rfl (E.fo (W.block ?_))
 refine W.loopx1 (fun (k : Nat) => [(8, vI (k : Int))]) (fun (k : Nat) => []) (fun (k : Nat) => k ≤ q.length ∧ ∀ j, j < k → (pr) q[j]! = false) (fun (k : Nat) => q.length - k) (0) (rn []) (.cons (t := 0) rfl (.cons (t := 1) rfl (.cons (t := 7) rfl .nil))) .nil rfl ?_ ?_ rfl rfl ?_ ?_
 · exact (SubF.cons rfl SubF.nil)
 · exact SubS.nil
 ·skip
  exact ⟨by omega, fun j h => by omega⟩
 intro k hinv
 obtain ⟨hk, hp⟩ := hinv
 refine W.rg ?_
 refine SL.val (O.det (fun _ => G.R.lss rfl rfl) rfl Taken.no) ?_
 refine E.fo (W.seq ?_)
 first | refine W.cond_d rfl (fun hc1 => ?_) (fun hc1 => ?_) | refine W.cond_nd rfl (fun hc1 => ?_) (fun hc1 => ?_) | refine W.cond rfl (fun hc1 => ?_) (fun hc1 => ?_)
 ·skip
  refine W.skip (E.to (W.seq (W.block (W.rg (SL.mv rfl rfl (SL.an rfl rfl (E.fo (W.rg (SL.mv rfl rfl (SL.mv rfl rfl (SL.mv rfl rfl ?_)))))))))))
  refine SL.val (O.idx_fz rfl rfl (rfl) (row_get (by omega)) Try.underlying26 hi51 hs51 rfl Taken.no) ?_
  refine SL.val (O.ldU (m := 2) (PtU.fz rfl) rfl Try.underlying51 rfl (by kernel_rfl) rfl Taken.no) ?_
  refine SL.val (O.callp rfl rfl rfl (hpr q[k]! (at_mem (by omega))) (.cons (ArgOk.same rfl) (ArgsOk.caps caps)) hok rfl Taken.no) ?_
  refine E.fo ?_
  first | refine W.cond_d rfl (fun hc2 => ?_) (fun hc2 => ?_) | refine W.cond_nd rfl (fun hc2 => ?_) (fun hc2 => ?_) | refine W.cond rfl (fun hc2 => ?_) (fun hc2 => ?_)
  ·skip
   refine W.rg (SL.mv rfl rfl (SL.an rfl rfl (E.fo (W.ret ?_))))
   refine E.inr ?_
   refine E.thr (E.thr ?_)
   refine E.inr ?_
   refine E.thr ?_
   refine E.fin (rs := [_]) (rn []) (.inl rfl) rfl (.cons (ResOne.tmp rfl) .nil) ?_ ?_ rfl (fixL_spec rfl)
   ·skip
    exact iv_int (idxF_here (by omega) hp (by assumption))
   · exact SubS.nil
  refine W.skip (E.inn (E.to (W.region ?_)))
  refine SL.val (O.det (fun _ => by first | exact G.R.add64 rfl rfl (by omega) | exact G.R.add rfl rfl) rfl Taken.no) ?_
  refine SL.mv rfl rfl (SL.nil ?_)
  refine E.again ((k + 1)) (rn []) ?_ ?_ rfl (fixL_spec rfl) ?_ ?_
  · exact (SubF.cons rfl (SubF.cons rfl (SubF.cons rfl (SubF.cons rfl SubF.nil))))
  · exact SubS.nil
  ·try dsimp only
   exact ⟨by omega, fun j hj => by rcases Nat.lt_succ_iff_lt_or_eq.1 hj with h | h; exact hp j h; subst h; simp_all⟩
  · (try dsimp only); omega
 refine W.exit (E.th (E.th (E.hit (E.to (W.rg (SL.an rfl rfl (E.fo (W.ret ?_))))))))
 refine E.fin (rs := [_]) (rn []) (.inl rfl) rfl (.cons (ResOne.tmp rfl) .nil) ?_ ?_ rfl (fixL_spec rfl)
 ·skip
  exact iv_int (idxF_none (by omega) hp)
 · exact SubS.nil

set_option maxRecDepth 8000 in
theorem containsFuncLn {f : Nat} {caps : List UV} {pr : Ln → Bool} {q : List Ln} (hok : G.callOk Try.prog f = true) (hpr : ∀ x ∈ q, Con Try.prog f ([vA (eLn x)] ++ caps.map .u) [] (vB (pr x)) []) :
    Con Try.prog 80 [vL 2 (q.map eLn), .u (.clo (.func f) [] caps)] [] (vB (decide (0 ≤ idxF pr q))) [] := by
 refine Con.enterL (n := 9) Try.func80 rfl rfl rfl (fun τ w ok vs hin => ?_)
 have hl0 := hin.len (i := 0) rfl
 try rw [List.length_map] at hl0
 clear hin
 refine W.rg (SL.an rfl rfl (E.fo (W.rg (SL.mv rfl rfl (SL.mv rfl rfl ?_)))))
 refine SL.val (O.callp rfl rfl rfl (indexFuncLn hok hpr) (.cons (ArgOk.same rfl) (.cons (ArgOk.same rfl) .nil)) hcallOk28 rfl Taken.no) ?_
 refine SL.val (O.det (fun _ => G.R.geq rfl rfl) rfl Taken.no) ?_
 refine SL.an rfl rfl (E.fo (W.ret ?_))
 refine E.fin (rs := [_]) (rn []) (.inl rfl) rfl (.cons (ResOne.tmp rfl) .nil) ?_ ?_ rfl (fixL_spec rfl)
 ·skip
  rfl
 · exact SubS.nil

set_option maxRecDepth 8000 in
theorem copyValid_h {c : Cp} {now : Int} :
    Con Try.prog 39 [vA (eCp c), vI now] [] (vB (decide (cpOk c now))) [] := by
 refine Con.enterL (n := 79) Try.func39 rfl rfl rfl (fun τ w ok vs hin => ?_)
 clear hin
 refine W.rg ?_
 refine SL.memS (O.box (is := [_, _, _, _, _, _, _, _]) 101 rfl rfl (by simp) rfl rfl Taken.no) rfl rfl (S' := (101, _) :: _) rfl ?_
 refine SL.an rfl rfl (E.fo (W.seq (W.rg ?_)))
 refine SL.val (O.fld_ref (o' := 0) rfl Try.underlying43 rfl (m := 0) (by kernel_rfl) rfl rfl Taken.no) ?_
 refine SL.val (O.ld1 (PtI.ref rfl rfl) rfl Try.underlying3 rfl rfl Taken.no) ?_
 refine SL.val (O.callp rfl rfl rfl (id_h) (.cons (ArgOk.same rfl) .nil) hcallOk42 rfl Taken.no) ?_
 refine SL.val (O.det (fun _ => G.R.not rfl) rfl Taken.no) ?_
 refine SL.mv rfl rfl ?_
 refine SL.case (j := 4) (g := 9) (want := false) rfl rfl (fun hg1 => ?_) (fun hg1 => ?_)
 ·skip
  first | have hg1p := G.gA3 hg1 | have hg1p := G.gA4 hg1 | have hg1p := hg1
  refine SL.val (O.fld_ref (o' := 1) rfl Try.underlying43 rfl (m := 0) (by kernel_rfl) rfl rfl (Taken.yes rfl rfl hg1)) ?_
  refine SL.val (O.ld1 (PtI.ref rfl rfl) rfl Try.underlying3 rfl rfl (Taken.yes rfl rfl hg1)) ?_
  refine SL.val (O.callp rfl rfl rfl (id_h) (.cons (ArgOk.same rfl) .nil) hcallOk42 rfl (Taken.yes rfl rfl hg1)) ?_
  refine SL.val (O.det (fun _ => G.R.not rfl) rfl (Taken.yes rfl rfl hg1)) ?_
  refine SL.val (O.pick_f rfl hg1 rfl rfl Taken.no) ?_
  refine SL.mv rfl rfl ?_
  refine SL.case (j := 10) (g := 15) (want := false) rfl rfl (fun hg2 => ?_) (fun hg2 => ?_)
  ·skip
   first | have hg2p := G.gA3 hg2 | have hg2p := G.gA4 hg2 | have hg2p := hg2
   refine SL.val (O.fld_ref (o' := 2) rfl Try.underlying43 rfl (m := 0) (by kernel_rfl) rfl rfl (Taken.yes rfl rfl hg2)) ?_
   refine SL.val (O.ld1 (PtI.ref rfl rfl) rfl Try.underlying9 rfl rfl (Taken.yes rfl rfl hg2)) ?_
   refine SL.val (O.callp rfl rfl rfl (name_h) (.cons (ArgOk.same rfl) .nil) hcallOk43 rfl (Taken.yes rfl rfl hg2)) ?_
   refine SL.val (O.det (fun _ => G.R.not rfl) rfl (Taken.yes rfl rfl hg2)) ?_
   refine SL.val (O.pick_f rfl hg2 rfl rfl Taken.no) ?_
   refine E.fo ?_
   first | refine W.cond_d rfl (fun hc3 => ?_) (fun hc3 => ?_) | refine W.cond_nd rfl (fun hc3 => ?_) (fun hc3 => ?_) | refine W.cond rfl (fun hc3 => ?_) (fun hc3 => ?_)
   ·skip
    refine W.rg (SL.an rfl rfl (E.fo (W.ret (E.thr ?_))))
    refine E.fin (rs := [_]) (rn []) (.inl rfl) rfl (.cons (ResOne.tmp rfl) .nil) ?_ ?_ rfl (fixL_spec rfl)
    ·skip
     unfold cpOk; first | exact iv_bool (dec_f (fun q => by simp_all)) | exact iv_bool (dec_t (by simp_all)) | exact iv_bool (dec_iff (by simp_all)) | exact iv_bool (dec_f (fun q => by omega)) | exact iv_bool (dec_b (by constructor <;> (intro q; simp_all)))
    · exact SubS.nil
   refine W.skip (E.to (W.seq (W.rg ?_)))
   refine SL.val (O.fld_ref (o' := 3) rfl Try.underlying43 rfl (m := 0) (by kernel_rfl) rfl rfl Taken.no) ?_
   refine SL.val (O.ld1 (PtI.ref rfl rfl) rfl Try.underlying3 rfl rfl Taken.no) ?_
   refine E.fo (W.block (W.rg ?_))
   refine SL.val (O.det (fun _ => G.R.eql rfl rfl) rfl Taken.no) ?_
   refine SL.an rfl rfl (E.fo ?_)
   first | refine W.cond_d rfl (fun hc4 => ?_) (fun hc4 => ?_) | refine W.cond_nd rfl (fun hc4 => ?_) (fun hc4 => ?_) | refine W.cond rfl (fun hc4 => ?_) (fun hc4 => ?_)
   ·skip
    refine W.rg ?_
    refine SL.val (O.fld_ref (o' := 4) rfl Try.underlying43 rfl (m := 0) (by kernel_rfl) rfl rfl Taken.no) ?_
    refine SL.val (O.ld1 (PtI.ref rfl rfl) rfl Try.underlying3 rfl rfl Taken.no) ?_
    refine SL.val (O.det (fun _ => G.R.eql rfl rfl) rfl Taken.no) ?_
    refine SL.mv rfl rfl ?_
    refine SL.case (j := 3) (g := 28) (want := true) rfl rfl (fun hg5 => ?_) (fun hg5 => ?_)
    ·skip
     first | have hg5p := G.gA1 hg5 | have hg5p := G.gA2 hg5 | have hg5p := hg5
     refine SL.val (O.fld_ref (o' := 5) rfl Try.underlying43 rfl (m := 0) (by kernel_rfl) rfl rfl (Taken.yes rfl rfl hg5)) ?_
     refine SL.val (O.ld1 (PtI.ref rfl rfl) rfl Try.underlying3 rfl rfl (Taken.yes rfl rfl hg5)) ?_
     refine SL.val (O.det (fun _ => G.R.eql rfl rfl) rfl (Taken.yes rfl rfl hg5)) ?_
     refine SL.val (O.pick_t rfl hg5 rfl rfl Taken.no) ?_
     refine SL.mv rfl rfl ?_
     refine SL.case (j := 8) (g := 33) (want := true) rfl rfl (fun hg6 => ?_) (fun hg6 => ?_)
     ·skip
      first | have hg6p := G.gA1 hg6 | have hg6p := G.gA2 hg6 | have hg6p := hg6
      refine SL.val (O.fld_ref (o' := 6) rfl Try.underlying43 rfl (m := 0) (by kernel_rfl) rfl rfl (Taken.yes rfl rfl hg6)) ?_
      refine SL.val (O.ld1 (PtI.ref rfl rfl) rfl Try.underlying3 rfl rfl (Taken.yes rfl rfl hg6)) ?_
      refine SL.val (O.det (fun _ => G.R.eql rfl rfl) rfl (Taken.yes rfl rfl hg6)) ?_
      refine SL.val (O.pick_t rfl hg6 rfl rfl Taken.no) ?_
      refine SL.mv rfl rfl ?_
      refine SL.case (j := 13) (g := 38) (want := true) rfl rfl (fun hg7 => ?_) (fun hg7 => ?_)
      ·skip
       first | have hg7p := G.gA1 hg7 | have hg7p := G.gA2 hg7 | have hg7p := hg7
       refine SL.val (O.fld_ref (o' := 7) rfl Try.underlying43 rfl (m := 0) (by kernel_rfl) rfl rfl (Taken.yes rfl rfl hg7)) ?_
       refine SL.val (O.ld1 (PtI.ref rfl rfl) rfl Try.underlying4 rfl rfl (Taken.yes rfl rfl hg7)) ?_
       refine SL.val (O.det (fun _ => G.R.not rfl) rfl (Taken.yes rfl rfl hg7)) ?_
       refine SL.val (O.pick_t rfl hg7 rfl rfl Taken.no) ?_
       refine SL.an rfl rfl (E.fo ?_)
       refine W.pick (K:=[(4,_)]) (Z:=[(101,_)]) ⟨rfl,trivial⟩ ⟨rfl,trivial⟩ ?_
       refine W.ret ?_
       refine E.inr ?_
       refine E.thr ?_
       refine E.fin (rs := [_]) (rn []) (.inl rfl) rfl (.cons (ResOne.tmp rfl) .nil) ?_ ?_ rfl (fixL_spec rfl)
       ·skip
        unfold cpOk; first | exact iv_bool (dec_f (fun q => by simp_all)) | exact iv_bool (dec_t (by simp_all)) | exact iv_bool (dec_iff (by simp_all)) | exact iv_bool (dec_f (fun q => by omega)) | exact iv_bool (dec_b (by constructor <;> (intro q; simp_all)))
       · exact SubS.nil
      first | have hg7p := G.gA5 hg7 | have hg7p := G.gA6 hg7 | have hg7p := hg7
      refine SL.sk rfl rfl rfl hg7 (SL.sk rfl rfl rfl hg7 (SL.sk rfl rfl rfl hg7 ?_))
      refine SL.val (O.pick_f rfl (G.ne_t hg7) rfl rfl Taken.no) ?_
      refine SL.an rfl rfl (E.fo ?_)
      refine W.pick (K:=[(4,_)]) (Z:=[(101,_)]) ⟨rfl,trivial⟩ ⟨rfl,trivial⟩ ?_
      refine W.ret ?_
      refine E.inr ?_
      refine E.thr ?_
      refine E.fin (rs := [_]) (rn []) (.inl rfl) rfl (.cons (ResOne.tmp rfl) .nil) ?_ ?_ rfl (fixL_spec rfl)
      ·skip
       unfold cpOk; first | exact iv_bool (dec_f (fun q => by simp_all)) | exact iv_bool (dec_t (by simp_all)) | exact iv_bool (dec_iff (by simp_all)) | exact iv_bool (dec_f (fun q => by omega)) | exact iv_bool (dec_b (by constructor <;> (intro q; simp_all)))
      · exact SubS.nil
     first | have hg6p := G.gA5 hg6 | have hg6p := G.gA6 hg6 | have hg6p := hg6
     refine SL.sk rfl rfl rfl hg6 (SL.sk rfl rfl rfl hg6 (SL.sk rfl rfl rfl hg6 ?_))
     refine SL.val (O.pick_f rfl (G.ne_t hg6) rfl rfl Taken.no) ?_
     refine SL.mv rfl rfl ?_
     have hg8 : false ≠ true := by decide
     refine SL.sk rfl rfl rfl hg8 (SL.sk rfl rfl rfl hg8 (SL.sk rfl rfl rfl hg8 ?_))
     refine SL.val (O.pick_f rfl rfl rfl rfl Taken.no) ?_
     refine SL.an rfl rfl (E.fo ?_)
     refine W.pick (K:=[(4,_)]) (Z:=[(101,_)]) ⟨rfl,trivial⟩ ⟨rfl,trivial⟩ ?_
     refine W.ret ?_
     refine E.inr ?_
     refine E.thr ?_
     refine E.fin (rs := [_]) (rn []) (.inl rfl) rfl (.cons (ResOne.tmp rfl) .nil) ?_ ?_ rfl (fixL_spec rfl)
     ·skip
      unfold cpOk; first | exact iv_bool (dec_f (fun q => by simp_all)) | exact iv_bool (dec_t (by simp_all)) | exact iv_bool (dec_iff (by simp_all)) | exact iv_bool (dec_f (fun q => by omega)) | exact iv_bool (dec_b (by constructor <;> (intro q; simp_all)))
     · exact SubS.nil
    first | have hg5p := G.gA5 hg5 | have hg5p := G.gA6 hg5 | have hg5p := hg5
    refine SL.sk rfl rfl rfl hg5 (SL.sk rfl rfl rfl hg5 (SL.sk rfl rfl rfl hg5 ?_))
    refine SL.val (O.pick_f rfl (G.ne_t hg5) rfl rfl Taken.no) ?_
    refine SL.mv rfl rfl ?_
    have hg9 : false ≠ true := by decide
    refine SL.sk rfl rfl rfl hg9 (SL.sk rfl rfl rfl hg9 (SL.sk rfl rfl rfl hg9 ?_))
    refine SL.val (O.pick_f rfl rfl rfl rfl Taken.no) ?_
    refine SL.mv rfl rfl ?_
    have hg10 : false ≠ true := by decide
    refine SL.sk rfl rfl rfl hg10 (SL.sk rfl rfl rfl hg10 (SL.sk rfl rfl rfl hg10 ?_))
    refine SL.val (O.pick_f rfl rfl rfl rfl Taken.no) ?_
    refine SL.an rfl rfl (E.fo ?_)
    refine W.pick (K:=[(4,_)]) (Z:=[(101,_)]) ⟨rfl,trivial⟩ ⟨rfl,trivial⟩ ?_
    refine W.ret ?_
    refine E.inr ?_
    refine E.thr ?_
    refine E.fin (rs := [_]) (rn []) (.inl rfl) rfl (.cons (ResOne.tmp rfl) .nil) ?_ ?_ rfl (fixL_spec rfl)
    ·skip
     unfold cpOk; first | exact iv_bool (dec_f (fun q => by simp_all)) | exact iv_bool (dec_t (by simp_all)) | exact iv_bool (dec_iff (by simp_all)) | exact iv_bool (dec_f (fun q => by omega)) | exact iv_bool (dec_b (by constructor <;> (intro q; simp_all)))
    · exact SubS.nil
   refine W.rg ?_
   refine SL.val (O.det (fun _ => G.R.eql rfl rfl) rfl Taken.no) ?_
   refine SL.an rfl rfl (E.fo ?_)
   refine W.pick (K:=[(1,_),(2,_),(4,_),(22,_),(43,_)]) (Z:=[(101,_)]) ⟨rfl,rfl,rfl,rfl,rfl,trivial⟩ ⟨rfl,trivial⟩ ?_
   first | refine W.cond_d rfl (fun hc11 => ?_) (fun hc11 => ?_) | refine W.cond_nd rfl (fun hc11 => ?_) (fun hc11 => ?_) | refine W.cond rfl (fun hc11 => ?_) (fun hc11 => ?_)
   ·skip
    refine W.rg ?_
    refine SL.val (O.fld_ref (o' := 4) rfl Try.underlying43 rfl (m := 0) (by kernel_rfl) rfl rfl Taken.no) ?_
    refine SL.val (O.ld1 (PtI.ref rfl rfl) rfl Try.underlying3 rfl rfl Taken.no) ?_
    refine SL.val (O.callp rfl rfl rfl (id_h) (.cons (ArgOk.same rfl) .nil) hcallOk42 rfl Taken.no) ?_
    refine SL.mv rfl rfl ?_
    refine SL.case (j := 3) (g := 48) (want := true) rfl rfl (fun hg12 => ?_) (fun hg12 => ?_)
    ·skip
     first | have hg12p := G.gA1 hg12 | have hg12p := G.gA2 hg12 | have hg12p := hg12
     refine SL.val (O.fld_ref (o' := 5) rfl Try.underlying43 rfl (m := 0) (by kernel_rfl) rfl rfl (Taken.yes rfl rfl hg12)) ?_
     refine SL.val (O.ld1 (PtI.ref rfl rfl) rfl Try.underlying3 rfl rfl (Taken.yes rfl rfl hg12)) ?_
     refine SL.val (O.callp rfl rfl rfl (in_h) (.cons (ArgOk.same rfl) (.cons (ArgOk.same rfl) (.cons (ArgOk.same rfl) .nil))) hcallOk17 rfl (Taken.yes rfl rfl hg12)) ?_
     refine SL.val (O.pick_t rfl hg12 rfl rfl Taken.no) ?_
     refine SL.mv rfl rfl ?_
     refine SL.case (j := 8) (g := 53) (want := true) rfl rfl (fun hg13 => ?_) (fun hg13 => ?_)
     ·skip
      first | have hg13p := G.gA1 hg13 | have hg13p := G.gA2 hg13 | have hg13p := hg13
      refine SL.val (O.fld_ref (o' := 6) rfl Try.underlying43 rfl (m := 0) (by kernel_rfl) rfl rfl (Taken.yes rfl rfl hg13)) ?_
      refine SL.val (O.ld1 (PtI.ref rfl rfl) rfl Try.underlying3 rfl rfl (Taken.yes rfl rfl hg13)) ?_
      refine SL.val (O.det (fun _ => G.R.eql rfl rfl) rfl (Taken.yes rfl rfl hg13)) ?_
      refine SL.val (O.pick_t rfl hg13 rfl rfl Taken.no) ?_
      refine SL.an rfl rfl (E.fo (W.ret ?_))
      refine E.inr ?_
      refine E.thr ?_
      refine E.fin (rs := [_]) (rn []) (.inl rfl) rfl (.cons (ResOne.tmp rfl) .nil) ?_ ?_ rfl (fixL_spec rfl)
      ·skip
       unfold cpOk; first | exact iv_bool (dec_f (fun q => by simp_all)) | exact iv_bool (dec_t (by simp_all)) | exact iv_bool (dec_iff (by simp_all)) | exact iv_bool (dec_f (fun q => by omega)) | exact iv_bool (dec_b (by constructor <;> (intro q; simp_all)))
      · exact SubS.nil
     first | have hg13p := G.gA5 hg13 | have hg13p := G.gA6 hg13 | have hg13p := hg13
     refine SL.sk rfl rfl rfl hg13 (SL.sk rfl rfl rfl hg13 (SL.sk rfl rfl rfl hg13 ?_))
     refine SL.val (O.pick_f rfl (G.ne_t hg13) rfl rfl Taken.no) ?_
     refine SL.an rfl rfl (E.fo (W.ret ?_))
     refine E.inr ?_
     refine E.thr ?_
     refine E.fin (rs := [_]) (rn []) (.inl rfl) rfl (.cons (ResOne.tmp rfl) .nil) ?_ ?_ rfl (fixL_spec rfl)
     ·skip
      unfold cpOk; first | exact iv_bool (dec_f (fun q => by simp_all)) | exact iv_bool (dec_t (by simp_all)) | exact iv_bool (dec_iff (by simp_all)) | exact iv_bool (dec_f (fun q => by omega)) | exact iv_bool (dec_b (by constructor <;> (intro q; simp_all)))
     · exact SubS.nil
    first | have hg12p := G.gA5 hg12 | have hg12p := G.gA6 hg12 | have hg12p := hg12
    refine SL.sk rfl rfl rfl hg12 (SL.sk rfl rfl rfl hg12 (SL.sk rfl rfl rfl hg12 ?_))
    refine SL.val (O.pick_f rfl (G.ne_t hg12) rfl rfl Taken.no) ?_
    refine SL.mv rfl rfl ?_
    have hg14 : false ≠ true := by decide
    refine SL.sk rfl rfl rfl hg14 (SL.sk rfl rfl rfl hg14 (SL.sk rfl rfl rfl hg14 ?_))
    refine SL.val (O.pick_f rfl rfl rfl rfl Taken.no) ?_
    refine SL.an rfl rfl (E.fo (W.ret ?_))
    refine E.inr ?_
    refine E.thr ?_
    refine E.fin (rs := [_]) (rn []) (.inl rfl) rfl (.cons (ResOne.tmp rfl) .nil) ?_ ?_ rfl (fixL_spec rfl)
    ·skip
     unfold cpOk; first | exact iv_bool (dec_f (fun q => by simp_all)) | exact iv_bool (dec_t (by simp_all)) | exact iv_bool (dec_iff (by simp_all)) | exact iv_bool (dec_f (fun q => by omega)) | exact iv_bool (dec_b (by constructor <;> (intro q; simp_all)))
    · exact SubS.nil
   refine W.rg ?_
   refine SL.val (O.det (fun _ => G.R.eql rfl rfl) rfl Taken.no) ?_
   refine SL.an rfl rfl (E.fo ?_)
   first | refine W.cond_d rfl (fun hc15 => ?_) (fun hc15 => ?_) | refine W.cond_nd rfl (fun hc15 => ?_) (fun hc15 => ?_) | refine W.cond rfl (fun hc15 => ?_) (fun hc15 => ?_)
   ·skip
    refine W.rg ?_
    refine SL.val (O.fld_ref (o' := 4) rfl Try.underlying43 rfl (m := 0) (by kernel_rfl) rfl rfl Taken.no) ?_
    refine SL.val (O.ld1 (PtI.ref rfl rfl) rfl Try.underlying3 rfl rfl Taken.no) ?_
    refine SL.val (O.callp rfl rfl rfl (id_h) (.cons (ArgOk.same rfl) .nil) hcallOk42 rfl Taken.no) ?_
    refine SL.mv rfl rfl ?_
    refine SL.case (j := 3) (g := 63) (want := true) rfl rfl (fun hg16 => ?_) (fun hg16 => ?_)
    ·skip
     first | have hg16p := G.gA1 hg16 | have hg16p := G.gA2 hg16 | have hg16p := hg16
     refine SL.val (O.fld_ref (o' := 6) rfl Try.underlying43 rfl (m := 0) (by kernel_rfl) rfl rfl (Taken.yes rfl rfl hg16)) ?_
     refine SL.val (O.ld1 (PtI.ref rfl rfl) rfl Try.underlying3 rfl rfl (Taken.yes rfl rfl hg16)) ?_
     refine SL.val (O.callp rfl rfl rfl (id_h) (.cons (ArgOk.same rfl) .nil) hcallOk42 rfl (Taken.yes rfl rfl hg16)) ?_
     refine SL.val (O.pick_t rfl hg16 rfl rfl Taken.no) ?_
     refine SL.mv rfl rfl ?_
     refine SL.case (j := 8) (g := 68) (want := true) rfl rfl (fun hg17 => ?_) (fun hg17 => ?_)
     ·skip
      first | have hg17p := G.gA1 hg17 | have hg17p := G.gA2 hg17 | have hg17p := hg17
      refine SL.val (O.fld_ref (o' := 5) rfl Try.underlying43 rfl (m := 0) (by kernel_rfl) rfl rfl (Taken.yes rfl rfl hg17)) ?_
      refine SL.val (O.ld1 (PtI.ref rfl rfl) rfl Try.underlying3 rfl rfl (Taken.yes rfl rfl hg17)) ?_
      refine SL.val (O.move rfl rfl (Taken.yes rfl rfl hg17)) ?_
      refine SL.val (O.callp rfl rfl rfl (in_h) (.cons (ArgOk.same rfl) (.cons (ArgOk.same rfl) (.cons (ArgOk.same rfl) .nil))) hcallOk17 rfl (Taken.yes rfl rfl hg17)) ?_
      refine SL.val (O.pick_t rfl hg17 rfl rfl Taken.no) ?_
      refine SL.mv rfl rfl ?_
      refine SL.case (j := 14) (g := 74) (want := true) rfl rfl (fun hg18 => ?_) (fun hg18 => ?_)
      ·skip
       first | have hg18p := G.gA1 hg18 | have hg18p := G.gA2 hg18 | have hg18p := hg18
       refine SL.val (O.fld_ref (o' := 7) rfl Try.underlying43 rfl (m := 0) (by kernel_rfl) rfl rfl (Taken.yes rfl rfl hg18)) ?_
       refine SL.val (O.ld1 (PtI.ref rfl rfl) rfl Try.underlying4 rfl rfl (Taken.yes rfl rfl hg18)) ?_
       refine SL.val (O.det (fun _ => G.R.not rfl) rfl (Taken.yes rfl rfl hg18)) ?_
       refine SL.val (O.pick_t rfl hg18 rfl rfl Taken.no) ?_
       refine SL.an rfl rfl (E.fo ?_)
       refine W.pick (K:=[(4,_)]) (Z:=[(101,_)]) ⟨rfl,trivial⟩ ⟨rfl,trivial⟩ ?_
       refine W.ret ?_
       refine E.inr ?_
       refine E.thr ?_
       refine E.fin (rs := [_]) (rn []) (.inl rfl) rfl (.cons (ResOne.tmp rfl) .nil) ?_ ?_ rfl (fixL_spec rfl)
       ·skip
        unfold cpOk; first | exact iv_bool (dec_f (fun q => by simp_all)) | exact iv_bool (dec_t (by simp_all)) | exact iv_bool (dec_iff (by simp_all)) | exact iv_bool (dec_f (fun q => by omega)) | exact iv_bool (dec_b (by constructor <;> (intro q; simp_all)))
       · exact SubS.nil
      first | have hg18p := G.gA5 hg18 | have hg18p := G.gA6 hg18 | have hg18p := hg18
      refine SL.sk rfl rfl rfl hg18 (SL.sk rfl rfl rfl hg18 (SL.sk rfl rfl rfl hg18 ?_))
      refine SL.val (O.pick_f rfl (G.ne_t hg18) rfl rfl Taken.no) ?_
      refine SL.an rfl rfl (E.fo ?_)
      refine W.pick (K:=[(4,_)]) (Z:=[(101,_)]) ⟨rfl,trivial⟩ ⟨rfl,trivial⟩ ?_
      refine W.ret ?_
      refine E.inr ?_
      refine E.thr ?_
      refine E.fin (rs := [_]) (rn []) (.inl rfl) rfl (.cons (ResOne.tmp rfl) .nil) ?_ ?_ rfl (fixL_spec rfl)
      ·skip
       unfold cpOk; first | exact iv_bool (dec_f (fun q => by simp_all)) | exact iv_bool (dec_t (by simp_all)) | exact iv_bool (dec_iff (by simp_all)) | exact iv_bool (dec_f (fun q => by omega)) | exact iv_bool (dec_b (by constructor <;> (intro q; simp_all)))
      · exact SubS.nil
     first | have hg17p := G.gA5 hg17 | have hg17p := G.gA6 hg17 | have hg17p := hg17
     refine SL.sk rfl rfl rfl hg17 (SL.sk rfl rfl rfl hg17 (SL.sk rfl rfl rfl hg17 (SL.sk rfl rfl rfl hg17 ?_)))
     refine SL.val (O.pick_f rfl (G.ne_t hg17) rfl rfl Taken.no) ?_
     refine SL.mv rfl rfl ?_
     have hg19 : false ≠ true := by decide
     refine SL.sk rfl rfl rfl hg19 (SL.sk rfl rfl rfl hg19 (SL.sk rfl rfl rfl hg19 ?_))
     refine SL.val (O.pick_f rfl rfl rfl rfl Taken.no) ?_
     refine SL.an rfl rfl (E.fo ?_)
     refine W.pick (K:=[(4,_)]) (Z:=[(101,_)]) ⟨rfl,trivial⟩ ⟨rfl,trivial⟩ ?_
     refine W.ret ?_
     refine E.inr ?_
     refine E.thr ?_
     refine E.fin (rs := [_]) (rn []) (.inl rfl) rfl (.cons (ResOne.tmp rfl) .nil) ?_ ?_ rfl (fixL_spec rfl)
     ·skip
      unfold cpOk; first | exact iv_bool (dec_f (fun q => by simp_all)) | exact iv_bool (dec_t (by simp_all)) | exact iv_bool (dec_iff (by simp_all)) | exact iv_bool (dec_f (fun q => by omega)) | exact iv_bool (dec_b (by constructor <;> (intro q; simp_all)))
     · exact SubS.nil
    first | have hg16p := G.gA5 hg16 | have hg16p := G.gA6 hg16 | have hg16p := hg16
    refine SL.sk rfl rfl rfl hg16 (SL.sk rfl rfl rfl hg16 (SL.sk rfl rfl rfl hg16 ?_))
    refine SL.val (O.pick_f rfl (G.ne_t hg16) rfl rfl Taken.no) ?_
    refine SL.mv rfl rfl ?_
    have hg20 : false ≠ true := by decide
    refine SL.sk rfl rfl rfl hg20 (SL.sk rfl rfl rfl hg20 (SL.sk rfl rfl rfl hg20 (SL.sk rfl rfl rfl hg20 ?_)))
    refine SL.val (O.pick_f rfl rfl rfl rfl Taken.no) ?_
    refine SL.mv rfl rfl ?_
    have hg21 : false ≠ true := by decide
    refine SL.sk rfl rfl rfl hg21 (SL.sk rfl rfl rfl hg21 (SL.sk rfl rfl rfl hg21 ?_))
    refine SL.val (O.pick_f rfl rfl rfl rfl Taken.no) ?_
    refine SL.an rfl rfl (E.fo ?_)
    refine W.pick (K:=[(4,_)]) (Z:=[(101,_)]) ⟨rfl,trivial⟩ ⟨rfl,trivial⟩ ?_
    refine W.ret ?_
    refine E.inr ?_
    refine E.thr ?_
    refine E.fin (rs := [_]) (rn []) (.inl rfl) rfl (.cons (ResOne.tmp rfl) .nil) ?_ ?_ rfl (fixL_spec rfl)
    ·skip
     unfold cpOk; first | exact iv_bool (dec_f (fun q => by simp_all)) | exact iv_bool (dec_t (by simp_all)) | exact iv_bool (dec_iff (by simp_all)) | exact iv_bool (dec_f (fun q => by omega)) | exact iv_bool (dec_b (by constructor <;> (intro q; simp_all)))
    · exact SubS.nil
   refine W.skip (E.inn (E.to (W.rg (SL.an rfl rfl (E.fo (W.ret ?_))))))
   refine E.fin (rs := [_]) (rn []) (.inl rfl) rfl (.cons (ResOne.tmp rfl) .nil) ?_ ?_ rfl (fixL_spec rfl)
   ·skip
    unfold cpOk; first | exact iv_bool (dec_f (fun q => by simp_all)) | exact iv_bool (dec_t (by simp_all)) | exact iv_bool (dec_iff (by simp_all)) | exact iv_bool (dec_f (fun q => by omega)) | exact iv_bool (dec_b (by constructor <;> (intro q; simp_all)))
   · exact SubS.nil
  first | have hg2p := G.gA7 hg2 | have hg2p := G.gA8 hg2 | have hg2p := hg2
  refine SL.sk rfl rfl rfl hg2 (SL.sk rfl rfl rfl hg2 (SL.sk rfl rfl rfl hg2 (SL.sk rfl rfl rfl hg2 ?_)))
  refine SL.val (O.pick_t rfl (G.ne_f hg2) rfl rfl Taken.no) ?_
  refine E.fo ?_
  refine W.cond_t rfl ?_
  refine W.rg (SL.an rfl rfl (E.fo (W.ret (E.thr ?_))))
  refine E.fin (rs := [_]) (rn []) (.inl rfl) rfl (.cons (ResOne.tmp rfl) .nil) ?_ ?_ rfl (fixL_spec rfl)
  ·skip
   unfold cpOk; first | exact iv_bool (dec_f (fun q => by simp_all)) | exact iv_bool (dec_t (by simp_all)) | exact iv_bool (dec_iff (by simp_all)) | exact iv_bool (dec_f (fun q => by omega)) | exact iv_bool (dec_b (by constructor <;> (intro q; simp_all)))
  · exact SubS.nil
 first | have hg1p := G.gA7 hg1 | have hg1p := G.gA8 hg1 | have hg1p := hg1
 refine SL.sk rfl rfl rfl hg1 (SL.sk rfl rfl rfl hg1 (SL.sk rfl rfl rfl hg1 (SL.sk rfl rfl rfl hg1 ?_)))
 refine SL.val (O.pick_t rfl (G.ne_f hg1) rfl rfl Taken.no) ?_
 refine SL.mv rfl rfl ?_
 have hg22 : true ≠ false := by decide
 refine SL.sk rfl rfl rfl hg22 (SL.sk rfl rfl rfl hg22 (SL.sk rfl rfl rfl hg22 (SL.sk rfl rfl rfl hg22 ?_)))
 refine SL.val (O.pick_t rfl rfl rfl rfl Taken.no) ?_
 refine E.fo ?_
 refine W.cond_t rfl ?_
 refine W.rg (SL.an rfl rfl (E.fo (W.ret (E.thr ?_))))
 refine E.fin (rs := [_]) (rn []) (.inl rfl) rfl (.cons (ResOne.tmp rfl) .nil) ?_ ?_ rfl (fixL_spec rfl)
 ·skip
  unfold cpOk; first | exact iv_bool (dec_f (fun q => by simp_all)) | exact iv_bool (dec_t (by simp_all)) | exact iv_bool (dec_iff (by simp_all)) | exact iv_bool (dec_f (fun q => by omega)) | exact iv_bool (dec_b (by constructor <;> (intro q; simp_all)))
 · exact SubS.nil

set_option maxRecDepth 8000 in
theorem lineValid1_h {h : Hd} {now : Int} :
    Con Try.prog 67 [vA (eH h), .u (.ptr [uI now])] [] (vB (decide (h.tim > now))) [] := by
 refine Con.enterL (n := 8) Try.func67 rfl rfl rfl (fun τ w ok vs hin => ?_)
 clear hin
 refine W.rg ?_
 refine SL.memS (O.box (is := [_, _, _, _, _]) 101 rfl rfl (by simp) rfl rfl Taken.no) rfl rfl (S' := (101, _) :: _) rfl ?_
 refine SL.an rfl rfl (E.fo (W.rg ?_))
 refine SL.val (O.fld_ref (o' := 3) rfl Try.underlying47 rfl (m := 0) (by kernel_rfl) rfl rfl Taken.no) ?_
 refine SL.val (O.ld1 (PtI.ref rfl rfl) rfl Try.underlying3 rfl rfl Taken.no) ?_
 refine SL.val (O.ld1 (PtI.ofU (PtU.fz rfl)) rfl Try.underlying3 rfl rfl Taken.no) ?_
 refine SL.val (O.det (fun _ => G.R.gtr rfl rfl) rfl Taken.no) ?_
 refine SL.an rfl rfl (E.fo (W.ret ?_))
 refine E.fin (rs := [_]) (rn []) (.inl rfl) rfl (.cons (ResOne.tmp rfl) .nil) ?_ ?_ rfl (fixL_spec rfl)
 ·skip
  rfl
 · exact SubS.nil

set_option maxRecDepth 8000 in
theorem lineValid_h {l : Ln} {now : Int} :
    Con Try.prog 40 [vA (eLn l), vI now] [] (vB (decide (lnOk l now))) [] := by
 refine Con.enterL (n := 26) Try.func40 rfl rfl rfl (fun τ w ok vs hin => ?_)
 clear hin
 refine W.rg ?_
 refine SL.memS (O.box (is := [_, _]) 101 rfl rfl (by simp) rfl rfl Taken.no) rfl rfl (S' := (101, _) :: _) rfl ?_
 refine SL.memS (O.box (is := [_]) 102 rfl rfl (by simp) rfl rfl Taken.no) rfl rfl (S' := (102, _) :: _) rfl ?_
 refine SL.an rfl rfl (E.fo (W.rg ?_))
 refine SL.val (O.fld_ref (o' := 0) rfl Try.underlying51 rfl (m := 0) (by kernel_rfl) rfl rfl Taken.no) ?_
 refine SL.val (O.ld1 (PtI.ref rfl rfl) rfl Try.underlying3 rfl rfl Taken.no) ?_
 refine SL.val (O.callp rfl rfl rfl (id_h) (.cons (ArgOk.same rfl) .nil) hcallOk42 rfl Taken.no) ?_
 refine SL.mv rfl rfl ?_
 refine SL.case (j := 3) (g := 8) (want := true) rfl rfl (fun hg1 => ?_) (fun hg1 => ?_)
 ·skip
  first | have hg1p := G.gA1 hg1 | have hg1p := G.gA2 hg1 | have hg1p := hg1
  refine SL.val (O.fld_ref (o' := 1) rfl Try.underlying51 rfl (m := 0) (by kernel_rfl) rfl rfl (Taken.yes rfl rfl hg1)) ?_
  refine SL.val (O.ld1 (PtI.ref rfl rfl) rfl Try.underlying40 rfl rfl (Taken.yes rfl rfl hg1)) ?_
  refine SL.val (O.callp rfl rfl rfl (valid_h) (.cons (ArgOk.same rfl) .nil) hcallOk33 rfl (Taken.yes rfl rfl hg1)) ?_
  refine SL.val (O.pick_t rfl hg1 rfl rfl Taken.no) ?_
  refine SL.mv rfl rfl ?_
  refine SL.case (j := 8) (g := 13) (want := true) rfl rfl (fun hg2 => ?_) (fun hg2 => ?_)
  ·skip
   first | have hg2p := G.gA1 hg2 | have hg2p := G.gA2 hg2 | have hg2p := hg2
   refine SL.val (O.fld_ref (o' := 1) rfl Try.underlying51 rfl (m := 0) (by kernel_rfl) rfl rfl (Taken.yes rfl rfl hg2)) ?_
   refine SL.val (O.ld1 (PtI.ref rfl rfl) rfl Try.underlying40 rfl rfl (Taken.yes rfl rfl hg2)) ?_
   refine SL.val (O.lenE (SlOf.fz rfl (by decide)) (by first | exact List.length_map _ | rfl) Try.underlying40 rfl (Taken.yes rfl rfl hg2)) ?_
   refine SL.val (O.det (fun _ => G.R.gtr rfl rfl) rfl (Taken.yes rfl rfl hg2)) ?_
   refine SL.val (O.pick_t rfl hg2 rfl rfl Taken.no) ?_
   refine SL.mv rfl rfl ?_
   refine SL.case (j := 14) (g := 19) (want := true) rfl rfl (fun hg3 => ?_) (fun hg3 => ?_)
   ·skip
    first | have hg3p := G.gA1 hg3 | have hg3p := G.gA2 hg3 | have hg3p := hg3
    refine SL.val (O.fld_ref (o' := 1) rfl Try.underlying51 rfl (m := 0) (by kernel_rfl) rfl rfl (Taken.yes rfl rfl hg3)) ?_
    refine SL.val (O.ld1 (PtI.ref rfl rfl) rfl Try.underlying40 rfl rfl (Taken.yes rfl rfl hg3)) ?_
    refine SL.val (O.makeFunc rfl rfl rfl (Taken.yes rfl rfl hg3)) ?_
    refine SL.memS (O.call (rn []) [102] rfl rfl rfl (containsFunc_h (q := l.q) (f := 67) (caps := [.ptr [uI now]]) (pr := fun h => decide (h.tim > now)) hcallOk67 (fun x => lineValid1_h)) (.cons (ArgOk.same rfl) (.cons (ArgOk.cloU .nil (.cons (ArgOk.ref rfl rfl rfl) .nil)) .nil)) SubS.nil rfl rfl rfl rfl rfl (.inr ⟨rfl, fun x hx => by simp at hx⟩) hcallOk54 (r' := .u _) rfl rfl (Taken.yes rfl rfl hg3)) rfl rfl (S' := _) rfl ?_
    refine SL.val (O.det (fun _ => G.R.not rfl) rfl (Taken.yes rfl rfl hg3)) ?_
    refine SL.val (O.pick_t rfl hg3 rfl rfl Taken.no) ?_
    refine SL.an rfl rfl (E.fo ?_)
    refine W.pick (K:=[(4,_)]) (Z:=[(101,_),(102,_)]) ⟨rfl,trivial⟩ ⟨rfl,rfl,trivial⟩ ?_
    refine W.ret ?_
    refine E.fin (rs := [_]) (rn []) (.inl rfl) rfl (.cons (ResOne.tmp rfl) .nil) ?_ ?_ rfl (fixL_spec rfl)
    ·skip
     unfold lnOk; first | exact iv_bool (dec_f (fun q => by simp_all)) | exact iv_bool (dec_f (fun q => by omega)) | exact iv_bool (ln_fin (by assumption) (by assumption) (by omega))
    · exact SubS.nil
   first | have hg3p := G.gA5 hg3 | have hg3p := G.gA6 hg3 | have hg3p := hg3
   refine SL.sk rfl rfl rfl hg3 (SL.sk rfl rfl rfl hg3 (SL.sk rfl rfl rfl hg3 (SL.sk rfl rfl rfl hg3 (SL.sk rfl rfl rfl hg3 ?_))))
   refine SL.val (O.pick_f rfl (G.ne_t hg3) rfl rfl Taken.no) ?_
   refine SL.an rfl rfl (E.fo ?_)
   refine W.pick (K:=[(4,_)]) (Z:=[(101,_),(102,_)]) ⟨rfl,trivial⟩ ⟨rfl,rfl,trivial⟩ ?_
   refine W.ret ?_
   refine E.fin (rs := [_]) (rn []) (.inl rfl) rfl (.cons (ResOne.tmp rfl) .nil) ?_ ?_ rfl (fixL_spec rfl)
   ·skip
    unfold lnOk; first | exact iv_bool (dec_f (fun q => by simp_all)) | exact iv_bool (dec_f (fun q => by omega)) | exact iv_bool (ln_fin (by assumption) (by assumption) (by omega))
   · exact SubS.nil
  first | have hg2p := G.gA5 hg2 | have hg2p := G.gA6 hg2 | have hg2p := hg2
  refine SL.sk rfl rfl rfl hg2 (SL.sk rfl rfl rfl hg2 (SL.sk rfl rfl rfl hg2 (SL.sk rfl rfl rfl hg2 ?_)))
  refine SL.val (O.pick_f rfl (G.ne_t hg2) rfl rfl Taken.no) ?_
  refine SL.mv rfl rfl ?_
  have hg4 : false ≠ true := by decide
  refine SL.sk rfl rfl rfl hg4 (SL.sk rfl rfl rfl hg4 (SL.sk rfl rfl rfl hg4 (SL.sk rfl rfl rfl hg4 (SL.sk rfl rfl rfl hg4 ?_))))
  refine SL.val (O.pick_f rfl rfl rfl rfl Taken.no) ?_
  refine SL.an rfl rfl (E.fo ?_)
  refine W.pick (K:=[(4,_)]) (Z:=[(101,_),(102,_)]) ⟨rfl,trivial⟩ ⟨rfl,rfl,trivial⟩ ?_
  refine W.ret ?_
  refine E.fin (rs := [_]) (rn []) (.inl rfl) rfl (.cons (ResOne.tmp rfl) .nil) ?_ ?_ rfl (fixL_spec rfl)
  ·skip
   unfold lnOk; first | exact iv_bool (dec_f (fun q => by simp_all)) | exact iv_bool (dec_f (fun q => by omega)) | exact iv_bool (ln_fin (by assumption) (by assumption) (by omega))
  · exact SubS.nil
 first | have hg1p := G.gA5 hg1 | have hg1p := G.gA6 hg1 | have hg1p := hg1
 refine SL.sk rfl rfl rfl hg1 (SL.sk rfl rfl rfl hg1 (SL.sk rfl rfl rfl hg1 ?_))
 refine SL.val (O.pick_f rfl (G.ne_t hg1) rfl rfl Taken.no) ?_
 refine SL.mv rfl rfl ?_
 have hg5 : false ≠ true := by decide
 refine SL.sk rfl rfl rfl hg5 (SL.sk rfl rfl rfl hg5 (SL.sk rfl rfl rfl hg5 (SL.sk rfl rfl rfl hg5 ?_)))
 refine SL.val (O.pick_f rfl rfl rfl rfl Taken.no) ?_
 refine SL.mv rfl rfl ?_
 have hg6 : false ≠ true := by decide
 refine SL.sk rfl rfl rfl hg6 (SL.sk rfl rfl rfl hg6 (SL.sk rfl rfl rfl hg6 (SL.sk rfl rfl rfl hg6 (SL.sk rfl rfl rfl hg6 ?_))))
 refine SL.val (O.pick_f rfl rfl rfl rfl Taken.no) ?_
 refine SL.an rfl rfl (E.fo ?_)
 refine W.pick (K:=[(4,_)]) (Z:=[(101,_),(102,_)]) ⟨rfl,trivial⟩ ⟨rfl,rfl,trivial⟩ ?_
 refine W.ret ?_
 refine E.fin (rs := [_]) (rn []) (.inl rfl) rfl (.cons (ResOne.tmp rfl) .nil) ?_ ?_ rfl (fixL_spec rfl)
 ·skip
  unfold lnOk; first | exact iv_bool (dec_f (fun q => by simp_all)) | exact iv_bool (dec_f (fun q => by omega)) | exact iv_bool (ln_fin (by assumption) (by assumption) (by omega))
 · exact SubS.nil

set_option maxRecDepth 8000 in
theorem find1_h {c : Cp} {i : Int} :
    Con Try.prog 32 [vA (eCp c), .u (.ptr [uI i])] [] (vB (decide (c.id = i))) [] := by
 refine Con.enterL (n := 8) Try.func32 rfl rfl rfl (fun τ w ok vs hin => ?_)
 clear hin
 refine W.rg ?_
 refine SL.memS (O.box (is := [_, _, _, _, _, _, _, _]) 101 rfl rfl (by simp) rfl rfl Taken.no) rfl rfl (S' := (101, _) :: _) rfl ?_
 refine SL.an rfl rfl (E.fo (W.rg ?_))
 refine SL.val (O.fld_ref (o' := 0) rfl Try.underlying43 rfl (m := 0) (by kernel_rfl) rfl rfl Taken.no) ?_
 refine SL.val (O.ld1 (PtI.ref rfl rfl) rfl Try.underlying3 rfl rfl Taken.no) ?_
 refine SL.val (O.ld1 (PtI.ofU (PtU.fz rfl)) rfl Try.underlying3 rfl rfl Taken.no) ?_
 refine SL.val (O.det (fun _ => G.R.eql rfl rfl) rfl Taken.no) ?_
 refine SL.an rfl rfl (E.fo (W.ret ?_))
 refine E.fin (rs := [_]) (rn []) (.inl rfl) rfl (.cons (ResOne.tmp rfl) .nil) ?_ ?_ rfl (fixL_spec rfl)
 ·skip
  rfl
 · exact SubS.nil

set_option maxRecDepth 8000 in
theorem queue1_h {l : Ln} {i : Int} :
    Con Try.prog 29 [vA (eLn l), .u (.ptr [uI i])] [] (vB (decide (l.work = i))) [] := by
 refine Con.enterL (n := 8) Try.func29 rfl rfl rfl (fun τ w ok vs hin => ?_)
 clear hin
 refine W.rg ?_
 refine SL.memS (O.box (is := [_, _]) 101 rfl rfl (by simp) rfl rfl Taken.no) rfl rfl (S' := (101, _) :: _) rfl ?_
 refine SL.an rfl rfl (E.fo (W.rg ?_))
 refine SL.val (O.fld_ref (o' := 0) rfl Try.underlying51 rfl (m := 0) (by kernel_rfl) rfl rfl Taken.no) ?_
 refine SL.val (O.ld1 (PtI.ref rfl rfl) rfl Try.underlying3 rfl rfl Taken.no) ?_
 refine SL.val (O.ld1 (PtI.ofU (PtU.fz rfl)) rfl Try.underlying3 rfl rfl Taken.no) ?_
 refine SL.val (O.det (fun _ => G.R.eql rfl rfl) rfl Taken.no) ?_
 refine SL.an rfl rfl (E.fo (W.ret ?_))
 refine E.fin (rs := [_]) (rn []) (.inl rfl) rfl (.cons (ResOne.tmp rfl) .nil) ?_ ?_ rfl (fixL_spec rfl)
 ·skip
  rfl
 · exact SubS.nil

end Go.Proofs.Ytmekkjehkcjpdaa
end
section
namespace Go.Proofs.Ytmekkjehkcjpdaa
open Go Go.RowKit Go.H Go.D57 Go.D58

theorem hcallOk29 : G.callOk Try.prog 29 = true := by kernel_rfl
theorem hcallOk32 : G.callOk Try.prog 32 = true := by kernel_rfl

set_option maxRecDepth 8000 in
theorem cloneQ_h {l : List Hd} (hb : l.length ≤ 1000000) :
    Con Try.prog 30 [vL 5 (l.map eH)] [] (.own 0) [(0, .data 47 5 (l.map eH))] := by
 obtain ⟨i47, hi47, hz47, hs47, hb47⟩ := hinf47
 refine Con.enterL (n := 8) Try.func30 rfl rfl rfl (fun τ w ok vs hin => ?_)
 have hl0 := hin.len (i := 0) rfl
 try rw [List.length_map] at hl0
 clear hin
 refine W.rg (SL.an rfl rfl (E.fo (W.seq (W.rg (SL.mv rfl rfl ?_)))))
 refine SL.isnil (SlOf.fz rfl (by decide)) Try.underlying40 rfl Taken.no (fun bn1 hbn1 => ?_)
 refine E.fo ?_
 first | refine W.cond_d rfl (fun hc2 => ?_) (fun hc2 => ?_) | refine W.cond_nd rfl (fun hc2 => ?_) (fun hc2 => ?_) | refine W.cond rfl (fun hc2 => ?_) (fun hc2 => ?_)
 ·skip
  refine W.rg (SL.an rfl rfl (E.fo (W.ret (E.thr ?_))))
  refine E.adopt 2 101 47 5 (by decide) rfl rfl rfl ?_
  refine E.fin (rs := [_]) (rn [(0, 101)]) (.inl rfl) rfl (.cons (ResOne.tmp rfl) .nil) ?_ ?_ rfl (fixL_spec rfl)
  ·skip
   rfl
  · exact (SubS.val rfl (by rw [List.length_map] at hbn1; rw [List.eq_nil_of_length_eq_zero (hbn1 (by assumption))]; rfl) SubS.nil)
 refine W.skip (E.to (W.rg ?_))
 refine SL.memS (O.buildSlice 102 rfl rfl Try.underlying40 hi47 hz47 hs47 (by decide) rfl (by decide) rfl rfl rfl Taken.no) rfl rfl (S' := (102, _) :: _) rfl ?_
 refine SL.mv rfl rfl ?_
 refine SL.memS (O.app (k' := 103) rfl rfl (SlOf.fz rfl (by decide)) Try.underlying40 hi47 hz47 hs47 rfl rfl (by first | exact map_snoc rfl | exact app_map | exact List.nil_append _ | rfl) (by rw [hb47]; first | omega | (simp only [List.length_map]; omega) | (simp <;> omega)) (by first | omega | (simp only [List.length_map]; omega) | (simp <;> omega)) rfl Taken.no) rfl rfl (S' := (103, _) :: (102, .dead) :: _) rfl ?_
 refine SL.an rfl rfl (E.fo (W.ret ?_))
 refine E.fin (rs := [_]) (rn [(0, 103)]) (.inl rfl) rfl (.cons (ResOne.tmp rfl) .nil) ?_ ?_ rfl (fixL_spec rfl)
 ·skip
  rfl
 · exact (SubS.val rfl (by rfl) SubS.nil)

set_option maxRecDepth 8000 in
theorem cloneC_h {l : List Cp} (hb : l.length ≤ 1000000) :
    Con Try.prog 61 [vL 8 (l.map eCp)] [] (.own 0) [(0, .data 43 8 (l.map eCp))] := by
 obtain ⟨i43, hi43, hz43, hs43, hb43⟩ := hinf43
 refine Con.enterL (n := 8) Try.func61 rfl rfl rfl (fun τ w ok vs hin => ?_)
 have hl0 := hin.len (i := 0) rfl
 try rw [List.length_map] at hl0
 clear hin
 refine W.rg (SL.an rfl rfl (E.fo (W.seq (W.rg (SL.mv rfl rfl ?_)))))
 refine SL.isnil (SlOf.fz rfl (by decide)) Try.underlying25 rfl Taken.no (fun bn1 hbn1 => ?_)
 refine E.fo ?_
 first | refine W.cond_d rfl (fun hc2 => ?_) (fun hc2 => ?_) | refine W.cond_nd rfl (fun hc2 => ?_) (fun hc2 => ?_) | refine W.cond rfl (fun hc2 => ?_) (fun hc2 => ?_)
 ·skip
  refine W.rg (SL.an rfl rfl (E.fo (W.ret (E.thr ?_))))
  refine E.adopt 2 101 43 8 (by decide) rfl rfl rfl ?_
  refine E.fin (rs := [_]) (rn [(0, 101)]) (.inl rfl) rfl (.cons (ResOne.tmp rfl) .nil) ?_ ?_ rfl (fixL_spec rfl)
  ·skip
   rfl
  · exact (SubS.val rfl (by rw [List.length_map] at hbn1; rw [List.eq_nil_of_length_eq_zero (hbn1 (by assumption))]; rfl) SubS.nil)
 refine W.skip (E.to (W.rg ?_))
 refine SL.memS (O.buildSlice 102 rfl rfl Try.underlying25 hi43 hz43 hs43 (by decide) rfl (by decide) rfl rfl rfl Taken.no) rfl rfl (S' := (102, _) :: _) rfl ?_
 refine SL.mv rfl rfl ?_
 refine SL.memS (O.app (k' := 103) rfl rfl (SlOf.fz rfl (by decide)) Try.underlying25 hi43 hz43 hs43 rfl rfl (by first | exact map_snoc rfl | exact app_map | exact List.nil_append _ | rfl) (by rw [hb43]; first | omega | (simp only [List.length_map]; omega) | (simp <;> omega)) (by first | omega | (simp only [List.length_map]; omega) | (simp <;> omega)) rfl Taken.no) rfl rfl (S' := (103, _) :: (102, .dead) :: _) rfl ?_
 refine SL.an rfl rfl (E.fo (W.ret ?_))
 refine E.fin (rs := [_]) (rn [(0, 103)]) (.inl rfl) rfl (.cons (ResOne.tmp rfl) .nil) ?_ ?_ rfl (fixL_spec rfl)
 ·skip
  rfl
 · exact (SubS.val rfl (by rfl) SubS.nil)

set_option maxRecDepth 8000 in
theorem cloneL_h {l : List Ln} (hb : l.length ≤ 1000000) :
    Con Try.prog 62 [vL 2 (l.map eLn)] [] (.own 0) [(0, .data 51 2 (l.map eLn))] := by
 obtain ⟨i51, hi51, hz51, hs51, hb51⟩ := hinf51
 refine Con.enterL (n := 8) Try.func62 rfl rfl rfl (fun τ w ok vs hin => ?_)
 have hl0 := hin.len (i := 0) rfl
 try rw [List.length_map] at hl0
 clear hin
 refine W.rg (SL.an rfl rfl (E.fo (W.seq (W.rg (SL.mv rfl rfl ?_)))))
 refine SL.isnil (SlOf.fz rfl (by decide)) Try.underlying26 rfl Taken.no (fun bn1 hbn1 => ?_)
 refine E.fo ?_
 first | refine W.cond_d rfl (fun hc2 => ?_) (fun hc2 => ?_) | refine W.cond_nd rfl (fun hc2 => ?_) (fun hc2 => ?_) | refine W.cond rfl (fun hc2 => ?_) (fun hc2 => ?_)
 ·skip
  refine W.rg (SL.an rfl rfl (E.fo (W.ret (E.thr ?_))))
  refine E.adopt 2 101 51 2 (by decide) rfl rfl rfl ?_
  refine E.fin (rs := [_]) (rn [(0, 101)]) (.inl rfl) rfl (.cons (ResOne.tmp rfl) .nil) ?_ ?_ rfl (fixL_spec rfl)
  ·skip
   rfl
  · exact (SubS.val rfl (by rw [List.length_map] at hbn1; rw [List.eq_nil_of_length_eq_zero (hbn1 (by assumption))]; rfl) SubS.nil)
 refine W.skip (E.to (W.rg ?_))
 refine SL.memS (O.buildSlice 102 rfl rfl Try.underlying26 hi51 hz51 hs51 (by decide) rfl (by decide) rfl rfl rfl Taken.no) rfl rfl (S' := (102, _) :: _) rfl ?_
 refine SL.mv rfl rfl ?_
 refine SL.memS (O.app (k' := 103) rfl rfl (SlOf.fz rfl (by decide)) Try.underlying26 hi51 hz51 hs51 rfl rfl (by first | exact map_snoc rfl | exact app_map | exact List.nil_append _ | rfl) (by rw [hb51]; first | omega | (simp only [List.length_map]; omega) | (simp <;> omega)) (by first | omega | (simp only [List.length_map]; omega) | (simp <;> omega)) rfl Taken.no) rfl rfl (S' := (103, _) :: (102, .dead) :: _) rfl ?_
 refine SL.an rfl rfl (E.fo (W.ret ?_))
 refine E.fin (rs := [_]) (rn [(0, 103)]) (.inl rfl) rfl (.cons (ResOne.tmp rfl) .nil) ?_ ?_ rfl (fixL_spec rfl)
 ·skip
  rfl
 · exact (SubS.val rfl (by rfl) SubS.nil)

set_option maxRecDepth 8000 in
theorem find_h {s : St} {i : Int} :
    Con Try.prog 13 [vA [uI s.now, .sl 8 (s.cps.map eCp), .sl 2 (s.lns.map eLn)], vI i] [] (.tup [.agg [vI (finD s i).id, vI (finD s i).work, vT (finD s i).lib, vI (finD s i).place, vI (finD s i).pat, vI (finD s i).due, vI (finD s i).hold, vB (finD s i).rc], vB (decide (0 ≤ (idxF (fun c : Cp => decide (c.id = i)) s.cps)))]) [] := by
 obtain ⟨i43, hi43, hz43, hs43, hb43⟩ := hinf43
 refine Con.enterL (n := 19) Try.func13 rfl rfl rfl (fun τ w ok vs hin => ?_)
 have hl0_1 := hin.lenA (i := 0) (j := 1) rfl rfl
 try rw [List.length_map] at hl0_1
 have hl0_2 := hin.lenA (i := 0) (j := 2) rfl rfl
 try rw [List.length_map] at hl0_2
 clear hin
 refine W.rg ?_
 refine SL.memS (O.box (is := [_, _, _]) 101 rfl rfl (by simp) rfl rfl Taken.no) rfl rfl (S' := (101, _) :: _) rfl ?_
 refine SL.memS (O.box (is := [_]) 102 rfl rfl (by simp) rfl rfl Taken.no) rfl rfl (S' := (102, _) :: _) rfl ?_
 refine SL.memS (O.alloc (z := .agg #[.int .i64 0, .int .i64 0, .string ByteArray.empty, .int .i64 0, .int .i64 0, .int .i64 0, .int .i64 0, .bool false]) (is := [.u (.sc (.int .i64 0)), .u (.sc (.int .i64 0)), .u (.sc (.string ByteArray.empty)), .u (.sc (.int .i64 0)), .u (.sc (.int .i64 0)), .u (.sc (.int .i64 0)), .u (.sc (.int .i64 0)), .u (.sc (.bool false))]) 103 (by kernel_rfl) rfl rfl rfl Taken.no) rfl rfl (S' := (103, _) :: _) rfl ?_
 refine SL.an rfl rfl (E.fo (W.rg ?_))
 refine SL.val (O.fld_ref (o' := 1) rfl Try.underlying28 rfl (m := 0) (by kernel_rfl) rfl rfl Taken.no) ?_
 refine SL.val (O.ld1 (PtI.ref rfl rfl) rfl Try.underlying25 rfl rfl Taken.no) ?_
 refine SL.val (O.makeFunc rfl rfl rfl Taken.no) ?_
 refine SL.memS (O.call (rn []) [102] rfl rfl rfl (indexFuncCp (q := s.cps) (f := 32) (caps := [.ptr [uI i]]) (pr := fun c => decide (c.id = i)) hcallOk32 (fun x _ => find1_h)) (.cons (ArgOk.same rfl) (.cons (ArgOk.cloU .nil (.cons (ArgOk.ref rfl rfl rfl) .nil)) .nil)) SubS.nil rfl rfl rfl rfl rfl (.inr ⟨rfl, fun x hx => by simp at hx⟩) hcallOk31 (r' := .u _) rfl rfl Taken.no) rfl rfl (S' := _) rfl ?_
 refine SL.an rfl rfl (E.fo (W.seq (W.rg (SL.mv rfl rfl ?_))))
 refine SL.val (O.det (fun _ => G.R.lss rfl rfl) rfl Taken.no) ?_
 refine E.fo ?_
 first | refine W.cond_d rfl (fun hc1 => ?_) (fun hc1 => ?_) | refine W.cond_nd rfl (fun hc1 => ?_) (fun hc1 => ?_) | refine W.cond rfl (fun hc1 => ?_) (fun hc1 => ?_)
 ·skip
  refine W.rg ?_
  refine SL.val (O.build (res := [_, _, _, _, _, _, _, _]) (z := .agg #[.int .i64 0, .int .i64 0, .string ByteArray.empty, .int .i64 0, .int .i64 0, .int .i64 0, .int .i64 0, .bool false]) (places := [(0, 1), (1, 1), (2, 1), (3, 1), (4, 1), (5, 1), (6, 1), (7, 1)]) rfl rfl Try.underlying43 (by kernel_rfl) (fun _ => by kernel_rfl) rfl rfl Taken.no) ?_
  refine SL.effS (O.st_ref (m := 8) rfl rfl rfl (js := [_, _, _, _, _, _, _, _]) rfl rfl (by kernel_rfl) (by simp) (Nat.le_of_ble_eq_true rfl) rfl (is' := [_, _, _, _, _, _, _, _]) rfl Taken.no) (S' := (103, _) :: _) rfl ?_
  refine SL.an rfl rfl (E.fo (W.ret (E.thr ?_)))
  refine E.fin (rs := [_, _]) (rn []) (.inl rfl) rfl (.cons (ResOne.cellN (m := 8) (PtI.ref rfl rfl) (js := [_, _, _, _, _, _, _, _]) rfl (Nat.le_of_ble_eq_true rfl) Try.underlying43 rfl (by kernel_rfl)) (.cons (ResOne.tmp rfl) .nil)) ?_ ?_ rfl (fixL_spec rfl)
  ·skip
   rw [finD_no (by omega), dec_f (by omega)]; rfl
  · exact SubS.nil
 have hlt := idxF_lt (p := fun c : Cp => decide (c.id = i)) (l := s.cps) (by omega)
 refine W.skip (E.to (W.rg ?_))
 refine SL.val (O.fld_ref (o' := 1) rfl Try.underlying28 rfl (m := 0) (by kernel_rfl) rfl rfl Taken.no) ?_
 refine SL.val (O.ld1 (PtI.ref rfl rfl) rfl Try.underlying25 rfl rfl Taken.no) ?_
 refine SL.mv rfl rfl ?_
 refine SL.val (O.idx_fz (i := (idxF (fun c : Cp => decide (c.id = i)) s.cps).toNat) rfl rfl (by omega) (row_get (by omega)) Try.underlying25 hi43 hs43 rfl Taken.no) ?_
 refine SL.val (O.ldU (m := 8) (PtU.fz rfl) rfl Try.underlying43 rfl (by kernel_rfl) rfl Taken.no) ?_
 refine SL.effS (O.st_ref (m := 8) rfl rfl rfl (js := [_, _, _, _, _, _, _, _]) rfl rfl (by kernel_rfl) (by simp) (Nat.le_of_ble_eq_true rfl) rfl (is' := [_, _, _, _, _, _, _, _]) rfl Taken.no) (S' := (103, _) :: _) rfl ?_
 refine SL.an rfl rfl (E.fo (W.ret ?_))
 refine E.fin (rs := [_, _]) (rn []) (.inl rfl) rfl (.cons (ResOne.cellN (m := 8) (PtI.ref rfl rfl) (js := [_, _, _, _, _, _, _, _]) rfl (Nat.le_of_ble_eq_true rfl) Try.underlying43 rfl (by kernel_rfl)) (.cons (ResOne.tmp rfl) .nil)) ?_ ?_ rfl (fixL_spec rfl)
 ·skip
  rw [finD_y (by omega), dec_t (by omega)]; rfl
 · exact SubS.nil

set_option maxRecDepth 8000 in
theorem queue_h {s : St} {i : Int} (hq : ∀ l ∈ s.lns, l.q.length ≤ 1000000) :
    Con Try.prog 12 [vA [uI s.now, .sl 8 (s.cps.map eCp), .sl 2 (s.lns.map eLn)], vI i] [] (vL 5 ((queS s i).map eH)) [] := by
 obtain ⟨i51, hi51, hz51, hs51, hb51⟩ := hinf51
 refine Con.enterL (n := 19) Try.func12 rfl rfl rfl (fun τ w ok vs hin => ?_)
 have hl0_1 := hin.lenA (i := 0) (j := 1) rfl rfl
 try rw [List.length_map] at hl0_1
 have hl0_2 := hin.lenA (i := 0) (j := 2) rfl rfl
 try rw [List.length_map] at hl0_2
 clear hin
 refine W.rg ?_
 refine SL.memS (O.box (is := [_, _, _]) 101 rfl rfl (by simp) rfl rfl Taken.no) rfl rfl (S' := (101, _) :: _) rfl ?_
 refine SL.memS (O.box (is := [_]) 102 rfl rfl (by simp) rfl rfl Taken.no) rfl rfl (S' := (102, _) :: _) rfl ?_
 refine SL.an rfl rfl (E.fo (W.rg ?_))
 refine SL.val (O.fld_ref (o' := 2) rfl Try.underlying28 rfl (m := 0) (by kernel_rfl) rfl rfl Taken.no) ?_
 refine SL.val (O.ld1 (PtI.ref rfl rfl) rfl Try.underlying26 rfl rfl Taken.no) ?_
 refine SL.val (O.makeFunc rfl rfl rfl Taken.no) ?_
 refine SL.memS (O.call (rn []) [102] rfl rfl rfl (indexFuncLn (q := s.lns) (f := 29) (caps := [.ptr [uI i]]) (pr := fun l => decide (l.work = i)) hcallOk29 (fun x _ => queue1_h)) (.cons (ArgOk.same rfl) (.cons (ArgOk.cloU .nil (.cons (ArgOk.ref rfl rfl rfl) .nil)) .nil)) SubS.nil rfl rfl rfl rfl rfl (.inr ⟨rfl, fun x hx => by simp at hx⟩) hcallOk28 (r' := .u _) rfl rfl Taken.no) rfl rfl (S' := _) rfl ?_
 refine SL.an rfl rfl (E.fo (W.seq (W.rg (SL.mv rfl rfl ?_))))
 refine SL.val (O.det (fun _ => G.R.lss rfl rfl) rfl Taken.no) ?_
 refine E.fo ?_
 first | refine W.cond_d rfl (fun hc1 => ?_) (fun hc1 => ?_) | refine W.cond_nd rfl (fun hc1 => ?_) (fun hc1 => ?_) | refine W.cond rfl (fun hc1 => ?_) (fun hc1 => ?_)
 ·skip
  refine W.rg (SL.an rfl rfl (E.fo (W.ret (E.thr ?_))))
  refine E.nilsl 4 5 rfl ?_
  refine E.fin (rs := [_]) (rn []) (.inl rfl) rfl (.cons (ResOne.tmp rfl) .nil) ?_ ?_ rfl (fixL_spec rfl)
  ·skip
   rw [queS_no (by omega)]; rfl
  · exact SubS.nil
 have hlt := idxF_lt (p := fun l : Ln => decide (l.work = i)) (l := s.lns) (by omega)
 have hqk := hq s.lns[(idxF (fun l : Ln => decide (l.work = i)) s.lns).toNat]! (at_mem (by omega))
 refine W.skip (E.to (W.rg ?_))
 refine SL.val (O.fld_ref (o' := 2) rfl Try.underlying28 rfl (m := 0) (by kernel_rfl) rfl rfl Taken.no) ?_
 refine SL.val (O.ld1 (PtI.ref rfl rfl) rfl Try.underlying26 rfl rfl Taken.no) ?_
 refine SL.mv rfl rfl ?_
 refine SL.val (O.idx_fz (i := (idxF (fun l : Ln => decide (l.work = i)) s.lns).toNat) rfl rfl (by omega) (row_get (by omega)) Try.underlying26 hi51 hs51 rfl Taken.no) ?_
 refine SL.val (O.fld_fz rfl Try.underlying51 rfl (m := 0) (by kernel_rfl) rfl rfl Taken.no) ?_
 refine SL.val (O.ld1 (PtI.ofU (PtU.fz rfl)) rfl Try.underlying40 rfl rfl Taken.no) ?_
 refine SL.val (O.callp rfl rfl rfl (Con.fz (cloneQ_h (l := s.lns[(idxF (fun l : Ln => decide (l.work = i)) s.lns).toNat]!.q) (by omega)) rfl rfl) (.cons (ArgOk.same rfl) .nil) hcallOk30 rfl Taken.no) ?_
 refine SL.an rfl rfl (E.fo (W.ret ?_))
 refine E.fin (rs := [_]) (rn []) (.inl rfl) rfl (.cons (ResOne.tmp rfl) .nil) ?_ ?_ rfl (fixL_spec rfl)
 ·skip
  rw [queS_y (by omega)]; rfl
 · exact SubS.nil

end Go.Proofs.Ytmekkjehkcjpdaa
end
section
namespace Go.Proofs.Ytmekkjehkcjpdaa
open Go Go.RowKit Go.H Go.D57 Go.D58

theorem hcallOk77 : G.callOk Try.prog 77 = true := by kernel_rfl
theorem hcallOk78 : G.callOk Try.prog 78 = true := by kernel_rfl

set_option maxRecDepth 8000 in
theorem count_h {s : St} {work : Int} :
    Con Try.prog 10 [vA [uI s.now, .sl 8 (s.cps.map eCp), .sl 2 (s.lns.map eLn)], vI work] [] (.agg [vI ((cntP s.cps work 1 : Nat) : Int), vI ((cntP s.cps work 2 : Nat) : Int), vI ((cntP s.cps work 3 : Nat) : Int)]) [] := by
 obtain ⟨i43, hi43, hz43, hs43, hb43⟩ := hinf43
 refine Con.enterL (n := 33) Try.func10 rfl rfl rfl (fun τ w ok vs hin => ?_)
 have hl0_1 := hin.lenA (i := 0) (j := 1) rfl rfl
 try rw [List.length_map] at hl0_1
 have hl0_2 := hin.lenA (i := 0) (j := 2) rfl rfl
 try rw [List.length_map] at hl0_2
 clear hin
 refine W.rg ?_
 refine SL.memS (O.box (is := [_, _, _]) 101 rfl rfl (by simp) rfl rfl Taken.no) rfl rfl (S' := (101, _) :: _) rfl ?_
 refine SL.memS (O.alloc (z := .agg #[.int .i64 0, .int .i64 0, .int .i64 0]) (is := [.u (.sc (.int .i64 0)), .u (.sc (.int .i64 0)), .u (.sc (.int .i64 0))]) 102 (by kernel_rfl) rfl rfl rfl Taken.no) rfl rfl (S' := (102, _) :: _) rfl ?_
 refine E.fo (W.rg ?_)
 refine SL.memS (O.alloc (z := .agg #[.int .i64 0, .int .i64 0, .int .i64 0]) (is := [.u (.sc (.int .i64 0)), .u (.sc (.int .i64 0)), .u (.sc (.int .i64 0))]) 103 (by kernel_rfl) rfl rfl rfl Taken.no) rfl rfl (S' := (103, _) :: _) rfl ?_
 refine E.fo (W.seq (W.rg ?_))
 refine SL.val (O.fld_ref (o' := 1) rfl Try.underlying28 rfl (m := 0) (by kernel_rfl) rfl rfl Taken.no) ?_
 refine SL.val (O.ld1 (PtI.ref rfl rfl) rfl Try.underlying25 rfl rfl Taken.no) ?_
 refine SL.val (O.lenE (SlOf.fz rfl (by decide)) (by first | exact List.length_map _ | rfl) Try.underlying25 rfl Taken.no) ?_
 refine SL.mv rfl rfl (E.fo (W.block ?_))
 refine W.loopx1 (fun (k : Nat) => [(11, vI (k : Int))]) (fun (k : Nat) => [(103, .cells 35 [.u (uI ((cntP (s.cps.take k) work 1 : Nat) : Int)), .u (uI ((cntP (s.cps.take k) work 2 : Nat) : Int)), .u (uI ((cntP (s.cps.take k) work 3 : Nat) : Int))])]) (fun (k : Nat) => k ≤ s.cps.length) (fun (k : Nat) => s.cps.length - k) (0) (rn []) (.cons (t := 1) rfl (.cons (t := 4) rfl (.cons (t := 5) rfl (.cons (t := 9) rfl (.cons (t := 10) rfl .nil))))) (.cons (t := 101) rfl (.cons (t := 102) rfl .nil)) rfl ?_ ?_ rfl rfl ?_ ?_
 · exact (SubF.cons rfl SubF.nil)
 · exact (SubS.cons rfl SubS.nil)
 ·skip
  omega
 intro k hinv
 have hk := hinv
 have hc1_ := cnt_le s.cps work 1 k
 have hc2_ := cnt_le s.cps work 2 k
 have hc3_ := cnt_le s.cps work 3 k
 refine W.rg ?_
 refine SL.val (O.det (fun _ => G.R.lss rfl rfl) rfl Taken.no) ?_
 refine E.fo (W.seq ?_)
 first | refine W.cond_d rfl (fun hc1 => ?_) (fun hc1 => ?_) | refine W.cond_nd rfl (fun hc1 => ?_) (fun hc1 => ?_) | refine W.cond rfl (fun hc1 => ?_) (fun hc1 => ?_)
 ·skip
  refine W.skip (E.to (W.seq (W.block (W.rg ?_))))
  refine SL.val (O.idx_fz rfl rfl (rfl) (row_get (by omega)) Try.underlying25 hi43 hs43 rfl Taken.no) ?_
  refine SL.val (O.ldU (m := 8) (PtU.fz rfl) rfl Try.underlying43 rfl (by kernel_rfl) rfl Taken.no) ?_
  refine SL.memS (O.alloc (z := .agg #[.int .i64 0, .int .i64 0, .string ByteArray.empty, .int .i64 0, .int .i64 0, .int .i64 0, .int .i64 0, .bool false]) (is := [.u (.sc (.int .i64 0)), .u (.sc (.int .i64 0)), .u (.sc (.string ByteArray.empty)), .u (.sc (.int .i64 0)), .u (.sc (.int .i64 0)), .u (.sc (.int .i64 0)), .u (.sc (.int .i64 0)), .u (.sc (.bool false))]) 104 (by kernel_rfl) rfl rfl rfl Taken.no) rfl rfl (S' := (104, _) :: _) rfl ?_
  refine SL.effS (O.st_ref (m := 8) rfl rfl rfl (js := [_, _, _, _, _, _, _, _]) rfl rfl (by kernel_rfl) (by simp) (Nat.le_of_ble_eq_true rfl) rfl (is' := [_, _, _, _, _, _, _, _]) rfl Taken.no) (S' := (104, _) :: _) rfl ?_
  refine E.fo (W.rg ?_)
  refine SL.val (O.fld_ref (o' := 1) rfl Try.underlying43 rfl (m := 0) (by kernel_rfl) rfl rfl Taken.no) ?_
  refine SL.val (O.ld1 (PtI.ref rfl rfl) rfl Try.underlying3 rfl rfl Taken.no) ?_
  refine SL.mv rfl rfl ?_
  refine SL.val (O.det (fun _ => G.R.eql rfl rfl) rfl Taken.no) ?_
  refine SL.mv rfl rfl ?_
  refine SL.case (j := 4) (g := 19) (want := true) rfl rfl (fun hg2 => ?_) (fun hg2 => ?_)
  ·skip
   first | have hg2p := G.gA1 hg2 | have hg2p := G.gA2 hg2 | have hg2p := hg2
   refine SL.val (O.fld_ref (o' := 3) rfl Try.underlying43 rfl (m := 0) (by kernel_rfl) rfl rfl (Taken.yes rfl rfl hg2)) ?_
   refine SL.val (O.ld1 (PtI.ref rfl rfl) rfl Try.underlying3 rfl rfl (Taken.yes rfl rfl hg2)) ?_
   refine SL.val (O.callp rfl rfl rfl (in_h) (.cons (ArgOk.same rfl) (.cons (ArgOk.same rfl) (.cons (ArgOk.same rfl) .nil))) hcallOk17 rfl (Taken.yes rfl rfl hg2)) ?_
   refine SL.val (O.pick_t rfl hg2 rfl rfl Taken.no) ?_
   refine E.fo ?_
   first | refine W.cond_d rfl (fun hc3 => ?_) (fun hc3 => ?_) | refine W.cond_nd rfl (fun hc3 => ?_) (fun hc3 => ?_) | refine W.cond rfl (fun hc3 => ?_) (fun hc3 => ?_)
   ·skip
    have hin : inB s.cps[k]!.place 1 3 := by first | assumption | simp_all
    unfold inB at hin
    have hpl : s.cps[k]!.place = 1 ∨ s.cps[k]!.place = 2 ∨ s.cps[k]!.place = 3 := by omega
    rcases hpl with hpl | hpl | hpl
    ·skip
     refine W.region ?_
     refine SL.val (O.fld_ref (o' := 3) rfl Try.underlying43 rfl (m := 0) (by kernel_rfl) rfl rfl Taken.no) ?_
     refine SL.val (O.ld1 (PtI.ref rfl rfl) rfl Try.underlying3 rfl rfl Taken.no) ?_
     refine SL.val (O.det (fun _ => by first | exact G.R.sub64 rfl rfl (by omega) | exact G.R.sub rfl rfl) rfl Taken.no) ?_
     refine SL.val (O.idx_ref (i := 0) (m := 1) rfl rfl (by omega) (by decide) Try.underlying35 (by kernel_rfl) rfl rfl Taken.no) ?_
     refine SL.val (O.ld1 (PtI.ref rfl rfl) rfl Try.underlying3 rfl rfl Taken.no) ?_
     refine SL.val (O.det (fun _ => by first | exact G.R.add64 rfl rfl (by omega) | exact G.R.add rfl rfl) rfl Taken.no) ?_
     refine SL.val (O.idx_ref (i := 0) (m := 1) rfl rfl (by omega) (by decide) Try.underlying35 (by kernel_rfl) rfl rfl Taken.no) ?_
     refine SL.effS (O.st_ref (m := 1) rfl rfl rfl (js := [_]) rfl rfl (by kernel_rfl) (by simp) (Nat.le_of_ble_eq_true rfl) rfl (is' := [_, _, _]) rfl Taken.no) (S' := (103, _) :: _) rfl ?_
     refine SL.nil (E.inn (E.to ?_))
     refine W.pick (K:=[(1,_),(4,_),(5,_),(9,_),(10,_),(11,_)]) (Z:=[(101,_),(102,_),(103,_),(104,_)]) ⟨rfl,rfl,rfl,rfl,rfl,rfl,trivial⟩ ⟨rfl,rfl,rfl,rfl,trivial⟩ ?_
     refine W.region ?_
     refine SL.val (O.det (fun _ => by first | exact G.R.add64 rfl rfl (by omega) | exact G.R.add rfl rfl) rfl Taken.no) ?_
     refine SL.mv rfl rfl (SL.nil ?_)
     refine E.again ((k + 1)) (rn []) ?_ ?_ rfl (fixL_spec rfl) ?_ ?_
     · exact (SubF.cons rfl (SubF.cons rfl (SubF.cons rfl (SubF.cons rfl (SubF.cons rfl (SubF.cons rfl SubF.nil))))))
     · exact (SubS.val rfl (by (try dsimp only); first | (first | (rw [cnt_y (p := 1) (by omega) (by omega), cnt_n (p := 2) (by omega) (by omega), cnt_n (p := 3) (by omega) (by omega)]; rfl) | (rw [cnt_n (p := 1) (by omega) (by omega), cnt_n (p := 2) (by omega) (by omega), cnt_n (p := 3) (by omega) (by omega)]; rfl)) | (first | (rw [cnt_n (p := 1) (by omega) (by omega), cnt_y (p := 2) (by omega) (by omega), cnt_n (p := 3) (by omega) (by omega)]; rfl) | (rw [cnt_n (p := 1) (by omega) (by omega), cnt_n (p := 2) (by omega) (by omega), cnt_n (p := 3) (by omega) (by omega)]; rfl)) | (first | (rw [cnt_n (p := 1) (by omega) (by omega), cnt_n (p := 2) (by omega) (by omega), cnt_y (p := 3) (by omega) (by omega)]; rfl) | (rw [cnt_n (p := 1) (by omega) (by omega), cnt_n (p := 2) (by omega) (by omega), cnt_n (p := 3) (by omega) (by omega)]; rfl))) (SubS.cons rfl (SubS.cons rfl SubS.nil)))
     ·try dsimp only
      omega
     · (try dsimp only); omega
    ·skip
     refine W.region ?_
     refine SL.val (O.fld_ref (o' := 3) rfl Try.underlying43 rfl (m := 0) (by kernel_rfl) rfl rfl Taken.no) ?_
     refine SL.val (O.ld1 (PtI.ref rfl rfl) rfl Try.underlying3 rfl rfl Taken.no) ?_
     refine SL.val (O.det (fun _ => by first | exact G.R.sub64 rfl rfl (by omega) | exact G.R.sub rfl rfl) rfl Taken.no) ?_
     refine SL.val (O.idx_ref (i := 1) (m := 1) rfl rfl (by omega) (by decide) Try.underlying35 (by kernel_rfl) rfl rfl Taken.no) ?_
     refine SL.val (O.ld1 (PtI.ref rfl rfl) rfl Try.underlying3 rfl rfl Taken.no) ?_
     refine SL.val (O.det (fun _ => by first | exact G.R.add64 rfl rfl (by omega) | exact G.R.add rfl rfl) rfl Taken.no) ?_
     refine SL.val (O.idx_ref (i := 1) (m := 1) rfl rfl (by omega) (by decide) Try.underlying35 (by kernel_rfl) rfl rfl Taken.no) ?_
     refine SL.effS (O.st_ref (m := 1) rfl rfl rfl (js := [_]) rfl rfl (by kernel_rfl) (by simp) (Nat.le_of_ble_eq_true rfl) rfl (is' := [_, _, _]) rfl Taken.no) (S' := (103, _) :: _) rfl ?_
     refine SL.nil (E.inn (E.to ?_))
     refine W.pick (K:=[(1,_),(4,_),(5,_),(9,_),(10,_),(11,_)]) (Z:=[(101,_),(102,_),(103,_),(104,_)]) ⟨rfl,rfl,rfl,rfl,rfl,rfl,trivial⟩ ⟨rfl,rfl,rfl,rfl,trivial⟩ ?_
     refine W.region ?_
     refine SL.val (O.det (fun _ => by first | exact G.R.add64 rfl rfl (by omega) | exact G.R.add rfl rfl) rfl Taken.no) ?_
     refine SL.mv rfl rfl (SL.nil ?_)
     refine E.again ((k + 1)) (rn []) ?_ ?_ rfl (fixL_spec rfl) ?_ ?_
     · exact (SubF.cons rfl (SubF.cons rfl (SubF.cons rfl (SubF.cons rfl (SubF.cons rfl (SubF.cons rfl SubF.nil))))))
     · exact (SubS.val rfl (by (try dsimp only); first | (first | (rw [cnt_y (p := 1) (by omega) (by omega), cnt_n (p := 2) (by omega) (by omega), cnt_n (p := 3) (by omega) (by omega)]; rfl) | (rw [cnt_n (p := 1) (by omega) (by omega), cnt_n (p := 2) (by omega) (by omega), cnt_n (p := 3) (by omega) (by omega)]; rfl)) | (first | (rw [cnt_n (p := 1) (by omega) (by omega), cnt_y (p := 2) (by omega) (by omega), cnt_n (p := 3) (by omega) (by omega)]; rfl) | (rw [cnt_n (p := 1) (by omega) (by omega), cnt_n (p := 2) (by omega) (by omega), cnt_n (p := 3) (by omega) (by omega)]; rfl)) | (first | (rw [cnt_n (p := 1) (by omega) (by omega), cnt_n (p := 2) (by omega) (by omega), cnt_y (p := 3) (by omega) (by omega)]; rfl) | (rw [cnt_n (p := 1) (by omega) (by omega), cnt_n (p := 2) (by omega) (by omega), cnt_n (p := 3) (by omega) (by omega)]; rfl))) (SubS.cons rfl (SubS.cons rfl SubS.nil)))
     ·try dsimp only
      omega
     · (try dsimp only); omega
    refine W.region ?_
    refine SL.val (O.fld_ref (o' := 3) rfl Try.underlying43 rfl (m := 0) (by kernel_rfl) rfl rfl Taken.no) ?_
    refine SL.val (O.ld1 (PtI.ref rfl rfl) rfl Try.underlying3 rfl rfl Taken.no) ?_
    refine SL.val (O.det (fun _ => by first | exact G.R.sub64 rfl rfl (by omega) | exact G.R.sub rfl rfl) rfl Taken.no) ?_
    refine SL.val (O.idx_ref (i := 2) (m := 1) rfl rfl (by omega) (by decide) Try.underlying35 (by kernel_rfl) rfl rfl Taken.no) ?_
    refine SL.val (O.ld1 (PtI.ref rfl rfl) rfl Try.underlying3 rfl rfl Taken.no) ?_
    refine SL.val (O.det (fun _ => by first | exact G.R.add64 rfl rfl (by omega) | exact G.R.add rfl rfl) rfl Taken.no) ?_
    refine SL.val (O.idx_ref (i := 2) (m := 1) rfl rfl (by omega) (by decide) Try.underlying35 (by kernel_rfl) rfl rfl Taken.no) ?_
    refine SL.effS (O.st_ref (m := 1) rfl rfl rfl (js := [_]) rfl rfl (by kernel_rfl) (by simp) (Nat.le_of_ble_eq_true rfl) rfl (is' := [_, _, _]) rfl Taken.no) (S' := (103, _) :: _) rfl ?_
    refine SL.nil (E.inn (E.to ?_))
    refine W.pick (K:=[(1,_),(4,_),(5,_),(9,_),(10,_),(11,_)]) (Z:=[(101,_),(102,_),(103,_),(104,_)]) ⟨rfl,rfl,rfl,rfl,rfl,rfl,trivial⟩ ⟨rfl,rfl,rfl,rfl,trivial⟩ ?_
    refine W.region ?_
    refine SL.val (O.det (fun _ => by first | exact G.R.add64 rfl rfl (by omega) | exact G.R.add rfl rfl) rfl Taken.no) ?_
    refine SL.mv rfl rfl (SL.nil ?_)
    refine E.again ((k + 1)) (rn []) ?_ ?_ rfl (fixL_spec rfl) ?_ ?_
    · exact (SubF.cons rfl (SubF.cons rfl (SubF.cons rfl (SubF.cons rfl (SubF.cons rfl (SubF.cons rfl SubF.nil))))))
    · exact (SubS.val rfl (by (try dsimp only); first | (first | (rw [cnt_y (p := 1) (by omega) (by omega), cnt_n (p := 2) (by omega) (by omega), cnt_n (p := 3) (by omega) (by omega)]; rfl) | (rw [cnt_n (p := 1) (by omega) (by omega), cnt_n (p := 2) (by omega) (by omega), cnt_n (p := 3) (by omega) (by omega)]; rfl)) | (first | (rw [cnt_n (p := 1) (by omega) (by omega), cnt_y (p := 2) (by omega) (by omega), cnt_n (p := 3) (by omega) (by omega)]; rfl) | (rw [cnt_n (p := 1) (by omega) (by omega), cnt_n (p := 2) (by omega) (by omega), cnt_n (p := 3) (by omega) (by omega)]; rfl)) | (first | (rw [cnt_n (p := 1) (by omega) (by omega), cnt_n (p := 2) (by omega) (by omega), cnt_y (p := 3) (by omega) (by omega)]; rfl) | (rw [cnt_n (p := 1) (by omega) (by omega), cnt_n (p := 2) (by omega) (by omega), cnt_n (p := 3) (by omega) (by omega)]; rfl))) (SubS.cons rfl (SubS.cons rfl SubS.nil)))
    ·try dsimp only
     omega
    · (try dsimp only); omega
   have hno : ¬ (s.cps[k]!.work = work ∧ inB s.cps[k]!.place 1 3) := by first | (intro q; simp_all; done) | simp_all
   unfold inB at hno
   refine W.skip (E.inn (E.to (W.region ?_)))
   refine SL.val (O.det (fun _ => by first | exact G.R.add64 rfl rfl (by omega) | exact G.R.add rfl rfl) rfl Taken.no) ?_
   refine SL.mv rfl rfl (SL.nil ?_)
   refine E.again ((k + 1)) (rn []) ?_ ?_ rfl (fixL_spec rfl) ?_ ?_
   · exact (SubF.cons rfl (SubF.cons rfl (SubF.cons rfl (SubF.cons rfl (SubF.cons rfl (SubF.cons rfl SubF.nil))))))
   · exact (SubS.val rfl (by (try dsimp only); first | (first | (rw [cnt_y (p := 1) (by omega) (by omega), cnt_n (p := 2) (by omega) (by omega), cnt_n (p := 3) (by omega) (by omega)]; rfl) | (rw [cnt_n (p := 1) (by omega) (by omega), cnt_n (p := 2) (by omega) (by omega), cnt_n (p := 3) (by omega) (by omega)]; rfl)) | (first | (rw [cnt_n (p := 1) (by omega) (by omega), cnt_y (p := 2) (by omega) (by omega), cnt_n (p := 3) (by omega) (by omega)]; rfl) | (rw [cnt_n (p := 1) (by omega) (by omega), cnt_n (p := 2) (by omega) (by omega), cnt_n (p := 3) (by omega) (by omega)]; rfl)) | (first | (rw [cnt_n (p := 1) (by omega) (by omega), cnt_n (p := 2) (by omega) (by omega), cnt_y (p := 3) (by omega) (by omega)]; rfl) | (rw [cnt_n (p := 1) (by omega) (by omega), cnt_n (p := 2) (by omega) (by omega), cnt_n (p := 3) (by omega) (by omega)]; rfl))) (SubS.cons rfl (SubS.cons rfl SubS.nil)))
   ·try dsimp only
    omega
   · (try dsimp only); omega
  first | have hg2p := G.gA5 hg2 | have hg2p := G.gA6 hg2 | have hg2p := hg2
  refine SL.sk rfl rfl rfl hg2 (SL.sk rfl rfl rfl hg2 (SL.sk rfl rfl rfl hg2 ?_))
  refine SL.val (O.pick_f rfl (G.ne_t hg2) rfl rfl Taken.no) ?_
  refine E.fo ?_
  refine W.cond_f rfl ?_
  refine W.skip (E.inn (E.to (W.region ?_)))
  refine SL.val (O.det (fun _ => by first | exact G.R.add64 rfl rfl (by omega) | exact G.R.add rfl rfl) rfl Taken.no) ?_
  refine SL.mv rfl rfl (SL.nil ?_)
  refine E.again ((k + 1)) (rn []) ?_ ?_ rfl (fixL_spec rfl) ?_ ?_
  · exact (SubF.cons rfl (SubF.cons rfl (SubF.cons rfl (SubF.cons rfl (SubF.cons rfl (SubF.cons rfl SubF.nil))))))
  · exact (SubS.val rfl (by (try dsimp only); first | (first | (rw [cnt_y (p := 1) (by omega) (by omega), cnt_n (p := 2) (by omega) (by omega), cnt_n (p := 3) (by omega) (by omega)]; rfl) | (rw [cnt_n (p := 1) (by omega) (by omega), cnt_n (p := 2) (by omega) (by omega), cnt_n (p := 3) (by omega) (by omega)]; rfl)) | (first | (rw [cnt_n (p := 1) (by omega) (by omega), cnt_y (p := 2) (by omega) (by omega), cnt_n (p := 3) (by omega) (by omega)]; rfl) | (rw [cnt_n (p := 1) (by omega) (by omega), cnt_n (p := 2) (by omega) (by omega), cnt_n (p := 3) (by omega) (by omega)]; rfl)) | (first | (rw [cnt_n (p := 1) (by omega) (by omega), cnt_n (p := 2) (by omega) (by omega), cnt_y (p := 3) (by omega) (by omega)]; rfl) | (rw [cnt_n (p := 1) (by omega) (by omega), cnt_n (p := 2) (by omega) (by omega), cnt_n (p := 3) (by omega) (by omega)]; rfl))) (SubS.cons rfl (SubS.cons rfl SubS.nil)))
  ·try dsimp only
   omega
  · (try dsimp only); omega
 refine W.exit (E.th (E.th (E.hit (E.to (W.rg ?_)))))
 refine SL.val (O.ldN (m := 3) (PtI.ref rfl rfl) (js := [_, _, _]) rfl (Nat.le_of_ble_eq_true rfl) Try.underlying35 rfl (by kernel_rfl) rfl Taken.no) ?_
 refine SL.effS (O.st_ref (m := 3) rfl rfl rfl (js := [_, _, _]) rfl rfl (by kernel_rfl) (by simp) (Nat.le_of_ble_eq_true rfl) rfl (is' := [_, _, _]) rfl Taken.no) (S' := (102, _) :: _) rfl ?_
 refine E.fo (W.ret ?_)
 refine E.fin (rs := [_]) (rn []) (.inl rfl) rfl (.cons (ResOne.cellN (m := 3) (PtI.ref rfl rfl) (js := [_, _, _]) rfl (Nat.le_of_ble_eq_true rfl) Try.underlying35 rfl (by kernel_rfl)) .nil) ?_ ?_ rfl (fixL_spec rfl)
 ·skip
  rw [show k = s.cps.length by omega, List.take_length]; rfl
 · exact SubS.nil

set_option maxRecDepth 8000 in
theorem which_h {s : St} {f : Nat} {caps : List UV} {pr : Cp → Bool} (hok : G.callOk Try.prog f = true) (hpr : ∀ x, Con Try.prog f ([vA (eCp x)] ++ caps.map .u) [] (vB (pr x)) []) (hl : s.cps.length ≤ 1000000) :
    Con Try.prog 77 [vA [uI s.now, .sl 8 (s.cps.map eCp), .sl 2 (s.lns.map eLn)], .u (.clo (.func f) [] caps)] [] (.own 0) [(0, .data 3 1 ((idsF pr s.cps).map eI))] := by
 obtain ⟨i3, hi3, hz3, hs3, hb3⟩ := hinf3
 obtain ⟨i43, hi43, hz43, hs43, hb43⟩ := hinf43
 refine Con.enterL (n := 25) Try.func77 rfl rfl rfl (fun τ w ok vs hin => ?_)
 have hl0_1 := hin.lenA (i := 0) (j := 1) rfl rfl
 try rw [List.length_map] at hl0_1
 have hl0_2 := hin.lenA (i := 0) (j := 2) rfl rfl
 try rw [List.length_map] at hl0_2
 clear hin
 refine W.rg ?_
 refine SL.memS (O.box (is := [_, _, _]) 101 rfl rfl (by simp) rfl rfl Taken.no) rfl rfl (S' := (101, _) :: _) rfl ?_
 refine SL.an rfl rfl (E.fo (W.rg (SL.an rfl rfl (E.fo (W.seq (W.rg ?_))))))
 refine SL.val (O.fld_ref (o' := 1) rfl Try.underlying28 rfl (m := 0) (by kernel_rfl) rfl rfl Taken.no) ?_
 refine SL.val (O.ld1 (PtI.ref rfl rfl) rfl Try.underlying25 rfl rfl Taken.no) ?_
 refine SL.val (O.lenE (SlOf.fz rfl (by decide)) (by first | exact List.length_map _ | rfl) Try.underlying25 rfl Taken.no) ?_
 refine SL.mv rfl rfl (E.fo (W.block ?_))
 refine W.adopt 5 103 3 1 (by decide) rfl rfl rfl ?_
 refine W.loopx1 (fun (k : Nat) => [(11, vI (k : Int)), (5, .own 102)]) (fun (k : Nat) => [(102, .data 3 1 ((idsF pr (s.cps.take k)).map eI))]) (fun (k : Nat) => k ≤ s.cps.length) (fun (k : Nat) => s.cps.length - k) (0) (rn [(102, 103)]) (.cons (t := 1) rfl (.cons (t := 4) rfl (.cons (t := 9) rfl (.cons (t := 10) rfl .nil)))) (.cons (t := 101) rfl .nil) rfl ?_ ?_ rfl rfl ?_ ?_
 · exact (SubF.cons rfl (SubF.cons rfl SubF.nil))
 · exact (SubS.val rfl (by exact sb_data (by rw [List.take_zero]; rfl)) SubS.nil)
 ·skip
  omega
 intro k hinv
 have hk := hinv
 have hil := ids_le pr s.cps k
 refine W.rg ?_
 refine SL.val (O.det (fun _ => G.R.lss rfl rfl) rfl Taken.no) ?_
 refine E.fo (W.seq ?_)
 first | refine W.cond_d rfl (fun hc1 => ?_) (fun hc1 => ?_) | refine W.cond_nd rfl (fun hc1 => ?_) (fun hc1 => ?_) | refine W.cond rfl (fun hc1 => ?_) (fun hc1 => ?_)
 ·skip
  refine W.skip (E.to (W.seq (W.block (W.rg ?_))))
  refine SL.val (O.idx_fz rfl rfl (rfl) (row_get (by omega)) Try.underlying25 hi43 hs43 rfl Taken.no) ?_
  refine SL.val (O.ldU (m := 8) (PtU.fz rfl) rfl Try.underlying43 rfl (by kernel_rfl) rfl Taken.no) ?_
  refine SL.memS (O.alloc (z := .agg #[.int .i64 0, .int .i64 0, .string ByteArray.empty, .int .i64 0, .int .i64 0, .int .i64 0, .int .i64 0, .bool false]) (is := [.u (.sc (.int .i64 0)), .u (.sc (.int .i64 0)), .u (.sc (.string ByteArray.empty)), .u (.sc (.int .i64 0)), .u (.sc (.int .i64 0)), .u (.sc (.int .i64 0)), .u (.sc (.int .i64 0)), .u (.sc (.bool false))]) 104 (by kernel_rfl) rfl rfl rfl Taken.no) rfl rfl (S' := (104, _) :: _) rfl ?_
  refine SL.effS (O.st_ref (m := 8) rfl rfl rfl (js := [_, _, _, _, _, _, _, _]) rfl rfl (by kernel_rfl) (by simp) (Nat.le_of_ble_eq_true rfl) rfl (is' := [_, _, _, _, _, _, _, _]) rfl Taken.no) (S' := (104, _) :: _) rfl ?_
  refine E.fo (W.rg (SL.mv rfl rfl ?_))
  refine SL.val (O.ldN (m := 8) (PtI.ref rfl rfl) (js := [_, _, _, _, _, _, _, _]) rfl (Nat.le_of_ble_eq_true rfl) Try.underlying43 rfl (by kernel_rfl) rfl Taken.no) ?_
  refine SL.val (O.callp rfl rfl rfl (hpr s.cps[k]!) (.cons (ArgOk.aggU (.cons (ArgOk.same rfl) (.cons (ArgOk.same rfl) (.cons (ArgOk.same rfl) (.cons (ArgOk.same rfl) (.cons (ArgOk.same rfl) (.cons (ArgOk.same rfl) (.cons (ArgOk.same rfl) (.cons (ArgOk.same rfl) .nil))))))))) (ArgsOk.caps caps)) hok rfl Taken.no) ?_
  refine E.fo ?_
  first | refine W.cond_d rfl (fun hc2 => ?_) (fun hc2 => ?_) | refine W.cond_nd rfl (fun hc2 => ?_) (fun hc2 => ?_) | refine W.cond rfl (fun hc2 => ?_) (fun hc2 => ?_)
  ·skip
   refine W.region (SL.mv rfl rfl ?_)
   refine SL.val (O.fld_ref (o' := 0) rfl Try.underlying43 rfl (m := 0) (by kernel_rfl) rfl rfl Taken.no) ?_
   refine SL.val (O.ld1 (PtI.ref rfl rfl) rfl Try.underlying3 rfl rfl Taken.no) ?_
   refine SL.memS (O.buildSlice 105 (rows := [s.cps[k]!.id].map eI) rfl rfl Try.underlying87 hi3 hz3 hs3 (by decide) rfl (by decide) rfl rfl rfl Taken.no) rfl rfl (S' := (105, .data 3 1 ([s.cps[k]!.id].map eI)) :: _) rfl ?_
   refine SL.memS (O.app (k' := 106) rfl rfl (SlOf.own rfl rfl) Try.underlying87 hi3 hz3 hs3 rfl rfl (by exact app_map) (by rw [hb3]; (simp only [List.length_map, List.length_singleton]; omega)) (by (simp only [List.length_map, List.length_singleton]; omega)) rfl Taken.no) rfl rfl (S' := (106, _) :: (102, .dead) :: _) rfl ?_
   refine SL.an rfl rfl (SL.nil (E.inn (E.to (W.region ?_))))
   refine SL.val (O.det (fun _ => by first | exact G.R.add64 rfl rfl (by omega) | exact G.R.add rfl rfl) rfl Taken.no) ?_
   refine SL.mv rfl rfl (SL.nil ?_)
   refine E.again ((k + 1)) (rn [(102, 106)]) ?_ ?_ rfl (fixL_spec rfl) ?_ ?_
   · exact (SubF.cons rfl (SubF.cons rfl (SubF.cons rfl (SubF.cons rfl (SubF.cons rfl (SubF.cons rfl SubF.nil))))))
   · exact (SubS.val rfl (by (try dsimp only); first | exact sb_data (by rw [ids_n2 (by omega) (by assumption)]) | exact sb_data (by rw [ids_y (by omega) (by assumption)])) (SubS.cons rfl SubS.nil))
   ·try dsimp only
    omega
   · (try dsimp only); omega
  refine W.skip (E.inn (E.to (W.region ?_)))
  refine SL.val (O.det (fun _ => by first | exact G.R.add64 rfl rfl (by omega) | exact G.R.add rfl rfl) rfl Taken.no) ?_
  refine SL.mv rfl rfl (SL.nil ?_)
  refine E.again ((k + 1)) (rn []) ?_ ?_ rfl (fixL_spec rfl) ?_ ?_
  · exact (SubF.cons rfl (SubF.cons rfl (SubF.cons rfl (SubF.cons rfl (SubF.cons rfl (SubF.cons rfl SubF.nil))))))
  · exact (SubS.val rfl (by (try dsimp only); first | exact sb_data (by rw [ids_n2 (by omega) (by assumption)]) | exact sb_data (by rw [ids_y (by omega) (by assumption)])) (SubS.cons rfl SubS.nil))
  ·try dsimp only
   omega
  · (try dsimp only); omega
 refine W.exit (E.th (E.th (E.hit (E.to (W.rg (SL.mv rfl rfl (SL.an rfl rfl (E.fo (W.ret ?_)))))))))
 refine E.fin (rs := [_]) (rn [(0, 102)]) (.inl rfl) rfl (.cons (ResOne.tmp rfl) .nil) ?_ ?_ rfl (fixL_spec rfl)
 ·skip
  rfl
 · exact (SubS.val rfl (by exact sb_data (by rw [show k = s.cps.length by omega, List.take_length])) SubS.nil)

set_option maxRecDepth 8000 in
theorem loans1_h {c : Cp} {i : Int} :
    Con Try.prog 78 [vA (eCp c), .u (.ptr [uI i])] [] (vB (decide (c.place = 2 ∧ c.pat = i))) [] := by
 refine Con.enterL (n := 13) Try.func78 rfl rfl rfl (fun τ w ok vs hin => ?_)
 clear hin
 refine W.rg ?_
 refine SL.memS (O.box (is := [_, _, _, _, _, _, _, _]) 101 rfl rfl (by simp) rfl rfl Taken.no) rfl rfl (S' := (101, _) :: _) rfl ?_
 refine SL.an rfl rfl (E.fo (W.rg ?_))
 refine SL.val (O.fld_ref (o' := 3) rfl Try.underlying43 rfl (m := 0) (by kernel_rfl) rfl rfl Taken.no) ?_
 refine SL.val (O.ld1 (PtI.ref rfl rfl) rfl Try.underlying3 rfl rfl Taken.no) ?_
 refine SL.val (O.det (fun _ => G.R.eql rfl rfl) rfl Taken.no) ?_
 refine SL.mv rfl rfl ?_
 refine SL.case (j := 3) (g := 7) (want := true) rfl rfl (fun hg1 => ?_) (fun hg1 => ?_)
 ·skip
  first | have hg1p := G.gA1 hg1 | have hg1p := G.gA2 hg1 | have hg1p := hg1
  refine SL.val (O.fld_ref (o' := 4) rfl Try.underlying43 rfl (m := 0) (by kernel_rfl) rfl rfl (Taken.yes rfl rfl hg1)) ?_
  refine SL.val (O.ld1 (PtI.ref rfl rfl) rfl Try.underlying3 rfl rfl (Taken.yes rfl rfl hg1)) ?_
  refine SL.val (O.ld1 (PtI.ofU (PtU.fz rfl)) rfl Try.underlying3 rfl rfl (Taken.yes rfl rfl hg1)) ?_
  refine SL.val (O.det (fun _ => G.R.eql rfl rfl) rfl (Taken.yes rfl rfl hg1)) ?_
  refine SL.val (O.pick_t rfl hg1 rfl rfl Taken.no) ?_
  refine SL.an rfl rfl (E.fo (W.ret ?_))
  refine E.fin (rs := [_]) (rn []) (.inl rfl) rfl (.cons (ResOne.tmp rfl) .nil) ?_ ?_ rfl (fixL_spec rfl)
  ·skip
   first | exact iv_bool (dec_iff (by omega)) | exact iv_bool (dec_t (by omega)) | exact iv_bool (dec_f (by omega))
  · exact SubS.nil
 first | have hg1p := G.gA5 hg1 | have hg1p := G.gA6 hg1 | have hg1p := hg1
 refine SL.sk rfl rfl rfl hg1 (SL.sk rfl rfl rfl hg1 (SL.sk rfl rfl rfl hg1 (SL.sk rfl rfl rfl hg1 ?_)))
 refine SL.val (O.pick_f rfl (G.ne_t hg1) rfl rfl Taken.no) ?_
 refine SL.an rfl rfl (E.fo (W.ret ?_))
 refine E.fin (rs := [_]) (rn []) (.inl rfl) rfl (.cons (ResOne.tmp rfl) .nil) ?_ ?_ rfl (fixL_spec rfl)
 ·skip
  first | exact iv_bool (dec_iff (by omega)) | exact iv_bool (dec_t (by omega)) | exact iv_bool (dec_f (by omega))
 · exact SubS.nil

theorem flat_I (l : List Int) {t : TypeId} : (SB.data t 1 (l.map eI)).flatP := fun u hu => by
  obtain ⟨r, hr, hu⟩ := List.mem_flatten.1 hu
  obtain ⟨x, _, rfl⟩ := List.mem_map.1 hr
  rw [List.mem_singleton.1 hu]; rfl


end Go.Proofs.Ytmekkjehkcjpdaa
end
section
namespace Go.Proofs.Ytmekkjehkcjpdaa
open Go Go.RowKit Go.H Go.D57 Go.D58



set_option maxRecDepth 8000 in
theorem take_h {t : Tk} {p wk h : Int} :
    Con Try.prog 68 [vI p, vI wk, vI h, .ref 0 0, .ref 2 0] [(0, .cells 98 [.own 1]), (1, .mp (mpE pairV Value.bool t.has)), (2, .cells 99 [.own 3]), (3, .mp (mpE (fun a : Int => Value.int .i64 a) Value.bool t.hol))] (vB (tkF t p wk h).isSome) [(0, .cells 98 [.own 1]), (1, .mp (mpE pairV Value.bool (tkN t p wk h).has)), (2, .cells 99 [.own 3]), (3, .mp (mpE (fun a : Int => Value.int .i64 a) Value.bool (tkN t p wk h).hol))] := by
 refine Con.enterL (n := 31) Try.func68 rfl rfl rfl (fun τ w ok vs hin => ?_)
 clear hin
 refine W.rg (SL.an rfl rfl (E.fo (W.rg (SL.mv rfl rfl (SL.mv rfl rfl ?_)))))
 refine SL.val (O.build (res := [_, _]) (z := .agg #[.int .i64 0, .int .i64 0]) (places := [(0, 1), (1, 1)]) rfl rfl Try.underlying102 (by kernel_rfl) (fun _ => by kernel_rfl) rfl rfl Taken.no) ?_
 refine SL.memS (O.alloc (z := .agg #[.int .i64 0, .int .i64 0]) (is := [.u (.sc (.int .i64 0)), .u (.sc (.int .i64 0))]) 101 (by kernel_rfl) rfl rfl rfl Taken.no) rfl rfl (S' := (101, _) :: _) rfl ?_
 refine SL.effS (O.st_ref (m := 2) rfl rfl rfl (js := [_, _]) rfl rfl (by kernel_rfl) (by simp) (Nat.le_of_ble_eq_true rfl) rfl (is' := [_, _]) rfl Taken.no) (S' := (101, _) :: _) rfl ?_
 refine E.fo (W.seq (W.rg ?_))
 refine SL.val (O.ld1 (PtI.ref rfl rfl) rfl Try.underlying98 rfl rfl Taken.no) ?_
 refine SL.val (O.ldN (m := 2) (PtI.ref rfl rfl) (js := [_, _]) rfl (Nat.le_of_ble_eq_true rfl) Try.underlying102 rfl (by kernel_rfl) rfl Taken.no) ?_
 refine SL.val (O.lookupA (kf := pairV) (vf := Value.bool) (l := t.has) (b := (p, wk)) (z := false) rfl rfl (ls := [Value.int .i64 p, Value.int .i64 wk]) (.inr rfl) rfl Try.underlying98 (KeyOk.pair Try.underlying102 (by kernel_rfl) (fun _ _ _ _ => rfl)) (by kernel_rfl) rfl Taken.no) ?_
 refine SL.mv rfl rfl ?_
 refine SL.case (j := 3) (g := 16) (want := false) rfl rfl (fun hg1 => ?_) (fun hg1 => ?_)
 ·skip
  first | have hg1p := G.gA3 hg1 | have hg1p := G.gA4 hg1 | have hg1p := hg1
  refine SL.val (O.move rfl rfl (Taken.yes rfl rfl hg1)) ?_
  refine SL.val (O.det (fun _ => G.R.neq rfl rfl) rfl (Taken.yes rfl rfl hg1)) ?_
  refine SL.val (O.move rfl rfl (Taken.yes rfl rfl hg1)) ?_
  refine SL.case (j := 6) (g := 19) (want := true) rfl rfl (fun hg2 => ?_) (fun hg2 => ?_)
  ·skip
   first | have hg2p := G.gA1 hg2 | have hg2p := G.gA2 hg2 | have hg2p := hg2
   refine SL.val (O.ld1 (PtI.ref rfl rfl) rfl Try.underlying99 rfl rfl (Taken.yes rfl rfl hg2)) ?_
   refine SL.val (O.move rfl rfl (Taken.yes rfl rfl hg2)) ?_
   refine SL.val (O.lookup (kf := (fun a : Int => Value.int .i64 a)) (vf := Value.bool) (l := t.hol) (b := h) (z := false) rfl rfl rfl Try.underlying99 (KeyOk.int Try.underlying3) (by kernel_rfl) rfl (Taken.yes rfl rfl hg2)) ?_
   refine SL.val (O.pick_t rfl hg2 rfl rfl (Taken.yes rfl rfl hg1)) ?_
   refine SL.val (O.pick_f rfl hg1 rfl rfl Taken.no) ?_
   refine E.fo ?_
   first | refine W.cond_d rfl (fun hc3 => ?_) (fun hc3 => ?_) | refine W.cond_nd rfl (fun hc3 => ?_) (fun hc3 => ?_) | refine W.cond rfl (fun hc3 => ?_) (fun hc3 => ?_)
   ·skip
    refine W.rg (SL.an rfl rfl (E.fo (W.ret (E.thr ?_))))
    have hno := tk_no (t := t) (p := p) (w := wk) (h := h) (by first | exact .inl (by assumption) | exact .inr ⟨by assumption, by assumption⟩ | (simp_all; done))
    rw [hno.1, hno.2]
    refine E.fin (rs := [_]) (rn []) (.inl rfl) rfl (.cons (ResOne.tmp rfl) .nil) ?_ ?_ rfl (fixL_spec rfl)
    ·skip
     rfl
    · exact (SubS.cons rfl (SubS.cons rfl (SubS.cons rfl (SubS.cons rfl SubS.nil))))
   refine W.skip (E.to (W.rg ?_))
   refine SL.val (O.ld1 (PtI.ref rfl rfl) rfl Try.underlying98 rfl rfl Taken.no) ?_
   refine SL.val (O.ldN (m := 2) (PtI.ref rfl rfl) (js := [_, _]) rfl (Nat.le_of_ble_eq_true rfl) Try.underlying102 rfl (by kernel_rfl) rfl Taken.no) ?_
   refine SL.effS (O.mapUpdateA (kf := pairV) (vf := Value.bool) (l := t.has) (b := (p, wk)) (u := true) rfl rfl (ls := [Value.int .i64 p, Value.int .i64 wk]) (.inr rfl) rfl rfl Try.underlying98 (KeyOk.pair Try.underlying102 (by kernel_rfl) (fun _ _ _ _ => rfl)) Taken.no) (S' := (1, _) :: _) rfl ?_
   refine E.fo (W.seq (W.rg (SL.mv rfl rfl ?_)))
   refine SL.val (O.det (fun _ => G.R.neq rfl rfl) rfl Taken.no) ?_
   refine E.fo ?_
   refine W.pick (K:=[(2,_),(4,_),(8,_),(28,_)]) (Z:=[(0,_),(1,_),(2,_),(3,_),(101,_)]) ⟨rfl,rfl,rfl,rfl,trivial⟩ ⟨rfl,rfl,rfl,rfl,rfl,trivial⟩ ?_
   first | refine W.cond_d rfl (fun hc4 => ?_) (fun hc4 => ?_) | refine W.cond_nd rfl (fun hc4 => ?_) (fun hc4 => ?_) | refine W.cond rfl (fun hc4 => ?_) (fun hc4 => ?_)
   ·skip
    have hh : h ≠ 0 := by first | assumption | simp_all
    refine W.region ?_
    refine SL.val (O.ld1 (PtI.ref rfl rfl) rfl Try.underlying99 rfl rfl Taken.no) ?_
    refine SL.mv rfl rfl ?_
    refine SL.effS (O.mapUpdate (kf := (fun a : Int => Value.int .i64 a)) (vf := Value.bool) (l := t.hol) (b := h) (u := true) rfl rfl rfl rfl Try.underlying99 (KeyOk.int Try.underlying3) Taken.no) (S' := (3, _) :: _) rfl ?_
    refine E.fo (W.rg (SL.an rfl rfl (E.fo (W.ret ?_))))
    have hye := tk_y (t := t) (p := p) (w := wk) (h := h) (by rintro (q | ⟨q1, q2⟩) <;> simp_all)
    rw [hye.1, hye.2.1]
    first | rw [hye.2.2.1 hh] | rw [hye.2.2.2 hh]
    refine E.fin (rs := [_]) (rn []) (.inl rfl) rfl (.cons (ResOne.tmp rfl) .nil) ?_ ?_ rfl (fixL_spec rfl)
    ·skip
     rfl
    · exact (SubS.cons rfl (SubS.cons rfl (SubS.cons rfl (SubS.cons rfl SubS.nil))))
   have hh : ¬ h ≠ 0 := by first | assumption | simp_all
   refine W.skip (E.to (W.rg (SL.an rfl rfl (E.fo (W.ret ?_)))))
   have hye := tk_y (t := t) (p := p) (w := wk) (h := h) (by rintro (q | ⟨q1, q2⟩) <;> simp_all)
   rw [hye.1, hye.2.1]
   first | rw [hye.2.2.1 hh] | rw [hye.2.2.2 hh]
   refine E.fin (rs := [_]) (rn []) (.inl rfl) rfl (.cons (ResOne.tmp rfl) .nil) ?_ ?_ rfl (fixL_spec rfl)
   ·skip
    rfl
   · exact (SubS.cons rfl (SubS.cons rfl (SubS.cons rfl (SubS.cons rfl SubS.nil))))
  first | have hg2p := G.gA5 hg2 | have hg2p := G.gA6 hg2 | have hg2p := hg2
  refine SL.sk rfl rfl rfl hg2 (SL.sk rfl rfl rfl hg2 (SL.sk rfl rfl rfl hg2 ?_))
  refine SL.val (O.pick_f rfl (G.ne_t hg2) rfl rfl (Taken.yes rfl rfl hg1)) ?_
  refine SL.val (O.pick_f rfl hg1 rfl rfl Taken.no) ?_
  refine E.fo ?_
  refine W.cond_f rfl ?_
  refine W.skip (E.to (W.rg ?_))
  refine SL.val (O.ld1 (PtI.ref rfl rfl) rfl Try.underlying98 rfl rfl Taken.no) ?_
  refine SL.val (O.ldN (m := 2) (PtI.ref rfl rfl) (js := [_, _]) rfl (Nat.le_of_ble_eq_true rfl) Try.underlying102 rfl (by kernel_rfl) rfl Taken.no) ?_
  refine SL.effS (O.mapUpdateA (kf := pairV) (vf := Value.bool) (l := t.has) (b := (p, wk)) (u := true) rfl rfl (ls := [Value.int .i64 p, Value.int .i64 wk]) (.inr rfl) rfl rfl Try.underlying98 (KeyOk.pair Try.underlying102 (by kernel_rfl) (fun _ _ _ _ => rfl)) Taken.no) (S' := (1, _) :: _) rfl ?_
  refine E.fo (W.seq (W.rg (SL.mv rfl rfl ?_)))
  refine SL.val (O.det (fun _ => G.R.neq rfl rfl) rfl Taken.no) ?_
  refine E.fo ?_
  refine W.pick (K:=[(2,_),(4,_),(8,_),(28,_)]) (Z:=[(0,_),(1,_),(2,_),(3,_),(101,_)]) ⟨rfl,rfl,rfl,rfl,trivial⟩ ⟨rfl,rfl,rfl,rfl,rfl,trivial⟩ ?_
  first | refine W.cond_d rfl (fun hc5 => ?_) (fun hc5 => ?_) | refine W.cond_nd rfl (fun hc5 => ?_) (fun hc5 => ?_) | refine W.cond rfl (fun hc5 => ?_) (fun hc5 => ?_)
  ·skip
   have hh : h ≠ 0 := by first | assumption | simp_all
   refine W.region ?_
   refine SL.val (O.ld1 (PtI.ref rfl rfl) rfl Try.underlying99 rfl rfl Taken.no) ?_
   refine SL.mv rfl rfl ?_
   refine SL.effS (O.mapUpdate (kf := (fun a : Int => Value.int .i64 a)) (vf := Value.bool) (l := t.hol) (b := h) (u := true) rfl rfl rfl rfl Try.underlying99 (KeyOk.int Try.underlying3) Taken.no) (S' := (3, _) :: _) rfl ?_
   refine E.fo (W.rg (SL.an rfl rfl (E.fo (W.ret ?_))))
   have hye := tk_y (t := t) (p := p) (w := wk) (h := h) (by rintro (q | ⟨q1, q2⟩) <;> simp_all)
   rw [hye.1, hye.2.1]
   first | rw [hye.2.2.1 hh] | rw [hye.2.2.2 hh]
   refine E.fin (rs := [_]) (rn []) (.inl rfl) rfl (.cons (ResOne.tmp rfl) .nil) ?_ ?_ rfl (fixL_spec rfl)
   ·skip
    rfl
   · exact (SubS.cons rfl (SubS.cons rfl (SubS.cons rfl (SubS.cons rfl SubS.nil))))
  have hh : ¬ h ≠ 0 := by first | assumption | simp_all
  refine W.skip (E.to (W.rg (SL.an rfl rfl (E.fo (W.ret ?_)))))
  have hye := tk_y (t := t) (p := p) (w := wk) (h := h) (by rintro (q | ⟨q1, q2⟩) <;> simp_all)
  rw [hye.1, hye.2.1]
  first | rw [hye.2.2.1 hh] | rw [hye.2.2.2 hh]
  refine E.fin (rs := [_]) (rn []) (.inl rfl) rfl (.cons (ResOne.tmp rfl) .nil) ?_ ?_ rfl (fixL_spec rfl)
  ·skip
   rfl
  · exact (SubS.cons rfl (SubS.cons rfl (SubS.cons rfl (SubS.cons rfl SubS.nil))))
 first | have hg1p := G.gA7 hg1 | have hg1p := G.gA8 hg1 | have hg1p := hg1
 refine SL.sk rfl rfl rfl hg1 (SL.sk rfl rfl rfl hg1 (SL.sk rfl rfl rfl hg1 ?_))
 refine SL.skip (OpOk.not2 rfl rfl rfl) ?_
 refine SL.skip (OpOk.not2 rfl rfl rfl) ?_
 refine SL.skip (OpOk.not2 rfl rfl rfl) ?_
 refine SL.sk rfl rfl rfl hg1 ?_
 refine SL.val (O.pick_t rfl (G.ne_f hg1) rfl rfl Taken.no) ?_
 refine E.fo ?_
 refine W.cond_t rfl ?_
 refine W.rg (SL.an rfl rfl (E.fo (W.ret (E.thr ?_))))
 have hno := tk_no (t := t) (p := p) (w := wk) (h := h) (by first | exact .inl (by assumption) | exact .inr ⟨by assumption, by assumption⟩ | (simp_all; done))
 rw [hno.1, hno.2]
 refine E.fin (rs := [_]) (rn []) (.inl rfl) rfl (.cons (ResOne.tmp rfl) .nil) ?_ ?_ rfl (fixL_spec rfl)
 ·skip
  rfl
 · exact (SubS.cons rfl (SubS.cons rfl (SubS.cons rfl (SubS.cons rfl SubS.nil))))

end Go.Proofs.Ytmekkjehkcjpdaa
end
section
namespace Go.Proofs.Ytmekkjehkcjpdaa
open Go Go.RowKit Go.H Go.D57 Go.D58

theorem hcallOk68 : G.callOk Try.prog 68 = true := by kernel_rfl

set_option maxRecDepth 8000 in
set_option maxHeartbeats 1600000 in
theorem apart_h {s : St} (hql : ∀ l ∈ s.lns, l.q.length ≤ 1000000) :
    Con Try.prog 41 [vA [uI s.now, .sl 8 (s.cps.map eCp), .sl 2 (s.lns.map eLn)]] [] (vB (apartB s)) [] := by
 obtain ⟨i43, hi43, hz43, hs43, hb43⟩ := hinf43
 obtain ⟨i47, hi47, hz47, hs47, hb47⟩ := hinf47
 obtain ⟨i51, hi51, hz51, hs51, hb51⟩ := hinf51
 refine Con.enterL (n := 75) Try.func41 rfl rfl rfl (fun τ w ok vs hin => ?_)
 have hl0_1 := hin.lenA (i := 0) (j := 1) rfl rfl
 try rw [List.length_map] at hl0_1
 have hl0_2 := hin.lenA (i := 0) (j := 2) rfl rfl
 try rw [List.length_map] at hl0_2
 clear hin
 refine W.rg ?_
 refine SL.memS (O.box (is := [_, _, _]) 101 rfl rfl (by simp) rfl rfl Taken.no) rfl rfl (S' := (101, _) :: _) rfl ?_
 refine SL.an rfl rfl (E.fo (W.rg ?_))
 refine SL.memS (O.makeMap 102 rfl Taken.no) rfl rfl (S' := (102, .mp []) :: _) rfl ?_
 refine SL.memS (O.makeMap 103 rfl Taken.no) rfl rfl (S' := (103, .mp []) :: _) rfl ?_
 refine SL.memS (O.makeMap 104 rfl Taken.no) rfl rfl (S' := (104, .mp []) :: _) rfl ?_
 refine SL.memS (O.alloc (z := .map none) (is := [.u (.sc (.map none))]) 105 (by kernel_rfl) rfl rfl rfl Taken.no) rfl rfl (S' := (105, _) :: _) rfl ?_
 refine SL.memS (O.alloc (z := .map none) (is := [.u (.sc (.map none))]) 106 (by kernel_rfl) rfl rfl rfl Taken.no) rfl rfl (S' := (106, _) :: _) rfl ?_
 refine SL.effS (O.st_ref (m := 1) rfl rfl rfl (js := [_]) rfl rfl (by kernel_rfl) (by simp) (Nat.le_of_ble_eq_true rfl) rfl (is' := [_]) rfl Taken.no) (S' := (105, _) :: _) rfl ?_
 refine SL.effS (O.st_ref (m := 1) rfl rfl rfl (js := [_]) rfl rfl (by kernel_rfl) (by simp) (Nat.le_of_ble_eq_true rfl) rfl (is' := [_]) rfl Taken.no) (S' := (106, _) :: _) rfl ?_
 refine SL.an rfl rfl (E.fo (W.rg ?_))
 refine SL.val (O.makeFunc rfl rfl rfl Taken.no) ?_
 refine SL.an rfl rfl (E.fo (W.seq (W.rg ?_)))
 refine SL.val (O.fld_ref (o' := 1) rfl Try.underlying28 rfl (m := 0) (by kernel_rfl) rfl rfl Taken.no) ?_
 refine SL.val (O.ld1 (PtI.ref rfl rfl) rfl Try.underlying25 rfl rfl Taken.no) ?_
 refine SL.val (O.lenE (SlOf.fz rfl (by decide)) (by first | exact List.length_map _ | rfl) Try.underlying25 rfl Taken.no) ?_
 refine SL.mv rfl rfl (E.fo (W.block ?_))
 refine W.loopx3 (fun (k : Nat) (t : Tk) (m : List (Int × Int)) => [(20, vI (k : Int)), (5, .own 109)]) (fun (k : Nat) (t : Tk) (m : List (Int × Int)) => [(107, .mp (mpE pairV Value.bool (t.has))), (108, .mp (mpE (fun a : Int => Value.int .i64 a) Value.bool (t.hol))), (109, .mp (mpE (fun a : Int => Value.int .i64 a) (fun a : Int => Value.int .i64 a) (m))), (105, .cells 98 [.own 107]), (106, .cells 99 [.own 108])]) (fun (k : Nat) (t : Tk) (m : List (Int × Int)) => k ≤ s.cps.length ∧ apCs (s.cps.drop k) (t, m) = apCs s.cps (⟨[], []⟩, []) ∧ ∀ a, 0 ≤ mget m a 0 ∧ mget m a 0 ≤ 5) (fun (k : Nat) (t : Tk) (m : List (Int × Int)) => s.cps.length - k) (0) (⟨[], []⟩) ([]) (rn [(107, 102), (108, 103), (109, 104)]) (.cons (t := 1) rfl (.cons (t := 6) rfl (.cons (t := 18) rfl (.cons (t := 19) rfl .nil)))) (.cons (t := 101) rfl .nil) rfl ?_ ?_ rfl rfl ?_ ?_
 · exact (SubF.cons rfl (SubF.cons rfl SubF.nil))
 · exact (SubS.cons rfl (SubS.cons rfl (SubS.cons rfl (SubS.cons rfl (SubS.cons rfl SubS.nil)))))
 ·skip
  exact ⟨by omega, rfl, fun a => by rw [mget_nil]; omega⟩
 intro k t m hinv
 obtain ⟨hk, hap, hm⟩ := hinv
 refine W.rg ?_
 refine SL.val (O.det (fun _ => G.R.lss rfl rfl) rfl Taken.no) ?_
 refine E.fo (W.seq ?_)
 first | refine W.cond_d rfl (fun hc1 => ?_) (fun hc1 => ?_) | refine W.cond_nd rfl (fun hc1 => ?_) (fun hc1 => ?_) | refine W.cond rfl (fun hc1 => ?_) (fun hc1 => ?_)
 ·skip
  refine W.skip (E.to (W.seq (W.block (W.rg ?_))))
  refine SL.val (O.idx_fz rfl rfl (rfl) (row_get (by omega)) Try.underlying25 hi43 hs43 rfl Taken.no) ?_
  refine SL.val (O.ldU (m := 8) (PtU.fz rfl) rfl Try.underlying43 rfl (by kernel_rfl) rfl Taken.no) ?_
  refine SL.memS (O.alloc (z := .agg #[.int .i64 0, .int .i64 0, .string ByteArray.empty, .int .i64 0, .int .i64 0, .int .i64 0, .int .i64 0, .bool false]) (is := [.u (.sc (.int .i64 0)), .u (.sc (.int .i64 0)), .u (.sc (.string ByteArray.empty)), .u (.sc (.int .i64 0)), .u (.sc (.int .i64 0)), .u (.sc (.int .i64 0)), .u (.sc (.int .i64 0)), .u (.sc (.bool false))]) 110 (by kernel_rfl) rfl rfl rfl Taken.no) rfl rfl (S' := (110, _) :: _) rfl ?_
  refine SL.effS (O.st_ref (m := 8) rfl rfl rfl (js := [_, _, _, _, _, _, _, _]) rfl rfl (by kernel_rfl) (by simp) (Nat.le_of_ble_eq_true rfl) rfl (is' := [_, _, _, _, _, _, _, _]) rfl Taken.no) (S' := (110, _) :: _) rfl ?_
  refine E.fo (W.seq (W.rg ?_))
  refine SL.val (O.fld_ref (o' := 3) rfl Try.underlying43 rfl (m := 0) (by kernel_rfl) rfl rfl Taken.no) ?_
  refine SL.val (O.ld1 (PtI.ref rfl rfl) rfl Try.underlying3 rfl rfl Taken.no) ?_
  refine SL.val (O.det (fun _ => G.R.eql rfl rfl) rfl Taken.no) ?_
  refine E.fo ?_
  first | refine W.cond_d rfl (fun hc2 => ?_) (fun hc2 => ?_) | refine W.cond_nd rfl (fun hc2 => ?_) (fun hc2 => ?_) | refine W.cond rfl (fun hc2 => ?_) (fun hc2 => ?_)
  ·skip
   refine W.exit (E.th (E.hit (E.to (W.region ?_))))
   refine SL.val (O.det (fun _ => by first | exact G.R.add64 rfl rfl (by omega) | exact G.R.add rfl rfl) rfl Taken.no) ?_
   refine SL.mv rfl rfl (SL.nil ?_)
   refine E.again ((k + 1), (t), (m)) (rn []) ?_ ?_ rfl (fixL_spec rfl) ?_ ?_
   · exact (SubF.cons rfl (SubF.cons rfl (SubF.cons rfl (SubF.cons rfl (SubF.cons rfl (SubF.cons rfl SubF.nil))))))
   · exact (SubS.cons rfl (SubS.cons rfl (SubS.cons rfl (SubS.cons rfl (SubS.cons rfl (SubS.cons rfl SubS.nil))))))
   ·try dsimp only
    exact ⟨by omega, by rw [← apC_1 (by omega) (by omega)]; exact hap, hm⟩
   · (try dsimp only); omega
  refine W.skip (E.to (W.seq (W.rg (SL.mv rfl rfl ?_))))
  refine SL.val (O.fld_ref (o' := 4) rfl Try.underlying43 rfl (m := 0) (by kernel_rfl) rfl rfl Taken.no) ?_
  refine SL.val (O.ld1 (PtI.ref rfl rfl) rfl Try.underlying3 rfl rfl Taken.no) ?_
  refine SL.val (O.fld_ref (o' := 1) rfl Try.underlying43 rfl (m := 0) (by kernel_rfl) rfl rfl Taken.no) ?_
  refine SL.val (O.ld1 (PtI.ref rfl rfl) rfl Try.underlying3 rfl rfl Taken.no) ?_
  refine SL.val (O.fld_ref (o' := 6) rfl Try.underlying43 rfl (m := 0) (by kernel_rfl) rfl rfl Taken.no) ?_
  refine SL.val (O.ld1 (PtI.ref rfl rfl) rfl Try.underlying3 rfl rfl Taken.no) ?_
  refine SL.memS (O.call (rn [(0, 105), (1, 107), (2, 106), (3, 108)]) [] rfl rfl rfl (take_h (t := t) (p := s.cps[k]!.pat) (wk := s.cps[k]!.work) (h := s.cps[k]!.hold)) (.cons (ArgOk.same rfl) (.cons (ArgOk.same rfl) (.cons (ArgOk.same rfl) (.cons (ArgOk.same rfl) (.cons (ArgOk.same rfl) .nil))))) (SubS.cons rfl (SubS.cons rfl (SubS.cons rfl (SubS.cons rfl SubS.nil)))) rfl rfl rfl rfl rfl (.inl rfl) hcallOk68 (r' := .u _) rfl rfl Taken.no) rfl rfl (S' := (105, .cells _ [.own 107]) :: (107, .mp _) :: (106, .cells _ [.own 108]) :: (108, .mp _) :: _) rfl ?_
  refine SL.val (O.det (fun _ => G.R.not rfl) rfl Taken.no) ?_
  refine E.fo ?_
  first | refine W.cond_d rfl (fun hc3 => ?_) (fun hc3 => ?_) | refine W.cond_nd rfl (fun hc3 => ?_) (fun hc3 => ?_) | refine W.cond rfl (fun hc3 => ?_) (fun hc3 => ?_)
  ·skip
   have htk : (tkF t s.cps[k]!.pat s.cps[k]!.work s.cps[k]!.hold).isSome = false := by first | assumption | simp_all
   refine W.rg (SL.an rfl rfl (E.fo (W.ret (E.thr ?_))))
   refine E.inr ?_
   refine E.thr (E.thr ?_)
   refine E.inr ?_
   refine E.thr ?_
   refine E.fin (rs := [_]) (rn []) (.inl rfl) rfl (.cons (ResOne.tmp rfl) .nil) ?_ ?_ rfl (fixL_spec rfl)
   ·skip
    exact iv_bool (by unfold apartB; rw [← hap, apC_t (by omega) (by omega) htk]; rfl)
   · exact SubS.nil
  have htk : (tkF t s.cps[k]!.pat s.cps[k]!.work s.cps[k]!.hold).isSome = true := by first | assumption | simp_all
  have hmp := hm s.cps[k]!.pat
  refine W.skip (E.to (W.rg ?_))
  refine SL.val (O.fld_ref (o' := 3) rfl Try.underlying43 rfl (m := 0) (by kernel_rfl) rfl rfl Taken.no) ?_
  refine SL.val (O.ld1 (PtI.ref rfl rfl) rfl Try.underlying3 rfl rfl Taken.no) ?_
  refine SL.val (O.det (fun _ => G.R.eql rfl rfl) rfl Taken.no) ?_
  refine E.fo ?_
  refine W.pick (K:=[(1,_),(5,_),(6,_),(8,_),(18,_),(19,_),(20,_),(38,_)]) (Z:=[(101,_),(105,_),(106,_),(107,_),(108,_),(109,_),(110,_)]) ⟨rfl,rfl,rfl,rfl,rfl,rfl,rfl,rfl,trivial⟩ ⟨rfl,rfl,rfl,rfl,rfl,rfl,rfl,trivial⟩ ?_
  first | refine W.cond_d rfl (fun hc4 => ?_) (fun hc4 => ?_) | refine W.cond_nd rfl (fun hc4 => ?_) (fun hc4 => ?_) | refine W.cond rfl (fun hc4 => ?_) (fun hc4 => ?_)
  ·skip
   refine W.rg (SL.mv rfl rfl ?_)
   refine SL.val (O.fld_ref (o' := 4) rfl Try.underlying43 rfl (m := 0) (by kernel_rfl) rfl rfl Taken.no) ?_
   refine SL.val (O.ld1 (PtI.ref rfl rfl) rfl Try.underlying3 rfl rfl Taken.no) ?_
   refine SL.val (O.lookup (kf := (fun a : Int => Value.int .i64 a)) (vf := (fun a : Int => Value.int .i64 a)) (l := m) (b := s.cps[k]!.pat) (z := 0) rfl rfl rfl Try.underlying100 (KeyOk.int Try.underlying3) (by kernel_rfl) rfl Taken.no) ?_
   refine SL.val (O.det (fun _ => by first | exact G.R.add64 rfl rfl (by omega) | exact G.R.add rfl rfl) rfl Taken.no) ?_
   refine SL.effS (O.mapUpdate (kf := (fun a : Int => Value.int .i64 a)) (vf := (fun a : Int => Value.int .i64 a)) (l := m) (b := s.cps[k]!.pat) (u := mget m s.cps[k]!.pat 0 + 1) rfl rfl rfl rfl Try.underlying100 (KeyOk.int Try.underlying3) Taken.no) (S' := (109, _) :: _) rfl ?_
   refine E.fo (W.rg (SL.mv rfl rfl ?_))
   refine SL.val (O.fld_ref (o' := 4) rfl Try.underlying43 rfl (m := 0) (by kernel_rfl) rfl rfl Taken.no) ?_
   refine SL.val (O.ld1 (PtI.ref rfl rfl) rfl Try.underlying3 rfl rfl Taken.no) ?_
   refine SL.val (O.lookup (kf := (fun a : Int => Value.int .i64 a)) (vf := (fun a : Int => Value.int .i64 a)) (l := apM m s.cps[k]!.pat) (b := s.cps[k]!.pat) (z := 0) rfl rfl rfl Try.underlying100 (KeyOk.int Try.underlying3) (by kernel_rfl) rfl Taken.no) ?_
   refine SL.val (O.det (fun _ => G.R.gtr rfl rfl) rfl Taken.no) ?_
   refine E.fo ?_
   first | refine W.cond_d rfl (fun hc5 => ?_) (fun hc5 => ?_) | refine W.cond_nd rfl (fun hc5 => ?_) (fun hc5 => ?_) | refine W.cond rfl (fun hc5 => ?_) (fun hc5 => ?_)
   ·skip
    refine W.rg (SL.an rfl rfl (E.fo (W.ret ?_)))
    refine E.inr ?_
    refine E.thr (E.thr ?_)
    refine E.inr ?_
    refine E.thr ?_
    refine E.fin (rs := [_]) (rn []) (.inl rfl) rfl (.cons (ResOne.tmp rfl) .nil) ?_ ?_ rfl (fixL_spec rfl)
    ·skip
     exact iv_bool (by unfold apartB; rw [← hap, apC_5 (by omega) (by omega) htk (by omega)]; rfl)
    · exact SubS.nil
   refine W.skip (E.inn (E.to (W.region ?_)))
   refine SL.val (O.det (fun _ => by first | exact G.R.add64 rfl rfl (by omega) | exact G.R.add rfl rfl) rfl Taken.no) ?_
   refine SL.mv rfl rfl (SL.nil ?_)
   refine E.again ((k + 1), ((tkN t s.cps[k]!.pat s.cps[k]!.work s.cps[k]!.hold)), (apM m s.cps[k]!.pat)) (rn []) ?_ ?_ rfl (fixL_spec rfl) ?_ ?_
   · exact (SubF.cons rfl (SubF.cons rfl (SubF.cons rfl (SubF.cons rfl (SubF.cons rfl (SubF.cons rfl SubF.nil))))))
   · exact (SubS.cons rfl (SubS.cons rfl (SubS.cons rfl (SubS.cons rfl (SubS.cons rfl (SubS.cons rfl SubS.nil))))))
   ·try dsimp only
    have h5 : ¬ mget (apM m s.cps[k]!.pat) s.cps[k]!.pat 0 > 5 := by omega
    exact ⟨by omega, by rw [← apC_2 (by omega) (by omega) htk h5]; exact hap, apM_b hm h5⟩
   · (try dsimp only); omega
  refine W.skip (E.inn (E.to (W.region ?_)))
  refine SL.val (O.det (fun _ => by first | exact G.R.add64 rfl rfl (by omega) | exact G.R.add rfl rfl) rfl Taken.no) ?_
  refine SL.mv rfl rfl (SL.nil ?_)
  refine E.again ((k + 1), ((tkN t s.cps[k]!.pat s.cps[k]!.work s.cps[k]!.hold)), (m)) (rn []) ?_ ?_ rfl (fixL_spec rfl) ?_ ?_
  · exact (SubF.cons rfl (SubF.cons rfl (SubF.cons rfl (SubF.cons rfl (SubF.cons rfl (SubF.cons rfl SubF.nil))))))
  · exact (SubS.cons rfl (SubS.cons rfl (SubS.cons rfl (SubS.cons rfl (SubS.cons rfl (SubS.cons rfl SubS.nil))))))
  ·try dsimp only
   exact ⟨by omega, by rw [← apC_3 (by omega) (by omega) (by omega) htk]; exact hap, hm⟩
  · (try dsimp only); omega
 refine W.exit (E.th (E.th (E.hit (E.to (W.seq (W.rg ?_))))))
 refine SL.val (O.fld_ref (o' := 2) rfl Try.underlying28 rfl (m := 0) (by kernel_rfl) rfl rfl Taken.no) ?_
 refine SL.val (O.ld1 (PtI.ref rfl rfl) rfl Try.underlying26 rfl rfl Taken.no) ?_
 refine SL.val (O.lenE (SlOf.fz rfl (by decide)) (by first | exact List.length_map _ | rfl) Try.underlying26 rfl Taken.no) ?_
 refine SL.mv rfl rfl (E.fo (W.block ?_))
 have hkn : k = s.cps.length := by omega
 rw [hkn, List.drop_length] at hap
 refine W.loopx2 (fun (i : Nat) (t : Tk) => [(53, vI (i : Int))]) (fun (i : Nat) (t : Tk) => [(111, .mp (mpE pairV Value.bool (t.has))), (112, .mp (mpE (fun a : Int => Value.int .i64 a) Value.bool (t.hol))), (105, .cells 98 [.own 111]), (106, .cells 99 [.own 112])]) (fun (i : Nat) (t : Tk) => i ≤ s.lns.length ∧ apLs (s.lns.drop i) t = ((apCs s.cps (⟨[], []⟩, [])).bind fun x => apLs s.lns x.1)) (fun (i : Nat) (t : Tk) => s.lns.length - i) (0) (t) (rn [(111, 107), (112, 108)]) (.cons (t := 6) rfl (.cons (t := 51) rfl (.cons (t := 52) rfl .nil))) (.cons (t := 101) rfl (.cons (t := 109) rfl .nil)) rfl ?_ ?_ rfl rfl ?_ ?_
 · exact (SubF.cons rfl SubF.nil)
 · exact (SubS.cons rfl (SubS.cons rfl (SubS.cons rfl (SubS.cons rfl SubS.nil))))
 ·skip
  exact ⟨by omega, by rw [← hap]; rfl⟩
 intro i t hinv
 obtain ⟨hi, hap⟩ := hinv
 refine W.rg ?_
 refine SL.val (O.det (fun _ => G.R.lss rfl rfl) rfl Taken.no) ?_
 refine E.fo (W.seq ?_)
 first | refine W.cond_d rfl (fun hc6 => ?_) (fun hc6 => ?_) | refine W.cond_nd rfl (fun hc6 => ?_) (fun hc6 => ?_) | refine W.cond rfl (fun hc6 => ?_) (fun hc6 => ?_)
 ·skip
  have hqi := hql s.lns[i]! (at_mem (by omega))
  refine W.skip (E.to (W.seq (W.block (W.rg ?_))))
  refine SL.val (O.idx_fz rfl rfl (rfl) (row_get (by omega)) Try.underlying26 hi51 hs51 rfl Taken.no) ?_
  refine SL.val (O.ldU (m := 2) (PtU.fz rfl) rfl Try.underlying51 rfl (by kernel_rfl) rfl Taken.no) ?_
  refine SL.memS (O.alloc (z := .agg #[.int .i64 0, .slice none 0 0]) (is := [.u (.sc (.int .i64 0)), .u (.sc (.slice none 0 0))]) 113 (by kernel_rfl) rfl rfl rfl Taken.no) rfl rfl (S' := (113, _) :: _) rfl ?_
  refine SL.effS (O.st_ref (m := 2) rfl rfl rfl (js := [_, _]) rfl rfl (by kernel_rfl) (by simp) (Nat.le_of_ble_eq_true rfl) rfl (is' := [_, _]) rfl Taken.no) (S' := (113, _) :: _) rfl ?_
  refine E.fo (W.rg ?_)
  refine SL.val (O.fld_ref (o' := 1) rfl Try.underlying51 rfl (m := 0) (by kernel_rfl) rfl rfl Taken.no) ?_
  refine SL.val (O.ld1 (PtI.ref rfl rfl) rfl Try.underlying40 rfl rfl Taken.no) ?_
  refine SL.val (O.lenE (SlOf.fz rfl (by decide)) (by first | exact List.length_map _ | rfl) Try.underlying40 rfl Taken.no) ?_
  refine SL.mv rfl rfl (E.fo (W.block ?_))
  refine W.loopx2 (fun (j : Nat) (t : Tk) => [(60, vI (j : Int))]) (fun (j : Nat) (t : Tk) => [(114, .mp (mpE pairV Value.bool (t.has))), (115, .mp (mpE (fun a : Int => Value.int .i64 a) Value.bool (t.hol))), (105, .cells 98 [.own 114]), (106, .cells 99 [.own 115])]) (fun (j : Nat) (t : Tk) => j ≤ s.lns[i]!.q.length ∧ (apQ s.lns[i]!.work (s.lns[i]!.q.drop j) t).bind (apLs (s.lns.drop (i + 1))) = ((apCs s.cps (⟨[], []⟩, [])).bind fun x => apLs s.lns x.1)) (fun (j : Nat) (t : Tk) => s.lns[i]!.q.length - j) (0) (t) (rn [(114, 111), (115, 112)]) (.cons (t := 6) rfl (.cons (t := 10) rfl (.cons (t := 51) rfl (.cons (t := 52) rfl (.cons (t := 53) rfl (.cons (t := 58) rfl (.cons (t := 59) rfl .nil))))))) (.cons (t := 101) rfl (.cons (t := 109) rfl (.cons (t := 113) rfl .nil))) rfl ?_ ?_ rfl rfl ?_ ?_
  · exact (SubF.cons rfl SubF.nil)
  · exact (SubS.cons rfl (SubS.cons rfl (SubS.cons rfl (SubS.cons rfl SubS.nil))))
  ·skip
   exact ⟨by omega, by rw [← hap, apLs_at (by omega)]; rfl⟩
  intro j t hinv
  obtain ⟨hj, hq⟩ := hinv
  refine W.rg ?_
  refine SL.val (O.det (fun _ => G.R.lss rfl rfl) rfl Taken.no) ?_
  refine E.fo (W.seq ?_)
  first | refine W.cond_d rfl (fun hc7 => ?_) (fun hc7 => ?_) | refine W.cond_nd rfl (fun hc7 => ?_) (fun hc7 => ?_) | refine W.cond rfl (fun hc7 => ?_) (fun hc7 => ?_)
  ·skip
   refine W.skip (E.to (W.seq (W.block (W.rg ?_))))
   refine SL.val (O.idx_fz rfl rfl (rfl) (row_get (by omega)) Try.underlying40 hi47 hs47 rfl Taken.no) ?_
   refine SL.val (O.ldU (m := 5) (PtU.fz rfl) rfl Try.underlying47 rfl (by kernel_rfl) rfl Taken.no) ?_
   refine SL.memS (O.alloc (z := .agg #[.int .i64 0, .int .i64 0, .int .i64 0, .int .i64 0, .int .i64 0]) (is := [.u (.sc (.int .i64 0)), .u (.sc (.int .i64 0)), .u (.sc (.int .i64 0)), .u (.sc (.int .i64 0)), .u (.sc (.int .i64 0))]) 116 (by kernel_rfl) rfl rfl rfl Taken.no) rfl rfl (S' := (116, _) :: _) rfl ?_
   refine SL.effS (O.st_ref (m := 5) rfl rfl rfl (js := [_, _, _, _, _]) rfl rfl (by kernel_rfl) (by simp) (Nat.le_of_ble_eq_true rfl) rfl (is' := [_, _, _, _, _]) rfl Taken.no) (S' := (116, _) :: _) rfl ?_
   refine E.fo (W.rg (SL.mv rfl rfl ?_))
   refine SL.val (O.fld_ref (o' := 1) rfl Try.underlying47 rfl (m := 0) (by kernel_rfl) rfl rfl Taken.no) ?_
   refine SL.val (O.ld1 (PtI.ref rfl rfl) rfl Try.underlying3 rfl rfl Taken.no) ?_
   refine SL.val (O.fld_ref (o' := 0) rfl Try.underlying51 rfl (m := 0) (by kernel_rfl) rfl rfl Taken.no) ?_
   refine SL.val (O.ld1 (PtI.ref rfl rfl) rfl Try.underlying3 rfl rfl Taken.no) ?_
   refine SL.val (O.fld_ref (o' := 0) rfl Try.underlying47 rfl (m := 0) (by kernel_rfl) rfl rfl Taken.no) ?_
   refine SL.val (O.ld1 (PtI.ref rfl rfl) rfl Try.underlying3 rfl rfl Taken.no) ?_
   refine SL.memS (O.call (rn [(0, 105), (1, 114), (2, 106), (3, 115)]) [] rfl rfl rfl (take_h (t := t) (p := s.lns[i]!.q[j]!.pat) (wk := s.lns[i]!.work) (h := s.lns[i]!.q[j]!.id)) (.cons (ArgOk.same rfl) (.cons (ArgOk.same rfl) (.cons (ArgOk.same rfl) (.cons (ArgOk.same rfl) (.cons (ArgOk.same rfl) .nil))))) (SubS.cons rfl (SubS.cons rfl (SubS.cons rfl (SubS.cons rfl SubS.nil)))) rfl rfl rfl rfl rfl (.inl rfl) hcallOk68 (r' := .u _) rfl rfl Taken.no) rfl rfl (S' := (105, .cells _ [.own 114]) :: (114, .mp _) :: (106, .cells _ [.own 115]) :: (115, .mp _) :: _) rfl ?_
   refine SL.val (O.det (fun _ => G.R.not rfl) rfl Taken.no) ?_
   refine E.fo ?_
   first | refine W.cond_d rfl (fun hc8 => ?_) (fun hc8 => ?_) | refine W.cond_nd rfl (fun hc8 => ?_) (fun hc8 => ?_) | refine W.cond rfl (fun hc8 => ?_) (fun hc8 => ?_)
   ·skip
    have htk : (tkF t s.lns[i]!.q[j]!.pat s.lns[i]!.work s.lns[i]!.q[j]!.id).isSome = false := by first | assumption | simp_all
    refine W.rg (SL.an rfl rfl (E.fo (W.ret ?_)))
    refine E.inr ?_
    refine E.thr (E.thr ?_)
    refine E.inr ?_
    refine E.inr ?_
    refine E.thr (E.thr ?_)
    refine E.inr ?_
    refine E.thr ?_
    refine E.fin (rs := [_]) (rn []) (.inl rfl) rfl (.cons (ResOne.tmp rfl) .nil) ?_ ?_ rfl (fixL_spec rfl)
    ·skip
     exact iv_bool (by unfold apartB; rw [← hq, apQ_n (by omega) htk]; rfl)
    · exact SubS.nil
   have htk : (tkF t s.lns[i]!.q[j]!.pat s.lns[i]!.work s.lns[i]!.q[j]!.id).isSome = true := by first | assumption | simp_all
   refine W.skip (E.inn (E.to (W.region ?_)))
   refine SL.val (O.det (fun _ => by first | exact G.R.add64 rfl rfl (by omega) | exact G.R.add rfl rfl) rfl Taken.no) ?_
   refine SL.mv rfl rfl (SL.nil ?_)
   refine E.again ((j + 1), ((tkN t s.lns[i]!.q[j]!.pat s.lns[i]!.work s.lns[i]!.q[j]!.id))) (rn []) ?_ ?_ rfl (fixL_spec rfl) ?_ ?_
   · exact (SubF.cons rfl (SubF.cons rfl (SubF.cons rfl (SubF.cons rfl (SubF.cons rfl (SubF.cons rfl (SubF.cons rfl (SubF.cons rfl SubF.nil))))))))
   · exact (SubS.cons rfl (SubS.cons rfl (SubS.cons rfl (SubS.cons rfl (SubS.cons rfl (SubS.cons rfl (SubS.cons rfl SubS.nil)))))))
   ·try dsimp only
    exact ⟨by omega, by rw [← apQ_y (by omega) htk]; exact hq⟩
   · (try dsimp only); omega
  refine W.exit (E.th (E.th (E.hit (E.inn (E.to (W.region ?_))))))
  refine SL.val (O.det (fun _ => by first | exact G.R.add64 rfl rfl (by omega) | exact G.R.add rfl rfl) rfl Taken.no) ?_
  refine SL.mv rfl rfl (SL.nil ?_)
  refine E.again ((i + 1), (t)) (rn [(111, 114), (112, 115)]) ?_ ?_ rfl (fixL_spec rfl) ?_ ?_
  · exact (SubF.cons rfl (SubF.cons rfl (SubF.cons rfl (SubF.cons rfl SubF.nil))))
  · exact (SubS.cons rfl (SubS.cons rfl (SubS.cons rfl (SubS.cons rfl (SubS.cons rfl (SubS.cons rfl SubS.nil))))))
  ·try dsimp only
   have hjn : j = s.lns[i]!.q.length := by omega
   exact ⟨by omega, by rw [hjn, List.drop_length] at hq; exact hq⟩
  · (try dsimp only); omega
 refine W.exit (E.th (E.th (E.hit (E.to (W.rg (SL.an rfl rfl (E.fo (W.ret ?_))))))))
 refine E.fin (rs := [_]) (rn []) (.inl rfl) rfl (.cons (ResOne.tmp rfl) .nil) ?_ ?_ rfl (fixL_spec rfl)
 ·skip
  exact iv_bool (by rw [show i = s.lns.length by omega, List.drop_length] at hap; unfold apartB; rw [← hap]; rfl)
 · exact SubS.nil

end Go.Proofs.Ytmekkjehkcjpdaa
end
section
namespace Go.Proofs.Ytmekkjehkcjpdaa
open Go Go.RowKit Go.H Go.D57 Go.D58

theorem hcallOk10 : G.callOk Try.prog 10 = true := by kernel_rfl
theorem hcallOk39 : G.callOk Try.prog 39 = true := by kernel_rfl
theorem hcallOk40 : G.callOk Try.prog 40 = true := by kernel_rfl
theorem hcallOk41 : G.callOk Try.prog 41 = true := by kernel_rfl

set_option maxRecDepth 8000 in
set_option maxHeartbeats 3200000 in
theorem stvalid_h {s : St} :
    Con Try.prog 16 [vA [uI s.now, .sl 8 (s.cps.map eCp), .sl 2 (s.lns.map eLn)]] [] (vB (decide (validS s))) [] := by
 obtain ⟨i43, hi43, hz43, hs43, hb43⟩ := hinf43
 obtain ⟨i51, hi51, hz51, hs51, hb51⟩ := hinf51
 refine Con.enterL (n := 103) Try.func16 rfl rfl rfl (fun τ w ok vs hin => ?_)
 have hl0_1 := hin.lenA (i := 0) (j := 1) rfl rfl
 try rw [List.length_map] at hl0_1
 have hl0_2 := hin.lenA (i := 0) (j := 2) rfl rfl
 try rw [List.length_map] at hl0_2
 clear hin
 refine W.rg ?_
 refine SL.memS (O.box (is := [_, _, _]) 101 rfl rfl (by simp) rfl rfl Taken.no) rfl rfl (S' := (101, _) :: _) rfl ?_
 refine SL.an rfl rfl (E.fo (W.seq (W.rg ?_)))
 refine SL.val (O.fld_ref (o' := 0) rfl Try.underlying28 rfl (m := 0) (by kernel_rfl) rfl rfl Taken.no) ?_
 refine SL.val (O.ld1 (PtI.ref rfl rfl) rfl Try.underlying3 rfl rfl Taken.no) ?_
 refine SL.val (O.callp rfl rfl rfl (in_h) (.cons (ArgOk.same rfl) (.cons (ArgOk.same rfl) (.cons (ArgOk.same rfl) .nil))) hcallOk17 rfl Taken.no) ?_
 refine SL.val (O.det (fun _ => G.R.not rfl) rfl Taken.no) ?_
 refine SL.mv rfl rfl ?_
 refine SL.case (j := 4) (g := 12) (want := false) rfl rfl (fun hg1 => ?_) (fun hg1 => ?_)
 ·skip
  first | have hg1p := G.gA3 hg1 | have hg1p := G.gA4 hg1 | have hg1p := hg1
  refine SL.val (O.fld_ref (o' := 1) rfl Try.underlying28 rfl (m := 0) (by kernel_rfl) rfl rfl (Taken.yes rfl rfl hg1)) ?_
  refine SL.val (O.ld1 (PtI.ref rfl rfl) rfl Try.underlying25 rfl rfl (Taken.yes rfl rfl hg1)) ?_
  refine SL.val (O.lenE (SlOf.fz rfl (by decide)) (by first | exact List.length_map _ | rfl) Try.underlying25 rfl (Taken.yes rfl rfl hg1)) ?_
  refine SL.val (O.det (fun _ => G.R.gtr rfl rfl) rfl (Taken.yes rfl rfl hg1)) ?_
  refine SL.val (O.pick_f rfl hg1 rfl rfl Taken.no) ?_
  refine SL.mv rfl rfl ?_
  refine SL.case (j := 10) (g := 18) (want := false) rfl rfl (fun hg2 => ?_) (fun hg2 => ?_)
  ·skip
   first | have hg2p := G.gA3 hg2 | have hg2p := G.gA4 hg2 | have hg2p := hg2
   refine SL.val (O.fld_ref (o' := 2) rfl Try.underlying28 rfl (m := 0) (by kernel_rfl) rfl rfl (Taken.yes rfl rfl hg2)) ?_
   refine SL.val (O.ld1 (PtI.ref rfl rfl) rfl Try.underlying26 rfl rfl (Taken.yes rfl rfl hg2)) ?_
   refine SL.val (O.lenE (SlOf.fz rfl (by decide)) (by first | exact List.length_map _ | rfl) Try.underlying26 rfl (Taken.yes rfl rfl hg2)) ?_
   refine SL.val (O.det (fun _ => G.R.gtr rfl rfl) rfl (Taken.yes rfl rfl hg2)) ?_
   refine SL.val (O.pick_f rfl hg2 rfl rfl Taken.no) ?_
   refine E.fo ?_
   first | refine W.cond_d rfl (fun hc3 => ?_) (fun hc3 => ?_) | refine W.cond_nd rfl (fun hc3 => ?_) (fun hc3 => ?_) | refine W.cond rfl (fun hc3 => ?_) (fun hc3 => ?_)
   ·skip
    refine W.rg (SL.an rfl rfl (E.fo (W.ret (E.thr ?_))))
    refine E.fin (rs := [_]) (rn []) (.inl rfl) rfl (.cons (ResOne.tmp rfl) .nil) ?_ ?_ rfl (fixL_spec rfl)
    ·skip
     exact iv_bool (dec_f fun q => by have q1 := q.1; have q2 := q.2.1; have q3 := q.2.2.1; first | omega | (simp_all; done) | (simp_all; omega))
    · exact SubS.nil
   have h0 : inB s.now 0 1000000 ∧ s.cps.length ≤ 60 ∧ s.lns.length ≤ 60 := ⟨by first | assumption | simp_all, by omega, by omega⟩
   refine W.skip (E.to (W.seq (W.rg ?_)))
   refine SL.val (O.fld_ref (o' := 1) rfl Try.underlying28 rfl (m := 0) (by kernel_rfl) rfl rfl Taken.no) ?_
   refine SL.val (O.ld1 (PtI.ref rfl rfl) rfl Try.underlying25 rfl rfl Taken.no) ?_
   refine SL.val (O.lenE (SlOf.fz rfl (by decide)) (by first | exact List.length_map _ | rfl) Try.underlying25 rfl Taken.no) ?_
   refine SL.mv rfl rfl (E.fo (W.block ?_))
   refine W.loopx1 (fun (k : Nat) => [(27, vI (k : Int))]) (fun (k : Nat) => []) (fun (k : Nat) => k ≤ s.cps.length ∧ ∀ j, j < k → vCp s j) (fun (k : Nat) => s.cps.length - k) (0) (rn []) (.cons (t := 1) rfl (.cons (t := 25) rfl (.cons (t := 26) rfl .nil))) (.cons (t := 101) rfl .nil) rfl ?_ ?_ rfl rfl ?_ ?_
   · exact (SubF.cons rfl SubF.nil)
   · exact SubS.nil
   ·skip
    exact ⟨by omega, fun j h => by omega⟩
   intro k hinv
   obtain ⟨hk, hp⟩ := hinv
   refine W.rg ?_
   refine SL.val (O.det (fun _ => G.R.lss rfl rfl) rfl Taken.no) ?_
   refine E.fo (W.seq ?_)
   first | refine W.cond_d rfl (fun hc4 => ?_) (fun hc4 => ?_) | refine W.cond_nd rfl (fun hc4 => ?_) (fun hc4 => ?_) | refine W.cond rfl (fun hc4 => ?_) (fun hc4 => ?_)
   ·skip
    refine W.skip (E.to (W.seq (W.block (W.rg (SL.mv rfl rfl ?_)))))
    refine SL.val (O.idx_fz rfl rfl (rfl) (row_get (by omega)) Try.underlying25 hi43 hs43 rfl Taken.no) ?_
    refine SL.val (O.ldU (m := 8) (PtU.fz rfl) rfl Try.underlying43 rfl (by kernel_rfl) rfl Taken.no) ?_
    refine SL.memS (O.alloc (z := .agg #[.int .i64 0, .int .i64 0, .string ByteArray.empty, .int .i64 0, .int .i64 0, .int .i64 0, .int .i64 0, .bool false]) (is := [.u (.sc (.int .i64 0)), .u (.sc (.int .i64 0)), .u (.sc (.string ByteArray.empty)), .u (.sc (.int .i64 0)), .u (.sc (.int .i64 0)), .u (.sc (.int .i64 0)), .u (.sc (.int .i64 0)), .u (.sc (.bool false))]) 102 (by kernel_rfl) rfl rfl rfl Taken.no) rfl rfl (S' := (102, _) :: _) rfl ?_
    refine SL.an rfl rfl ?_
    refine SL.effS (O.st_ref (m := 8) rfl rfl rfl (js := [_, _, _, _, _, _, _, _]) rfl rfl (by kernel_rfl) (by simp) (Nat.le_of_ble_eq_true rfl) rfl (is' := [_, _, _, _, _, _, _, _]) rfl Taken.no) (S' := (102, _) :: _) rfl ?_
    refine E.fo (W.seq ?_)
    refine W.draw [⟨[102], [], [], []⟩, ⟨[], [], [], [101]⟩, ⟨[101], [], [], []⟩, ⟨[], [], [], []⟩, ⟨[], [], [], []⟩, ⟨[], [], [], []⟩, ⟨[], [], [], []⟩, ⟨[], [], [], []⟩, ⟨[], [], [], []⟩, ⟨[], [], [], [102]⟩, ⟨[102], [], [], []⟩, ⟨[], [], [], [101]⟩, ⟨[101], [], [], []⟩, ⟨[], [], [], []⟩, ⟨[], [], [], []⟩, ⟨[], [], [], []⟩, ⟨[], [], [], []⟩, ⟨[], [], [], []⟩, ⟨[], [], [], []⟩, ⟨[], [], [], []⟩, ⟨[], [], [], []⟩] rfl (by kernel_rfl) (by kernel_rfl) rfl rfl ?_
    refine WH.val (O.ldN (m := 8) (PtI.ref rfl rfl) (js := [_, _, _, _, _, _, _, _]) rfl (Nat.le_of_ble_eq_true rfl) Try.underlying43 rfl (by kernel_rfl) rfl Taken.no) rfl rfl ?_
    refine WH.val (O.fld_ref (o' := 0) rfl Try.underlying28 rfl (m := 0) (by kernel_rfl) rfl rfl Taken.no) rfl rfl ?_
    refine WH.val (O.ld1 (PtI.ref rfl rfl) rfl Try.underlying3 rfl rfl Taken.no) rfl rfl ?_
    refine WH.val (O.callp rfl rfl rfl (copyValid_h (c := s.cps[k]!) (now := s.now)) (.cons (ArgOk.aggU (.cons (ArgOk.same rfl) (.cons (ArgOk.same rfl) (.cons (ArgOk.same rfl) (.cons (ArgOk.same rfl) (.cons (ArgOk.same rfl) (.cons (ArgOk.same rfl) (.cons (ArgOk.same rfl) (.cons (ArgOk.same rfl) .nil))))))))) (.cons (ArgOk.same rfl) .nil)) hcallOk39 rfl Taken.no) rfl rfl ?_
    refine WH.val (O.det (fun _ => G.R.not rfl) rfl Taken.no) rfl rfl ?_
    refine WH.mv rfl rfl rfl ?_
    refine WH.case (j := 5) (g := 37) (want := false) rfl rfl (fun hg5 => ?_) (fun hg5 => ?_)
    ·skip
     first | have hg5p := G.gA3 hg5 | have hg5p := G.gA4 hg5 | have hg5p := hg5
     refine WH.val (O.move rfl rfl (Taken.yes rfl rfl hg5)) rfl rfl ?_
     refine WH.val (O.det (fun _ => G.R.gtr rfl rfl) rfl (Taken.yes rfl rfl hg5)) rfl rfl ?_
     refine WH.val (O.move rfl rfl (Taken.yes rfl rfl hg5)) rfl rfl ?_
     refine WH.case (j := 8) (g := 40) (want := true) rfl rfl (fun hg6 => ?_) (fun hg6 => ?_)
     ·skip
      first | have hg6p := G.gA1 hg6 | have hg6p := G.gA2 hg6 | have hg6p := hg6
      refine WH.val (O.fld_ref (o' := 0) rfl Try.underlying43 rfl (m := 0) (by kernel_rfl) rfl rfl (Taken.yes rfl rfl hg6)) rfl rfl ?_
      refine WH.val (O.ld1 (PtI.ref rfl rfl) rfl Try.underlying3 rfl rfl (Taken.yes rfl rfl hg6)) rfl rfl ?_
      refine WH.val (O.fld_ref (o' := 1) rfl Try.underlying28 rfl (m := 0) (by kernel_rfl) rfl rfl (Taken.yes rfl rfl hg6)) rfl rfl ?_
      refine WH.val (O.ld1 (PtI.ref rfl rfl) rfl Try.underlying25 rfl rfl (Taken.yes rfl rfl hg6)) rfl rfl ?_
      refine WH.val (O.move rfl rfl (Taken.yes rfl rfl hg6)) rfl rfl ?_
      refine WH.val (O.det (fun _ => by first | exact G.R.sub64 rfl rfl (by omega) | exact G.R.sub rfl rfl) rfl (Taken.yes rfl rfl hg6)) rfl rfl ?_
      refine WH.val (O.idx_fz (i := (k - 1)) rfl rfl (by omega) (row_get (by omega)) Try.underlying25 hi43 hs43 rfl (Taken.yes rfl rfl hg6)) rfl rfl ?_
      refine WH.val (O.fld_fz rfl Try.underlying43 rfl (m := 0) (by kernel_rfl) rfl rfl (Taken.yes rfl rfl hg6)) rfl rfl ?_
      refine WH.val (O.ld1 (PtI.ofU (PtU.fz rfl)) rfl Try.underlying3 rfl rfl (Taken.yes rfl rfl hg6)) rfl rfl ?_
      refine WH.val (O.det (fun _ => G.R.leq rfl rfl) rfl (Taken.yes rfl rfl hg6)) rfl rfl ?_
      refine WH.val (O.pick_t rfl hg6 rfl rfl (Taken.yes rfl rfl hg5)) rfl rfl ?_
      refine WH.val (O.pick_f rfl hg5 rfl rfl Taken.no) rfl rfl ?_
      refine WH.nil (E.to ?_)
      refine W.pick (K:=[(1,_),(25,_),(26,_),(27,_),(52,_)]) (Z:=[(101,_),(102,_)]) ⟨rfl,rfl,rfl,rfl,rfl,trivial⟩ ⟨rfl,rfl,trivial⟩ ?_
      first | refine W.cond_d rfl (fun hc7 => ?_) (fun hc7 => ?_) | refine W.cond_nd rfl (fun hc7 => ?_) (fun hc7 => ?_) | refine W.cond rfl (fun hc7 => ?_) (fun hc7 => ?_)
      ·skip
       refine W.rg (SL.an rfl rfl (E.fo (W.ret ?_)))
       refine E.inr ?_
       refine E.thr (E.thr ?_)
       refine E.inr ?_
       refine E.thr ?_
       refine E.fin (rs := [_]) (rn []) (.inl rfl) rfl (.cons (ResOne.tmp rfl) .nil) ?_ ?_ rfl (fixL_spec rfl)
       ·skip
        exact iv_bool (dec_f fun q => by have q4 := q.2.2.2.1 k (by omega); unfold vCp at q4; obtain ⟨q5, q6⟩ := q4; first | (have q7 := q6 (by omega); omega) | (simp_all; done) | (simp_all; omega))
       · exact SubS.nil
      refine W.skip (E.inn (E.to (W.region ?_)))
      refine SL.val (O.det (fun _ => by first | exact G.R.add64 rfl rfl (by omega) | exact G.R.add rfl rfl) rfl Taken.no) ?_
      refine SL.mv rfl rfl (SL.nil ?_)
      refine E.again ((k + 1)) (rn []) ?_ ?_ rfl (fixL_spec rfl) ?_ ?_
      · exact (SubF.cons rfl (SubF.cons rfl (SubF.cons rfl (SubF.cons rfl SubF.nil))))
      · exact (SubS.cons rfl SubS.nil)
      ·try dsimp only
       exact ⟨by omega, upto_s hp ⟨by first | assumption | simp_all, fun h0 => by first | omega | (simp_all; omega)⟩⟩
      · (try dsimp only); omega
     first | have hg6p := G.gA5 hg6 | have hg6p := G.gA6 hg6 | have hg6p := hg6
     refine WH.sk rfl rfl rfl hg6 (WH.sk rfl rfl rfl hg6 (WH.sk rfl rfl rfl hg6 (WH.sk rfl rfl rfl hg6 (WH.sk rfl rfl rfl hg6 (WH.sk rfl rfl rfl hg6 (WH.sk rfl rfl rfl hg6 (WH.sk rfl rfl rfl hg6 (WH.sk rfl rfl rfl hg6 (WH.sk rfl rfl rfl hg6 ?_)))))))))
     refine WH.val (O.pick_f rfl (G.ne_t hg6) rfl rfl (Taken.yes rfl rfl hg5)) rfl rfl ?_
     refine WH.val (O.pick_f rfl hg5 rfl rfl Taken.no) rfl rfl ?_
     refine WH.nil (E.to ?_)
     refine W.pick (K:=[(1,_),(25,_),(26,_),(27,_),(52,_)]) (Z:=[(101,_),(102,_)]) ⟨rfl,rfl,rfl,rfl,rfl,trivial⟩ ⟨rfl,rfl,trivial⟩ ?_
     refine W.cond_f rfl ?_
     refine W.skip (E.inn (E.to (W.region ?_)))
     refine SL.val (O.det (fun _ => by first | exact G.R.add64 rfl rfl (by omega) | exact G.R.add rfl rfl) rfl Taken.no) ?_
     refine SL.mv rfl rfl (SL.nil ?_)
     refine E.again ((k + 1)) (rn []) ?_ ?_ rfl (fixL_spec rfl) ?_ ?_
     · exact (SubF.cons rfl (SubF.cons rfl (SubF.cons rfl (SubF.cons rfl SubF.nil))))
     · exact (SubS.cons rfl SubS.nil)
     ·try dsimp only
      exact ⟨by omega, upto_s hp ⟨by first | assumption | simp_all, fun h0 => by first | omega | (simp_all; omega)⟩⟩
     · (try dsimp only); omega
    first | have hg5p := G.gA7 hg5 | have hg5p := G.gA8 hg5 | have hg5p := hg5
    refine WH.sk rfl rfl rfl hg5 (WH.sk rfl rfl rfl hg5 (WH.sk rfl rfl rfl hg5 ?_))
    refine WH.skip (OpOk.not2 rfl rfl rfl) ?_
    refine WH.skip (OpOk.not2 rfl rfl rfl) ?_
    refine WH.skip (OpOk.not2 rfl rfl rfl) ?_
    refine WH.skip (OpOk.not2 rfl rfl rfl) ?_
    refine WH.skip (OpOk.not2 rfl rfl rfl) ?_
    refine WH.skip (OpOk.not2 rfl rfl rfl) ?_
    refine WH.skip (OpOk.not2 rfl rfl rfl) ?_
    refine WH.skip (OpOk.not2 rfl rfl rfl) ?_
    refine WH.skip (OpOk.not2 rfl rfl rfl) ?_
    refine WH.skip (OpOk.not2 rfl rfl rfl) ?_
    refine WH.sk rfl rfl rfl hg5 ?_
    refine WH.val (O.pick_t rfl (G.ne_f hg5) rfl rfl Taken.no) rfl rfl ?_
    refine WH.nil (E.to ?_)
    refine W.pick (K:=[(1,_),(25,_),(26,_),(27,_),(52,_)]) (Z:=[(101,_),(102,_)]) ⟨rfl,rfl,rfl,rfl,rfl,trivial⟩ ⟨rfl,rfl,trivial⟩ ?_
    refine W.cond_t rfl ?_
    refine W.rg (SL.an rfl rfl (E.fo (W.ret ?_)))
    refine E.inr ?_
    refine E.thr (E.thr ?_)
    refine E.inr ?_
    refine E.thr ?_
    refine E.fin (rs := [_]) (rn []) (.inl rfl) rfl (.cons (ResOne.tmp rfl) .nil) ?_ ?_ rfl (fixL_spec rfl)
    ·skip
     exact iv_bool (dec_f fun q => by have q4 := q.2.2.2.1 k (by omega); unfold vCp at q4; obtain ⟨q5, q6⟩ := q4; first | (have q7 := q6 (by omega); omega) | (simp_all; done) | (simp_all; omega))
    · exact SubS.nil
   refine W.exit (E.th (E.th (E.hit (E.to (W.seq (W.rg ?_))))))
   refine SL.val (O.fld_ref (o' := 2) rfl Try.underlying28 rfl (m := 0) (by kernel_rfl) rfl rfl Taken.no) ?_
   refine SL.val (O.ld1 (PtI.ref rfl rfl) rfl Try.underlying26 rfl rfl Taken.no) ?_
   refine SL.val (O.lenE (SlOf.fz rfl (by decide)) (by first | exact List.length_map _ | rfl) Try.underlying26 rfl Taken.no) ?_
   refine SL.mv rfl rfl (E.fo (W.block ?_))
   refine W.loopx1 (fun (i : Nat) => [(57, vI (i : Int))]) (fun (i : Nat) => []) (fun (i : Nat) => i ≤ s.lns.length ∧ ∀ j, j < i → vLn s j) (fun (i : Nat) => s.lns.length - i) (0) (rn []) (.cons (t := 1) rfl (.cons (t := 55) rfl (.cons (t := 56) rfl .nil))) (.cons (t := 101) rfl .nil) rfl ?_ ?_ rfl rfl ?_ ?_
   · exact (SubF.cons rfl SubF.nil)
   · exact SubS.nil
   ·skip
    exact ⟨by omega, fun j h => by omega⟩
   intro i hinv
   obtain ⟨hi, hq⟩ := hinv
   refine W.rg ?_
   refine SL.val (O.det (fun _ => G.R.lss rfl rfl) rfl Taken.no) ?_
   refine E.fo (W.seq ?_)
   first | refine W.cond_d rfl (fun hc8 => ?_) (fun hc8 => ?_) | refine W.cond_nd rfl (fun hc8 => ?_) (fun hc8 => ?_) | refine W.cond rfl (fun hc8 => ?_) (fun hc8 => ?_)
   ·skip
    have hc2_ := cnt_len s.cps s.lns[i]!.work 2
    have hc3_ := cnt_len s.cps s.lns[i]!.work 3
    refine W.skip (E.to (W.seq (W.block (W.rg (SL.mv rfl rfl ?_)))))
    refine SL.val (O.idx_fz rfl rfl (rfl) (row_get (by omega)) Try.underlying26 hi51 hs51 rfl Taken.no) ?_
    refine SL.val (O.ldU (m := 2) (PtU.fz rfl) rfl Try.underlying51 rfl (by kernel_rfl) rfl Taken.no) ?_
    refine SL.memS (O.alloc (z := .agg #[.int .i64 0, .slice none 0 0]) (is := [.u (.sc (.int .i64 0)), .u (.sc (.slice none 0 0))]) 103 (by kernel_rfl) rfl rfl rfl Taken.no) rfl rfl (S' := (103, _) :: _) rfl ?_
    refine SL.an rfl rfl ?_
    refine SL.effS (O.st_ref (m := 2) rfl rfl rfl (js := [_, _]) rfl rfl (by kernel_rfl) (by simp) (Nat.le_of_ble_eq_true rfl) rfl (is' := [_, _]) rfl Taken.no) (S' := (103, _) :: _) rfl ?_
    refine E.fo (W.rg ?_)
    refine SL.val (O.ldN (m := 3) (PtI.ref rfl rfl) (js := [_, _, _]) rfl (Nat.le_of_ble_eq_true rfl) Try.underlying28 rfl (by kernel_rfl) rfl Taken.no) ?_
    refine SL.val (O.fld_ref (o' := 0) rfl Try.underlying51 rfl (m := 0) (by kernel_rfl) rfl rfl Taken.no) ?_
    refine SL.val (O.ld1 (PtI.ref rfl rfl) rfl Try.underlying3 rfl rfl Taken.no) ?_
    refine SL.memS (O.call (rn []) [] rfl rfl rfl (count_h (s := s) (work := s.lns[i]!.work)) (.cons (ArgOk.aggU (.cons (ArgOk.same rfl) (.cons (ArgOk.same rfl) (.cons (ArgOk.same rfl) .nil)))) (.cons (ArgOk.same rfl) .nil)) SubS.nil rfl rfl rfl rfl rfl (.inl rfl) hcallOk10 (r' := .agg [.u _, .u _, .u _]) rfl rfl Taken.no) rfl rfl (S' := _) rfl ?_
    refine SL.memS (O.alloc (z := .agg #[.int .i64 0, .int .i64 0, .int .i64 0]) (is := [.u (.sc (.int .i64 0)), .u (.sc (.int .i64 0)), .u (.sc (.int .i64 0))]) 104 (by kernel_rfl) rfl rfl rfl Taken.no) rfl rfl (S' := (104, _) :: _) rfl ?_
    refine SL.effS (O.st_ref (m := 3) rfl rfl rfl (js := [_, _, _]) rfl rfl (by kernel_rfl) (by simp) (Nat.le_of_ble_eq_true rfl) rfl (is' := [_, _, _]) rfl Taken.no) (S' := (104, _) :: _) rfl ?_
    refine E.fo (W.seq ?_)
    refine W.draw [⟨[103], [], [], []⟩, ⟨[], [], [], [101]⟩, ⟨[101], [], [], []⟩, ⟨[], [], [], []⟩, ⟨[], [], [], []⟩, ⟨[], [], [], []⟩, ⟨[], [], [], []⟩, ⟨[], [], [], []⟩, ⟨[], [], [], []⟩, ⟨[], [], [], [103]⟩, ⟨[103], [], [], []⟩, ⟨[], [], [], [101]⟩, ⟨[101], [], [], []⟩, ⟨[], [], [], []⟩, ⟨[], [], [], []⟩, ⟨[], [], [], []⟩, ⟨[], [], [], []⟩, ⟨[], [], [], []⟩, ⟨[], [], [], []⟩, ⟨[], [], [], []⟩, ⟨[], [], [], []⟩, ⟨[], [], [], []⟩, ⟨[], [], [], [104]⟩, ⟨[104], [], [], []⟩, ⟨[], [], [], []⟩, ⟨[], [], [], []⟩, ⟨[], [], [], []⟩, ⟨[], [], [], [104]⟩, ⟨[104], [], [], []⟩, ⟨[], [], [], [104]⟩, ⟨[104], [], [], []⟩, ⟨[], [], [], []⟩, ⟨[], [], [], []⟩, ⟨[], [], [], []⟩] rfl (by kernel_rfl) (by kernel_rfl) rfl rfl ?_
    refine WH.val (O.ldN (m := 2) (PtI.ref rfl rfl) (js := [_, _]) rfl (Nat.le_of_ble_eq_true rfl) Try.underlying51 rfl (by kernel_rfl) rfl Taken.no) rfl rfl ?_
    refine WH.val (O.fld_ref (o' := 0) rfl Try.underlying28 rfl (m := 0) (by kernel_rfl) rfl rfl Taken.no) rfl rfl ?_
    refine WH.val (O.ld1 (PtI.ref rfl rfl) rfl Try.underlying3 rfl rfl Taken.no) rfl rfl ?_
    refine WH.val (O.callp rfl rfl rfl (lineValid_h (l := s.lns[i]!) (now := s.now)) (.cons (ArgOk.aggU (.cons (ArgOk.same rfl) (.cons (ArgOk.same rfl) .nil))) (.cons (ArgOk.same rfl) .nil)) hcallOk40 rfl Taken.no) rfl rfl ?_
    refine WH.val (O.det (fun _ => G.R.not rfl) rfl Taken.no) rfl rfl ?_
    refine WH.mv rfl rfl rfl ?_
    refine WH.case (j := 5) (g := 71) (want := false) rfl rfl (fun hg9 => ?_) (fun hg9 => ?_)
    ·skip
     first | have hg9p := G.gA3 hg9 | have hg9p := G.gA4 hg9 | have hg9p := hg9
     refine WH.val (O.move rfl rfl (Taken.yes rfl rfl hg9)) rfl rfl ?_
     refine WH.val (O.det (fun _ => G.R.gtr rfl rfl) rfl (Taken.yes rfl rfl hg9)) rfl rfl ?_
     refine WH.val (O.move rfl rfl (Taken.yes rfl rfl hg9)) rfl rfl ?_
     refine WH.case (j := 8) (g := 74) (want := true) rfl rfl (fun hg10 => ?_) (fun hg10 => ?_)
     ·skip
      first | have hg10p := G.gA1 hg10 | have hg10p := G.gA2 hg10 | have hg10p := hg10
      refine WH.val (O.fld_ref (o' := 0) rfl Try.underlying51 rfl (m := 0) (by kernel_rfl) rfl rfl (Taken.yes rfl rfl hg10)) rfl rfl ?_
      refine WH.val (O.ld1 (PtI.ref rfl rfl) rfl Try.underlying3 rfl rfl (Taken.yes rfl rfl hg10)) rfl rfl ?_
      refine WH.val (O.fld_ref (o' := 2) rfl Try.underlying28 rfl (m := 0) (by kernel_rfl) rfl rfl (Taken.yes rfl rfl hg10)) rfl rfl ?_
      refine WH.val (O.ld1 (PtI.ref rfl rfl) rfl Try.underlying26 rfl rfl (Taken.yes rfl rfl hg10)) rfl rfl ?_
      refine WH.val (O.move rfl rfl (Taken.yes rfl rfl hg10)) rfl rfl ?_
      refine WH.val (O.det (fun _ => by first | exact G.R.sub64 rfl rfl (by omega) | exact G.R.sub rfl rfl) rfl (Taken.yes rfl rfl hg10)) rfl rfl ?_
      refine WH.val (O.idx_fz (i := (i - 1)) rfl rfl (by omega) (row_get (by omega)) Try.underlying26 hi51 hs51 rfl (Taken.yes rfl rfl hg10)) rfl rfl ?_
      refine WH.val (O.fld_fz rfl Try.underlying51 rfl (m := 0) (by kernel_rfl) rfl rfl (Taken.yes rfl rfl hg10)) rfl rfl ?_
      refine WH.val (O.ld1 (PtI.ofU (PtU.fz rfl)) rfl Try.underlying3 rfl rfl (Taken.yes rfl rfl hg10)) rfl rfl ?_
      refine WH.val (O.det (fun _ => G.R.leq rfl rfl) rfl (Taken.yes rfl rfl hg10)) rfl rfl ?_
      refine WH.val (O.pick_t rfl hg10 rfl rfl (Taken.yes rfl rfl hg9)) rfl rfl ?_
      refine WH.val (O.pick_f rfl hg9 rfl rfl Taken.no) rfl rfl ?_
      refine WH.mv rfl rfl rfl ?_
      refine WH.case (j := 21) (g := 87) (want := false) rfl rfl (fun hg11 => ?_) (fun hg11 => ?_)
      ·skip
       first | have hg11p := G.gA3 hg11 | have hg11p := G.gA4 hg11 | have hg11p := hg11
       refine WH.val (O.idx_ref (i := 0) (m := 1) rfl rfl (by rfl) (by decide) Try.underlying35 (by kernel_rfl) rfl rfl (Taken.yes rfl rfl hg11)) rfl rfl ?_
       refine WH.val (O.ld1 (PtI.ref rfl rfl) rfl Try.underlying3 rfl rfl (Taken.yes rfl rfl hg11)) rfl rfl ?_
       refine WH.val (O.det (fun _ => G.R.gtr rfl rfl) rfl (Taken.yes rfl rfl hg11)) rfl rfl ?_
       refine WH.val (O.pick_f rfl hg11 rfl rfl Taken.no) rfl rfl ?_
       refine WH.mv rfl rfl rfl ?_
       refine WH.case (j := 26) (g := 92) (want := false) rfl rfl (fun hg12 => ?_) (fun hg12 => ?_)
       ·skip
        first | have hg12p := G.gA3 hg12 | have hg12p := G.gA4 hg12 | have hg12p := hg12
        refine WH.val (O.idx_ref (i := 1) (m := 1) rfl rfl (by rfl) (by decide) Try.underlying35 (by kernel_rfl) rfl rfl (Taken.yes rfl rfl hg12)) rfl rfl ?_
        refine WH.val (O.ld1 (PtI.ref rfl rfl) rfl Try.underlying3 rfl rfl (Taken.yes rfl rfl hg12)) rfl rfl ?_
        refine WH.val (O.idx_ref (i := 2) (m := 1) rfl rfl (by rfl) (by decide) Try.underlying35 (by kernel_rfl) rfl rfl (Taken.yes rfl rfl hg12)) rfl rfl ?_
        refine WH.val (O.ld1 (PtI.ref rfl rfl) rfl Try.underlying3 rfl rfl (Taken.yes rfl rfl hg12)) rfl rfl ?_
        refine WH.val (O.det (fun _ => by first | exact G.R.add64 rfl rfl (by omega) | exact G.R.add rfl rfl) rfl (Taken.yes rfl rfl hg12)) rfl rfl ?_
        refine WH.val (O.det (fun _ => G.R.eql rfl rfl) rfl (Taken.yes rfl rfl hg12)) rfl rfl ?_
        refine WH.val (O.pick_f rfl hg12 rfl rfl Taken.no) rfl rfl ?_
        refine WH.nil (E.to ?_)
        refine W.pick (K:=[(1,_),(55,_),(56,_),(57,_),(99,_)]) (Z:=[(101,_),(103,_),(104,_)]) ⟨rfl,rfl,rfl,rfl,rfl,trivial⟩ ⟨rfl,rfl,rfl,trivial⟩ ?_
        first | refine W.cond_d rfl (fun hc13 => ?_) (fun hc13 => ?_) | refine W.cond_nd rfl (fun hc13 => ?_) (fun hc13 => ?_) | refine W.cond rfl (fun hc13 => ?_) (fun hc13 => ?_)
        ·skip
         refine W.rg (SL.an rfl rfl (E.fo (W.ret ?_)))
         refine E.inr ?_
         refine E.thr (E.thr ?_)
         refine E.inr ?_
         refine E.thr ?_
         refine E.fin (rs := [_]) (rn []) (.inl rfl) rfl (.cons (ResOne.tmp rfl) .nil) ?_ ?_ rfl (fixL_spec rfl)
         ·skip
          exact iv_bool (dec_f fun q => by have q4 := q.2.2.2.2.1 i (by omega); unfold vLn at q4; obtain ⟨q5, q6, q8, q9⟩ := q4; first | omega | (have q7 := q6 (by omega); omega) | (simp_all; done) | (simp_all; omega))
         · exact SubS.nil
        refine W.skip (E.inn (E.to (W.region ?_)))
        refine SL.val (O.det (fun _ => by first | exact G.R.add64 rfl rfl (by omega) | exact G.R.add rfl rfl) rfl Taken.no) ?_
        refine SL.mv rfl rfl (SL.nil ?_)
        refine E.again ((i + 1)) (rn []) ?_ ?_ rfl (fixL_spec rfl) ?_ ?_
        · exact (SubF.cons rfl (SubF.cons rfl (SubF.cons rfl (SubF.cons rfl SubF.nil))))
        · exact (SubS.cons rfl SubS.nil)
        ·try dsimp only
         exact ⟨by omega, upto_s hq ⟨by first | assumption | simp_all, fun h0 => by first | omega | (simp_all; omega), by omega, by omega⟩⟩
        · (try dsimp only); omega
       first | have hg12p := G.gA7 hg12 | have hg12p := G.gA8 hg12 | have hg12p := hg12
       refine WH.sk rfl rfl rfl hg12 (WH.sk rfl rfl rfl hg12 (WH.sk rfl rfl rfl hg12 (WH.sk rfl rfl rfl hg12 (WH.sk rfl rfl rfl hg12 (WH.sk rfl rfl rfl hg12 ?_)))))
       refine WH.val (O.pick_t rfl (G.ne_f hg12) rfl rfl Taken.no) rfl rfl ?_
       refine WH.nil (E.to ?_)
       refine W.pick (K:=[(1,_),(55,_),(56,_),(57,_),(99,_)]) (Z:=[(101,_),(103,_),(104,_)]) ⟨rfl,rfl,rfl,rfl,rfl,trivial⟩ ⟨rfl,rfl,rfl,trivial⟩ ?_
       refine W.cond_t rfl ?_
       refine W.rg (SL.an rfl rfl (E.fo (W.ret ?_)))
       refine E.inr ?_
       refine E.thr (E.thr ?_)
       refine E.inr ?_
       refine E.thr ?_
       refine E.fin (rs := [_]) (rn []) (.inl rfl) rfl (.cons (ResOne.tmp rfl) .nil) ?_ ?_ rfl (fixL_spec rfl)
       ·skip
        exact iv_bool (dec_f fun q => by have q4 := q.2.2.2.2.1 i (by omega); unfold vLn at q4; obtain ⟨q5, q6, q8, q9⟩ := q4; first | omega | (have q7 := q6 (by omega); omega) | (simp_all; done) | (simp_all; omega))
       · exact SubS.nil
      first | have hg11p := G.gA7 hg11 | have hg11p := G.gA8 hg11 | have hg11p := hg11
      refine WH.sk rfl rfl rfl hg11 (WH.sk rfl rfl rfl hg11 (WH.sk rfl rfl rfl hg11 ?_))
      refine WH.val (O.pick_t rfl (G.ne_f hg11) rfl rfl Taken.no) rfl rfl ?_
      refine WH.mv rfl rfl rfl ?_
      have hg14 : true ≠ false := by decide
      refine WH.sk rfl rfl rfl hg14 (WH.sk rfl rfl rfl hg14 (WH.sk rfl rfl rfl hg14 (WH.sk rfl rfl rfl hg14 (WH.sk rfl rfl rfl hg14 (WH.sk rfl rfl rfl hg14 ?_)))))
      refine WH.val (O.pick_t rfl rfl rfl rfl Taken.no) rfl rfl ?_
      refine WH.nil (E.to ?_)
      refine W.pick (K:=[(1,_),(55,_),(56,_),(57,_),(99,_)]) (Z:=[(101,_),(103,_),(104,_)]) ⟨rfl,rfl,rfl,rfl,rfl,trivial⟩ ⟨rfl,rfl,rfl,trivial⟩ ?_
      refine W.cond_t rfl ?_
      refine W.rg (SL.an rfl rfl (E.fo (W.ret ?_)))
      refine E.inr ?_
      refine E.thr (E.thr ?_)
      refine E.inr ?_
      refine E.thr ?_
      refine E.fin (rs := [_]) (rn []) (.inl rfl) rfl (.cons (ResOne.tmp rfl) .nil) ?_ ?_ rfl (fixL_spec rfl)
      ·skip
       exact iv_bool (dec_f fun q => by have q4 := q.2.2.2.2.1 i (by omega); unfold vLn at q4; obtain ⟨q5, q6, q8, q9⟩ := q4; first | omega | (have q7 := q6 (by omega); omega) | (simp_all; done) | (simp_all; omega))
      · exact SubS.nil
     first | have hg10p := G.gA5 hg10 | have hg10p := G.gA6 hg10 | have hg10p := hg10
     refine WH.sk rfl rfl rfl hg10 (WH.sk rfl rfl rfl hg10 (WH.sk rfl rfl rfl hg10 (WH.sk rfl rfl rfl hg10 (WH.sk rfl rfl rfl hg10 (WH.sk rfl rfl rfl hg10 (WH.sk rfl rfl rfl hg10 (WH.sk rfl rfl rfl hg10 (WH.sk rfl rfl rfl hg10 (WH.sk rfl rfl rfl hg10 ?_)))))))))
     refine WH.val (O.pick_f rfl (G.ne_t hg10) rfl rfl (Taken.yes rfl rfl hg9)) rfl rfl ?_
     refine WH.val (O.pick_f rfl hg9 rfl rfl Taken.no) rfl rfl ?_
     refine WH.mv rfl rfl rfl ?_
     have hg15 : false = false := by decide
     refine WH.val (O.idx_ref (i := 0) (m := 1) rfl rfl (by rfl) (by decide) Try.underlying35 (by kernel_rfl) rfl rfl (Taken.yes rfl rfl hg15)) rfl rfl ?_
     refine WH.val (O.ld1 (PtI.ref rfl rfl) rfl Try.underlying3 rfl rfl (Taken.yes rfl rfl hg15)) rfl rfl ?_
     refine WH.val (O.det (fun _ => G.R.gtr rfl rfl) rfl (Taken.yes rfl rfl hg15)) rfl rfl ?_
     refine WH.val (O.pick_f rfl rfl rfl rfl Taken.no) rfl rfl ?_
     refine WH.mv rfl rfl rfl ?_
     refine WH.case (j := 26) (g := 92) (want := false) rfl rfl (fun hg16 => ?_) (fun hg16 => ?_)
     ·skip
      first | have hg16p := G.gA3 hg16 | have hg16p := G.gA4 hg16 | have hg16p := hg16
      refine WH.val (O.idx_ref (i := 1) (m := 1) rfl rfl (by rfl) (by decide) Try.underlying35 (by kernel_rfl) rfl rfl (Taken.yes rfl rfl hg16)) rfl rfl ?_
      refine WH.val (O.ld1 (PtI.ref rfl rfl) rfl Try.underlying3 rfl rfl (Taken.yes rfl rfl hg16)) rfl rfl ?_
      refine WH.val (O.idx_ref (i := 2) (m := 1) rfl rfl (by rfl) (by decide) Try.underlying35 (by kernel_rfl) rfl rfl (Taken.yes rfl rfl hg16)) rfl rfl ?_
      refine WH.val (O.ld1 (PtI.ref rfl rfl) rfl Try.underlying3 rfl rfl (Taken.yes rfl rfl hg16)) rfl rfl ?_
      refine WH.val (O.det (fun _ => by first | exact G.R.add64 rfl rfl (by omega) | exact G.R.add rfl rfl) rfl (Taken.yes rfl rfl hg16)) rfl rfl ?_
      refine WH.val (O.det (fun _ => G.R.eql rfl rfl) rfl (Taken.yes rfl rfl hg16)) rfl rfl ?_
      refine WH.val (O.pick_f rfl hg16 rfl rfl Taken.no) rfl rfl ?_
      refine WH.nil (E.to ?_)
      refine W.pick (K:=[(1,_),(55,_),(56,_),(57,_),(99,_)]) (Z:=[(101,_),(103,_),(104,_)]) ⟨rfl,rfl,rfl,rfl,rfl,trivial⟩ ⟨rfl,rfl,rfl,trivial⟩ ?_
      first | refine W.cond_d rfl (fun hc17 => ?_) (fun hc17 => ?_) | refine W.cond_nd rfl (fun hc17 => ?_) (fun hc17 => ?_) | refine W.cond rfl (fun hc17 => ?_) (fun hc17 => ?_)
      ·skip
       refine W.rg (SL.an rfl rfl (E.fo (W.ret ?_)))
       refine E.inr ?_
       refine E.thr (E.thr ?_)
       refine E.inr ?_
       refine E.thr ?_
       refine E.fin (rs := [_]) (rn []) (.inl rfl) rfl (.cons (ResOne.tmp rfl) .nil) ?_ ?_ rfl (fixL_spec rfl)
       ·skip
        exact iv_bool (dec_f fun q => by have q4 := q.2.2.2.2.1 i (by omega); unfold vLn at q4; obtain ⟨q5, q6, q8, q9⟩ := q4; first | omega | (have q7 := q6 (by omega); omega) | (simp_all; done) | (simp_all; omega))
       · exact SubS.nil
      refine W.skip (E.inn (E.to (W.region ?_)))
      refine SL.val (O.det (fun _ => by first | exact G.R.add64 rfl rfl (by omega) | exact G.R.add rfl rfl) rfl Taken.no) ?_
      refine SL.mv rfl rfl (SL.nil ?_)
      refine E.again ((i + 1)) (rn []) ?_ ?_ rfl (fixL_spec rfl) ?_ ?_
      · exact (SubF.cons rfl (SubF.cons rfl (SubF.cons rfl (SubF.cons rfl SubF.nil))))
      · exact (SubS.cons rfl SubS.nil)
      ·try dsimp only
       exact ⟨by omega, upto_s hq ⟨by first | assumption | simp_all, fun h0 => by first | omega | (simp_all; omega), by omega, by omega⟩⟩
      · (try dsimp only); omega
     first | have hg16p := G.gA7 hg16 | have hg16p := G.gA8 hg16 | have hg16p := hg16
     refine WH.sk rfl rfl rfl hg16 (WH.sk rfl rfl rfl hg16 (WH.sk rfl rfl rfl hg16 (WH.sk rfl rfl rfl hg16 (WH.sk rfl rfl rfl hg16 (WH.sk rfl rfl rfl hg16 ?_)))))
     refine WH.val (O.pick_t rfl (G.ne_f hg16) rfl rfl Taken.no) rfl rfl ?_
     refine WH.nil (E.to ?_)
     refine W.pick (K:=[(1,_),(55,_),(56,_),(57,_),(99,_)]) (Z:=[(101,_),(103,_),(104,_)]) ⟨rfl,rfl,rfl,rfl,rfl,trivial⟩ ⟨rfl,rfl,rfl,trivial⟩ ?_
     refine W.cond_t rfl ?_
     refine W.rg (SL.an rfl rfl (E.fo (W.ret ?_)))
     refine E.inr ?_
     refine E.thr (E.thr ?_)
     refine E.inr ?_
     refine E.thr ?_
     refine E.fin (rs := [_]) (rn []) (.inl rfl) rfl (.cons (ResOne.tmp rfl) .nil) ?_ ?_ rfl (fixL_spec rfl)
     ·skip
      exact iv_bool (dec_f fun q => by have q4 := q.2.2.2.2.1 i (by omega); unfold vLn at q4; obtain ⟨q5, q6, q8, q9⟩ := q4; first | omega | (have q7 := q6 (by omega); omega) | (simp_all; done) | (simp_all; omega))
     · exact SubS.nil
    first | have hg9p := G.gA7 hg9 | have hg9p := G.gA8 hg9 | have hg9p := hg9
    refine WH.sk rfl rfl rfl hg9 (WH.sk rfl rfl rfl hg9 (WH.sk rfl rfl rfl hg9 ?_))
    refine WH.skip (OpOk.not2 rfl rfl rfl) ?_
    refine WH.skip (OpOk.not2 rfl rfl rfl) ?_
    refine WH.skip (OpOk.not2 rfl rfl rfl) ?_
    refine WH.skip (OpOk.not2 rfl rfl rfl) ?_
    refine WH.skip (OpOk.not2 rfl rfl rfl) ?_
    refine WH.skip (OpOk.not2 rfl rfl rfl) ?_
    refine WH.skip (OpOk.not2 rfl rfl rfl) ?_
    refine WH.skip (OpOk.not2 rfl rfl rfl) ?_
    refine WH.skip (OpOk.not2 rfl rfl rfl) ?_
    refine WH.skip (OpOk.not2 rfl rfl rfl) ?_
    refine WH.sk rfl rfl rfl hg9 ?_
    refine WH.val (O.pick_t rfl (G.ne_f hg9) rfl rfl Taken.no) rfl rfl ?_
    refine WH.mv rfl rfl rfl ?_
    have hg18 : true ≠ false := by decide
    refine WH.sk rfl rfl rfl hg18 (WH.sk rfl rfl rfl hg18 (WH.sk rfl rfl rfl hg18 ?_))
    refine WH.val (O.pick_t rfl rfl rfl rfl Taken.no) rfl rfl ?_
    refine WH.mv rfl rfl rfl ?_
    have hg19 : true ≠ false := by decide
    refine WH.sk rfl rfl rfl hg19 (WH.sk rfl rfl rfl hg19 (WH.sk rfl rfl rfl hg19 (WH.sk rfl rfl rfl hg19 (WH.sk rfl rfl rfl hg19 (WH.sk rfl rfl rfl hg19 ?_)))))
    refine WH.val (O.pick_t rfl rfl rfl rfl Taken.no) rfl rfl ?_
    refine WH.nil (E.to ?_)
    refine W.pick (K:=[(1,_),(55,_),(56,_),(57,_),(99,_)]) (Z:=[(101,_),(103,_),(104,_)]) ⟨rfl,rfl,rfl,rfl,rfl,trivial⟩ ⟨rfl,rfl,rfl,trivial⟩ ?_
    refine W.cond_t rfl ?_
    refine W.rg (SL.an rfl rfl (E.fo (W.ret ?_)))
    refine E.inr ?_
    refine E.thr (E.thr ?_)
    refine E.inr ?_
    refine E.thr ?_
    refine E.fin (rs := [_]) (rn []) (.inl rfl) rfl (.cons (ResOne.tmp rfl) .nil) ?_ ?_ rfl (fixL_spec rfl)
    ·skip
     exact iv_bool (dec_f fun q => by have q4 := q.2.2.2.2.1 i (by omega); unfold vLn at q4; obtain ⟨q5, q6, q8, q9⟩ := q4; first | omega | (have q7 := q6 (by omega); omega) | (simp_all; done) | (simp_all; omega))
    · exact SubS.nil
   refine W.exit (E.th (E.th (E.hit (E.to (W.rg ?_)))))
   have hin : i = s.lns.length := by omega
   have hkn : k = s.cps.length := by omega
   have hql : ∀ l ∈ s.lns, l.q.length ≤ 1000000 := fun l hl => by obtain ⟨j, hj, rfl⟩ := List.getElem_of_mem hl; have := (hq j (by omega)).1.2.1.2; rw [getElem!_pos s.lns j hj] at this; omega
   refine SL.val (O.ldN (m := 3) (PtI.ref rfl rfl) (js := [_, _, _]) rfl (Nat.le_of_ble_eq_true rfl) Try.underlying28 rfl (by kernel_rfl) rfl Taken.no) ?_
   refine SL.val (O.callp rfl rfl rfl (apart_h (s := s) hql) (.cons (ArgOk.aggU (.cons (ArgOk.same rfl) (.cons (ArgOk.same rfl) (.cons (ArgOk.same rfl) .nil)))) .nil) hcallOk41 rfl Taken.no) ?_
   refine SL.an rfl rfl (E.fo (W.ret ?_))
   refine E.fin (rs := [_]) (rn []) (.inl rfl) rfl (.cons (ResOne.tmp rfl) .nil) ?_ ?_ rfl (fixL_spec rfl)
   ·skip
    exact iv_bool (dec_b ⟨fun q => q.2.2.2.2.2, fun q => ⟨h0.1, h0.2.1, h0.2.2, fun j hj => hp j (by omega), fun j hj => hq j (by omega), q⟩⟩)
   · exact SubS.nil
  first | have hg2p := G.gA7 hg2 | have hg2p := G.gA8 hg2 | have hg2p := hg2
  refine SL.sk rfl rfl rfl hg2 (SL.sk rfl rfl rfl hg2 (SL.sk rfl rfl rfl hg2 (SL.sk rfl rfl rfl hg2 ?_)))
  refine SL.val (O.pick_t rfl (G.ne_f hg2) rfl rfl Taken.no) ?_
  refine E.fo ?_
  refine W.cond_t rfl ?_
  refine W.rg (SL.an rfl rfl (E.fo (W.ret (E.thr ?_))))
  refine E.fin (rs := [_]) (rn []) (.inl rfl) rfl (.cons (ResOne.tmp rfl) .nil) ?_ ?_ rfl (fixL_spec rfl)
  ·skip
   exact iv_bool (dec_f fun q => by have q1 := q.1; have q2 := q.2.1; have q3 := q.2.2.1; first | omega | (simp_all; done) | (simp_all; omega))
  · exact SubS.nil
 first | have hg1p := G.gA7 hg1 | have hg1p := G.gA8 hg1 | have hg1p := hg1
 refine SL.sk rfl rfl rfl hg1 (SL.sk rfl rfl rfl hg1 (SL.sk rfl rfl rfl hg1 (SL.sk rfl rfl rfl hg1 ?_)))
 refine SL.val (O.pick_t rfl (G.ne_f hg1) rfl rfl Taken.no) ?_
 refine SL.mv rfl rfl ?_
 have hg20 : true ≠ false := by decide
 refine SL.sk rfl rfl rfl hg20 (SL.sk rfl rfl rfl hg20 (SL.sk rfl rfl rfl hg20 (SL.sk rfl rfl rfl hg20 ?_)))
 refine SL.val (O.pick_t rfl rfl rfl rfl Taken.no) ?_
 refine E.fo ?_
 refine W.cond_t rfl ?_
 refine W.rg (SL.an rfl rfl (E.fo (W.ret (E.thr ?_))))
 refine E.fin (rs := [_]) (rn []) (.inl rfl) rfl (.cons (ResOne.tmp rfl) .nil) ?_ ?_ rfl (fixL_spec rfl)
 ·skip
  exact iv_bool (dec_f fun q => by have q1 := q.1; have q2 := q.2.1; have q3 := q.2.2.1; first | omega | (simp_all; done) | (simp_all; omega))
 · exact SubS.nil

end Go.Proofs.Ytmekkjehkcjpdaa
end
section
namespace Go.Proofs.Ytmekkjehkcjpdaa
open Go Go.RowKit Go.H Go.D57 Go.D58



set_option maxRecDepth 8000 in
theorem fields_h {x : Sp} :
    Con Try.prog 18 [vA (eSp x)] [] (.agg [vI (fldS x).kind, vI (fldS x).copy, vI (fldS x).work, vI (fldS x).pat, vI (fldS x).hold, vI (fldS x).cls, vI (fldS x).days, vT (fldS x).lib]) [] := by
 refine Con.enterL (n := 60) Try.func18 rfl rfl rfl (fun τ w ok vs hin => ?_)
 clear hin
 refine W.rg ?_
 refine SL.memS (O.box (is := [_, _, _, _, _, _, _, _]) 101 rfl rfl (by simp) rfl rfl Taken.no) rfl rfl (S' := (101, _) :: _) rfl ?_
 refine SL.memS (O.alloc (z := .agg #[.int .i64 0, .int .i64 0, .int .i64 0, .int .i64 0, .int .i64 0, .int .i64 0, .int .i64 0, .string ByteArray.empty]) (is := [.u (.sc (.int .i64 0)), .u (.sc (.int .i64 0)), .u (.sc (.int .i64 0)), .u (.sc (.int .i64 0)), .u (.sc (.int .i64 0)), .u (.sc (.int .i64 0)), .u (.sc (.int .i64 0)), .u (.sc (.string ByteArray.empty))]) 102 (by kernel_rfl) rfl rfl rfl Taken.no) rfl rfl (S' := (102, _) :: _) rfl ?_
 refine E.fo (W.rg ?_)
 refine SL.val (O.fld_ref (o' := 0) rfl Try.underlying34 rfl (m := 0) (by kernel_rfl) rfl rfl Taken.no) ?_
 refine SL.val (O.ld1 (PtI.ref rfl rfl) rfl Try.underlying3 rfl rfl Taken.no) ?_
 refine SL.val (O.build (res := [_, _, _, _, _, _, _, _]) (z := .agg #[.int .i64 0, .int .i64 0, .int .i64 0, .int .i64 0, .int .i64 0, .int .i64 0, .int .i64 0, .string ByteArray.empty]) (places := [(0, 1), (1, 1), (2, 1), (3, 1), (4, 1), (5, 1), (6, 1), (7, 1)]) rfl rfl Try.underlying34 (by kernel_rfl) (fun _ => by kernel_rfl) rfl rfl Taken.no) ?_
 refine SL.memS (O.alloc (z := .agg #[.int .i64 0, .int .i64 0, .int .i64 0, .int .i64 0, .int .i64 0, .int .i64 0, .int .i64 0, .string ByteArray.empty]) (is := [.u (.sc (.int .i64 0)), .u (.sc (.int .i64 0)), .u (.sc (.int .i64 0)), .u (.sc (.int .i64 0)), .u (.sc (.int .i64 0)), .u (.sc (.int .i64 0)), .u (.sc (.int .i64 0)), .u (.sc (.string ByteArray.empty))]) 103 (by kernel_rfl) rfl rfl rfl Taken.no) rfl rfl (S' := (103, _) :: _) rfl ?_
 refine SL.effS (O.st_ref (m := 8) rfl rfl rfl (js := [_, _, _, _, _, _, _, _]) rfl rfl (by kernel_rfl) (by simp) (Nat.le_of_ble_eq_true rfl) rfl (is' := [_, _, _, _, _, _, _, _]) rfl Taken.no) (S' := (103, _) :: _) rfl ?_
 refine E.fo (W.seq (W.rg ?_))
 refine SL.val (O.fld_ref (o' := 0) rfl Try.underlying34 rfl (m := 0) (by kernel_rfl) rfl rfl Taken.no) ?_
 refine SL.val (O.ld1 (PtI.ref rfl rfl) rfl Try.underlying3 rfl rfl Taken.no) ?_
 refine E.fo (W.block (W.rg ?_))
 refine SL.val (O.det (fun _ => G.R.eql rfl rfl) rfl Taken.no) ?_
 refine SL.an rfl rfl (E.fo ?_)
 first | refine W.cond_d rfl (fun hc1 => ?_) (fun hc1 => ?_) | refine W.cond_nd rfl (fun hc1 => ?_) (fun hc1 => ?_) | refine W.cond rfl (fun hc1 => ?_) (fun hc1 => ?_)
 ·skip
  refine W.draw [⟨[], [], [], [101]⟩, ⟨[101], [], [], []⟩, ⟨[], [], [], [101]⟩, ⟨[101], [], [], []⟩, ⟨[], [], [], [101]⟩, ⟨[101], [], [], []⟩, ⟨[], [], [], [103]⟩, ⟨[103], [103], [], []⟩, ⟨[], [], [], [103]⟩, ⟨[103], [103], [], []⟩, ⟨[], [], [], [103]⟩, ⟨[103], [103], [], []⟩] rfl (by kernel_rfl) (by kernel_rfl) rfl rfl ?_
  refine WH.val (O.fld_ref (o' := 1) rfl Try.underlying34 rfl (m := 0) (by kernel_rfl) rfl rfl Taken.no) rfl rfl ?_
  refine WH.val (O.ld1 (PtI.ref rfl rfl) rfl Try.underlying3 rfl rfl Taken.no) rfl rfl ?_
  refine WH.val (O.fld_ref (o' := 2) rfl Try.underlying34 rfl (m := 0) (by kernel_rfl) rfl rfl Taken.no) rfl rfl ?_
  refine WH.val (O.ld1 (PtI.ref rfl rfl) rfl Try.underlying3 rfl rfl Taken.no) rfl rfl ?_
  refine WH.val (O.fld_ref (o' := 7) rfl Try.underlying34 rfl (m := 0) (by kernel_rfl) rfl rfl Taken.no) rfl rfl ?_
  refine WH.val (O.ld1 (PtI.ref rfl rfl) rfl Try.underlying9 rfl rfl Taken.no) rfl rfl ?_
  refine WH.val (O.fld_ref (o' := 1) rfl Try.underlying34 rfl (m := 0) (by kernel_rfl) rfl rfl Taken.no) rfl rfl ?_
  refine WH.effS (O.st_ref (m := 1) rfl rfl rfl (js := [_]) rfl rfl (by kernel_rfl) (by simp) (Nat.le_of_ble_eq_true rfl) rfl (is' := [_, _, _, _, _, _, _, _]) rfl Taken.no) rfl rfl rfl (S' := (103, _) :: _) rfl ?_
  refine WH.val (O.fld_ref (o' := 2) rfl Try.underlying34 rfl (m := 0) (by kernel_rfl) rfl rfl Taken.no) rfl rfl ?_
  refine WH.effS (O.st_ref (m := 1) rfl rfl rfl (js := [_]) rfl rfl (by kernel_rfl) (by simp) (Nat.le_of_ble_eq_true rfl) rfl (is' := [_, _, _, _, _, _, _, _]) rfl Taken.no) rfl rfl rfl (S' := (103, _) :: _) rfl ?_
  refine WH.val (O.fld_ref (o' := 7) rfl Try.underlying34 rfl (m := 0) (by kernel_rfl) rfl rfl Taken.no) rfl rfl ?_
  refine WH.effS (O.st_ref (m := 1) rfl rfl rfl (js := [_]) rfl rfl (by kernel_rfl) (by simp) (Nat.le_of_ble_eq_true rfl) rfl (is' := [_, _, _, _, _, _, _, _]) rfl Taken.no) rfl rfl rfl (S' := (103, _) :: _) rfl ?_
  refine WH.nil (E.inn (E.to (W.rg ?_)))
  refine SL.val (O.ldN (m := 8) (PtI.ref rfl rfl) (js := [_, _, _, _, _, _, _, _]) rfl (Nat.le_of_ble_eq_true rfl) Try.underlying34 rfl (by kernel_rfl) rfl Taken.no) ?_
  refine SL.effS (O.st_ref (m := 8) rfl rfl rfl (js := [_, _, _, _, _, _, _, _]) rfl rfl (by kernel_rfl) (by simp) (Nat.le_of_ble_eq_true rfl) rfl (is' := [_, _, _, _, _, _, _, _]) rfl Taken.no) (S' := (102, _) :: _) rfl ?_
  refine E.fo (W.ret ?_)
  refine E.fin (rs := [_]) (rn []) (.inl rfl) rfl (.cons (ResOne.cellN (m := 8) (PtI.ref rfl rfl) (js := [_, _, _, _, _, _, _, _]) rfl (Nat.le_of_ble_eq_true rfl) Try.underlying34 rfl (by kernel_rfl)) .nil) ?_ ?_ rfl (fixL_spec rfl)
  ·skip
   first | (rw [fld_1 (by assumption)]; rfl) | (rw [fld_c (by first | exact .inl (by assumption) | exact .inr (.inl (by assumption)) | exact .inr (.inr (by assumption)))]; rfl) | (rw [fld_3 (by assumption)]; rfl) | (rw [fld_6 (by assumption)]; rfl) | (rw [fld_7 (by assumption)]; rfl) | (rw [fld_8 (by assumption)]; rfl) | (rw [fld_no (by omega)]; rfl)
  · exact SubS.nil
 refine W.seq (W.rg ?_)
 refine SL.val (O.det (fun _ => G.R.eql rfl rfl) rfl Taken.no) ?_
 refine SL.an rfl rfl (E.fo ?_)
 first | refine W.cond_d rfl (fun hc2 => ?_) (fun hc2 => ?_) | refine W.cond_nd rfl (fun hc2 => ?_) (fun hc2 => ?_) | refine W.cond rfl (fun hc2 => ?_) (fun hc2 => ?_)
 ·skip
  refine W.skip (E.to ?_)
  first | refine W.cond_d rfl (fun hc3 => ?_) (fun hc3 => ?_) | refine W.cond_nd rfl (fun hc3 => ?_) (fun hc3 => ?_) | refine W.cond rfl (fun hc3 => ?_) (fun hc3 => ?_)
  ·skip
   refine W.region ?_
   refine SL.val (O.fld_ref (o' := 1) rfl Try.underlying34 rfl (m := 0) (by kernel_rfl) rfl rfl Taken.no) ?_
   refine SL.val (O.ld1 (PtI.ref rfl rfl) rfl Try.underlying3 rfl rfl Taken.no) ?_
   refine SL.val (O.fld_ref (o' := 1) rfl Try.underlying34 rfl (m := 0) (by kernel_rfl) rfl rfl Taken.no) ?_
   refine SL.effS (O.st_ref (m := 1) rfl rfl rfl (js := [_]) rfl rfl (by kernel_rfl) (by simp) (Nat.le_of_ble_eq_true rfl) rfl (is' := [_, _, _, _, _, _, _, _]) rfl Taken.no) (S' := (103, _) :: _) rfl ?_
   refine SL.nil (E.inn (E.to (W.rg ?_)))
   refine SL.val (O.ldN (m := 8) (PtI.ref rfl rfl) (js := [_, _, _, _, _, _, _, _]) rfl (Nat.le_of_ble_eq_true rfl) Try.underlying34 rfl (by kernel_rfl) rfl Taken.no) ?_
   refine SL.effS (O.st_ref (m := 8) rfl rfl rfl (js := [_, _, _, _, _, _, _, _]) rfl rfl (by kernel_rfl) (by simp) (Nat.le_of_ble_eq_true rfl) rfl (is' := [_, _, _, _, _, _, _, _]) rfl Taken.no) (S' := (102, _) :: _) rfl ?_
   refine E.fo (W.ret ?_)
   refine E.fin (rs := [_]) (rn []) (.inl rfl) rfl (.cons (ResOne.cellN (m := 8) (PtI.ref rfl rfl) (js := [_, _, _, _, _, _, _, _]) rfl (Nat.le_of_ble_eq_true rfl) Try.underlying34 rfl (by kernel_rfl)) .nil) ?_ ?_ rfl (fixL_spec rfl)
   ·skip
    first | (rw [fld_1 (by assumption)]; rfl) | (rw [fld_c (by first | exact .inl (by assumption) | exact .inr (.inl (by assumption)) | exact .inr (.inr (by assumption)))]; rfl) | (rw [fld_3 (by assumption)]; rfl) | (rw [fld_6 (by assumption)]; rfl) | (rw [fld_7 (by assumption)]; rfl) | (rw [fld_8 (by assumption)]; rfl) | (rw [fld_no (by omega)]; rfl)
   · exact SubS.nil
  refine W.rg ?_
  refine SL.val (O.det (fun _ => G.R.eql rfl rfl) rfl Taken.no) ?_
  refine SL.an rfl rfl (E.fo ?_)
  first | refine W.cond_d rfl (fun hc4 => ?_) (fun hc4 => ?_) | refine W.cond_nd rfl (fun hc4 => ?_) (fun hc4 => ?_) | refine W.cond rfl (fun hc4 => ?_) (fun hc4 => ?_)
  ·skip
   refine W.draw [⟨[], [], [], [101]⟩, ⟨[101], [], [], []⟩, ⟨[], [], [], [101]⟩, ⟨[101], [], [], []⟩, ⟨[], [], [], [103]⟩, ⟨[103], [103], [], []⟩, ⟨[], [], [], [103]⟩, ⟨[103], [103], [], []⟩] rfl (by kernel_rfl) (by kernel_rfl) rfl rfl ?_
   refine WH.val (O.fld_ref (o' := 1) rfl Try.underlying34 rfl (m := 0) (by kernel_rfl) rfl rfl Taken.no) rfl rfl ?_
   refine WH.val (O.ld1 (PtI.ref rfl rfl) rfl Try.underlying3 rfl rfl Taken.no) rfl rfl ?_
   refine WH.val (O.fld_ref (o' := 3) rfl Try.underlying34 rfl (m := 0) (by kernel_rfl) rfl rfl Taken.no) rfl rfl ?_
   refine WH.val (O.ld1 (PtI.ref rfl rfl) rfl Try.underlying3 rfl rfl Taken.no) rfl rfl ?_
   refine WH.val (O.fld_ref (o' := 1) rfl Try.underlying34 rfl (m := 0) (by kernel_rfl) rfl rfl Taken.no) rfl rfl ?_
   refine WH.effS (O.st_ref (m := 1) rfl rfl rfl (js := [_]) rfl rfl (by kernel_rfl) (by simp) (Nat.le_of_ble_eq_true rfl) rfl (is' := [_, _, _, _, _, _, _, _]) rfl Taken.no) rfl rfl rfl (S' := (103, _) :: _) rfl ?_
   refine WH.val (O.fld_ref (o' := 3) rfl Try.underlying34 rfl (m := 0) (by kernel_rfl) rfl rfl Taken.no) rfl rfl ?_
   refine WH.effS (O.st_ref (m := 1) rfl rfl rfl (js := [_]) rfl rfl (by kernel_rfl) (by simp) (Nat.le_of_ble_eq_true rfl) rfl (is' := [_, _, _, _, _, _, _, _]) rfl Taken.no) rfl rfl rfl (S' := (103, _) :: _) rfl ?_
   refine WH.nil (E.inn (E.to (W.rg ?_)))
   refine SL.val (O.ldN (m := 8) (PtI.ref rfl rfl) (js := [_, _, _, _, _, _, _, _]) rfl (Nat.le_of_ble_eq_true rfl) Try.underlying34 rfl (by kernel_rfl) rfl Taken.no) ?_
   refine SL.effS (O.st_ref (m := 8) rfl rfl rfl (js := [_, _, _, _, _, _, _, _]) rfl rfl (by kernel_rfl) (by simp) (Nat.le_of_ble_eq_true rfl) rfl (is' := [_, _, _, _, _, _, _, _]) rfl Taken.no) (S' := (102, _) :: _) rfl ?_
   refine E.fo (W.ret ?_)
   refine E.fin (rs := [_]) (rn []) (.inl rfl) rfl (.cons (ResOne.cellN (m := 8) (PtI.ref rfl rfl) (js := [_, _, _, _, _, _, _, _]) rfl (Nat.le_of_ble_eq_true rfl) Try.underlying34 rfl (by kernel_rfl)) .nil) ?_ ?_ rfl (fixL_spec rfl)
   ·skip
    first | (rw [fld_1 (by assumption)]; rfl) | (rw [fld_c (by first | exact .inl (by assumption) | exact .inr (.inl (by assumption)) | exact .inr (.inr (by assumption)))]; rfl) | (rw [fld_3 (by assumption)]; rfl) | (rw [fld_6 (by assumption)]; rfl) | (rw [fld_7 (by assumption)]; rfl) | (rw [fld_8 (by assumption)]; rfl) | (rw [fld_no (by omega)]; rfl)
   · exact SubS.nil
  refine W.rg ?_
  refine SL.val (O.det (fun _ => G.R.eql rfl rfl) rfl Taken.no) ?_
  refine SL.an rfl rfl (E.fo ?_)
  first | refine W.cond_d rfl (fun hc5 => ?_) (fun hc5 => ?_) | refine W.cond_nd rfl (fun hc5 => ?_) (fun hc5 => ?_) | refine W.cond rfl (fun hc5 => ?_) (fun hc5 => ?_)
  ·skip
   refine W.draw [⟨[], [], [], [101]⟩, ⟨[101], [], [], []⟩, ⟨[], [], [], [101]⟩, ⟨[101], [], [], []⟩, ⟨[], [], [], [101]⟩, ⟨[101], [], [], []⟩, ⟨[], [], [], [101]⟩, ⟨[101], [], [], []⟩, ⟨[], [], [], [103]⟩, ⟨[103], [103], [], []⟩, ⟨[], [], [], [103]⟩, ⟨[103], [103], [], []⟩, ⟨[], [], [], [103]⟩, ⟨[103], [103], [], []⟩, ⟨[], [], [], [103]⟩, ⟨[103], [103], [], []⟩] rfl (by kernel_rfl) (by kernel_rfl) rfl rfl ?_
   refine WH.val (O.fld_ref (o' := 2) rfl Try.underlying34 rfl (m := 0) (by kernel_rfl) rfl rfl Taken.no) rfl rfl ?_
   refine WH.val (O.ld1 (PtI.ref rfl rfl) rfl Try.underlying3 rfl rfl Taken.no) rfl rfl ?_
   refine WH.val (O.fld_ref (o' := 3) rfl Try.underlying34 rfl (m := 0) (by kernel_rfl) rfl rfl Taken.no) rfl rfl ?_
   refine WH.val (O.ld1 (PtI.ref rfl rfl) rfl Try.underlying3 rfl rfl Taken.no) rfl rfl ?_
   refine WH.val (O.fld_ref (o' := 4) rfl Try.underlying34 rfl (m := 0) (by kernel_rfl) rfl rfl Taken.no) rfl rfl ?_
   refine WH.val (O.ld1 (PtI.ref rfl rfl) rfl Try.underlying3 rfl rfl Taken.no) rfl rfl ?_
   refine WH.val (O.fld_ref (o' := 5) rfl Try.underlying34 rfl (m := 0) (by kernel_rfl) rfl rfl Taken.no) rfl rfl ?_
   refine WH.val (O.ld1 (PtI.ref rfl rfl) rfl Try.underlying3 rfl rfl Taken.no) rfl rfl ?_
   refine WH.val (O.fld_ref (o' := 2) rfl Try.underlying34 rfl (m := 0) (by kernel_rfl) rfl rfl Taken.no) rfl rfl ?_
   refine WH.effS (O.st_ref (m := 1) rfl rfl rfl (js := [_]) rfl rfl (by kernel_rfl) (by simp) (Nat.le_of_ble_eq_true rfl) rfl (is' := [_, _, _, _, _, _, _, _]) rfl Taken.no) rfl rfl rfl (S' := (103, _) :: _) rfl ?_
   refine WH.val (O.fld_ref (o' := 3) rfl Try.underlying34 rfl (m := 0) (by kernel_rfl) rfl rfl Taken.no) rfl rfl ?_
   refine WH.effS (O.st_ref (m := 1) rfl rfl rfl (js := [_]) rfl rfl (by kernel_rfl) (by simp) (Nat.le_of_ble_eq_true rfl) rfl (is' := [_, _, _, _, _, _, _, _]) rfl Taken.no) rfl rfl rfl (S' := (103, _) :: _) rfl ?_
   refine WH.val (O.fld_ref (o' := 4) rfl Try.underlying34 rfl (m := 0) (by kernel_rfl) rfl rfl Taken.no) rfl rfl ?_
   refine WH.effS (O.st_ref (m := 1) rfl rfl rfl (js := [_]) rfl rfl (by kernel_rfl) (by simp) (Nat.le_of_ble_eq_true rfl) rfl (is' := [_, _, _, _, _, _, _, _]) rfl Taken.no) rfl rfl rfl (S' := (103, _) :: _) rfl ?_
   refine WH.val (O.fld_ref (o' := 5) rfl Try.underlying34 rfl (m := 0) (by kernel_rfl) rfl rfl Taken.no) rfl rfl ?_
   refine WH.effS (O.st_ref (m := 1) rfl rfl rfl (js := [_]) rfl rfl (by kernel_rfl) (by simp) (Nat.le_of_ble_eq_true rfl) rfl (is' := [_, _, _, _, _, _, _, _]) rfl Taken.no) rfl rfl rfl (S' := (103, _) :: _) rfl ?_
   refine WH.nil (E.inn (E.to ?_))
   refine W.pick (K:=[(2,_),(3,_)]) (Z:=[(101,_),(102,_),(103,_)]) ⟨rfl,rfl,trivial⟩ ⟨rfl,rfl,rfl,trivial⟩ ?_
   refine W.rg ?_
   refine SL.val (O.ldN (m := 8) (PtI.ref rfl rfl) (js := [_, _, _, _, _, _, _, _]) rfl (Nat.le_of_ble_eq_true rfl) Try.underlying34 rfl (by kernel_rfl) rfl Taken.no) ?_
   refine SL.effS (O.st_ref (m := 8) rfl rfl rfl (js := [_, _, _, _, _, _, _, _]) rfl rfl (by kernel_rfl) (by simp) (Nat.le_of_ble_eq_true rfl) rfl (is' := [_, _, _, _, _, _, _, _]) rfl Taken.no) (S' := (102, _) :: _) rfl ?_
   refine E.fo (W.ret ?_)
   refine E.fin (rs := [_]) (rn []) (.inl rfl) rfl (.cons (ResOne.cellN (m := 8) (PtI.ref rfl rfl) (js := [_, _, _, _, _, _, _, _]) rfl (Nat.le_of_ble_eq_true rfl) Try.underlying34 rfl (by kernel_rfl)) .nil) ?_ ?_ rfl (fixL_spec rfl)
   ·skip
    first | (rw [fld_1 (by assumption)]; rfl) | (rw [fld_c (by first | exact .inl (by assumption) | exact .inr (.inl (by assumption)) | exact .inr (.inr (by assumption)))]; rfl) | (rw [fld_3 (by assumption)]; rfl) | (rw [fld_6 (by assumption)]; rfl) | (rw [fld_7 (by assumption)]; rfl) | (rw [fld_8 (by assumption)]; rfl) | (rw [fld_no (by omega)]; rfl)
   · exact SubS.nil
  refine W.rg ?_
  refine SL.val (O.det (fun _ => G.R.eql rfl rfl) rfl Taken.no) ?_
  refine SL.an rfl rfl (E.fo ?_)
  first | refine W.cond_d rfl (fun hc6 => ?_) (fun hc6 => ?_) | refine W.cond_nd rfl (fun hc6 => ?_) (fun hc6 => ?_) | refine W.cond rfl (fun hc6 => ?_) (fun hc6 => ?_)
  ·skip
   refine W.region ?_
   refine SL.val (O.fld_ref (o' := 4) rfl Try.underlying34 rfl (m := 0) (by kernel_rfl) rfl rfl Taken.no) ?_
   refine SL.val (O.ld1 (PtI.ref rfl rfl) rfl Try.underlying3 rfl rfl Taken.no) ?_
   refine SL.val (O.fld_ref (o' := 4) rfl Try.underlying34 rfl (m := 0) (by kernel_rfl) rfl rfl Taken.no) ?_
   refine SL.effS (O.st_ref (m := 1) rfl rfl rfl (js := [_]) rfl rfl (by kernel_rfl) (by simp) (Nat.le_of_ble_eq_true rfl) rfl (is' := [_, _, _, _, _, _, _, _]) rfl Taken.no) (S' := (103, _) :: _) rfl ?_
   refine SL.nil (E.inn (E.to (W.rg ?_)))
   refine SL.val (O.ldN (m := 8) (PtI.ref rfl rfl) (js := [_, _, _, _, _, _, _, _]) rfl (Nat.le_of_ble_eq_true rfl) Try.underlying34 rfl (by kernel_rfl) rfl Taken.no) ?_
   refine SL.effS (O.st_ref (m := 8) rfl rfl rfl (js := [_, _, _, _, _, _, _, _]) rfl rfl (by kernel_rfl) (by simp) (Nat.le_of_ble_eq_true rfl) rfl (is' := [_, _, _, _, _, _, _, _]) rfl Taken.no) (S' := (102, _) :: _) rfl ?_
   refine E.fo (W.ret ?_)
   refine E.fin (rs := [_]) (rn []) (.inl rfl) rfl (.cons (ResOne.cellN (m := 8) (PtI.ref rfl rfl) (js := [_, _, _, _, _, _, _, _]) rfl (Nat.le_of_ble_eq_true rfl) Try.underlying34 rfl (by kernel_rfl)) .nil) ?_ ?_ rfl (fixL_spec rfl)
   ·skip
    first | (rw [fld_1 (by assumption)]; rfl) | (rw [fld_c (by first | exact .inl (by assumption) | exact .inr (.inl (by assumption)) | exact .inr (.inr (by assumption)))]; rfl) | (rw [fld_3 (by assumption)]; rfl) | (rw [fld_6 (by assumption)]; rfl) | (rw [fld_7 (by assumption)]; rfl) | (rw [fld_8 (by assumption)]; rfl) | (rw [fld_no (by omega)]; rfl)
   · exact SubS.nil
  refine W.rg ?_
  refine SL.val (O.det (fun _ => G.R.eql rfl rfl) rfl Taken.no) ?_
  refine SL.an rfl rfl (E.fo ?_)
  first | refine W.cond_d rfl (fun hc7 => ?_) (fun hc7 => ?_) | refine W.cond_nd rfl (fun hc7 => ?_) (fun hc7 => ?_) | refine W.cond rfl (fun hc7 => ?_) (fun hc7 => ?_)
  ·skip
   refine W.region ?_
   refine SL.val (O.fld_ref (o' := 6) rfl Try.underlying34 rfl (m := 0) (by kernel_rfl) rfl rfl Taken.no) ?_
   refine SL.val (O.ld1 (PtI.ref rfl rfl) rfl Try.underlying3 rfl rfl Taken.no) ?_
   refine SL.val (O.fld_ref (o' := 6) rfl Try.underlying34 rfl (m := 0) (by kernel_rfl) rfl rfl Taken.no) ?_
   refine SL.effS (O.st_ref (m := 1) rfl rfl rfl (js := [_]) rfl rfl (by kernel_rfl) (by simp) (Nat.le_of_ble_eq_true rfl) rfl (is' := [_, _, _, _, _, _, _, _]) rfl Taken.no) (S' := (103, _) :: _) rfl ?_
   refine SL.nil (E.inn (E.to (W.rg ?_)))
   refine SL.val (O.ldN (m := 8) (PtI.ref rfl rfl) (js := [_, _, _, _, _, _, _, _]) rfl (Nat.le_of_ble_eq_true rfl) Try.underlying34 rfl (by kernel_rfl) rfl Taken.no) ?_
   refine SL.effS (O.st_ref (m := 8) rfl rfl rfl (js := [_, _, _, _, _, _, _, _]) rfl rfl (by kernel_rfl) (by simp) (Nat.le_of_ble_eq_true rfl) rfl (is' := [_, _, _, _, _, _, _, _]) rfl Taken.no) (S' := (102, _) :: _) rfl ?_
   refine E.fo ?_
   refine W.pick (K:=[(2,_)]) (Z:=[(101,_),(102,_),(103,_)]) ⟨rfl,trivial⟩ ⟨rfl,rfl,rfl,trivial⟩ ?_
   refine W.ret ?_
   refine E.fin (rs := [_]) (rn []) (.inl rfl) rfl (.cons (ResOne.cellN (m := 8) (PtI.ref rfl rfl) (js := [_, _, _, _, _, _, _, _]) rfl (Nat.le_of_ble_eq_true rfl) Try.underlying34 rfl (by kernel_rfl)) .nil) ?_ ?_ rfl (fixL_spec rfl)
   ·skip
    first | (rw [fld_1 (by assumption)]; rfl) | (rw [fld_c (by first | exact .inl (by assumption) | exact .inr (.inl (by assumption)) | exact .inr (.inr (by assumption)))]; rfl) | (rw [fld_3 (by assumption)]; rfl) | (rw [fld_6 (by assumption)]; rfl) | (rw [fld_7 (by assumption)]; rfl) | (rw [fld_8 (by assumption)]; rfl) | (rw [fld_no (by omega)]; rfl)
   · exact SubS.nil
  refine W.skip (E.inn (E.to (W.rg ?_)))
  refine SL.val (O.ldN (m := 8) (PtI.ref rfl rfl) (js := [_, _, _, _, _, _, _, _]) rfl (Nat.le_of_ble_eq_true rfl) Try.underlying34 rfl (by kernel_rfl) rfl Taken.no) ?_
  refine SL.effS (O.st_ref (m := 8) rfl rfl rfl (js := [_, _, _, _, _, _, _, _]) rfl rfl (by kernel_rfl) (by simp) (Nat.le_of_ble_eq_true rfl) rfl (is' := [_, _, _, _, _, _, _, _]) rfl Taken.no) (S' := (102, _) :: _) rfl ?_
  refine E.fo (W.ret ?_)
  refine E.fin (rs := [_]) (rn []) (.inl rfl) rfl (.cons (ResOne.cellN (m := 8) (PtI.ref rfl rfl) (js := [_, _, _, _, _, _, _, _]) rfl (Nat.le_of_ble_eq_true rfl) Try.underlying34 rfl (by kernel_rfl)) .nil) ?_ ?_ rfl (fixL_spec rfl)
  ·skip
   first | (rw [fld_1 (by assumption)]; rfl) | (rw [fld_c (by first | exact .inl (by assumption) | exact .inr (.inl (by assumption)) | exact .inr (.inr (by assumption)))]; rfl) | (rw [fld_3 (by assumption)]; rfl) | (rw [fld_6 (by assumption)]; rfl) | (rw [fld_7 (by assumption)]; rfl) | (rw [fld_8 (by assumption)]; rfl) | (rw [fld_no (by omega)]; rfl)
  · exact SubS.nil
 refine W.rg ?_
 refine SL.val (O.det (fun _ => G.R.eql rfl rfl) rfl Taken.no) ?_
 refine SL.an rfl rfl (E.fo ?_)
 first | refine W.cond_d rfl (fun hc8 => ?_) (fun hc8 => ?_) | refine W.cond_nd rfl (fun hc8 => ?_) (fun hc8 => ?_) | refine W.cond rfl (fun hc8 => ?_) (fun hc8 => ?_)
 ·skip
  refine W.skip (E.to ?_)
  first | refine W.cond_d rfl (fun hc9 => ?_) (fun hc9 => ?_) | refine W.cond_nd rfl (fun hc9 => ?_) (fun hc9 => ?_) | refine W.cond rfl (fun hc9 => ?_) (fun hc9 => ?_)
  ·skip
   refine W.region ?_
   refine SL.val (O.fld_ref (o' := 1) rfl Try.underlying34 rfl (m := 0) (by kernel_rfl) rfl rfl Taken.no) ?_
   refine SL.val (O.ld1 (PtI.ref rfl rfl) rfl Try.underlying3 rfl rfl Taken.no) ?_
   refine SL.val (O.fld_ref (o' := 1) rfl Try.underlying34 rfl (m := 0) (by kernel_rfl) rfl rfl Taken.no) ?_
   refine SL.effS (O.st_ref (m := 1) rfl rfl rfl (js := [_]) rfl rfl (by kernel_rfl) (by simp) (Nat.le_of_ble_eq_true rfl) rfl (is' := [_, _, _, _, _, _, _, _]) rfl Taken.no) (S' := (103, _) :: _) rfl ?_
   refine SL.nil (E.inn (E.to (W.rg ?_)))
   refine SL.val (O.ldN (m := 8) (PtI.ref rfl rfl) (js := [_, _, _, _, _, _, _, _]) rfl (Nat.le_of_ble_eq_true rfl) Try.underlying34 rfl (by kernel_rfl) rfl Taken.no) ?_
   refine SL.effS (O.st_ref (m := 8) rfl rfl rfl (js := [_, _, _, _, _, _, _, _]) rfl rfl (by kernel_rfl) (by simp) (Nat.le_of_ble_eq_true rfl) rfl (is' := [_, _, _, _, _, _, _, _]) rfl Taken.no) (S' := (102, _) :: _) rfl ?_
   refine E.fo (W.ret ?_)
   refine E.fin (rs := [_]) (rn []) (.inl rfl) rfl (.cons (ResOne.cellN (m := 8) (PtI.ref rfl rfl) (js := [_, _, _, _, _, _, _, _]) rfl (Nat.le_of_ble_eq_true rfl) Try.underlying34 rfl (by kernel_rfl)) .nil) ?_ ?_ rfl (fixL_spec rfl)
   ·skip
    first | (rw [fld_1 (by assumption)]; rfl) | (rw [fld_c (by first | exact .inl (by assumption) | exact .inr (.inl (by assumption)) | exact .inr (.inr (by assumption)))]; rfl) | (rw [fld_3 (by assumption)]; rfl) | (rw [fld_6 (by assumption)]; rfl) | (rw [fld_7 (by assumption)]; rfl) | (rw [fld_8 (by assumption)]; rfl) | (rw [fld_no (by omega)]; rfl)
   · exact SubS.nil
  refine W.rg ?_
  refine SL.val (O.det (fun _ => G.R.eql rfl rfl) rfl Taken.no) ?_
  refine SL.an rfl rfl (E.fo ?_)
  first | refine W.cond_d rfl (fun hc10 => ?_) (fun hc10 => ?_) | refine W.cond_nd rfl (fun hc10 => ?_) (fun hc10 => ?_) | refine W.cond rfl (fun hc10 => ?_) (fun hc10 => ?_)
  ·skip
   refine W.draw [⟨[], [], [], [101]⟩, ⟨[101], [], [], []⟩, ⟨[], [], [], [101]⟩, ⟨[101], [], [], []⟩, ⟨[], [], [], [103]⟩, ⟨[103], [103], [], []⟩, ⟨[], [], [], [103]⟩, ⟨[103], [103], [], []⟩] rfl (by kernel_rfl) (by kernel_rfl) rfl rfl ?_
   refine WH.val (O.fld_ref (o' := 1) rfl Try.underlying34 rfl (m := 0) (by kernel_rfl) rfl rfl Taken.no) rfl rfl ?_
   refine WH.val (O.ld1 (PtI.ref rfl rfl) rfl Try.underlying3 rfl rfl Taken.no) rfl rfl ?_
   refine WH.val (O.fld_ref (o' := 3) rfl Try.underlying34 rfl (m := 0) (by kernel_rfl) rfl rfl Taken.no) rfl rfl ?_
   refine WH.val (O.ld1 (PtI.ref rfl rfl) rfl Try.underlying3 rfl rfl Taken.no) rfl rfl ?_
   refine WH.val (O.fld_ref (o' := 1) rfl Try.underlying34 rfl (m := 0) (by kernel_rfl) rfl rfl Taken.no) rfl rfl ?_
   refine WH.effS (O.st_ref (m := 1) rfl rfl rfl (js := [_]) rfl rfl (by kernel_rfl) (by simp) (Nat.le_of_ble_eq_true rfl) rfl (is' := [_, _, _, _, _, _, _, _]) rfl Taken.no) rfl rfl rfl (S' := (103, _) :: _) rfl ?_
   refine WH.val (O.fld_ref (o' := 3) rfl Try.underlying34 rfl (m := 0) (by kernel_rfl) rfl rfl Taken.no) rfl rfl ?_
   refine WH.effS (O.st_ref (m := 1) rfl rfl rfl (js := [_]) rfl rfl (by kernel_rfl) (by simp) (Nat.le_of_ble_eq_true rfl) rfl (is' := [_, _, _, _, _, _, _, _]) rfl Taken.no) rfl rfl rfl (S' := (103, _) :: _) rfl ?_
   refine WH.nil (E.inn (E.to (W.rg ?_)))
   refine SL.val (O.ldN (m := 8) (PtI.ref rfl rfl) (js := [_, _, _, _, _, _, _, _]) rfl (Nat.le_of_ble_eq_true rfl) Try.underlying34 rfl (by kernel_rfl) rfl Taken.no) ?_
   refine SL.effS (O.st_ref (m := 8) rfl rfl rfl (js := [_, _, _, _, _, _, _, _]) rfl rfl (by kernel_rfl) (by simp) (Nat.le_of_ble_eq_true rfl) rfl (is' := [_, _, _, _, _, _, _, _]) rfl Taken.no) (S' := (102, _) :: _) rfl ?_
   refine E.fo (W.ret ?_)
   refine E.fin (rs := [_]) (rn []) (.inl rfl) rfl (.cons (ResOne.cellN (m := 8) (PtI.ref rfl rfl) (js := [_, _, _, _, _, _, _, _]) rfl (Nat.le_of_ble_eq_true rfl) Try.underlying34 rfl (by kernel_rfl)) .nil) ?_ ?_ rfl (fixL_spec rfl)
   ·skip
    first | (rw [fld_1 (by assumption)]; rfl) | (rw [fld_c (by first | exact .inl (by assumption) | exact .inr (.inl (by assumption)) | exact .inr (.inr (by assumption)))]; rfl) | (rw [fld_3 (by assumption)]; rfl) | (rw [fld_6 (by assumption)]; rfl) | (rw [fld_7 (by assumption)]; rfl) | (rw [fld_8 (by assumption)]; rfl) | (rw [fld_no (by omega)]; rfl)
   · exact SubS.nil
  refine W.rg ?_
  refine SL.val (O.det (fun _ => G.R.eql rfl rfl) rfl Taken.no) ?_
  refine SL.an rfl rfl (E.fo ?_)
  first | refine W.cond_d rfl (fun hc11 => ?_) (fun hc11 => ?_) | refine W.cond_nd rfl (fun hc11 => ?_) (fun hc11 => ?_) | refine W.cond rfl (fun hc11 => ?_) (fun hc11 => ?_)
  ·skip
   refine W.draw [⟨[], [], [], [101]⟩, ⟨[101], [], [], []⟩, ⟨[], [], [], [101]⟩, ⟨[101], [], [], []⟩, ⟨[], [], [], [101]⟩, ⟨[101], [], [], []⟩, ⟨[], [], [], [101]⟩, ⟨[101], [], [], []⟩, ⟨[], [], [], [103]⟩, ⟨[103], [103], [], []⟩, ⟨[], [], [], [103]⟩, ⟨[103], [103], [], []⟩, ⟨[], [], [], [103]⟩, ⟨[103], [103], [], []⟩, ⟨[], [], [], [103]⟩, ⟨[103], [103], [], []⟩] rfl (by kernel_rfl) (by kernel_rfl) rfl rfl ?_
   refine WH.val (O.fld_ref (o' := 2) rfl Try.underlying34 rfl (m := 0) (by kernel_rfl) rfl rfl Taken.no) rfl rfl ?_
   refine WH.val (O.ld1 (PtI.ref rfl rfl) rfl Try.underlying3 rfl rfl Taken.no) rfl rfl ?_
   refine WH.val (O.fld_ref (o' := 3) rfl Try.underlying34 rfl (m := 0) (by kernel_rfl) rfl rfl Taken.no) rfl rfl ?_
   refine WH.val (O.ld1 (PtI.ref rfl rfl) rfl Try.underlying3 rfl rfl Taken.no) rfl rfl ?_
   refine WH.val (O.fld_ref (o' := 4) rfl Try.underlying34 rfl (m := 0) (by kernel_rfl) rfl rfl Taken.no) rfl rfl ?_
   refine WH.val (O.ld1 (PtI.ref rfl rfl) rfl Try.underlying3 rfl rfl Taken.no) rfl rfl ?_
   refine WH.val (O.fld_ref (o' := 5) rfl Try.underlying34 rfl (m := 0) (by kernel_rfl) rfl rfl Taken.no) rfl rfl ?_
   refine WH.val (O.ld1 (PtI.ref rfl rfl) rfl Try.underlying3 rfl rfl Taken.no) rfl rfl ?_
   refine WH.val (O.fld_ref (o' := 2) rfl Try.underlying34 rfl (m := 0) (by kernel_rfl) rfl rfl Taken.no) rfl rfl ?_
   refine WH.effS (O.st_ref (m := 1) rfl rfl rfl (js := [_]) rfl rfl (by kernel_rfl) (by simp) (Nat.le_of_ble_eq_true rfl) rfl (is' := [_, _, _, _, _, _, _, _]) rfl Taken.no) rfl rfl rfl (S' := (103, _) :: _) rfl ?_
   refine WH.val (O.fld_ref (o' := 3) rfl Try.underlying34 rfl (m := 0) (by kernel_rfl) rfl rfl Taken.no) rfl rfl ?_
   refine WH.effS (O.st_ref (m := 1) rfl rfl rfl (js := [_]) rfl rfl (by kernel_rfl) (by simp) (Nat.le_of_ble_eq_true rfl) rfl (is' := [_, _, _, _, _, _, _, _]) rfl Taken.no) rfl rfl rfl (S' := (103, _) :: _) rfl ?_
   refine WH.val (O.fld_ref (o' := 4) rfl Try.underlying34 rfl (m := 0) (by kernel_rfl) rfl rfl Taken.no) rfl rfl ?_
   refine WH.effS (O.st_ref (m := 1) rfl rfl rfl (js := [_]) rfl rfl (by kernel_rfl) (by simp) (Nat.le_of_ble_eq_true rfl) rfl (is' := [_, _, _, _, _, _, _, _]) rfl Taken.no) rfl rfl rfl (S' := (103, _) :: _) rfl ?_
   refine WH.val (O.fld_ref (o' := 5) rfl Try.underlying34 rfl (m := 0) (by kernel_rfl) rfl rfl Taken.no) rfl rfl ?_
   refine WH.effS (O.st_ref (m := 1) rfl rfl rfl (js := [_]) rfl rfl (by kernel_rfl) (by simp) (Nat.le_of_ble_eq_true rfl) rfl (is' := [_, _, _, _, _, _, _, _]) rfl Taken.no) rfl rfl rfl (S' := (103, _) :: _) rfl ?_
   refine WH.nil (E.inn (E.to ?_))
   refine W.pick (K:=[(2,_),(3,_)]) (Z:=[(101,_),(102,_),(103,_)]) ⟨rfl,rfl,trivial⟩ ⟨rfl,rfl,rfl,trivial⟩ ?_
   refine W.rg ?_
   refine SL.val (O.ldN (m := 8) (PtI.ref rfl rfl) (js := [_, _, _, _, _, _, _, _]) rfl (Nat.le_of_ble_eq_true rfl) Try.underlying34 rfl (by kernel_rfl) rfl Taken.no) ?_
   refine SL.effS (O.st_ref (m := 8) rfl rfl rfl (js := [_, _, _, _, _, _, _, _]) rfl rfl (by kernel_rfl) (by simp) (Nat.le_of_ble_eq_true rfl) rfl (is' := [_, _, _, _, _, _, _, _]) rfl Taken.no) (S' := (102, _) :: _) rfl ?_
   refine E.fo (W.ret ?_)
   refine E.fin (rs := [_]) (rn []) (.inl rfl) rfl (.cons (ResOne.cellN (m := 8) (PtI.ref rfl rfl) (js := [_, _, _, _, _, _, _, _]) rfl (Nat.le_of_ble_eq_true rfl) Try.underlying34 rfl (by kernel_rfl)) .nil) ?_ ?_ rfl (fixL_spec rfl)
   ·skip
    first | (rw [fld_1 (by assumption)]; rfl) | (rw [fld_c (by first | exact .inl (by assumption) | exact .inr (.inl (by assumption)) | exact .inr (.inr (by assumption)))]; rfl) | (rw [fld_3 (by assumption)]; rfl) | (rw [fld_6 (by assumption)]; rfl) | (rw [fld_7 (by assumption)]; rfl) | (rw [fld_8 (by assumption)]; rfl) | (rw [fld_no (by omega)]; rfl)
   · exact SubS.nil
  refine W.rg ?_
  refine SL.val (O.det (fun _ => G.R.eql rfl rfl) rfl Taken.no) ?_
  refine SL.an rfl rfl (E.fo ?_)
  first | refine W.cond_d rfl (fun hc12 => ?_) (fun hc12 => ?_) | refine W.cond_nd rfl (fun hc12 => ?_) (fun hc12 => ?_) | refine W.cond rfl (fun hc12 => ?_) (fun hc12 => ?_)
  ·skip
   refine W.region ?_
   refine SL.val (O.fld_ref (o' := 4) rfl Try.underlying34 rfl (m := 0) (by kernel_rfl) rfl rfl Taken.no) ?_
   refine SL.val (O.ld1 (PtI.ref rfl rfl) rfl Try.underlying3 rfl rfl Taken.no) ?_
   refine SL.val (O.fld_ref (o' := 4) rfl Try.underlying34 rfl (m := 0) (by kernel_rfl) rfl rfl Taken.no) ?_
   refine SL.effS (O.st_ref (m := 1) rfl rfl rfl (js := [_]) rfl rfl (by kernel_rfl) (by simp) (Nat.le_of_ble_eq_true rfl) rfl (is' := [_, _, _, _, _, _, _, _]) rfl Taken.no) (S' := (103, _) :: _) rfl ?_
   refine SL.nil (E.inn (E.to (W.rg ?_)))
   refine SL.val (O.ldN (m := 8) (PtI.ref rfl rfl) (js := [_, _, _, _, _, _, _, _]) rfl (Nat.le_of_ble_eq_true rfl) Try.underlying34 rfl (by kernel_rfl) rfl Taken.no) ?_
   refine SL.effS (O.st_ref (m := 8) rfl rfl rfl (js := [_, _, _, _, _, _, _, _]) rfl rfl (by kernel_rfl) (by simp) (Nat.le_of_ble_eq_true rfl) rfl (is' := [_, _, _, _, _, _, _, _]) rfl Taken.no) (S' := (102, _) :: _) rfl ?_
   refine E.fo ?_
   refine W.pick (K:=[(2,_)]) (Z:=[(101,_),(102,_),(103,_)]) ⟨rfl,trivial⟩ ⟨rfl,rfl,rfl,trivial⟩ ?_
   refine W.ret ?_
   refine E.fin (rs := [_]) (rn []) (.inl rfl) rfl (.cons (ResOne.cellN (m := 8) (PtI.ref rfl rfl) (js := [_, _, _, _, _, _, _, _]) rfl (Nat.le_of_ble_eq_true rfl) Try.underlying34 rfl (by kernel_rfl)) .nil) ?_ ?_ rfl (fixL_spec rfl)
   ·skip
    first | (rw [fld_1 (by assumption)]; rfl) | (rw [fld_c (by first | exact .inl (by assumption) | exact .inr (.inl (by assumption)) | exact .inr (.inr (by assumption)))]; rfl) | (rw [fld_3 (by assumption)]; rfl) | (rw [fld_6 (by assumption)]; rfl) | (rw [fld_7 (by assumption)]; rfl) | (rw [fld_8 (by assumption)]; rfl) | (rw [fld_no (by omega)]; rfl)
   · exact SubS.nil
  refine W.rg ?_
  refine SL.val (O.det (fun _ => G.R.eql rfl rfl) rfl Taken.no) ?_
  refine SL.an rfl rfl (E.fo ?_)
  first | refine W.cond_d rfl (fun hc13 => ?_) (fun hc13 => ?_) | refine W.cond_nd rfl (fun hc13 => ?_) (fun hc13 => ?_) | refine W.cond rfl (fun hc13 => ?_) (fun hc13 => ?_)
  ·skip
   refine W.region ?_
   refine SL.val (O.fld_ref (o' := 6) rfl Try.underlying34 rfl (m := 0) (by kernel_rfl) rfl rfl Taken.no) ?_
   refine SL.val (O.ld1 (PtI.ref rfl rfl) rfl Try.underlying3 rfl rfl Taken.no) ?_
   refine SL.val (O.fld_ref (o' := 6) rfl Try.underlying34 rfl (m := 0) (by kernel_rfl) rfl rfl Taken.no) ?_
   refine SL.effS (O.st_ref (m := 1) rfl rfl rfl (js := [_]) rfl rfl (by kernel_rfl) (by simp) (Nat.le_of_ble_eq_true rfl) rfl (is' := [_, _, _, _, _, _, _, _]) rfl Taken.no) (S' := (103, _) :: _) rfl ?_
   refine SL.nil (E.inn (E.to ?_))
   refine W.pick (K:=[(2,_),(3,_)]) (Z:=[(101,_),(102,_),(103,_)]) ⟨rfl,rfl,trivial⟩ ⟨rfl,rfl,rfl,trivial⟩ ?_
   refine W.rg ?_
   refine SL.val (O.ldN (m := 8) (PtI.ref rfl rfl) (js := [_, _, _, _, _, _, _, _]) rfl (Nat.le_of_ble_eq_true rfl) Try.underlying34 rfl (by kernel_rfl) rfl Taken.no) ?_
   refine SL.effS (O.st_ref (m := 8) rfl rfl rfl (js := [_, _, _, _, _, _, _, _]) rfl rfl (by kernel_rfl) (by simp) (Nat.le_of_ble_eq_true rfl) rfl (is' := [_, _, _, _, _, _, _, _]) rfl Taken.no) (S' := (102, _) :: _) rfl ?_
   refine E.fo (W.ret ?_)
   refine E.fin (rs := [_]) (rn []) (.inl rfl) rfl (.cons (ResOne.cellN (m := 8) (PtI.ref rfl rfl) (js := [_, _, _, _, _, _, _, _]) rfl (Nat.le_of_ble_eq_true rfl) Try.underlying34 rfl (by kernel_rfl)) .nil) ?_ ?_ rfl (fixL_spec rfl)
   ·skip
    first | (rw [fld_1 (by assumption)]; rfl) | (rw [fld_c (by first | exact .inl (by assumption) | exact .inr (.inl (by assumption)) | exact .inr (.inr (by assumption)))]; rfl) | (rw [fld_3 (by assumption)]; rfl) | (rw [fld_6 (by assumption)]; rfl) | (rw [fld_7 (by assumption)]; rfl) | (rw [fld_8 (by assumption)]; rfl) | (rw [fld_no (by omega)]; rfl)
   · exact SubS.nil
  refine W.skip (E.inn (E.to (W.rg ?_)))
  refine SL.val (O.ldN (m := 8) (PtI.ref rfl rfl) (js := [_, _, _, _, _, _, _, _]) rfl (Nat.le_of_ble_eq_true rfl) Try.underlying34 rfl (by kernel_rfl) rfl Taken.no) ?_
  refine SL.effS (O.st_ref (m := 8) rfl rfl rfl (js := [_, _, _, _, _, _, _, _]) rfl rfl (by kernel_rfl) (by simp) (Nat.le_of_ble_eq_true rfl) rfl (is' := [_, _, _, _, _, _, _, _]) rfl Taken.no) (S' := (102, _) :: _) rfl ?_
  refine E.fo (W.ret ?_)
  refine E.fin (rs := [_]) (rn []) (.inl rfl) rfl (.cons (ResOne.cellN (m := 8) (PtI.ref rfl rfl) (js := [_, _, _, _, _, _, _, _]) rfl (Nat.le_of_ble_eq_true rfl) Try.underlying34 rfl (by kernel_rfl)) .nil) ?_ ?_ rfl (fixL_spec rfl)
  ·skip
   first | (rw [fld_1 (by assumption)]; rfl) | (rw [fld_c (by first | exact .inl (by assumption) | exact .inr (.inl (by assumption)) | exact .inr (.inr (by assumption)))]; rfl) | (rw [fld_3 (by assumption)]; rfl) | (rw [fld_6 (by assumption)]; rfl) | (rw [fld_7 (by assumption)]; rfl) | (rw [fld_8 (by assumption)]; rfl) | (rw [fld_no (by omega)]; rfl)
  · exact SubS.nil
 refine W.region ?_
 refine SL.val (O.det (fun _ => G.R.eql rfl rfl) rfl Taken.no) ?_
 refine SL.an rfl rfl (E.fo ?_)
 first | refine W.cond_d rfl (fun hc14 => ?_) (fun hc14 => ?_) | refine W.cond_nd rfl (fun hc14 => ?_) (fun hc14 => ?_) | refine W.cond rfl (fun hc14 => ?_) (fun hc14 => ?_)
 ·skip
  refine W.region ?_
  refine SL.val (O.fld_ref (o' := 1) rfl Try.underlying34 rfl (m := 0) (by kernel_rfl) rfl rfl Taken.no) ?_
  refine SL.val (O.ld1 (PtI.ref rfl rfl) rfl Try.underlying3 rfl rfl Taken.no) ?_
  refine SL.val (O.fld_ref (o' := 1) rfl Try.underlying34 rfl (m := 0) (by kernel_rfl) rfl rfl Taken.no) ?_
  refine SL.effS (O.st_ref (m := 1) rfl rfl rfl (js := [_]) rfl rfl (by kernel_rfl) (by simp) (Nat.le_of_ble_eq_true rfl) rfl (is' := [_, _, _, _, _, _, _, _]) rfl Taken.no) (S' := (103, _) :: _) rfl ?_
  refine SL.nil (E.inn (E.to (W.rg ?_)))
  refine SL.val (O.ldN (m := 8) (PtI.ref rfl rfl) (js := [_, _, _, _, _, _, _, _]) rfl (Nat.le_of_ble_eq_true rfl) Try.underlying34 rfl (by kernel_rfl) rfl Taken.no) ?_
  refine SL.effS (O.st_ref (m := 8) rfl rfl rfl (js := [_, _, _, _, _, _, _, _]) rfl rfl (by kernel_rfl) (by simp) (Nat.le_of_ble_eq_true rfl) rfl (is' := [_, _, _, _, _, _, _, _]) rfl Taken.no) (S' := (102, _) :: _) rfl ?_
  refine E.fo (W.ret ?_)
  refine E.fin (rs := [_]) (rn []) (.inl rfl) rfl (.cons (ResOne.cellN (m := 8) (PtI.ref rfl rfl) (js := [_, _, _, _, _, _, _, _]) rfl (Nat.le_of_ble_eq_true rfl) Try.underlying34 rfl (by kernel_rfl)) .nil) ?_ ?_ rfl (fixL_spec rfl)
  ·skip
   first | (rw [fld_1 (by assumption)]; rfl) | (rw [fld_c (by first | exact .inl (by assumption) | exact .inr (.inl (by assumption)) | exact .inr (.inr (by assumption)))]; rfl) | (rw [fld_3 (by assumption)]; rfl) | (rw [fld_6 (by assumption)]; rfl) | (rw [fld_7 (by assumption)]; rfl) | (rw [fld_8 (by assumption)]; rfl) | (rw [fld_no (by omega)]; rfl)
  · exact SubS.nil
 refine W.rg ?_
 refine SL.val (O.det (fun _ => G.R.eql rfl rfl) rfl Taken.no) ?_
 refine SL.an rfl rfl (E.fo ?_)
 first | refine W.cond_d rfl (fun hc15 => ?_) (fun hc15 => ?_) | refine W.cond_nd rfl (fun hc15 => ?_) (fun hc15 => ?_) | refine W.cond rfl (fun hc15 => ?_) (fun hc15 => ?_)
 ·skip
  refine W.draw [⟨[], [], [], [101]⟩, ⟨[101], [], [], []⟩, ⟨[], [], [], [101]⟩, ⟨[101], [], [], []⟩, ⟨[], [], [], [103]⟩, ⟨[103], [103], [], []⟩, ⟨[], [], [], [103]⟩, ⟨[103], [103], [], []⟩] rfl (by kernel_rfl) (by kernel_rfl) rfl rfl ?_
  refine WH.val (O.fld_ref (o' := 1) rfl Try.underlying34 rfl (m := 0) (by kernel_rfl) rfl rfl Taken.no) rfl rfl ?_
  refine WH.val (O.ld1 (PtI.ref rfl rfl) rfl Try.underlying3 rfl rfl Taken.no) rfl rfl ?_
  refine WH.val (O.fld_ref (o' := 3) rfl Try.underlying34 rfl (m := 0) (by kernel_rfl) rfl rfl Taken.no) rfl rfl ?_
  refine WH.val (O.ld1 (PtI.ref rfl rfl) rfl Try.underlying3 rfl rfl Taken.no) rfl rfl ?_
  refine WH.val (O.fld_ref (o' := 1) rfl Try.underlying34 rfl (m := 0) (by kernel_rfl) rfl rfl Taken.no) rfl rfl ?_
  refine WH.effS (O.st_ref (m := 1) rfl rfl rfl (js := [_]) rfl rfl (by kernel_rfl) (by simp) (Nat.le_of_ble_eq_true rfl) rfl (is' := [_, _, _, _, _, _, _, _]) rfl Taken.no) rfl rfl rfl (S' := (103, _) :: _) rfl ?_
  refine WH.val (O.fld_ref (o' := 3) rfl Try.underlying34 rfl (m := 0) (by kernel_rfl) rfl rfl Taken.no) rfl rfl ?_
  refine WH.effS (O.st_ref (m := 1) rfl rfl rfl (js := [_]) rfl rfl (by kernel_rfl) (by simp) (Nat.le_of_ble_eq_true rfl) rfl (is' := [_, _, _, _, _, _, _, _]) rfl Taken.no) rfl rfl rfl (S' := (103, _) :: _) rfl ?_
  refine WH.nil (E.inn (E.to ?_))
  refine W.pick (K:=[(2,_),(3,_)]) (Z:=[(101,_),(102,_),(103,_)]) ⟨rfl,rfl,trivial⟩ ⟨rfl,rfl,rfl,trivial⟩ ?_
  refine W.rg ?_
  refine SL.val (O.ldN (m := 8) (PtI.ref rfl rfl) (js := [_, _, _, _, _, _, _, _]) rfl (Nat.le_of_ble_eq_true rfl) Try.underlying34 rfl (by kernel_rfl) rfl Taken.no) ?_
  refine SL.effS (O.st_ref (m := 8) rfl rfl rfl (js := [_, _, _, _, _, _, _, _]) rfl rfl (by kernel_rfl) (by simp) (Nat.le_of_ble_eq_true rfl) rfl (is' := [_, _, _, _, _, _, _, _]) rfl Taken.no) (S' := (102, _) :: _) rfl ?_
  refine E.fo (W.ret ?_)
  refine E.fin (rs := [_]) (rn []) (.inl rfl) rfl (.cons (ResOne.cellN (m := 8) (PtI.ref rfl rfl) (js := [_, _, _, _, _, _, _, _]) rfl (Nat.le_of_ble_eq_true rfl) Try.underlying34 rfl (by kernel_rfl)) .nil) ?_ ?_ rfl (fixL_spec rfl)
  ·skip
   first | (rw [fld_1 (by assumption)]; rfl) | (rw [fld_c (by first | exact .inl (by assumption) | exact .inr (.inl (by assumption)) | exact .inr (.inr (by assumption)))]; rfl) | (rw [fld_3 (by assumption)]; rfl) | (rw [fld_6 (by assumption)]; rfl) | (rw [fld_7 (by assumption)]; rfl) | (rw [fld_8 (by assumption)]; rfl) | (rw [fld_no (by omega)]; rfl)
  · exact SubS.nil
 refine W.rg ?_
 refine SL.val (O.det (fun _ => G.R.eql rfl rfl) rfl Taken.no) ?_
 refine SL.an rfl rfl (E.fo ?_)
 first | refine W.cond_d rfl (fun hc16 => ?_) (fun hc16 => ?_) | refine W.cond_nd rfl (fun hc16 => ?_) (fun hc16 => ?_) | refine W.cond rfl (fun hc16 => ?_) (fun hc16 => ?_)
 ·skip
  refine W.draw [⟨[], [], [], [101]⟩, ⟨[101], [], [], []⟩, ⟨[], [], [], [101]⟩, ⟨[101], [], [], []⟩, ⟨[], [], [], [101]⟩, ⟨[101], [], [], []⟩, ⟨[], [], [], [101]⟩, ⟨[101], [], [], []⟩, ⟨[], [], [], [103]⟩, ⟨[103], [103], [], []⟩, ⟨[], [], [], [103]⟩, ⟨[103], [103], [], []⟩, ⟨[], [], [], [103]⟩, ⟨[103], [103], [], []⟩, ⟨[], [], [], [103]⟩, ⟨[103], [103], [], []⟩] rfl (by kernel_rfl) (by kernel_rfl) rfl rfl ?_
  refine WH.val (O.fld_ref (o' := 2) rfl Try.underlying34 rfl (m := 0) (by kernel_rfl) rfl rfl Taken.no) rfl rfl ?_
  refine WH.val (O.ld1 (PtI.ref rfl rfl) rfl Try.underlying3 rfl rfl Taken.no) rfl rfl ?_
  refine WH.val (O.fld_ref (o' := 3) rfl Try.underlying34 rfl (m := 0) (by kernel_rfl) rfl rfl Taken.no) rfl rfl ?_
  refine WH.val (O.ld1 (PtI.ref rfl rfl) rfl Try.underlying3 rfl rfl Taken.no) rfl rfl ?_
  refine WH.val (O.fld_ref (o' := 4) rfl Try.underlying34 rfl (m := 0) (by kernel_rfl) rfl rfl Taken.no) rfl rfl ?_
  refine WH.val (O.ld1 (PtI.ref rfl rfl) rfl Try.underlying3 rfl rfl Taken.no) rfl rfl ?_
  refine WH.val (O.fld_ref (o' := 5) rfl Try.underlying34 rfl (m := 0) (by kernel_rfl) rfl rfl Taken.no) rfl rfl ?_
  refine WH.val (O.ld1 (PtI.ref rfl rfl) rfl Try.underlying3 rfl rfl Taken.no) rfl rfl ?_
  refine WH.val (O.fld_ref (o' := 2) rfl Try.underlying34 rfl (m := 0) (by kernel_rfl) rfl rfl Taken.no) rfl rfl ?_
  refine WH.effS (O.st_ref (m := 1) rfl rfl rfl (js := [_]) rfl rfl (by kernel_rfl) (by simp) (Nat.le_of_ble_eq_true rfl) rfl (is' := [_, _, _, _, _, _, _, _]) rfl Taken.no) rfl rfl rfl (S' := (103, _) :: _) rfl ?_
  refine WH.val (O.fld_ref (o' := 3) rfl Try.underlying34 rfl (m := 0) (by kernel_rfl) rfl rfl Taken.no) rfl rfl ?_
  refine WH.effS (O.st_ref (m := 1) rfl rfl rfl (js := [_]) rfl rfl (by kernel_rfl) (by simp) (Nat.le_of_ble_eq_true rfl) rfl (is' := [_, _, _, _, _, _, _, _]) rfl Taken.no) rfl rfl rfl (S' := (103, _) :: _) rfl ?_
  refine WH.val (O.fld_ref (o' := 4) rfl Try.underlying34 rfl (m := 0) (by kernel_rfl) rfl rfl Taken.no) rfl rfl ?_
  refine WH.effS (O.st_ref (m := 1) rfl rfl rfl (js := [_]) rfl rfl (by kernel_rfl) (by simp) (Nat.le_of_ble_eq_true rfl) rfl (is' := [_, _, _, _, _, _, _, _]) rfl Taken.no) rfl rfl rfl (S' := (103, _) :: _) rfl ?_
  refine WH.val (O.fld_ref (o' := 5) rfl Try.underlying34 rfl (m := 0) (by kernel_rfl) rfl rfl Taken.no) rfl rfl ?_
  refine WH.effS (O.st_ref (m := 1) rfl rfl rfl (js := [_]) rfl rfl (by kernel_rfl) (by simp) (Nat.le_of_ble_eq_true rfl) rfl (is' := [_, _, _, _, _, _, _, _]) rfl Taken.no) rfl rfl rfl (S' := (103, _) :: _) rfl ?_
  refine WH.nil (E.inn (E.to ?_))
  refine W.pick (K:=[(2,_),(3,_)]) (Z:=[(101,_),(102,_),(103,_)]) ⟨rfl,rfl,trivial⟩ ⟨rfl,rfl,rfl,trivial⟩ ?_
  refine W.rg ?_
  refine SL.val (O.ldN (m := 8) (PtI.ref rfl rfl) (js := [_, _, _, _, _, _, _, _]) rfl (Nat.le_of_ble_eq_true rfl) Try.underlying34 rfl (by kernel_rfl) rfl Taken.no) ?_
  refine SL.effS (O.st_ref (m := 8) rfl rfl rfl (js := [_, _, _, _, _, _, _, _]) rfl rfl (by kernel_rfl) (by simp) (Nat.le_of_ble_eq_true rfl) rfl (is' := [_, _, _, _, _, _, _, _]) rfl Taken.no) (S' := (102, _) :: _) rfl ?_
  refine E.fo (W.ret ?_)
  refine E.fin (rs := [_]) (rn []) (.inl rfl) rfl (.cons (ResOne.cellN (m := 8) (PtI.ref rfl rfl) (js := [_, _, _, _, _, _, _, _]) rfl (Nat.le_of_ble_eq_true rfl) Try.underlying34 rfl (by kernel_rfl)) .nil) ?_ ?_ rfl (fixL_spec rfl)
  ·skip
   first | (rw [fld_1 (by assumption)]; rfl) | (rw [fld_c (by first | exact .inl (by assumption) | exact .inr (.inl (by assumption)) | exact .inr (.inr (by assumption)))]; rfl) | (rw [fld_3 (by assumption)]; rfl) | (rw [fld_6 (by assumption)]; rfl) | (rw [fld_7 (by assumption)]; rfl) | (rw [fld_8 (by assumption)]; rfl) | (rw [fld_no (by omega)]; rfl)
  · exact SubS.nil
 refine W.rg ?_
 refine SL.val (O.det (fun _ => G.R.eql rfl rfl) rfl Taken.no) ?_
 refine SL.an rfl rfl (E.fo ?_)
 first | refine W.cond_d rfl (fun hc17 => ?_) (fun hc17 => ?_) | refine W.cond_nd rfl (fun hc17 => ?_) (fun hc17 => ?_) | refine W.cond rfl (fun hc17 => ?_) (fun hc17 => ?_)
 ·skip
  refine W.region ?_
  refine SL.val (O.fld_ref (o' := 4) rfl Try.underlying34 rfl (m := 0) (by kernel_rfl) rfl rfl Taken.no) ?_
  refine SL.val (O.ld1 (PtI.ref rfl rfl) rfl Try.underlying3 rfl rfl Taken.no) ?_
  refine SL.val (O.fld_ref (o' := 4) rfl Try.underlying34 rfl (m := 0) (by kernel_rfl) rfl rfl Taken.no) ?_
  refine SL.effS (O.st_ref (m := 1) rfl rfl rfl (js := [_]) rfl rfl (by kernel_rfl) (by simp) (Nat.le_of_ble_eq_true rfl) rfl (is' := [_, _, _, _, _, _, _, _]) rfl Taken.no) (S' := (103, _) :: _) rfl ?_
  refine SL.nil (E.inn (E.to ?_))
  refine W.pick (K:=[(2,_),(3,_)]) (Z:=[(101,_),(102,_),(103,_)]) ⟨rfl,rfl,trivial⟩ ⟨rfl,rfl,rfl,trivial⟩ ?_
  refine W.rg ?_
  refine SL.val (O.ldN (m := 8) (PtI.ref rfl rfl) (js := [_, _, _, _, _, _, _, _]) rfl (Nat.le_of_ble_eq_true rfl) Try.underlying34 rfl (by kernel_rfl) rfl Taken.no) ?_
  refine SL.effS (O.st_ref (m := 8) rfl rfl rfl (js := [_, _, _, _, _, _, _, _]) rfl rfl (by kernel_rfl) (by simp) (Nat.le_of_ble_eq_true rfl) rfl (is' := [_, _, _, _, _, _, _, _]) rfl Taken.no) (S' := (102, _) :: _) rfl ?_
  refine E.fo (W.ret ?_)
  refine E.fin (rs := [_]) (rn []) (.inl rfl) rfl (.cons (ResOne.cellN (m := 8) (PtI.ref rfl rfl) (js := [_, _, _, _, _, _, _, _]) rfl (Nat.le_of_ble_eq_true rfl) Try.underlying34 rfl (by kernel_rfl)) .nil) ?_ ?_ rfl (fixL_spec rfl)
  ·skip
   first | (rw [fld_1 (by assumption)]; rfl) | (rw [fld_c (by first | exact .inl (by assumption) | exact .inr (.inl (by assumption)) | exact .inr (.inr (by assumption)))]; rfl) | (rw [fld_3 (by assumption)]; rfl) | (rw [fld_6 (by assumption)]; rfl) | (rw [fld_7 (by assumption)]; rfl) | (rw [fld_8 (by assumption)]; rfl) | (rw [fld_no (by omega)]; rfl)
  · exact SubS.nil
 refine W.rg ?_
 refine SL.val (O.det (fun _ => G.R.eql rfl rfl) rfl Taken.no) ?_
 refine SL.an rfl rfl (E.fo ?_)
 refine W.pick (K:=[(1,_),(2,_),(3,_),(54,_)]) (Z:=[(101,_),(102,_),(103,_)]) ⟨rfl,rfl,rfl,rfl,trivial⟩ ⟨rfl,rfl,rfl,trivial⟩ ?_
 first | refine W.cond_d rfl (fun hc18 => ?_) (fun hc18 => ?_) | refine W.cond_nd rfl (fun hc18 => ?_) (fun hc18 => ?_) | refine W.cond rfl (fun hc18 => ?_) (fun hc18 => ?_)
 ·skip
  refine W.region ?_
  refine SL.val (O.fld_ref (o' := 6) rfl Try.underlying34 rfl (m := 0) (by kernel_rfl) rfl rfl Taken.no) ?_
  refine SL.val (O.ld1 (PtI.ref rfl rfl) rfl Try.underlying3 rfl rfl Taken.no) ?_
  refine SL.val (O.fld_ref (o' := 6) rfl Try.underlying34 rfl (m := 0) (by kernel_rfl) rfl rfl Taken.no) ?_
  refine SL.effS (O.st_ref (m := 1) rfl rfl rfl (js := [_]) rfl rfl (by kernel_rfl) (by simp) (Nat.le_of_ble_eq_true rfl) rfl (is' := [_, _, _, _, _, _, _, _]) rfl Taken.no) (S' := (103, _) :: _) rfl ?_
  refine SL.nil (E.inn (E.to (W.rg ?_)))
  refine SL.val (O.ldN (m := 8) (PtI.ref rfl rfl) (js := [_, _, _, _, _, _, _, _]) rfl (Nat.le_of_ble_eq_true rfl) Try.underlying34 rfl (by kernel_rfl) rfl Taken.no) ?_
  refine SL.effS (O.st_ref (m := 8) rfl rfl rfl (js := [_, _, _, _, _, _, _, _]) rfl rfl (by kernel_rfl) (by simp) (Nat.le_of_ble_eq_true rfl) rfl (is' := [_, _, _, _, _, _, _, _]) rfl Taken.no) (S' := (102, _) :: _) rfl ?_
  refine E.fo (W.ret ?_)
  refine E.fin (rs := [_]) (rn []) (.inl rfl) rfl (.cons (ResOne.cellN (m := 8) (PtI.ref rfl rfl) (js := [_, _, _, _, _, _, _, _]) rfl (Nat.le_of_ble_eq_true rfl) Try.underlying34 rfl (by kernel_rfl)) .nil) ?_ ?_ rfl (fixL_spec rfl)
  ·skip
   first | (rw [fld_1 (by assumption)]; rfl) | (rw [fld_c (by first | exact .inl (by assumption) | exact .inr (.inl (by assumption)) | exact .inr (.inr (by assumption)))]; rfl) | (rw [fld_3 (by assumption)]; rfl) | (rw [fld_6 (by assumption)]; rfl) | (rw [fld_7 (by assumption)]; rfl) | (rw [fld_8 (by assumption)]; rfl) | (rw [fld_no (by omega)]; rfl)
  · exact SubS.nil
 refine W.skip (E.inn (E.to (W.rg ?_)))
 refine SL.val (O.ldN (m := 8) (PtI.ref rfl rfl) (js := [_, _, _, _, _, _, _, _]) rfl (Nat.le_of_ble_eq_true rfl) Try.underlying34 rfl (by kernel_rfl) rfl Taken.no) ?_
 refine SL.effS (O.st_ref (m := 8) rfl rfl rfl (js := [_, _, _, _, _, _, _, _]) rfl rfl (by kernel_rfl) (by simp) (Nat.le_of_ble_eq_true rfl) rfl (is' := [_, _, _, _, _, _, _, _]) rfl Taken.no) (S' := (102, _) :: _) rfl ?_
 refine E.fo (W.ret ?_)
 refine E.fin (rs := [_]) (rn []) (.inl rfl) rfl (.cons (ResOne.cellN (m := 8) (PtI.ref rfl rfl) (js := [_, _, _, _, _, _, _, _]) rfl (Nat.le_of_ble_eq_true rfl) Try.underlying34 rfl (by kernel_rfl)) .nil) ?_ ?_ rfl (fixL_spec rfl)
 ·skip
  first | (rw [fld_1 (by assumption)]; rfl) | (rw [fld_c (by first | exact .inl (by assumption) | exact .inr (.inl (by assumption)) | exact .inr (.inr (by assumption)))]; rfl) | (rw [fld_3 (by assumption)]; rfl) | (rw [fld_6 (by assumption)]; rfl) | (rw [fld_7 (by assumption)]; rfl) | (rw [fld_8 (by assumption)]; rfl) | (rw [fld_no (by omega)]; rfl)
 · exact SubS.nil

end Go.Proofs.Ytmekkjehkcjpdaa
end
section
namespace Go.Proofs.Ytmekkjehkcjpdaa
open Go Go.RowKit Go.H Go.D57 Go.D58

theorem hcallOk61 : G.callOk Try.prog 61 = true := by kernel_rfl
theorem hcallOk62 : G.callOk Try.prog 62 = true := by kernel_rfl

theorem set_same {l : List Ln} {k : Nat} (h : k < l.length) : (l.map eLn).set k (eLn l[k]!) = l.map eLn := by
  apply List.ext_getElem
  · simp
  · intro i h1 h2
    rw [List.getElem_set]
    split
    · rename_i e; subst e; rw [List.getElem_map, getElem!_pos l k h]
    · rfl

set_option maxRecDepth 8000 in
theorem cloned_h {s : St} (hc : s.cps.length ≤ 1000000) (hl : s.lns.length ≤ 1000000) (hql : ∀ l ∈ s.lns, l.q.length ≤ 1000000) :
    Con Try.prog 27 [vA [uI s.now, .sl 8 (s.cps.map eCp), .sl 2 (s.lns.map eLn)]] [] (.agg [vI s.now, .own 0, .own 1]) [(0, .data 43 8 (s.cps.map eCp)), (1, .data 51 2 (s.lns.map eLn))] := by
 obtain ⟨i51, hi51, hz51, hs51, hb51⟩ := hinf51
 refine Con.enterL (n := 32) Try.func27 rfl rfl rfl (fun τ w ok vs hin => ?_)
 have hl0_1 := hin.lenA (i := 0) (j := 1) rfl rfl
 try rw [List.length_map] at hl0_1
 have hl0_2 := hin.lenA (i := 0) (j := 2) rfl rfl
 try rw [List.length_map] at hl0_2
 clear hin
 refine W.rg ?_
 refine SL.memS (O.box (is := [_, _, _]) 101 rfl rfl (by simp) rfl rfl Taken.no) rfl rfl (S' := (101, _) :: _) rfl ?_
 refine SL.memS (O.alloc (z := .agg #[.int .i64 0, .slice none 0 0, .slice none 0 0]) (is := [.u (.sc (.int .i64 0)), .u (.sc (.slice none 0 0)), .u (.sc (.slice none 0 0))]) 102 (by kernel_rfl) rfl rfl rfl Taken.no) rfl rfl (S' := (102, _) :: _) rfl ?_
 refine E.fo (W.seq ?_)
 refine W.draw [⟨[], [], [], [101]⟩, ⟨[101], [], [], []⟩, ⟨[103], [103], [103], []⟩, ⟨[], [], [], [101]⟩, ⟨[101], [], [], []⟩, ⟨[104], [104], [104], []⟩, ⟨[], [], [], [101]⟩, ⟨[101, 103], [101], [], []⟩, ⟨[], [], [], [101]⟩, ⟨[101, 103, 104], [101], [], []⟩] rfl (by kernel_rfl) (by kernel_rfl) rfl rfl ?_
 refine WH.val (O.fld_ref (o' := 1) rfl Try.underlying28 rfl (m := 0) (by kernel_rfl) rfl rfl Taken.no) rfl rfl ?_
 refine WH.val (O.ld1 (PtI.ref rfl rfl) rfl Try.underlying25 rfl rfl Taken.no) rfl rfl ?_
 refine WH.memS (O.call (rn [(0, 103)]) [] rfl rfl rfl (cloneC_h (l := s.cps) (by omega)) (.cons (ArgOk.same rfl) .nil) SubS.nil rfl rfl rfl rfl rfl (.inl rfl) hcallOk61 (r' := .own 103) rfl rfl Taken.no) rfl rfl rfl rfl rfl (S' := (103, .data _ _ _) :: _) rfl ?_
 refine WH.val (O.fld_ref (o' := 2) rfl Try.underlying28 rfl (m := 0) (by kernel_rfl) rfl rfl Taken.no) rfl rfl ?_
 refine WH.val (O.ld1 (PtI.ref rfl rfl) rfl Try.underlying26 rfl rfl Taken.no) rfl rfl ?_
 refine WH.memS (O.call (rn [(0, 104)]) [] rfl rfl rfl (cloneL_h (l := s.lns) (by omega)) (.cons (ArgOk.same rfl) .nil) SubS.nil rfl rfl rfl rfl rfl (.inl rfl) hcallOk62 (r' := .own 104) rfl rfl Taken.no) rfl rfl rfl rfl rfl (S' := (104, .data _ _ _) :: _) rfl ?_
 refine WH.val (O.fld_ref (o' := 1) rfl Try.underlying28 rfl (m := 0) (by kernel_rfl) rfl rfl Taken.no) rfl rfl ?_
 refine WH.effS (O.st_ref (m := 1) rfl rfl rfl (js := [_]) rfl rfl (by kernel_rfl) (by simp) (Nat.le_of_ble_eq_true rfl) rfl (is' := [_, _, _]) rfl Taken.no) rfl rfl rfl (S' := (101, _) :: _) rfl ?_
 refine WH.val (O.fld_ref (o' := 2) rfl Try.underlying28 rfl (m := 0) (by kernel_rfl) rfl rfl Taken.no) rfl rfl ?_
 refine WH.effS (O.st_ref (m := 1) rfl rfl rfl (js := [_]) rfl rfl (by kernel_rfl) (by simp) (Nat.le_of_ble_eq_true rfl) rfl (is' := [_, _, _]) rfl Taken.no) rfl rfl rfl (S' := (101, _) :: _) rfl ?_
 refine WH.nil (E.to (W.seq (W.rg ?_)))
 refine SL.val (O.fld_ref (o' := 2) rfl Try.underlying28 rfl (m := 0) (by kernel_rfl) rfl rfl Taken.no) ?_
 refine SL.val (O.ld1 (PtI.ref rfl rfl) rfl Try.underlying26 rfl rfl Taken.no) ?_
 refine SL.val (O.lenE (SlOf.own rfl rfl) (by first | exact List.length_map _ | rfl) Try.underlying26 rfl Taken.no) ?_
 refine SL.mv rfl rfl (E.fo (W.block ?_))
 refine W.loopx1 (fun (k : Nat) => [(15, vI (k : Int))]) (fun (k : Nat) => [(105, .data 43 8 (s.cps.map eCp)), (106, .data 51 2 (s.lns.map eLn)), (101, .cells 28 [vI s.now, .own 105, .own 106])]) (fun (k : Nat) => k ≤ s.lns.length) (fun (k : Nat) => s.lns.length - k) (0) (rn [(105, 103), (106, 104)]) (.cons (t := 1) rfl (.cons (t := 2) rfl (.cons (t := 14) rfl .nil))) (.cons (t := 102) rfl .nil) rfl ?_ ?_ rfl rfl ?_ ?_
 · exact (SubF.cons rfl SubF.nil)
 · exact (SubS.cons rfl (SubS.cons rfl (SubS.cons rfl SubS.nil)))
 ·skip
  omega
 intro k hinv
 have hk := hinv
 refine W.rg ?_
 refine SL.val (O.det (fun _ => G.R.lss rfl rfl) rfl Taken.no) ?_
 refine E.fo (W.seq ?_)
 first | refine W.cond_d rfl (fun hc1 => ?_) (fun hc1 => ?_) | refine W.cond_nd rfl (fun hc1 => ?_) (fun hc1 => ?_) | refine W.cond rfl (fun hc1 => ?_) (fun hc1 => ?_)
 ·skip
  have hqk := hql s.lns[k]! (at_mem (by omega))
  refine W.skip (E.to (W.seq (W.block (W.rg (SL.mv rfl rfl (SL.an rfl rfl (E.fo ?_)))))))
  refine W.draw [⟨[], [], [], [101]⟩, ⟨[101], [], [], [106]⟩, ⟨[], [], [], []⟩, ⟨[], [], [], [101]⟩, ⟨[101], [], [], [106]⟩, ⟨[], [], [], []⟩, ⟨[106], [], [], []⟩, ⟨[], [], [], [106]⟩, ⟨[106], [], [], []⟩, ⟨[], [], [], []⟩, ⟨[106], [], [], []⟩, ⟨[], [], [], [106]⟩, ⟨[106], [106], [], []⟩] rfl (by kernel_rfl) (by kernel_rfl) rfl rfl ?_
  refine WH.val (O.fld_ref (o' := 2) rfl Try.underlying28 rfl (m := 0) (by kernel_rfl) rfl rfl Taken.no) rfl rfl ?_
  refine WH.val (O.ld1 (PtI.ref rfl rfl) rfl Try.underlying26 rfl rfl Taken.no) rfl rfl ?_
  refine WH.mv rfl rfl rfl ?_
  refine WH.val (O.fld_ref (o' := 2) rfl Try.underlying28 rfl (m := 0) (by kernel_rfl) rfl rfl Taken.no) rfl rfl ?_
  refine WH.val (O.ld1 (PtI.ref rfl rfl) rfl Try.underlying26 rfl rfl Taken.no) rfl rfl ?_
  refine WH.mv rfl rfl rfl ?_
  refine WH.val (O.idx_own (i := k) rfl rfl rfl (rfl) (by rw [List.length_map]; omega) Try.underlying26 hi51 hs51 rfl Taken.no) rfl rfl ?_
  refine WH.val (O.fld_el (o' := 1) rfl Try.underlying51 rfl (m := 0) (by kernel_rfl) rfl rfl Taken.no) rfl rfl ?_
  refine WH.val (O.ld1 (PtI.ofU (PtU.el rfl rfl (row_get (by omega)))) rfl Try.underlying40 rfl rfl Taken.no) rfl rfl ?_
  refine WH.val (O.callp rfl rfl rfl (Con.fz (cloneQ_h (l := s.lns[k]!.q) (by omega)) rfl rfl) (.cons (ArgOk.same rfl) .nil) hcallOk30 rfl Taken.no) rfl rfl ?_
  refine WH.val (O.idx_own (i := k) rfl rfl rfl (rfl) (by rw [List.length_map]; omega) Try.underlying26 hi51 hs51 rfl Taken.no) rfl rfl ?_
  refine WH.val (O.fld_el (o' := 1) rfl Try.underlying51 rfl (m := 0) (by kernel_rfl) rfl rfl Taken.no) rfl rfl ?_
  refine WH.effS (O.st_els (m := 1) rfl rfl rfl (us := [_]) rfl rfl (by kernel_rfl) (by simp) (row_get (by omega)) (by exact Nat.le_of_ble_eq_true rfl) rfl rfl (rows' := s.lns.map eLn) (by exact set_same (by omega)) Taken.no) rfl rfl rfl (S' := (106, _) :: _) rfl ?_
  refine WH.nil (E.inn (E.to (W.region ?_)))
  refine SL.val (O.det (fun _ => by first | exact G.R.add64 rfl rfl (by omega) | exact G.R.add rfl rfl) rfl Taken.no) ?_
  refine SL.mv rfl rfl (SL.nil ?_)
  refine E.again ((k + 1)) (rn []) ?_ ?_ rfl (fixL_spec rfl) ?_ ?_
  · exact (SubF.cons rfl (SubF.cons rfl (SubF.cons rfl (SubF.cons rfl SubF.nil))))
  · exact (SubS.cons rfl (SubS.cons rfl (SubS.cons rfl (SubS.cons rfl SubS.nil))))
  ·try dsimp only
   omega
  · (try dsimp only); omega
 refine W.exit (E.th (E.th (E.hit (E.to (W.rg ?_)))))
 refine SL.val (O.ldN (m := 3) (PtI.ref rfl rfl) (js := [_, _, _]) rfl (Nat.le_of_ble_eq_true rfl) Try.underlying28 rfl (by kernel_rfl) rfl Taken.no) ?_
 refine SL.effS (O.st_ref (m := 3) rfl rfl rfl (js := [_, _, _]) rfl rfl (by kernel_rfl) (by simp) (Nat.le_of_ble_eq_true rfl) rfl (is' := [_, _, _]) rfl Taken.no) (S' := (102, _) :: _) rfl ?_
 refine E.fo (W.ret ?_)
 refine E.fin (rs := [_]) (rn [(0, 105), (1, 106)]) (.inl rfl) rfl (.cons (ResOne.cellN (m := 3) (PtI.ref rfl rfl) (js := [_, _, _]) rfl (Nat.le_of_ble_eq_true rfl) Try.underlying28 rfl (by kernel_rfl)) .nil) ?_ ?_ rfl (fixL_spec rfl)
 ·skip
  rfl
 · exact (SubS.cons rfl (SubS.cons rfl SubS.nil))

end Go.Proofs.Ytmekkjehkcjpdaa
end
section
namespace Go.Proofs.Ytmekkjehkcjpdaa
open Go Go.RowKit Go.H Go.D57 Go.D58



theorem wt_fin {cs : List Cp} {i : Nat} {h : Hd} {now : Int} (_ : i < cs.length) {a b c d : List UV} : (((((cs.map eCp).set i a).set i b).set i c).set i d).set i [uI cs[i]!.id, uI cs[i]!.work, uT cs[i]!.lib, uI 3, uI h.pat, uI (if now + 7 ≤ 1000000 then now + 7 else 1000000), uI h.id, uB false] = (cs.set i (wtC cs[i]! h now)).map eCp := by
  rw [List.set_set, List.set_set, List.set_set, List.set_set, List.map_set]; rfl

set_option maxRecDepth 8000 in
theorem waits_h {s : St} {i : Nat} {h : Hd} (hi : i < s.cps.length) (hn : 0 ≤ s.now ∧ s.now ≤ 1000000) :
    Con Try.prog 56 [.ref 0 0, .el 1 8 i 0, vA (eH h)] [(0, .cells 28 [.u (uI s.now), .own 1, .own 2]), (1, .data 43 8 ((s.cps).map eCp)), (2, .data 51 2 ((s.lns).map eLn))] (.tup []) [(0, .cells 28 [.u (uI s.now), .own 1, .own 2]), (1, .data 43 8 ((s.cps.set i (wtC s.cps[i]! h s.now)).map eCp)), (2, .data 51 2 ((s.lns).map eLn))] := by
 refine Con.enterL (n := 31) Try.func56 rfl rfl rfl (fun τ w ok vs hin => ?_)
 clear hin
 refine W.rg ?_
 refine SL.memS (O.box (is := [_, _, _, _, _]) 101 rfl rfl (by simp) rfl rfl Taken.no) rfl rfl (S' := (101, _) :: _) rfl ?_
 refine E.fo ?_
 refine W.draw [⟨[], [], [], [1]⟩, ⟨[], [], [], [1]⟩, ⟨[], [], [], [1]⟩, ⟨[], [], [], [1]⟩, ⟨[], [], [], [1]⟩, ⟨[], [], [], [101]⟩, ⟨[101], [], [], []⟩, ⟨[], [], [], [101]⟩, ⟨[101], [], [], []⟩, ⟨[], [], [], [0]⟩, ⟨[], [], [], [0]⟩, ⟨[], [], [], [0]⟩, ⟨[0], [], [], []⟩, ⟨[], [], [], []⟩, ⟨[], [], [], []⟩, ⟨[], [], [], [1]⟩, ⟨[], [], [], [1]⟩, ⟨[1], [1], [], []⟩, ⟨[], [], [], [1]⟩, ⟨[], [], [], [1]⟩, ⟨[1], [1], [], []⟩, ⟨[], [], [], [1]⟩, ⟨[], [], [], [1]⟩, ⟨[1], [1], [], []⟩, ⟨[], [], [], [1]⟩, ⟨[], [], [], [1]⟩, ⟨[1], [1], [], []⟩, ⟨[], [], [], [1]⟩, ⟨[], [], [], [1]⟩, ⟨[1], [1], [], []⟩] rfl (by kernel_rfl) (by kernel_rfl) rfl rfl ?_
 refine WH.mv rfl rfl rfl (WH.mv rfl rfl rfl (WH.mv rfl rfl rfl (WH.mv rfl rfl rfl (WH.mv rfl rfl rfl ?_))))
 refine WH.val (O.fld_ref (o' := 1) rfl Try.underlying47 rfl (m := 0) (by kernel_rfl) rfl rfl Taken.no) rfl rfl ?_
 refine WH.val (O.ld1 (PtI.ref rfl rfl) rfl Try.underlying3 rfl rfl Taken.no) rfl rfl ?_
 refine WH.val (O.fld_ref (o' := 0) rfl Try.underlying47 rfl (m := 0) (by kernel_rfl) rfl rfl Taken.no) rfl rfl ?_
 refine WH.val (O.ld1 (PtI.ref rfl rfl) rfl Try.underlying3 rfl rfl Taken.no) rfl rfl ?_
 refine WH.mv rfl rfl rfl ?_
 refine WH.val (O.nilCheck rfl rfl rfl Taken.no) rfl rfl ?_
 refine WH.val (O.fld_ref (o' := 0) rfl Try.underlying28 rfl (m := 0) (by kernel_rfl) rfl rfl Taken.no) rfl rfl ?_
 refine WH.val (O.ld1 (PtI.ref rfl rfl) rfl Try.underlying3 rfl rfl Taken.no) rfl rfl ?_
 refine WH.val (O.det (fun _ => by first | exact G.R.add64 rfl rfl (by omega) | exact G.R.add rfl rfl) rfl Taken.no) rfl rfl ?_
 refine WH.val (O.det (fun _ => G.R.mv (G.R.min2 rfl rfl) (congrArg (Value.int .i64) (show _ = (if s.now + 7 ≤ 1000000 then s.now + 7 else 1000000) by omega))) rfl Taken.no) rfl rfl ?_
 refine WH.val (O.nilCheck rfl rfl rfl Taken.no) rfl rfl ?_
 refine WH.val (O.fld_el (o' := 3) rfl Try.underlying43 rfl (m := 0) (by kernel_rfl) rfl rfl Taken.no) rfl rfl ?_
 refine WH.effS (O.st_els (m := 1) rfl rfl rfl (us := [_]) rfl rfl (by kernel_rfl) (by simp) (row_get (by omega)) (by exact Nat.le_of_ble_eq_true rfl) rfl rfl (rows' := ((s.cps.map eCp).set i [uI s.cps[i]!.id, uI s.cps[i]!.work, uT s.cps[i]!.lib, uI 3, uI s.cps[i]!.pat, uI s.cps[i]!.due, uI s.cps[i]!.hold, uB s.cps[i]!.rc])) (by rfl) Taken.no) rfl rfl rfl (S' := (1, _) :: _) rfl ?_
 refine WH.val (O.nilCheck rfl rfl rfl Taken.no) rfl rfl ?_
 refine WH.val (O.fld_el (o' := 4) rfl Try.underlying43 rfl (m := 0) (by kernel_rfl) rfl rfl Taken.no) rfl rfl ?_
 refine WH.effS (O.st_els (m := 1) rfl rfl rfl (us := [_]) rfl rfl (by kernel_rfl) (by simp) (by rw [List.getElem?_set_self (by simp only [List.length_map]; omega)]) (by exact Nat.le_of_ble_eq_true rfl) rfl rfl (rows' := (((s.cps.map eCp).set i [uI s.cps[i]!.id, uI s.cps[i]!.work, uT s.cps[i]!.lib, uI 3, uI s.cps[i]!.pat, uI s.cps[i]!.due, uI s.cps[i]!.hold, uB s.cps[i]!.rc]).set i [uI s.cps[i]!.id, uI s.cps[i]!.work, uT s.cps[i]!.lib, uI 3, uI h.pat, uI s.cps[i]!.due, uI s.cps[i]!.hold, uB s.cps[i]!.rc])) (by rfl) Taken.no) rfl rfl rfl (S' := (1, _) :: _) rfl ?_
 refine WH.val (O.nilCheck rfl rfl rfl Taken.no) rfl rfl ?_
 refine WH.val (O.fld_el (o' := 6) rfl Try.underlying43 rfl (m := 0) (by kernel_rfl) rfl rfl Taken.no) rfl rfl ?_
 refine WH.effS (O.st_els (m := 1) rfl rfl rfl (us := [_]) rfl rfl (by kernel_rfl) (by simp) (by rw [List.getElem?_set_self (by simp only [List.length_set, List.length_map]; omega)]) (by exact Nat.le_of_ble_eq_true rfl) rfl rfl (rows' := ((((s.cps.map eCp).set i [uI s.cps[i]!.id, uI s.cps[i]!.work, uT s.cps[i]!.lib, uI 3, uI s.cps[i]!.pat, uI s.cps[i]!.due, uI s.cps[i]!.hold, uB s.cps[i]!.rc]).set i [uI s.cps[i]!.id, uI s.cps[i]!.work, uT s.cps[i]!.lib, uI 3, uI h.pat, uI s.cps[i]!.due, uI s.cps[i]!.hold, uB s.cps[i]!.rc]).set i [uI s.cps[i]!.id, uI s.cps[i]!.work, uT s.cps[i]!.lib, uI 3, uI h.pat, uI s.cps[i]!.due, uI h.id, uB s.cps[i]!.rc])) (by rfl) Taken.no) rfl rfl rfl (S' := (1, _) :: _) rfl ?_
 refine WH.val (O.nilCheck rfl rfl rfl Taken.no) rfl rfl ?_
 refine WH.val (O.fld_el (o' := 5) rfl Try.underlying43 rfl (m := 0) (by kernel_rfl) rfl rfl Taken.no) rfl rfl ?_
 refine WH.effS (O.st_els (m := 1) rfl rfl rfl (us := [_]) rfl rfl (by kernel_rfl) (by simp) (by rw [List.getElem?_set_self (by simp only [List.length_set, List.length_map]; omega)]) (by exact Nat.le_of_ble_eq_true rfl) rfl rfl (rows' := (((((s.cps.map eCp).set i [uI s.cps[i]!.id, uI s.cps[i]!.work, uT s.cps[i]!.lib, uI 3, uI s.cps[i]!.pat, uI s.cps[i]!.due, uI s.cps[i]!.hold, uB s.cps[i]!.rc]).set i [uI s.cps[i]!.id, uI s.cps[i]!.work, uT s.cps[i]!.lib, uI 3, uI h.pat, uI s.cps[i]!.due, uI s.cps[i]!.hold, uB s.cps[i]!.rc]).set i [uI s.cps[i]!.id, uI s.cps[i]!.work, uT s.cps[i]!.lib, uI 3, uI h.pat, uI s.cps[i]!.due, uI h.id, uB s.cps[i]!.rc]).set i [uI s.cps[i]!.id, uI s.cps[i]!.work, uT s.cps[i]!.lib, uI 3, uI h.pat, uI (if s.now + 7 ≤ 1000000 then s.now + 7 else 1000000), uI h.id, uB s.cps[i]!.rc])) (by rfl) Taken.no) rfl rfl rfl (S' := (1, _) :: _) rfl ?_
 refine WH.val (O.nilCheck rfl rfl rfl Taken.no) rfl rfl ?_
 refine WH.val (O.fld_el (o' := 7) rfl Try.underlying43 rfl (m := 0) (by kernel_rfl) rfl rfl Taken.no) rfl rfl ?_
 refine WH.effS (O.st_els (m := 1) rfl rfl rfl (us := [_]) rfl rfl (by kernel_rfl) (by simp) (by rw [List.getElem?_set_self (by simp only [List.length_set, List.length_map]; omega)]) (by exact Nat.le_of_ble_eq_true rfl) rfl rfl (rows' := ((((((s.cps.map eCp).set i [uI s.cps[i]!.id, uI s.cps[i]!.work, uT s.cps[i]!.lib, uI 3, uI s.cps[i]!.pat, uI s.cps[i]!.due, uI s.cps[i]!.hold, uB s.cps[i]!.rc]).set i [uI s.cps[i]!.id, uI s.cps[i]!.work, uT s.cps[i]!.lib, uI 3, uI h.pat, uI s.cps[i]!.due, uI s.cps[i]!.hold, uB s.cps[i]!.rc]).set i [uI s.cps[i]!.id, uI s.cps[i]!.work, uT s.cps[i]!.lib, uI 3, uI h.pat, uI s.cps[i]!.due, uI h.id, uB s.cps[i]!.rc]).set i [uI s.cps[i]!.id, uI s.cps[i]!.work, uT s.cps[i]!.lib, uI 3, uI h.pat, uI (if s.now + 7 ≤ 1000000 then s.now + 7 else 1000000), uI h.id, uB s.cps[i]!.rc]).set i [uI s.cps[i]!.id, uI s.cps[i]!.work, uT s.cps[i]!.lib, uI 3, uI h.pat, uI (if s.now + 7 ≤ 1000000 then s.now + 7 else 1000000), uI h.id, uB false])) (by rfl) Taken.no) rfl rfl rfl (S' := (1, _) :: _) rfl ?_
 refine WH.nil ?_
 refine E.fin (rs := []) (rn []) (.inr rfl) rfl .nil ?_ ?_ rfl (fixL_spec rfl)
 ·skip
  rfl
 · exact (SubS.cons rfl (SubS.val rfl (by exact sb_data (wt_fin hi)) (SubS.cons rfl SubS.nil)))

end Go.Proofs.Ytmekkjehkcjpdaa
end
section
namespace Go.Proofs.Ytmekkjehkcjpdaa
open Go Go.RowKit Go.H Go.D57 Go.D58

theorem hcallOk75 : G.callOk Try.prog 75 = true := by kernel_rfl
theorem hcallOk76 : G.callOk Try.prog 76 = true := by kernel_rfl

set_option maxRecDepth 8000 in
theorem owns1_h {c : Cp} {p wk : Int} :
    Con Try.prog 76 [vA (eCp c), .u (.ptr [uI wk]), .u (.ptr [uI p])] [] (vB (decide (c.place ≠ 1 ∧ c.work = wk ∧ c.pat = p))) [] := by
 refine Con.enterL (n := 20) Try.func76 rfl rfl rfl (fun τ w ok vs hin => ?_)
 clear hin
 refine W.rg ?_
 refine SL.memS (O.box (is := [_, _, _, _, _, _, _, _]) 101 rfl rfl (by simp) rfl rfl Taken.no) rfl rfl (S' := (101, _) :: _) rfl ?_
 refine SL.an rfl rfl (E.fo (W.rg ?_))
 refine SL.val (O.fld_ref (o' := 3) rfl Try.underlying43 rfl (m := 0) (by kernel_rfl) rfl rfl Taken.no) ?_
 refine SL.val (O.ld1 (PtI.ref rfl rfl) rfl Try.underlying3 rfl rfl Taken.no) ?_
 refine SL.val (O.det (fun _ => G.R.neq rfl rfl) rfl Taken.no) ?_
 refine SL.mv rfl rfl ?_
 refine SL.case (j := 3) (g := 8) (want := true) rfl rfl (fun hg1 => ?_) (fun hg1 => ?_)
 ·skip
  first | have hg1p := G.gA1 hg1 | have hg1p := G.gA2 hg1 | have hg1p := hg1
  refine SL.val (O.fld_ref (o' := 1) rfl Try.underlying43 rfl (m := 0) (by kernel_rfl) rfl rfl (Taken.yes rfl rfl hg1)) ?_
  refine SL.val (O.ld1 (PtI.ref rfl rfl) rfl Try.underlying3 rfl rfl (Taken.yes rfl rfl hg1)) ?_
  refine SL.val (O.ld1 (PtI.ofU (PtU.fz rfl)) rfl Try.underlying3 rfl rfl (Taken.yes rfl rfl hg1)) ?_
  refine SL.val (O.det (fun _ => G.R.eql rfl rfl) rfl (Taken.yes rfl rfl hg1)) ?_
  refine SL.val (O.pick_t rfl hg1 rfl rfl Taken.no) ?_
  refine SL.mv rfl rfl ?_
  refine SL.case (j := 9) (g := 14) (want := true) rfl rfl (fun hg2 => ?_) (fun hg2 => ?_)
  ·skip
   first | have hg2p := G.gA1 hg2 | have hg2p := G.gA2 hg2 | have hg2p := hg2
   refine SL.val (O.fld_ref (o' := 4) rfl Try.underlying43 rfl (m := 0) (by kernel_rfl) rfl rfl (Taken.yes rfl rfl hg2)) ?_
   refine SL.val (O.ld1 (PtI.ref rfl rfl) rfl Try.underlying3 rfl rfl (Taken.yes rfl rfl hg2)) ?_
   refine SL.val (O.ld1 (PtI.ofU (PtU.fz rfl)) rfl Try.underlying3 rfl rfl (Taken.yes rfl rfl hg2)) ?_
   refine SL.val (O.det (fun _ => G.R.eql rfl rfl) rfl (Taken.yes rfl rfl hg2)) ?_
   refine SL.val (O.pick_t rfl hg2 rfl rfl Taken.no) ?_
   refine SL.an rfl rfl (E.fo (W.ret ?_))
   refine E.fin (rs := [_]) (rn []) (.inl rfl) rfl (.cons (ResOne.tmp rfl) .nil) ?_ ?_ rfl (fixL_spec rfl)
   ·skip
    first | exact iv_bool (dec_iff (by omega)) | exact iv_bool (dec_t (by omega)) | exact iv_bool (dec_f (by omega))
   · exact SubS.nil
  first | have hg2p := G.gA5 hg2 | have hg2p := G.gA6 hg2 | have hg2p := hg2
  refine SL.sk rfl rfl rfl hg2 (SL.sk rfl rfl rfl hg2 (SL.sk rfl rfl rfl hg2 (SL.sk rfl rfl rfl hg2 ?_)))
  refine SL.val (O.pick_f rfl (G.ne_t hg2) rfl rfl Taken.no) ?_
  refine SL.an rfl rfl (E.fo (W.ret ?_))
  refine E.fin (rs := [_]) (rn []) (.inl rfl) rfl (.cons (ResOne.tmp rfl) .nil) ?_ ?_ rfl (fixL_spec rfl)
  ·skip
   first | exact iv_bool (dec_iff (by omega)) | exact iv_bool (dec_t (by omega)) | exact iv_bool (dec_f (by omega))
  · exact SubS.nil
 first | have hg1p := G.gA5 hg1 | have hg1p := G.gA6 hg1 | have hg1p := hg1
 refine SL.sk rfl rfl rfl hg1 (SL.sk rfl rfl rfl hg1 (SL.sk rfl rfl rfl hg1 (SL.sk rfl rfl rfl hg1 ?_)))
 refine SL.val (O.pick_f rfl (G.ne_t hg1) rfl rfl Taken.no) ?_
 refine SL.mv rfl rfl ?_
 have hg3 : false ≠ true := by decide
 refine SL.sk rfl rfl rfl hg3 (SL.sk rfl rfl rfl hg3 (SL.sk rfl rfl rfl hg3 (SL.sk rfl rfl rfl hg3 ?_)))
 refine SL.val (O.pick_f rfl rfl rfl rfl Taken.no) ?_
 refine SL.an rfl rfl (E.fo (W.ret ?_))
 refine E.fin (rs := [_]) (rn []) (.inl rfl) rfl (.cons (ResOne.tmp rfl) .nil) ?_ ?_ rfl (fixL_spec rfl)
 ·skip
  first | exact iv_bool (dec_iff (by omega)) | exact iv_bool (dec_t (by omega)) | exact iv_bool (dec_f (by omega))
 · exact SubS.nil

set_option maxRecDepth 8000 in
theorem owns_h {s : St} {p wk : Int} :
    Con Try.prog 51 [.ref 0 0, vI p, vI wk] [(0, .cells 28 [.u (uI s.now), .own 1, .own 2]), (1, .data 43 8 ((s.cps).map eCp)), (2, .data 51 2 ((s.lns).map eLn))] (vB (decide (0 ≤ idxF (fun c => decide (c.place ≠ 1 ∧ c.work = wk ∧ c.pat = p)) s.cps))) [(0, .cells 28 [.u (uI s.now), .own 1, .own 2]), (1, .data 43 8 ((s.cps).map eCp)), (2, .data 51 2 ((s.lns).map eLn))] := by
 refine Con.enterL (n := 13) Try.func51 rfl rfl rfl (fun τ w ok vs hin => ?_)
 clear hin
 refine W.rg ?_
 refine SL.memS (O.box (is := [_]) 101 rfl rfl (by simp) rfl rfl Taken.no) rfl rfl (S' := (101, _) :: _) rfl ?_
 refine SL.memS (O.box (is := [_]) 102 rfl rfl (by simp) rfl rfl Taken.no) rfl rfl (S' := (102, _) :: _) rfl ?_
 refine SL.an rfl rfl (E.fo (W.rg (SL.mv rfl rfl ?_)))
 refine SL.val (O.nilCheck rfl rfl rfl Taken.no) ?_
 refine SL.val (O.fld_ref (o' := 1) rfl Try.underlying28 rfl (m := 0) (by kernel_rfl) rfl rfl Taken.no) ?_
 refine SL.val (O.ld1 (PtI.ref rfl rfl) rfl Try.underlying25 rfl rfl Taken.no) ?_
 refine SL.val (O.makeFunc rfl rfl rfl Taken.no) ?_
 refine SL.memS (O.call (rn []) [1, 101, 102] rfl rfl rfl (containsFuncCp (q := s.cps) (f := 76) (caps := [.ptr [uI wk], .ptr [uI p]]) (pr := fun c => decide (c.place ≠ 1 ∧ c.work = wk ∧ c.pat = p)) hcallOk76 (fun x _ => owns1_h)) (.cons (ArgOk.own rfl rfl) (.cons (ArgOk.cloU .nil (.cons (ArgOk.ref rfl rfl rfl) (.cons (ArgOk.ref rfl rfl rfl) .nil))) .nil)) SubS.nil rfl rfl rfl rfl rfl (.inr ⟨rfl, fun x hx => by simp at hx⟩) hcallOk75 (r' := .u _) rfl rfl Taken.no) rfl rfl (S' := _) rfl ?_
 refine SL.an rfl rfl (E.fo (W.ret ?_))
 refine E.fin (rs := [_]) (rn []) (.inl rfl) rfl (.cons (ResOne.tmp rfl) .nil) ?_ ?_ rfl (fixL_spec rfl)
 ·skip
  rfl
 · exact (SubS.cons rfl (SubS.cons rfl (SubS.cons rfl SubS.nil)))

end Go.Proofs.Ytmekkjehkcjpdaa
end
