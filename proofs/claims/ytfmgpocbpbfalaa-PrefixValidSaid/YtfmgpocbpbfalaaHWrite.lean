/-
  Writing: stores, append, new slices.
-/
import Derived.Test.YtfmgpocbpbfalaaHRead
namespace Go.H
open Go Go.RowKit
open Go.G (Ext Gr Blk)

section
variable {c : Ctx} {P : Program} {F : Frm} {S : Sto} {ops : Array Oper} {T T2 N : List Nat} {d : Nat} {op : Op} {ty : TypeId} {pos : String} {af : Array Edge} {gd : Option (Nat × Bool)}
  {σ : Sig} {τ τ' : Nat → Value} {a : Act} {w w' : World} {δ : Chg}

theorem look1 {k j : Nat} {x y : Option SB} (h : look j [(k, x)] = some y) : j = k ∧ y = x := by
  by_cases e : k = j
  · subst e; rw [look_eq] at h; exact ⟨rfl, (Option.some.inj h).symm⟩
  · rw [look_ne e] at h; simp [look] at h
/-- A block that has turned, under its old name. -/
theorem SatT.turn {k : Nat} {sb sb0 : SB} (h : SatT c σ τ a w) (h0 : σ.sto k = some sb0) (hg : Gr (fun b => vblk (τ k) = some b) w w')
    (hrep : (∀ b, okOf c τ σ.sto b → b < w.heap.size → okOf c τ (σ.upd none none [(k, some sb)]).sto b ∧ w'.heap[b]? = w.heap[b]?) → RepB τ w' (okOf c τ (σ.upd none none [(k, some sb)]).sto) k sb) :
    SatT c (σ.upd none none [(k, some sb)]) τ a w' :=
  (h.chg (N := []) (fun k hk => by cases hk) hg (fun b hb _ => ⟨k, sb0, by rw [look_eq]; simp, h0, hb⟩) (fun _ _ => rfl)
    (fun j s hj b hb => by obtain ⟨rfl, _⟩ := look1 hj; exact .inr ⟨j, sb0, by rw [look_eq]; simp, h0, hb⟩)
    (fun j j' s s' b hj hj' _ _ => by rw [(look1 hj).1, (look1 hj').1]) (fun hok j s hj => by obtain ⟨rfl, e⟩ := look1 hj; cases e; exact hrep hok)).1
theorem run_skip {o : Oper} {R : World → Prop} {ρ : Operand → Value} {op : Op} {ty : TypeId} (h : G.Does P w (actF a) op ty R) (h1 : o.op = op) (h2 : o.type = ty) (h3 : ρ = a.eval) : ∃ w', (execOp ρ o).run P w = .ok .skip w' ∧ R w' := by
  subst h3
  exact h o a.eval h1 h2 (fun _ _ _ hx => actF_of hx)

theorem O.st_ref {x y : Operand} {t tb : TypeId} {k off m : Nat} {is js is' : List IV} {j : IV} (hx : ev F x = some (.ref k off)) (hS : lookS k S = some (.cells tb is)) (hy : ev F y = some j) (hj : j.cells = js) (hm : js.length = m) (hs : (P.info? t).map (·.size) = some m)
    (hn : js ≠ []) (hfit : off + js.length ≤ is.length) (h1 : js.all IV.one = true) (hr : is.take off ++ js ++ is.drop (off + js.length) = is') (hg : Taken ops F gd) :
    OpOk c P ops ⟨none, .store t x y, ty, pos, af, gd⟩ F S [k] [] none [(k, some (.cells tb is'))] := by
  refine OpOk.does hg fun σ τ a w hA hB h => ?_
  subst hr
  obtain ⟨p1, p2⟩ := h.opd hA (by simp [Op.operands]) hx
  obtain ⟨q1, q2⟩ := h.opd hA (by simp [Op.operands]) hy
  have h0 := (hB k (by simp)).trans hS
  obtain ⟨g, vs, e1, e2, e3, e4⟩ := h.sto k _ h0
  have hc := q1.cells (fun e => by subst e; exact hn hj.symm)
  rw [hj] at hc
  generalize a.eval x = v at p1 p2
  cases p1 with
  | @ref _ _ g' hk =>
    have : g' = g := by rw [hk] at e1; simp at e1; exact e1
    subst this
    obtain ⟨w', r1, r2, r3, r4⟩ := run_skip (o := ⟨none, .store t x y, ty, pos, af, gd⟩) (G.D.store (ty := ty) p2 q2 (vs := (a.eval y).cells.toList) (by simp) hs (by rw [← hc.1, hm]) e2 (by rw [← hc.1, ← e3.1]; exact hfit) (hc.ones h1)) rfl rfl rfl
    refine ⟨w', τ, r1, h.turn h0 (Gr.of_grown r3 fun b hb => by rw [e1]; exact hb) fun hok => ⟨g', _, e1, r2, ?_, fun i hi => ?_⟩⟩
    · rw [← hc.1]
      exact (((e3.take off).app hc).app (e3.drop _)).mono (by rw [r4]; exact Nat.le_refl _) hok (fun _ _ => rfl)
    · rcases List.mem_append.1 hi with hi | hi
      · rcases List.mem_append.1 hi with hi | hi
        · exact e4 i (List.mem_of_mem_take hi)
        · exact List.all_eq_true.1 h1 i hi
      · exact e4 i (List.mem_of_mem_drop hi)

theorem flatten_set {sz : Nat} : ∀ {rows : List (List UV)} {i : Nat} {row row' : List UV}, (∀ r ∈ rows, r.length = sz) → rows[i]? = some row → row'.length = sz →
    (rows.set i row').flatten = rows.flatten.take (i * sz) ++ row' ++ rows.flatten.drop (i * sz + sz)
  | [], i, row, row', _, h, _ => by simp at h
  | r :: rows, 0, row, row', hr, h, hl => by
    rw [List.set_cons_zero, List.flatten_cons, List.flatten_cons, Nat.zero_mul, List.take_zero, List.nil_append, Nat.zero_add, List.drop_append, hr r (by simp), Nat.sub_self, List.drop_zero, List.drop_eq_nil_of_le (by rw [hr r (by simp)]; exact Nat.le_refl _), List.nil_append]
  | r :: rows, i + 1, row, row', hr, h, hl => by
    have ih := flatten_set (rows := rows) (i := i) (row := row) (row' := row') (fun q hq => hr q (by simp [hq])) (by simpa using h) hl
    have e := hr r (by simp)
    have t1 : r.take (i * sz + sz) = r := List.take_of_length_le (by omega)
    have t2 : r.drop (i * sz + sz + sz) = [] := List.drop_eq_nil_of_le (by omega)
    rw [List.set_cons_succ, List.flatten_cons, List.flatten_cons, ih, Nat.add_mul, Nat.one_mul, List.take_append, List.drop_append, e, t1, t2,
      List.nil_append, show i * sz + sz - sz = i * sz by omega, show i * sz + sz + sz - sz = i * sz + sz by omega]
    simp
/-- A store into an element of a slice of the call's own. -/
theorem O.st_el {x y : Operand} {t tb : TypeId} {k sz i off m : Nat} {rows : List (List UV)} {row row' us : List UV} {j : IV} (hx : ev F x = some (.el k sz i off)) (hS : lookS k S = some (.data tb sz rows)) (hy : ev F y = some j) (hj : j.cells = us.map .u) (hm : us.length = m) (hs : (P.info? t).map (·.size) = some m)
    (hn : us ≠ []) (hrow : rows[i]? = some row) (hfit : off + us.length ≤ row.length) (h1 : us.all UV.one = true) (hr : row.take off ++ us ++ row.drop (off + us.length) = row') (hg : Taken ops F gd) :
    OpOk c P ops ⟨none, .store t x y, ty, pos, af, gd⟩ F S [k] [] none [(k, some (.data tb sz (rows.set i row')))] := by
  refine OpOk.does hg fun σ τ a w hA hB h => ?_
  subst hr
  obtain ⟨p1, p2⟩ := h.opd hA (by simp [Op.operands]) hx
  obtain ⟨q1, q2⟩ := h.opd hA (by simp [Op.operands]) hy
  have h0 := (hB k (by simp)).trans hS
  obtain ⟨vs, ⟨f0, f1⟩, f2, f3, f4, f5⟩ := h.sto k _ h0
  have hc := q1.cells (fun e => by subst e; simp [IV.cells] at hj; exact hn hj)
  rw [hj] at hc
  have hcu : AllU w (okOf c τ σ.sto) us (a.eval y).cells.toList := ⟨by simpa using hc.1, fun q u v z1 z2 => by
    have := hc.2 q (.u u) v (by simp [z1]) z2
    cases this; assumption⟩
  have hrl : row.length = sz := f3 row (row_mem hrow)
  have hil : i < rows.length := (List.getElem?_eq_some_iff.1 hrow).1
  generalize a.eval x = v at p1 p2
  cases p1 with
  | @el _ _ _ _ g n cc hk =>
    rcases f1 with ⟨f1, _⟩ | ⟨g', cap, cur, f1, _, f6, f7, f8, f9, f10⟩
    · rw [hk] at f1; cases f1
    · have hgg : g' = g ∧ n = rows.length ∧ cap = cc := by
        rw [hk] at f1; simp only [Value.slice.injEq, Option.some.injEq, Addr.mk.injEq, and_true] at f1; exact ⟨f1.1.symm, f1.2.1, f1.2.2.symm⟩
      obtain ⟨rfl, rfl, rfl⟩ := hgg
      have hcur : rows.length * sz ≤ cur.toList.length := by
        have e : cur.toList.length = cap * sz := by rw [Array.length_toList]; exact f9
        rw [e]; exact Nat.mul_le_mul_right _ f7
      have hpos : i * sz + sz ≤ rows.length * sz := by
        have := Nat.mul_le_mul_right sz hil
        rw [Nat.succ_mul] at this; exact this
      have hlen : (a.eval y).cells.toList.length = us.length := hcu.1.symm
      obtain ⟨w', r1, r2, r3, r4⟩ := run_skip (o := ⟨none, .store t x y, ty, pos, af, gd⟩) (G.D.store (ty := ty) (cs := cur.toList) (o := i * sz + off) (g := g') p2 q2 (vs := (a.eval y).cells.toList) (by simp) hs (by rw [hlen, hm]) (by unfold Blk; simpa using f6) (by rw [hlen]; omega) (hc.ones (by simpa [IV.one, Function.comp] using h1))) rfl rfl rfl
      refine ⟨w', τ, r1, h.turn h0 (Gr.of_grown r3 fun b hb => by rw [f1]; exact hb) fun hok => ?_⟩
      have hvs : vs = cur.toList.take (rows.length * sz) := f10.symm
      -- the cells behind it
      have hnew : AllU w (okOf c τ σ.sto) (rows.set i (row.take off ++ us ++ row.drop (off + us.length))).flatten ((cur.toList.take (i * sz + off) ++ (a.eval y).cells.toList ++ cur.toList.drop (i * sz + off + us.length)).take (rows.length * sz)) := by
        rw [flatten_set f3 hrow (by simp; omega)]
        have hfl : rows.flatten.length = rows.length * sz := flat_len f3
        have e1 : rows.flatten.take (i * sz) ++ (row.take off ++ us ++ row.drop (off + us.length)) ++ rows.flatten.drop (i * sz + sz) = rows.flatten.take (i * sz + off) ++ us ++ rows.flatten.drop (i * sz + off + us.length) := by
          have er : row = (rows.flatten.drop (i * sz)).take sz := by
            apply List.ext_getElem?
            intro q
            rw [List.getElem?_take]
            by_cases hq : q < sz
            · rw [if_pos hq, List.getElem?_drop, List.getElem?_eq_getElem (by omega)]
              exact (flatten_get f3 hrow (List.getElem?_eq_getElem (by omega))).symm
            · rw [if_neg hq, List.getElem?_eq_none (by omega)]
          rw [er, List.take_take, List.drop_take, List.drop_drop, Nat.min_eq_left (by omega)]
          have t1 : rows.flatten.take (i * sz + off) = rows.flatten.take (i * sz) ++ (rows.flatten.drop (i * sz)).take off := by rw [List.take_add]
          have t2 : rows.flatten.drop (i * sz + off + us.length) = (rows.flatten.drop (i * sz + (off + us.length))).take (sz - (off + us.length)) ++ rows.flatten.drop (i * sz + sz) := by
            rw [show i * sz + off + us.length = i * sz + (off + us.length) by omega]
            have := List.take_append_drop (sz - (off + us.length)) (rows.flatten.drop (i * sz + (off + us.length)))
            rw [List.drop_drop, show i * sz + (off + us.length) + (sz - (off + us.length)) = i * sz + sz by omega] at this
            exact this.symm
          rw [t1, t2]
          simp
        rw [e1]
        have e2 : (cur.toList.take (i * sz + off) ++ (a.eval y).cells.toList ++ cur.toList.drop (i * sz + off + us.length)).take (rows.length * sz) = vs.take (i * sz + off) ++ (a.eval y).cells.toList ++ vs.drop (i * sz + off + us.length) := by
          have hAB : (cur.toList.take (i * sz + off) ++ (a.eval y).cells.toList).length = i * sz + off + us.length := by
            rw [List.length_append, List.length_take, Nat.min_eq_left (by omega), hlen]
          rw [hvs, List.take_append, hAB, List.take_of_length_le (by rw [hAB]; omega), List.take_take, Nat.min_eq_left (by omega), List.drop_take]
        rw [e2]
        exact ((f2.take _).app hcu).app (f2.drop _)
      refine ⟨_, ⟨?_, .inr ⟨g', cap, (cur.toList.take (i * sz + off) ++ (a.eval y).cells.toList ++ cur.toList.drop (i * sz + off + us.length)).toArray, by rw [f1]; simp, Nat.zero_le _, by rw [← hlen]; exact r2, by simpa using f7, f8, ?_, rfl⟩⟩, ?_, fun r hr => ?_, f4, fun u hu => ?_⟩
      · have hA1 : (cur.toList.take (i * sz + off)).length = i * sz + off := by rw [List.length_take, Nat.min_eq_left (by omega)]
        simp only [List.length_take, List.length_append, hlen, List.length_drop, List.length_set, Nat.min_eq_left (show i * sz + off ≤ cur.toList.length by omega)]
        omega
      · simp only [List.size_toArray, List.length_append, List.length_take, List.length_drop, hlen]
        have e : cur.toList.length = cap * sz := by rw [Array.length_toList]; exact f9
        have := Nat.mul_le_mul_right sz f7
        rw [e]
        omega
      · simp only [List.length_set]
        exact hnew.mono (by rw [r4]; exact Nat.le_refl _) hok
      · rcases List.mem_or_eq_of_mem_set hr with hr | hr
        · exact f3 r hr
        · rw [hr]; simp; omega
      · obtain ⟨r, hr, hu⟩ := List.mem_flatten.1 hu
        rcases List.mem_or_eq_of_mem_set hr with hr | hr
        · exact f5 u (List.mem_flatten.2 ⟨r, hr, hu⟩)
        · rw [hr] at hu
          rcases List.mem_append.1 hu with hu | hu
          · rcases List.mem_append.1 hu with hu | hu
            · exact f5 u (List.mem_flatten.2 ⟨row, row_mem hrow, List.mem_of_mem_take hu⟩)
            · exact List.all_eq_true.1 h1 u hu
          · exact f5 u (List.mem_flatten.2 ⟨row, row_mem hrow, List.mem_of_mem_drop hu⟩)

/-! ### New slices -/
theorem run_value {o : Oper} {R : Value → World → Prop} {ρ : Operand → Value} {op : Op} {ty : TypeId} (h : G.Makes P w (actF a) op ty R) (h1 : o.op = op) (h2 : o.type = ty) (h3 : ρ = a.eval) : ∃ v w', (execOp ρ o).run P w = .ok (.value v) w' ∧ R v w' := by
  subst h3
  exact h o a.eval h1 h2 (fun _ _ _ hx => actF_of hx)
theorem O.make {x y : Operand} {t e : TypeId} {k k' : IntKind} {m kk sz : Nat} {mx my : Int} {z : Value} {zr : List UV} {inf : TypeInfo} (hx : ev F x = some (.u (.sc (.int k mx)))) (hy : ev F y = some (.u (.sc (.int k' my)))) (ex : mx = (m : Int)) (ey : my = (m : Int)) (ht : P.underlying t = some (.slice e)) (hi : P.info? e = some inf)
    (hz : inf.zero = some z) (hs : inf.size = sz) (hzr : (z.cells.toList.map .sc) = zr) (hzl : zr.length = sz) (hp : 0 < sz) (h1 : zr.all UV.one = true) (hb : inf.bytes * m ≤ 281474976710656) (hm : m ≤ 9223372036854775807) (hd : Nat.blt d c.n = true) (hg : Taken ops F gd) :
    OpOk c P ops ⟨some d, .makeSlice t x y, ty, pos, af, gd⟩ F S [kk] [kk] (some (.own kk)) [(kk, some (.data e sz (List.replicate m zr)))] := by
  refine OpOk.mem hd hg fun σ τ a w hA _ hN h => ?_
  subst ex; subst ey; subst hzr
  have hzl' : z.cells.toList.length = sz := by simpa using hzl
  obtain ⟨v, w', r1, g, rfl, rfl, r4, r5, r6⟩ := run_value (o := ⟨some d, .makeSlice t x y, ty, pos, af, gd⟩) (G.M.make (P := P) (w := w) (ty := ty) (E := encRow sz hp) (zx := ⟨z.cells.toList, hzl'⟩) (h.sc hA (by simp [Op.operands]) hx).2 (h.sc hA (by simp [Op.operands]) hy).2 ht hi hz hs (by simp [encRow]) hb hm) rfl rfl rfl
  have := h.new (k := kk) (sb := .data e sz (List.replicate m (z.cells.toList.map .sc))) (v := .slice (some ⟨w.heap.size, 0, none⟩) m m) hN r5 (fun b hb => by cases hb; exact Nat.le_refl _)
    (fun hok => RepB.of_own hp (xs := List.replicate m ⟨z.cells.toList, hzl'⟩) (by rw [upτ_eq]; exact r6.mono (Nat.zero_le _)) ⟨by simp, fun i row x q1 q2 => ?_⟩ (fun u hu => ?_))
  · have e' := own_one (this.1.sto kk (.data e sz (List.replicate m (z.cells.toList.map .sc))) (by simp [Sig.upd, look]))
    have hr := RepI.own (τ := upτ τ kk (.slice (some ⟨w.heap.size, 0, none⟩) m m)) (w := w') (ok := okOf c (upτ τ kk (.slice (some ⟨w.heap.size, 0, none⟩) m m)) (σ.upd none none [(kk, some (.data e sz (List.replicate m (z.cells.toList.map .sc))))]).sto) kk e'
    rw [upτ_eq] at hr
    exact ⟨_, w', _, r1, this.1, hr⟩
  · rw [List.getElem?_replicate] at q1 q2
    split at q1
    · rename_i hh
      rw [if_pos hh] at q2
      cases q1; cases q2
      exact ⟨by simp, fun j u v z1 z2 => by rw [List.getElem?_map, z2] at z1; cases z1; exact .sc v⟩
    · cases q1
  · obtain ⟨r, hr, hu⟩ := List.mem_flatten.1 hu
    rw [(List.mem_replicate.1 hr).2] at hu
    exact List.all_eq_true.1 h1 u hu

/-- append onto a slice of the call's own: a new name for it. -/
theorem O.app {x y : Operand} {t e : TypeId} {k k' sz : Nat} {rows ys rows' : List (List UV)} {inf : TypeInfo} {z : Value} (hx : ev F x = some (.own k)) (hS : lookS k S = some (.data e sz rows)) (hs : SlOf F S T y sz ys)
    (ht : P.underlying t = some (.slice e)) (hi : P.info? e = some inf) (hz : inf.zero = some z) (hsz : inf.size = sz) (hzs : z.cells.size = sz) (hne : Nat.beq k k' = false) (hr : rows ++ ys = rows')
    (hb : (rows.length + ys.length) * inf.bytes ≤ 140737488355328) (hlen : rows.length + ys.length ≤ 9223372036854775807) (hd : Nat.blt d c.n = true) (hg : Taken ops F gd) :
    OpOk c P ops ⟨some d, .call { callee := .builtin .append, args := #[x, y], argTypes := #[t, t] }, ty, pos, af, gd⟩ F S (k :: k' :: T) [k'] (some (.own k')) [(k', some (.data e sz rows')), (k, none)] := by
  subst hr
  refine OpOk.mem hd hg fun σ τ a w hA hB hN h => ?_
  have hkk : k ≠ k' := fun e => by subst e; simp at hne
  obtain ⟨p1, p2⟩ := h.opd hA (by simp [Op.operands, Call.operands]) hx
  obtain ⟨j, hy, hs⟩ := hs
  obtain ⟨q1, q2⟩ := h.opd hA (by simp [Op.operands, Call.operands]) hy
  have h0 := (hB k (by simp)).trans hS
  obtain ⟨hp, xs, o1, o2, o3⟩ := (h.sto k _ h0).own
  obtain ⟨_, xs', lo, hi', s1, s2, s3⟩ := hs c σ τ a w _ (fun q hq => hB q (by simp [hq])) h q1
  generalize a.eval x = v at p1 p2
  cases p1 with
  | own _ hone =>
    have hcl : ∀ y ∈ xs', G.cells1 ((encRow sz hp).cells y) = true := by
      intro y hy
      refine List.all_eq_true.2 fun u hu => ?_
      obtain ⟨i, hi1, hi2⟩ := List.mem_iff_getElem.1 hy
      have hrl : i < ys.length := by rw [s2.1]; exact hi1
      have hrow := s2.2 i ys[i] y (List.getElem?_eq_getElem hrl) (by rw [List.getElem?_eq_getElem hi1, hi2])
      obtain ⟨q, hq1, hq2⟩ := List.mem_iff_getElem.1 hu
      have hq3 : q < ys[i].length := by rw [hrow.1]; exact hq1
      have hrep := hrow.2 q (ys[i])[q] u (List.getElem?_eq_getElem hq3) (by
        have : ((encRow sz hp).cells y)[q]? = some u := by rw [List.getElem?_eq_getElem hq1]; exact congrArg some hq2
        exact this)
      exact (RepI.u (τ := τ) hrep).isOne (s3 _ (List.mem_flatten.2 ⟨ys[i], List.getElem_mem hrl, List.getElem_mem hq3⟩))
    obtain ⟨v', w', r1, r2, r3, r4⟩ := run_value (o := ⟨some d, .call { callee := .builtin .append, args := #[x, y], argTypes := #[t, t] }, ty, pos, af, gd⟩)
      (G.M.append (P := P) (ty := ty) p2 q2 o1 s1 ht hi hz hsz hzs hcl (by rw [← o2.1, ← s2.1]; exact hb) (by rw [← o2.1, ← s2.1]; exact hlen) (Nat.zero_le _)) rfl rfl rfl
    · have hv : vblk (τ k) = (τ k).ownBlock := vblk_own o1
      have hv' : vblk v' = v'.ownBlock := vblk_own r2
      have hl1 : ∀ q x, look q [(k', some (SB.data e sz (rows ++ ys))), (k, none)] = some (some x) → q = k' ∧ x = .data e sz (rows ++ ys) := fun q x hq => by
        by_cases e1 : k' = q
        · subst e1; rw [look_eq] at hq; simp at hq; exact ⟨rfl, hq.symm⟩
        · rw [look_ne e1] at hq
          by_cases e2 : k = q
          · subst e2; rw [look_eq] at hq; cases hq
          · rw [look_ne e2] at hq; simp [look] at hq
      have hk0 : look k [(k', some (SB.data e sz (rows ++ ys))), (k, none)] ≠ none := by rw [look_ne (Ne.symm hkk), look_eq]; simp
      have := h.chg (N := [k']) (τ' := upτ τ k' v') (δ := [(k', some (.data e sz (rows ++ ys))), (k, none)]) (B := fun b => vblk (τ k) = some b) hN (Gr.of_grown r3 fun b hb => by rw [hv, hb])
        (fun b hb _ => ⟨k, _, hk0, h0, hb⟩) (fun q hq => upτ_ne (by simpa using hq))
        (fun q s hq b hb => by
          obtain ⟨rfl, _⟩ := hl1 q s hq
          rw [upτ_eq, hv'] at hb
          rcases r4 with r4 | r4
          · exact .inr ⟨k, _, hk0, h0, by rw [hv, ← r4, hb]⟩
          · rw [r4] at hb; cases hb; exact .inl (Nat.le_refl _))
        (fun q q' s s' b hq hq' _ _ => by rw [(hl1 q s hq).1, (hl1 q' s' hq').1])
        (fun hok q s hq => by
          obtain ⟨rfl, rfl⟩ := hl1 q s hq
          refine RepB.of_own hp (xs := xs ++ xs') (by rw [upτ_eq]; exact r2) ((o2.app s2).mono r3.size hok) fun u hu => ?_
          rw [List.flatten_append, List.mem_append] at hu
          rcases hu with hu | hu
          · exact o3 u hu
          · exact s3 u hu)
      have e' := own_one (this.1.sto k' (.data e sz (rows ++ ys)) (by simp [Sig.upd, look]))
      have hr := RepI.own (τ := upτ τ k' v') (w := w') (ok := okOf c (upτ τ k' v') (σ.upd none none [(k', some (.data e sz (rows ++ ys))), (k, none)]).sto) k' e'
      rw [upτ_eq] at hr
      exact ⟨_, w', _, r1, this.1, hr⟩

/-- A nil slice, as one of the call's own. -/
theorem Sat.adopt {S : Sto} {F : Frm} (t k : Nat) (e : TypeId) (sz : Nat) (hp : 0 < sz) (hx : look t F = some (.u (.sc (.slice none 0 0)))) (hf : freshB [k] F S = true) (hk : disj [k] c.pk = true) (h : Sat c (mk F S) a w) :
    Sat c (mk ((t, .own k) :: F) ((k, .data e sz []) :: S)) a w := by
  obtain ⟨τ, h⟩ := h
  have hfr := freshB_spec hf
  have := h.new (k := k) (sb := .data e sz []) (v := .slice none 0 0) (fun j hj => ⟨(hfr j hj).1, (hfr j hj).2, disj_spec hk j hj⟩) (Ext.rfl' w) (fun b hb => by simp [vblk] at hb)
    (fun _ => RepB.of_own hp (xs := []) (by rw [upτ_eq]; exact G.Own.nil _ _ _ _) ⟨rfl, fun i row x h1 => by simp at h1⟩ (by simp))
  obtain ⟨u, h1, h2⟩ := h.slot t _ hx
  refine ⟨upτ τ k (.slice none 0 0), ?_⟩
  have he := mk_upd none none [(k, some (.data e sz []))] F S
  have hsat := this.1
  rw [← he] at hsat
  refine ⟨hsat.size, hsat.defers, hsat.gr, fun s i hl => ?_, hsat.sto, hsat.inj, hsat.own, hsat.pin⟩
  by_cases e2 : t = s
  · subst e2
    have : i = .own k := by
      have : look t ((t, IV.own k) :: F) = some i := hl
      rw [look_eq] at this; exact (Option.some.inj this).symm
    subst this
    cases h2 with
    | u h2 =>
      cases h2
      refine ⟨_, h1, ?_⟩
      have hr := RepI.own (τ := upτ τ k (.slice none 0 0)) (w := w) (ok := okOf c (upτ τ k (.slice none 0 0)) (mk ((t, .own k) :: F) ((k, .data e sz []) :: S)).sto) k (by rw [upτ_eq]; rfl)
      rw [upτ_eq] at hr
      exact hr
  · have : look s ((t, IV.own k) :: F) = some i := hl
    rw [look_ne e2] at this
    exact hsat.slot s i this
end
section
variable {c : Ctx} {P : Program} {Q : Exit → Act → World → Prop} {F : Frm} {S : Sto} {ops : Array Oper} {l : List Oper}
theorem W.adopt {cd : Code} (t k : Nat) (e : TypeId) (sz : Nat) (hp : 0 < sz) (hx : look t F = some (.u (.sc (.slice none 0 0)))) (hf : freshB [k] F S = true) (hk : disj [k] c.pk = true)
    (h : W c P cd Q ((t, .own k) :: F) ((k, .data e sz []) :: S)) : W c P cd Q F S := fun a w ha => h a w (ha.adopt t k e sz hp hx hf hk)
theorem SL.adopt (t k : Nat) (e : TypeId) (sz : Nat) (hp : 0 < sz) (hx : look t F = some (.u (.sc (.slice none 0 0)))) (hf : freshB [k] F S = true) (hk : disj [k] c.pk = true)
    (h : SL c P ops Q l ((t, .own k) :: F) ((k, .data e sz []) :: S)) : SL c P ops Q l F S := fun a w ha => h a w (ha.adopt t k e sz hp hx hf hk)
end
end Go.H
