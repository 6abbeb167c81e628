/-
  Turning a part of a slice of the call's own: copy, clear, deleting in place.
-/
import Derived.Test.YtfmgpocbpbfalaaHTyp
namespace Go.H
open Go Go.RowKit
open Go.G (Ext Gr Blk)
section
variable {c : Ctx} {P : Program} {F : Frm} {S : Sto} {ops : Array Oper} {T : List Nat} {d : Nat} {ty : TypeId} {pos : String} {af : Array Edge} {gd : Option (Nat × Bool)} {σ : Sig} {τ : Nat → Value} {a : Act} {w : World}
  {k tb sz lo : Nat} {rows ys rows' : List (List UV)}
theorem splice_flat (hr : ∀ r ∈ rows, r.length = sz) (hy : ∀ r ∈ ys, r.length = sz) : (rows.take lo ++ ys ++ rows.drop (lo + ys.length)).flatten = rows.flatten.take (lo * sz) ++ ys.flatten ++ rows.flatten.drop (lo * sz + ys.flatten.length) := by
  have hyl : ys.flatten.length = ys.length * sz := flat_len hy
  have key : ∀ (m : Nat) (l : List (List UV)), (∀ r ∈ l, r.length = sz) → (l.take m).flatten = l.flatten.take (m * sz) ∧ (l.drop m).flatten = l.flatten.drop (m * sz) := by
    intro m l
    induction l generalizing m with
    | nil => intro _; simp
    | cons r l ih =>
      intro h
      have e := h r (by simp)
      cases m with
      | zero => simp
      | succ m =>
        obtain ⟨i1, i2⟩ := ih m (fun q hq => h q (by simp [hq]))
        have t1 : r.take ((m + 1) * sz) = r := List.take_of_length_le (by rw [e, Nat.succ_mul]; omega)
        have t2 : r.drop ((m + 1) * sz) = [] := List.drop_eq_nil_of_le (by rw [e, Nat.succ_mul]; omega)
        rw [List.take_succ_cons, List.drop_succ_cons, List.flatten_cons, List.flatten_cons, List.take_append, List.drop_append, e, t1, t2, i1, i2]
        rw [show (m + 1) * sz - sz = m * sz by rw [Nat.succ_mul]; omega]
        exact ⟨rfl, rfl⟩
  rw [List.flatten_append, List.flatten_append, (key lo rows hr).1, (key (lo + ys.length) rows hr).2, hyl, Nat.add_mul]
theorem SatT.data (h : SatT c σ τ a w) (h0 : σ.sto k = some (.data tb sz rows)) :
    0 < sz ∧ (∀ r ∈ rows, r.length = sz) ∧ (∀ u ∈ rows.flatten, u.one = true) ∧ ((τ k = .slice none 0 0 ∧ rows = []) ∨ ∃ g cap cur, τ k = .slice (some ⟨g, 0, none⟩) rows.length cap ∧ w.heap[g]? = some (.cells cur tb (0, 0)) ∧ rows.length ≤ cap ∧ cap ≤ maxLen ∧ cur.size = cap * sz ∧ AllU w (okOf c τ σ.sto) rows.flatten (cur.toList.take (rows.length * sz))) := by
  obtain ⟨vs, ⟨f0, f1⟩, f2, f3, f4, f5⟩ := h.sto k _ h0
  refine ⟨f4, f3, f5, ?_⟩
  rcases f1 with ⟨f1, f6⟩ | ⟨g, cap, cur, f1, _, f6, f7, f8, f9, f10⟩
  · exact .inl ⟨f1, List.eq_nil_of_length_eq_zero f6⟩
  · subst f10
    exact .inr ⟨g, cap, cur, f1, f6, f7, f8, f9, f2⟩
/-- Rows of it are turned. -/
theorem SatT.seg {g cap : Nat} {cur : Array Value} {xs : List Value} (h : SatT c σ τ a w) (h0 : σ.sto k = some (.data tb sz rows)) (hk : τ k = .slice (some ⟨g, 0, none⟩) rows.length cap) (hg : w.heap[g]? = some (.cells cur tb (0, 0)))
    (hx : AllU w (okOf c τ σ.sto) ys.flatten xs) (hy : ∀ r ∈ ys, r.length = sz) (h1 : ∀ u ∈ ys.flatten, u.one = true) (hfit : lo + ys.length ≤ rows.length) (hq : rows.take lo ++ ys ++ rows.drop (lo + ys.length) = rows') :
    SatT c (σ.upd none none [(k, some (.data tb sz rows'))]) τ a (w.setRow g (cur.toList.take (lo * sz) ++ xs ++ cur.toList.drop (lo * sz + xs.length)).toArray) := by
  obtain ⟨f4, f3, f5, hd⟩ := h.data h0
  subst hq
  rcases hd with ⟨e, _⟩ | ⟨g', cap', cur', e, f6, f7, f8, f9, f2⟩
  · rw [hk] at e; cases e
  · rw [hk] at e
    simp only [Value.slice.injEq, Option.some.injEq, Addr.mk.injEq, and_true, true_and] at e
    obtain ⟨rfl, rfl⟩ := e
    rw [hg] at f6
    simp only [Option.some.injEq, Obj.cells.injEq, and_true] at f6
    subst f6
    have hyl : ys.flatten.length = ys.length * sz := flat_len hy
    have hxl : xs.length = ys.length * sz := by rw [← hx.1, hyl]
    have hll : (lo + ys.length) * sz ≤ rows.length * sz := Nat.mul_le_mul_right _ hfit
    rw [Nat.add_mul] at hll
    have hcl : cur.toList.length = cap * sz := by rw [Array.length_toList]; exact f9
    have hrc : rows.length * sz ≤ cap * sz := Nat.mul_le_mul_right _ f7
    have hlen : (rows.take lo ++ ys ++ rows.drop (lo + ys.length)).length = rows.length := by simp; omega
    have hnl : (cur.toList.take (lo * sz) ++ xs ++ cur.toList.drop (lo * sz + xs.length)).length = cap * sz := by
      simp only [List.length_append, List.length_take, List.length_drop, hcl, hxl]; omega
    have hgr : w.grownBy (w.setRow g (cur.toList.take (lo * sz) ++ xs ++ cur.toList.drop (lo * sz + xs.length)).toArray) (some g) := ⟨rfl, rfl, rfl, by simp, fun q _ hq => setRow_other w g q _ (fun e => hq (by simp [e]))⟩
    refine h.turn h0 (Gr.of_grown hgr fun b hb => by rw [hk]; exact hb) fun hok => ?_
    refine ⟨_, ⟨?_, .inr ⟨g, cap, (cur.toList.take (lo * sz) ++ xs ++ cur.toList.drop (lo * sz + xs.length)).toArray, by rw [hk, hlen], Nat.zero_le _, setRow_heap w g cur _ tb _ hg, by rw [hlen]; exact f7, f8, by rw [List.size_toArray, hnl], rfl⟩⟩, ?_, fun r hr => ?_, f4, fun u hu => ?_⟩
    · rw [List.length_take, hlen]
      show min _ (cur.toList.take (lo * sz) ++ xs ++ cur.toList.drop (lo * sz + xs.length)).length = _
      rw [hnl]; omega
    · rw [hlen, splice_flat f3 hy]
      show AllU _ _ _ ((cur.toList.take (lo * sz) ++ xs ++ cur.toList.drop (lo * sz + xs.length)).take (rows.length * sz))
      have e2 : (cur.toList.take (lo * sz) ++ xs ++ cur.toList.drop (lo * sz + xs.length)).take (rows.length * sz) = (cur.toList.take (rows.length * sz)).take (lo * sz) ++ xs ++ (cur.toList.take (rows.length * sz)).drop (lo * sz + xs.length) := by
        have hAB : (cur.toList.take (lo * sz) ++ xs).length = lo * sz + xs.length := by rw [List.length_append, List.length_take, Nat.min_eq_left (by omega)]
        rw [List.take_append, hAB, List.take_of_length_le (by rw [hAB]; omega), List.take_take, Nat.min_eq_left (by omega), List.drop_take]
      rw [e2, hyl, ← hxl]
      exact (((f2.take _).app hx).app (f2.drop _)).mono (by simp) hok
    · rcases List.mem_append.1 hr with hr | hr
      · rcases List.mem_append.1 hr with hr | hr
        · exact f3 r (List.mem_of_mem_take hr)
        · exact hy r hr
      · exact f3 r (List.mem_of_mem_drop hr)
    · rw [splice_flat f3 hy] at hu
      rcases List.mem_append.1 hu with hu | hu
      · rcases List.mem_append.1 hu with hu | hu
        · exact f5 u (List.mem_of_mem_take hu)
        · exact h1 u hu
      · exact f5 u (List.mem_of_mem_drop hu)
theorem SatT.same {sb : SB} (h : SatT c σ τ a w) (h0 : σ.sto k = some sb) : SatT c (σ.upd none none [(k, some sb)]) τ a w :=
  h.turn h0 (Gr.refl _ _) fun hok => (h.sto k _ h0).mono (Nat.le_refl _) hok (fun _ _ => rfl) rfl (fun _ _ => rfl)
/-- A slice of the call's own, or a part of one: where it begins and ends. -/
def PartOf (F : Frm) (x : Operand) (k sz lo hi n : Nat) : Prop := (ev F x = some (.own k) ∧ lo = 0 ∧ hi = n) ∨ (ev F x = some (.osl k sz lo hi) ∧ lo ≤ hi ∧ hi ≤ n)
theorem PartOf.own {F : Frm} {x : Operand} {k sz n : Nat} (h : ev F x = some (.own k)) : PartOf F x k sz 0 n n := .inl ⟨h, rfl, rfl⟩
theorem PartOf.osl {F : Frm} {x : Operand} {k sz lo hi n : Nat} (h : ev F x = some (.osl k sz lo hi)) (h1 : lo ≤ hi) (h2 : hi ≤ n) : PartOf F x k sz lo hi n := .inr ⟨h, h1, h2⟩
theorem PartOf.le {F : Frm} {x : Operand} {hi n : Nat} (h : PartOf F x k sz lo hi n) : lo ≤ hi ∧ hi ≤ n := by
  rcases h with ⟨_, rfl, rfl⟩ | ⟨_, h1, h2⟩
  · exact ⟨Nat.zero_le _, Nat.le_refl _⟩
  · exact ⟨h1, h2⟩
theorem PartOf.val {o : Oper} {x : Operand} {hi : Nat} (hp : PartOf F x k sz lo hi rows.length) (h : SatT c σ τ a w) (hA : AgreeF (o.looksAt ops) F σ) (hm : x ∈ o.op.operands) (h0 : σ.sto k = some (.data tb sz rows)) :
    G.ev (actF a) x = some (a.eval x) ∧ ((rows = [] ∧ lo = 0 ∧ hi = 0 ∧ a.eval x = .slice none 0 0) ∨
      ∃ g cap cur A, τ k = .slice (some ⟨g, 0, none⟩) rows.length cap ∧ w.heap[g]? = some (.cells cur tb (0, 0)) ∧ rows.length ≤ cap ∧ cap ≤ maxLen ∧ cur.size = cap * sz ∧ AllU w (okOf c τ σ.sto) rows.flatten (cur.toList.take (rows.length * sz)) ∧ a.eval x = .slice (some A) (hi - lo) (cap - lo) ∧ (lo < cap → A = ⟨g, lo * sz, none⟩)) := by
  obtain ⟨f4, f3, f5, hd⟩ := h.data h0
  rcases hp with ⟨hx, rfl, rfl⟩ | ⟨hx, h1, h2⟩
  · obtain ⟨p1, p2⟩ := h.opd hA hm hx
    refine ⟨p2, ?_⟩
    generalize a.eval x = v at p1 p2
    cases p1
    rcases hd with ⟨e, e0⟩ | ⟨g, cap, cur, e, f6, f7, f8, f9, f2⟩
    · exact .inl ⟨e0, rfl, by rw [e0]; rfl, e⟩
    · exact .inr ⟨g, cap, cur, _, e, f6, f7, f8, f9, f2, by rw [e]; rfl, fun _ => by rw [Nat.zero_mul]⟩
  · obtain ⟨p1, p2⟩ := h.opd hA hm hx
    refine ⟨p2, ?_⟩
    generalize a.eval x = v at p1 p2
    cases p1 with
    | @osl _ _ _ _ n cc A hk q1 q2 =>
      rcases hd with ⟨e, e0⟩ | ⟨g, cap, cur, e, f6, f7, f8, f9, f2⟩
      · rw [hk] at e
        simp only [Value.slice.injEq] at e
        obtain ⟨rfl, rfl, rfl⟩ := e
        have : hi = 0 := by rw [e0] at h2; simpa using h2
        subst this
        have : lo = 0 := by omega
        subst this
        exact .inl ⟨e0, rfl, rfl, rfl⟩
      · rw [hk] at e
        simp only [Value.slice.injEq] at e
        obtain ⟨rfl, rfl, rfl⟩ := e
        by_cases hc : cc = lo
        · exact .inr ⟨g, cc, cur, _, hk, f6, f7, f8, f9, f2, by simp only [G.subSl]; rw [if_pos hc], fun h => absurd hc (by omega)⟩
        · exact .inr ⟨g, cc, cur, ⟨g, lo * sz, none⟩, hk, f6, f7, f8, f9, f2, by simp [G.subSl, if_neg hc, Addr.add_lit], fun _ => rfl⟩
theorem run_copy0 {t t' e ty : TypeId} {inf : TypeInfo} {A A' : Option Addr} {m cc c' : Nat} (ht : P.underlying t = some (.slice e)) (hi : P.info? e = some inf) :
    (Builtin.copy_ #[t, t'] ty #[.slice A m cc, .slice A' 0 c']).run P w = .ok (.int .i64 0) w := by
  cases A <;> cases A' <;> simp [Builtin.copy_, run_underlying ht, Builtin.lenOf, Builtin.firstCells, sizeOf, typeInfo, hi, storeCells, loadCells, loadCellsFrom, goInt]
theorem run_copyN {t t' e ty tb : TypeId} {inf : TypeInfo} {g o m cc l c' : Nat} {a' : Addr} {cs : List Value} {cur : Array Value} (ht : P.underlying t = some (.slice e)) (hi : P.info? e = some inf) (hlm : l ≤ m) (hl : cs.length = l * inf.size)
    (hs : G.At w a' cs) (hg : w.heap[g]? = some (.cells cur tb (0, 0))) (hfit : o + cs.length ≤ cur.size) (h1 : ∀ v ∈ cs, v.oneCell' = true) :
    (Builtin.copy_ #[t, t'] ty #[.slice (some ⟨g, o, none⟩) m cc, .slice (some a') l c']).run P w = .ok (.int .i64 l) (w.setRow g (cur.toList.take o ++ cs ++ cur.toList.drop (o + cs.length)).toArray) := by
  have hld := run_loadCells_list (P := P) w a' cs hs
  have hst := run_storeCells_at P g o tb cs 0 cur w hg (by simpa using hfit) h1
  rw [hl] at hld
  simp only [Nat.add_zero] at hst
  have hmin : Nat.min l m = l := Nat.min_eq_left hlm
  simp [Builtin.copy_, run_underlying ht, Builtin.lenOf, Builtin.firstCells, sizeOf, typeInfo, hi, hmin, hld, hst, goInt]
/-- copy into a slice of the call's own. -/
theorem O.copy {x y : Operand} {t t' e : TypeId} {hi : Nat} {inf : TypeInfo} (hx : PartOf F x k sz lo hi rows.length) (hS : lookS k S = some (.data tb sz rows)) (hy : SlOf F S T y sz ys) (ht : P.underlying t = some (.slice e)) (hi' : P.info? e = some inf) (hsz : inf.size = sz)
    (hfit : lo + ys.length ≤ hi) (hr : rows.take lo ++ ys ++ rows.drop (lo + ys.length) = rows') (hd : Nat.blt d c.n = true) (hg : Taken ops F gd) :
    OpOk c P ops ⟨some d, .call { callee := .builtin .copy, args := #[x, y], argTypes := #[t, t'] }, ty, pos, af, gd⟩ F S (k :: T) [] (some (.u (.sc (.int .i64 (ys.length : Nat))))) [(k, some (.data tb sz rows'))] := by
  refine OpOk.mem hd hg fun σ τ a w hA hB _ h => ?_
  have h0 := (hB k (by simp)).trans hS
  have hle := hx.le
  obtain ⟨p2, hv⟩ := hx.val h hA (by simp [Op.operands, Call.operands]) h0
  obtain ⟨f4, f3, f5, _⟩ := h.data h0
  obtain ⟨j, hy, hs⟩ := hy
  obtain ⟨q1, q2⟩ := h.opd hA (by simp [Op.operands, Call.operands]) hy
  obtain ⟨hp, xs', lo', hi2, s1, s2, s3⟩ := hs c σ τ a w _ (fun q hq => hB q (by simp [hq])) h q1
  obtain ⟨B, c', u1, u2, u3, u4⟩ := s1.out
  obtain ⟨s4, s5⟩ := AllRows.flat (h := hp) s2
  have hxl : xs'.length = ys.length := s2.1.symm
  have hrun : ∀ v w', (Builtin.copy_ #[t, t'] ty #[a.eval x, a.eval y]).run P w = .ok v w' → (execOp a.eval ⟨some d, .call { callee := .builtin .copy, args := #[x, y], argTypes := #[t, t'] }, ty, pos, af, gd⟩).run P w = .ok (.value v) w' := fun v w' h => by
    simp only [execOp, resolve, invoke, builtin, Sem.run_bind, Sem.run_pure, Result.andThen_ok, List.map_toArray, List.map_cons, List.map_nil, h]
  subst hsz
  by_cases hys : ys = []
  · subst hys
    have e0 : rows = rows' := by rw [← hr]; simp
    subst e0
    refine ⟨_, w, τ, hrun _ _ ?_, h.same h0, .u (.sc _)⟩
    have hx0 : xs'.length = 0 := by rw [hxl]; rfl
    rw [u1, hx0]
    rcases hv with ⟨_, _, _, hv⟩ | ⟨g, cap, cur, A, _, _, _, _, _, _, hv, _⟩
    · rw [hv]; exact run_copy0 ht hi'
    · rw [hv]; exact run_copy0 ht hi'
  · have hpos : 0 < ys.length := List.length_pos_iff.2 hys
    obtain ⟨a', rfl, _, _, hat⟩ := u4 (fun e => by rw [e] at hxl; simp at hxl; omega)
    rcases hv with ⟨e1, _, e2, _⟩ | ⟨g, cap, cur, A, hk, f6, f7, f8, f9, f2, hv, hAd⟩
    · omega
    · have hA' := hAd (by omega)
      subst hA'
      have hcl : ((encRow inf.size hp).all xs').length = ys.length * inf.size := by rw [← hxl]; exact G.Enc.all_length _ _
      have hll : (lo + ys.length) * inf.size ≤ cap * inf.size := Nat.mul_le_mul_right _ (by omega)
      rw [Nat.add_mul] at hll
      have hone : ∀ v ∈ (encRow inf.size hp).all xs', v.oneCell' = true := fun v hv => by
        obtain ⟨q, hq1, hq2⟩ := List.mem_iff_getElem.1 hv
        have hq3 : q < ys.flatten.length := by rw [s4.1]; exact hq1
        have hrep := s4.2 q ys.flatten[q] v (List.getElem?_eq_getElem hq3) (by rw [List.getElem?_eq_getElem hq1, hq2])
        exact (RepI.u (τ := τ) hrep).isOne (s3 _ (List.getElem_mem hq3))
      have hrn := run_copyN (ty := ty) (t' := t') (m := hi - lo) (cc := cap - lo) (c' := c') (l := ys.length) ht hi' (by omega) hcl hat f6 (by rw [hcl, f9]; exact hll) hone
      have hseg := h.seg (lo := lo) (xs := (encRow inf.size hp).all xs') h0 hk f6 s4 s5 s3 (by omega) hr
      refine ⟨_, _, τ, hrun _ _ (by rw [hv, u1, hxl]; exact hrn), hseg, .u (.sc _)⟩
/-- A part of a beginning (up to what the slice had). -/
theorem O.sub_osl {x : Operand} {l h : Option Operand} {t e : TypeId} {inf : TypeInfo} {i j hi : Nat} (hx : ev F x = some (.osl k sz 0 hi)) (hS : lookS k S = some (.data tb sz rows)) (hl : Bnd F l i 0) (hh : Bnd F h j hi) (h1 : i ≤ j) (h2 : j ≤ rows.length)
    (ht : P.underlying t = some (.slice e)) (he : P.info? e = some inf) (hs : inf.size = sz) (hd : Nat.blt d c.n = true) (hg : Taken ops F gd) :
    OpOk c P ops ⟨some d, .slice t x l h none, ty, pos, af, gd⟩ F S [k] [] (some (.osl k sz i j)) [] :=
  OpOk.runs hd hg fun σ τ a w hA hB hst => by
    obtain ⟨p1, p2⟩ := hst.opd hA (by simp [Op.operands]) hx
    have hl' := hl.run hst hA (fun y hy => by subst hy; simp [Op.operands])
    have hh' := hh.run hst hA (fun y hy => by subst hy; simp [Op.operands])
    obtain ⟨hp, xs, q1, q2, q3⟩ := (hst.sto k _ ((hB k (by simp)).trans hS)).own
    obtain ⟨A, cc, e1, e2, _⟩ := q1.sl.out
    rw [← q2.1] at e1 e2
    generalize a.eval x = v at p1 p2
    cases p1 with
    | @osl _ _ _ _ n c' A' hk r1 r2 =>
      rw [hk] at e1
      simp only [Value.slice.injEq] at e1
      obtain ⟨rfl, rfl, rfl⟩ := e1
      have hA0 : (if c' = 0 then A' else A'.map (·.add (0 * sz))) = A' := by
        split
        · rfl
        · cases A' with
          | none => rfl
          | some q => simp [Addr.add]
      simp only [G.subSl] at p2
      rw [hA0] at p2
      have := run_sub (w := w) (ty := ty) p2 (by omega) hl' (by simpa using hh') h1 (by omega) ht he hs
      refine ⟨_, this, ?_⟩
      have hr := RepI.osl (τ := τ) (w := w) (ok := okOf c τ σ.sto) (k := k) (sz := sz) (lo := i) (hi := j) hk h1 (by omega)
      simpa [G.subSl] using hr
/-- With a third bound: nobody reads what it gives. -/
theorem O.sub3_own {x l h m : Operand} {t e : TypeId} {inf : TypeInfo} {i j q : Nat} {k1 k2 k3 : IntKind} {a1 a2 a3 : Int} (hx : ev F x = some (.own k)) (hS : lookS k S = some (.data tb sz rows)) (hl : ev F l = some (.u (.sc (.int k1 a1)))) (e1 : a1 = (i : Int)) (hh : ev F h = some (.u (.sc (.int k2 a2)))) (e2 : a2 = (j : Int)) (hm : ev F m = some (.u (.sc (.int k3 a3)))) (e3 : a3 = (q : Int)) (h1 : i ≤ j) (h2 : j ≤ q) (h3 : q ≤ rows.length)
    (ht : P.underlying t = some (.slice e)) (he : P.info? e = some inf) (hd : Nat.blt d c.n = true) (hg : Taken ops F gd) :
    OpOk c P ops ⟨some d, .slice t x (some l) (some h) (some m), ty, pos, af, gd⟩ F S [k] [] (some .junk) [] :=
  OpOk.runs hd hg fun σ τ a w hA hB hst => by
    subst e1; subst e2; subst e3
    obtain ⟨p1, p2⟩ := hst.opd hA (by simp [Op.operands]) hx
    obtain ⟨_, p3⟩ := hst.opd hA (by simp [Op.operands]) hl
    obtain ⟨_, p4⟩ := hst.opd hA (by simp [Op.operands]) hh
    obtain ⟨_, p5⟩ := hst.opd hA (by simp [Op.operands]) hm
    have v3 := (hst.sc hA (by simp [Op.operands]) hl).2
    have v4 := (hst.sc hA (by simp [Op.operands]) hh).2
    have v5 := (hst.sc hA (by simp [Op.operands]) hm).2
    obtain ⟨hp, xs, q1, q2, q3⟩ := (hst.sto k _ ((hB k (by simp)).trans hS)).own
    obtain ⟨A, cc, o1, o2, _⟩ := q1.sl.out
    rw [← q2.1] at o1 o2
    generalize a.eval x = v at p1 p2
    cases p1
    rw [o1] at p2
    refine ⟨.slice (if q = i then A else A.map (·.add (i * inf.size))) (j - i) (q - i), fun o ρ ho _ hρ => ?_, .junk _⟩
    simp only [execOp, ho, hρ x (by simp [Op.operands]) _ p2, hρ l (by simp [Op.operands]) _ v3, hρ h (by simp [Op.operands]) _ v4, hρ m (by simp [Op.operands]) _ v5, Option.map_some]
    have h4 : q ≤ cc := by omega
    simp [Instr.sliceAt, Instr.slice, Instr.sliceBounds, Instr.sliceBound, asIntOf, run_underlying ht, sizeOf, typeInfo, he, h1, h2, h4]
theorem OpOk.doesV (hg : Taken ops F gd) {op : Op} {N : List Nat} {δ : Chg}
    (H : ∀ σ τ a w, AgreeF ((⟨none, op, ty, pos, af, gd⟩ : Oper).looksAt ops) F σ → AgreeS T S σ → SatT c σ τ a w →
      ∃ v w' τ', (execOp a.eval ⟨none, op, ty, pos, af, gd⟩).run P w = .ok (.value v) w' ∧ SatT c (σ.upd none none δ) τ' a w') : OpOk c P ops ⟨none, op, ty, pos, af, gd⟩ F S T N none δ := by
  intro σ a w hA hB hN hS
  obtain ⟨τ, h⟩ := hS
  rw [if_pos (wanted_of h hA hg)]
  obtain ⟨v, w', τ', h1, h2⟩ := H σ τ a w hA hB h
  rw [h1]
  exact ⟨τ', h2⟩
theorem zero_rows {z : Value} {zr : List UV} {ok : Nat → Prop} (hzr : (z.cells.toList.map .sc) = zr) (hzl : zr.length = sz) (hp : 0 < sz) (n : Nat) : AllU w ok (List.replicate n zr).flatten (Builtin.zeroCells z.cells n).toList := by
  have hcs : z.cells.size = sz := by rw [← hzl, ← hzr]; simp
  have hrl : ∀ r ∈ List.replicate n zr, r.length = sz := fun r hr => by rw [List.eq_of_mem_replicate hr]; exact hzl
  have hfl : (List.replicate n zr).flatten.length = n * sz := by rw [flat_len hrl]; simp
  refine ⟨by rw [hfl]; simp [Builtin.zeroCells, hcs], fun j u v h1 h2 => ?_⟩
  have hj : j < n * sz := by rw [← hfl]; exact (List.getElem?_eq_some_iff.1 h1).1
  have hq : j / sz < n := Nat.div_lt_of_lt_mul (by rw [Nat.mul_comm]; exact hj)
  have hm : j % sz < sz := Nat.mod_lt _ hp
  have hrow : (List.replicate n zr)[j / sz]? = some zr := by simp [hq]
  have hg := flatten_get hrl hrow (List.getElem?_eq_getElem (show j % sz < zr.length by rw [hzl]; exact hm))
  rw [show j / sz * sz + j % sz = j by rw [Nat.mul_comm]; exact Nat.div_add_mod j sz, h1] at hg
  have hv : (Builtin.zeroCells z.cells n).toList[j]? = some z.cells[j % sz]! := by simp [Builtin.zeroCells, hcs, hj]
  rw [hv] at h2
  have e1 := Option.some.inj hg
  have e2 := Option.some.inj h2
  subst e2
  have hz : zr[j % sz]'(by rw [hzl]; exact hm) = .sc z.cells[j % sz]! := by
    subst hzr
    rw [List.getElem_map, getElem!_pos z.cells (j % sz) (by rw [hcs]; exact hm), Array.getElem_toList]
  rw [e1, hz]
  exact .sc _
theorem run_clearN {t e ty tb : TypeId} {inf : TypeInfo} {z : Value} {g o m cc : Nat} {cur : Array Value} (ht : P.underlying t = some (.slice e)) (hi : P.info? e = some inf) (hz : inf.zero = some z) (hm : 0 < m) (hg : w.heap[g]? = some (.cells cur tb (0, 0)))
    (hfit : o + (Builtin.zeroCells z.cells m).toList.length ≤ cur.size) (h1 : ∀ v ∈ (Builtin.zeroCells z.cells m).toList, v.oneCell' = true) :
    (Builtin.clear_ #[t] ty #[.slice (some ⟨g, o, none⟩) m cc]).run P w = .ok (.tuple #[]) (w.setRow g (cur.toList.take o ++ (Builtin.zeroCells z.cells m).toList ++ cur.toList.drop (o + (Builtin.zeroCells z.cells m).toList.length)).toArray) := by
  have hst := run_storeCells_at P g o tb _ 0 cur w hg (by simpa using hfit) h1
  simp only [Nat.add_zero] at hst
  obtain ⟨m', rfl⟩ : ∃ m', m = m' + 1 := ⟨m - 1, by omega⟩
  simp [Builtin.clear_, run_underlying ht, zeroValue, typeInfo, hi, hz, hst]
theorem run_clear0 {t e ty : TypeId} {A : Option Addr} {cc : Nat} (ht : P.underlying t = some (.slice e)) : (Builtin.clear_ #[t] ty #[.slice A 0 cc]).run P w = .ok (.tuple #[]) w := by
  cases A <;> simp [Builtin.clear_, run_underlying ht]
theorem O.clear {x : Operand} {t e : TypeId} {hi : Nat} {inf : TypeInfo} {z : Value} {zr : List UV} (hx : PartOf F x k sz lo hi rows.length) (hS : lookS k S = some (.data tb sz rows)) (ht : P.underlying t = some (.slice e)) (hi' : P.info? e = some inf) (hz : inf.zero = some z)
    (hzr : (z.cells.toList.map .sc) = zr) (hzl : zr.length = sz) (h1 : zr.all UV.one = true) (hr : rows.take lo ++ List.replicate (hi - lo) zr ++ rows.drop hi = rows') (hg : Taken ops F gd) :
    OpOk c P ops ⟨none, .call { callee := .builtin .clear, args := #[x], argTypes := #[t] }, ty, pos, af, gd⟩ F S [k] [] none [(k, some (.data tb sz rows'))] := by
  refine OpOk.doesV hg fun σ τ a w hA hB h => ?_
  have h0 := (hB k (by simp)).trans hS
  have hle := hx.le
  obtain ⟨p2, hv⟩ := hx.val h hA (by simp [Op.operands, Call.operands]) h0
  obtain ⟨f4, f3, f5, _⟩ := h.data h0
  have hrun : ∀ v w', (Builtin.clear_ #[t] ty #[a.eval x]).run P w = .ok v w' → (execOp a.eval ⟨none, .call { callee := .builtin .clear, args := #[x], argTypes := #[t] }, ty, pos, af, gd⟩).run P w = .ok (.value v) w' := fun v w' h => by
    simp only [execOp, resolve, invoke, builtin, Sem.run_bind, Sem.run_pure, Result.andThen_ok, List.map_toArray, List.map_cons, List.map_nil, h]
  by_cases hlh : lo = hi
  · subst hlh
    have e0 : rows = rows' := by rw [← hr]; simp
    subst e0
    refine ⟨.tuple #[], w, τ, hrun _ _ ?_, h.same h0⟩
    rcases hv with ⟨_, _, _, hv⟩ | ⟨g, cap, cur, A, _, _, _, _, _, _, hv, _⟩
    · rw [hv]; exact run_clear0 ht
    · rw [hv, Nat.sub_self]; exact run_clear0 ht
  · rcases hv with ⟨_, _, e2, _⟩ | ⟨g, cap, cur, A, hk, f6, f7, f8, f9, f2, hv, hAd⟩
    · omega
    · have hA' := hAd (by omega)
      subst hA'
      have hrl : ∀ r ∈ List.replicate (hi - lo) zr, r.length = sz := fun r hr => by rw [List.eq_of_mem_replicate hr]; exact hzl
      have hzo : ∀ u ∈ (List.replicate (hi - lo) zr).flatten, u.one = true := fun u hu => by
        obtain ⟨r, hr, hu⟩ := List.mem_flatten.1 hu
        rw [List.eq_of_mem_replicate hr] at hu
        exact List.all_eq_true.1 h1 u hu
      have s4 := zero_rows (w := w) (ok := okOf c τ σ.sto) hzr hzl f4 (hi - lo)
      have hcl : (Builtin.zeroCells z.cells (hi - lo)).toList.length = (hi - lo) * sz := by rw [← s4.1, flat_len hrl]; simp
      have hll : (lo + (hi - lo)) * sz ≤ cap * sz := Nat.mul_le_mul_right _ (by omega)
      rw [Nat.add_mul] at hll
      have hone : ∀ v ∈ (Builtin.zeroCells z.cells (hi - lo)).toList, v.oneCell' = true := fun v hv => by
        obtain ⟨q, hq1, hq2⟩ := List.mem_iff_getElem.1 hv
        have hq3 : q < (List.replicate (hi - lo) zr).flatten.length := by rw [s4.1]; exact hq1
        have hrep := s4.2 q _ v (List.getElem?_eq_getElem hq3) (by rw [List.getElem?_eq_getElem hq1, hq2])
        exact (RepI.u (τ := τ) hrep).isOne (hzo _ (List.getElem_mem hq3))
      have hrn := run_clearN (ty := ty) (m := hi - lo) (cc := cap - lo) (o := lo * sz) ht hi' hz (by omega) f6 (by rw [hcl, f9]; exact hll) hone
      have hseg := h.seg (lo := lo) (ys := List.replicate (hi - lo) zr) (rows' := rows') h0 hk f6 s4 hrl hzo (by simp; omega) (by rw [List.length_replicate, Nat.add_sub_cancel' hle.1]; exact hr)
      exact ⟨_, _, τ, hrun _ _ (by rw [hv]; exact hrn), hseg⟩
theorem run_appIn {t e ty tb : TypeId} {inf : TypeInfo} {g o s cc l c' : Nat} {a' : Addr} {cs : List Value} {cur : Array Value} (ht : P.underlying t = some (.slice e)) (hi : P.info? e = some inf) (hlm : s + l ≤ cc) (hl : cs.length = l * inf.size)
    (hs : G.At w a' cs) (hg : w.heap[g]? = some (.cells cur tb (0, 0))) (hfit : o + s * inf.size + cs.length ≤ cur.size) (h1 : ∀ v ∈ cs, v.oneCell' = true) :
    (Builtin.append_ #[t, t] ty #[.slice (some ⟨g, o, none⟩) s cc, .slice (some a') l c']).run P w = .ok (.slice (some ⟨g, o, none⟩) (s + l) cc) (w.setRow g (cur.toList.take (o + s * inf.size) ++ cs ++ cur.toList.drop (o + s * inf.size + cs.length)).toArray) := by
  have hld := run_loadCells_list (P := P) w a' cs hs
  have hst := run_storeCells_at P g (o + s * inf.size) tb cs 0 cur w hg (by simpa using hfit) h1
  rw [hl] at hld
  simp only [Nat.add_zero] at hst
  simp [Builtin.append_, run_underlying ht, Builtin.lenOf, Builtin.firstCells, sizeOf, typeInfo, hi, hlm, hld, hst, Addr.add_lit]
theorem run_app0 {t e ty : TypeId} {inf : TypeInfo} {A A' : Option Addr} {s cc c' : Nat} (ht : P.underlying t = some (.slice e)) (hi : P.info? e = some inf) (h : s ≤ cc) :
    (Builtin.append_ #[t, t] ty #[.slice A s cc, .slice A' 0 c']).run P w = .ok (.slice A s cc) w := by
  cases A <;> cases A' <;> simp [Builtin.append_, run_underlying ht, Builtin.lenOf, Builtin.firstCells, sizeOf, typeInfo, hi, h, storeCells, loadCells, loadCellsFrom]
/-- append onto a beginning, in place. -/
theorem O.appIn {x y : Operand} {t e : TypeId} {i m : Nat} {inf : TypeInfo} (hx : ev F x = some (.osl k sz 0 i)) (hS : lookS k S = some (.data tb sz rows)) (hy : SlOf F S T y sz ys) (ht : P.underlying t = some (.slice e)) (hi' : P.info? e = some inf) (hsz : inf.size = sz)
    (hfit : i + ys.length ≤ rows.length) (hm : i + ys.length = m) (hr : rows.take i ++ ys ++ rows.drop (i + ys.length) = rows') (hd : Nat.blt d c.n = true) (hg : Taken ops F gd) :
    OpOk c P ops ⟨some d, .call { callee := .builtin .append, args := #[x, y], argTypes := #[t, t] }, ty, pos, af, gd⟩ F S (k :: T) [] (some (.osl k sz 0 m)) [(k, some (.data tb sz rows'))] := by
  subst hm
  refine OpOk.mem hd hg fun σ τ a w hA hB _ h => ?_
  have h0 := (hB k (by simp)).trans hS
  obtain ⟨p1, p2⟩ := h.opd hA (by simp [Op.operands, Call.operands]) hx
  obtain ⟨f4, f3, f5, hdt⟩ := h.data h0
  obtain ⟨j, hy, hs⟩ := hy
  obtain ⟨q1, q2⟩ := h.opd hA (by simp [Op.operands, Call.operands]) hy
  obtain ⟨hp, xs', lo', hi2, s1, s2, s3⟩ := hs c σ τ a w _ (fun q hq => hB q (by simp [hq])) h q1
  obtain ⟨B, c', u1, u2, u3, u4⟩ := s1.out
  obtain ⟨s4, s5⟩ := AllRows.flat (h := hp) s2
  have hxl : xs'.length = ys.length := s2.1.symm
  have hrun : ∀ v w', (Builtin.append_ #[t, t] ty #[a.eval x, a.eval y]).run P w = .ok v w' → (execOp a.eval ⟨some d, .call { callee := .builtin .append, args := #[x, y], argTypes := #[t, t] }, ty, pos, af, gd⟩).run P w = .ok (.value v) w' := fun v w' h => by
    simp only [execOp, resolve, invoke, builtin, Sem.run_bind, Sem.run_pure, Result.andThen_ok, List.map_toArray, List.map_cons, List.map_nil, h]
  subst hsz
  obtain ⟨n, cc, A, hk, hin, hval⟩ : ∃ n cc A, τ k = .slice A n cc ∧ i ≤ n ∧ a.eval x = .slice A i cc := by
    generalize a.eval x = v at p1
    cases p1 with
    | @osl _ _ _ _ n c' A' hk r1 r2 =>
      refine ⟨n, c', A', hk, r2, ?_⟩
      simp only [G.subSl, Nat.sub_zero]
      congr 1
      split
      · rfl
      · cases A' with
        | none => rfl
        | some q => simp [Addr.add]
  have hrep : ∀ (τ' : Nat → Value) (w' : World) (ok' : Nat → Prop) (m : Nat), τ' k = .slice A n cc → m ≤ n → RepI τ' w' ok' (.osl k inf.size 0 m) (.slice A m cc) := fun τ' w' ok' m hk' hm => by
    have := RepI.osl (τ := τ') (w := w') (ok := ok') (k := k) (sz := inf.size) (lo := 0) (hi := m) hk' (Nat.zero_le _) hm
    have e : G.subSl (.slice A n cc) inf.size 0 m = .slice A m cc := by
      simp only [G.subSl, Nat.sub_zero]
      congr 1
      split
      · rfl
      · cases A with
        | none => rfl
        | some q => simp [Addr.add]
    rwa [e] at this
  have hcc : n ≤ cc := by
    rcases hdt with ⟨e, e0⟩ | ⟨g, cap, cur, e, _, f7, _⟩
    · rw [hk] at e; simp only [Value.slice.injEq] at e; omega
    · rw [hk] at e; simp only [Value.slice.injEq] at e; omega
  by_cases hys : ys = []
  · subst hys
    have e0 : rows = rows' := by rw [← hr]; simp
    subst e0
    have hx0 : xs'.length = 0 := by rw [hxl]; rfl
    refine ⟨_, w, τ, hrun _ _ ?_, h.same h0, hrep τ w _ (i + ([] : List (List UV)).length) hk (by simpa using hin)⟩
    rw [u1, hx0, hval]
    exact run_app0 ht hi' (by omega)
  · have hpos : 0 < ys.length := List.length_pos_iff.2 hys
    obtain ⟨a', rfl, _, _, hat⟩ := u4 (fun e => by rw [e] at hxl; simp at hxl; omega)
    rcases hdt with ⟨e, e0⟩ | ⟨g, cap, cur, e, f6, f7, f8, f9, f2⟩
    · have := congrArg List.length e0; simp only [List.length_nil] at this; omega
    · have e' := e
      rw [hk] at e'
      simp only [Value.slice.injEq] at e'
      obtain ⟨rfl, rfl, rfl⟩ := e'
      have hcl : ((encRow inf.size hp).all xs').length = ys.length * inf.size := by rw [← hxl]; exact G.Enc.all_length _ _
      have hll : (i + ys.length) * inf.size ≤ cc * inf.size := Nat.mul_le_mul_right _ (by omega)
      rw [Nat.add_mul] at hll
      have hone : ∀ v ∈ (encRow inf.size hp).all xs', v.oneCell' = true := fun v hv => by
        obtain ⟨q, hq1, hq2⟩ := List.mem_iff_getElem.1 hv
        have hq3 : q < ys.flatten.length := by rw [s4.1]; exact hq1
        have hrp := s4.2 q ys.flatten[q] v (List.getElem?_eq_getElem hq3) (by rw [List.getElem?_eq_getElem hq1, hq2])
        exact (RepI.u (τ := τ) hrp).isOne (s3 _ (List.getElem_mem hq3))
      have hrn := run_appIn (ty := ty) (o := 0) (s := i) (cc := cc) (c' := c') (l := ys.length) ht hi' (by omega) hcl hat f6 (by rw [hcl, f9]; omega) hone
      rw [Nat.zero_add] at hrn
      have hseg := h.seg (lo := i) (xs := (encRow inf.size hp).all xs') h0 hk f6 s4 s5 s3 hfit hr
      refine ⟨_, _, τ, hrun _ _ (by rw [hval, u1, hxl]; exact hrn), hseg, hrep τ _ _ _ hk hfit⟩
end
theorem IV.renL_u {ρ : Nat → Nat} : ∀ c : List UV, IV.renL ρ (c.map .u) = c.map .u
  | [] => rfl
  | _ :: r => by rw [List.map_cons, IV.renL, IV.renL_u r]; rfl
theorem ArgsOk.caps {ρ : Nat → Nat} {S : Sto} {bor : List Nat} : ∀ c : List UV, ArgsOk ρ S bor (c.map .u) (c.map .u)
  | [] => trivial
  | _ :: r => ⟨ArgOk.same rfl, ArgsOk.caps r⟩
theorem ArgOk.fnc {ρ : Nat → Nat} {S : Sto} {bor : List Nat} {fn : Fn} : ArgOk ρ S bor (.u (.sc (.func fn #[] #[]))) (.u (.clo fn [] [])) := fun c σ τ a w v _ hS hr => by
  cases hr with
  | u h =>
    cases h
    exact .u (.clo (vf := []) (vc := []) rfl (fun i u v h => by simp at h) rfl (fun i u v h => by simp at h))
end Go.H
