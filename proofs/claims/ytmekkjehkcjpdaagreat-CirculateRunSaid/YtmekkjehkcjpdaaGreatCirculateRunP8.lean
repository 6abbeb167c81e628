/-
  What the proof rests on: part 8 of 14.
-/
import Derived.Test.YtmekkjehkcjpdaaGreatCirculateRunP7
import Derived.ChangeArms
import Derived.Test.YtmekkjehkcjpdaaGreatRows
section
namespace Go.H
open Go Go.RowKit Go.ChangeShapes Go.WideShapes Go.Deep
section
variable {H : Type} {henc : TypeId × Value → H} {P : Program} {w : World} {sp : Nat → Bool} {held : Bool}
def OpFs {H : Type} (henc : TypeId × Value → H) (P : Program) (w : World) (sp : Nat → Bool) (held : Bool) (fs : List Field) (off m : Nat) {α : Type} (enc : α → List UV) (good : α → Prop) : Prop :=
  ∀ n (cs : List Value), (∀ f ∈ fs, ∃ y, DataW.trod henc P w 0 sp held n f.type ((cs.drop f.offset).take (P.cellsOf f.type)) = some y) → ∃ a : α, good a ∧ AllU w okAll (enc a) ((cs.drop off).take m) ∧ ∀ u ∈ enc a, u.one = true
theorem OpFs.last {f : Field} {off m : Nat} {α : Type} {enc : α → List UV} {good : α → Prop} (o : f.offset = off) (hm : P.cellsOf f.type = m) (h : Op henc P w sp held f.type enc good) : OpFs henc P w sp held [f] off m enc good := fun n cs hf => by
  obtain ⟨y, hy⟩ := hf f yE
  rw [o, hm] at hy
  exact h _ _ _ hy
theorem OpFs.cons {f : Field} {fs : List Field} {off m1 m2 : Nat} {α β : Type} {e0 : α → List UV} {e1 : β → List UV} {g0 : α → Prop} {g1 : β → Prop} (o : f.offset = off) (hm : P.cellsOf f.type = m1) (h : Op henc P w sp held f.type e0 g0)
    (r : OpFs henc P w sp held fs (off + m1) m2 e1 g1) : OpFs henc P w sp held (f :: fs) off (m1 + m2) (fun x : α × β => e0 x.1 ++ e1 x.2) (fun x => g0 x.1 ∧ g1 x.2) := fun n cs hf => by
  obtain ⟨y, hy⟩ := hf f yE
  rw [o, hm] at hy
  obtain ⟨a, a1, a2, a3⟩ := h _ _ _ hy
  obtain ⟨b, b1, b2, b3⟩ := r n cs (fun g hg => hf g (by simp [hg]))
  refine ⟨(a, b), ⟨a1, b1⟩, ?_, fun u hu => ?_⟩
  · have e1 : ((cs.drop off).take (m1 + m2)).take m1 = (cs.drop off).take m1 := by rw [List.take_take, Nat.min_eq_left xA]
    have e2 : ((cs.drop off).take (m1 + m2)).drop m1 = (cs.drop (off + m1)).take m2 := by rw [List.drop_take, List.drop_drop, Nat.add_sub_cancel_left]
    exact AllU.app2 (k := m1) (by rw [e1]; exact a2) (by rw [e2]; exact b2)
  · rcases List.mem_append.1 hu with hu | hu
    · exact a3 u hu
    · exact b3 u hu
theorem Op.structN {t : TypeId} {fs : Array Field} {m : Nat} {α : Type} {enc : α → List UV} {good : α → Prop} (ht : P.underlying t = some (.struct fs)) (hm : P.cellsOf t = m) (h : OpFs henc P w sp held fs.toList 0 m enc good) : Op henc P w sp held t enc good := fun fuel cs x h0 => by
  obtain ⟨xs, n, _, _, hl, hlen, hf⟩ := DataW.trod_struct ht h0
  obtain ⟨a, a1, a2, a3⟩ := h n cs (fun f hf' => by
    obtain ⟨i, hi, rfl⟩ := List.getElem_of_mem hf'
    have := hf i fs.toList[i] yE
    have hi' : i < xs.length := by simp at hi; omega
    rw [List.getElem?_eq_getElem hi'] at this
    exact ⟨_, this⟩)
  refine ⟨a, a1, ?_, a3⟩
  rw [List.drop_zero, List.take_of_length_le xA] at a2
  exact a2
end
end Go.H
end
section
namespace Go.H
open Go Go.RowKit
open Go.G (Ext Gr Blk)
section
variable {c : Ctx} {P : Program} {F : Frm} {S : Sto} {ops : Array Oper} {T : List Nat} {d : Nat} {ty : TypeId} {pos : String} {af : Array Edge} {gd : Option (Nat × Bool)} {σ : Sig} {τ : Nat → Value} {a : Act} {w : World}
  {k tb sz lo : Nat} {rows ys rows' : List (List UV)}
theorem splice_flat (hr : ∀ r ∈ rows, r.length = sz) (hy : ∀ r ∈ ys, r.length = sz) : (rows.take lo ++ ys ++ rows.drop (lo + ys.length)).flatten = rows.flatten.take (lo * sz) ++ ys.flatten ++ rows.flatten.drop (lo * sz + ys.flatten.length) := by
  have hyl : ys.flatten.length = ys.length * sz := flat_len hy
  have key : ∀ (m : Nat) (l : List (List UV)), (∀ r ∈ l, r.length = sz) → (l.take m).flatten = l.flatten.take (m * sz) ∧ (l.drop m).flatten = l.flatten.drop (m * sz) := by
    intro m l
    induction l generalizing m with
    | nil => intro _; simp
    | cons r l ih =>
      intro h
      have e := h r yE
      cases m with
      | zero => simp
      | succ m =>
        obtain ⟨i1, i2⟩ := ih m (fun q hq => h q (by simp [hq]))
        have t1 : r.take ((m + 1) * sz) = r := List.take_of_length_le (by rw [e, Nat.succ_mul]; omega)
        have t2 : r.drop ((m + 1) * sz) = [] := List.drop_eq_nil_of_le (by rw [e, Nat.succ_mul]; omega)
        rw [List.take_succ_cons, List.drop_succ_cons, List.flatten_cons, List.flatten_cons, List.take_append, List.drop_append, e, t1, t2, i1, i2]
        rw [show (m + 1) * sz - sz = m * sz by rw [Nat.succ_mul]; omega]
        exact ⟨rfl, rfl⟩
  rw [List.flatten_append, List.flatten_append, (key lo rows hr).1, (key (lo + ys.length) rows hr).2, hyl, Nat.add_mul]
theorem SatT.data (h : SatT c σ τ a w) (h0 : σ.sto k = some (.data tb sz rows)) :
    0 < sz ∧ (∀ r ∈ rows, r.length = sz) ∧ (∀ u ∈ rows.flatten, u.one = true) ∧ ((τ k = .slice none 0 0 ∧ rows = []) ∨ ∃ g cap cur, τ k = .slice (some ⟨g, 0, none⟩) rows.length cap ∧ w.heap[g]? = some (.cells cur tb (0, 0)) ∧ rows.length ≤ cap ∧ cap ≤ maxLen ∧ cur.size = cap * sz ∧ AllU w (okOf c τ σ.sto) rows.flatten (cur.toList.take (rows.length * sz))) := by
  obtain ⟨vs, ⟨f0, f1⟩, f2, f3, f4, f5⟩ := h.sto k _ h0
  refine ⟨f4, f3, f5, ?_⟩
  rcases f1 with ⟨f1, f6⟩ | ⟨g, cap, cur, f1, _, f6, f7, f8, f9, f10⟩
  · exact .inl ⟨f1, List.eq_nil_of_length_eq_zero f6⟩
  · subst f10
    exact .inr ⟨g, cap, cur, f1, f6, f7, f8, f9, f2⟩
theorem SatT.seg {g cap : Nat} {cur : Array Value} {xs : List Value} (h : SatT c σ τ a w) (h0 : σ.sto k = some (.data tb sz rows)) (hk : τ k = .slice (some ⟨g, 0, none⟩) rows.length cap) (hg : w.heap[g]? = some (.cells cur tb (0, 0)))
    (hx : AllU w (okOf c τ σ.sto) ys.flatten xs) (hy : ∀ r ∈ ys, r.length = sz) (h1 : ∀ u ∈ ys.flatten, u.one = true) (hfit : lo + ys.length ≤ rows.length) (hq : rows.take lo ++ ys ++ rows.drop (lo + ys.length) = rows') :
    SatT c (σ.upd none none [(k, some (.data tb sz rows'))]) τ a (w.setRow g (cur.toList.take (lo * sz) ++ xs ++ cur.toList.drop (lo * sz + xs.length)).toArray) := by
  obtain ⟨f4, f3, f5, hd⟩ := h.data h0
  subst hq
  rcases hd with ⟨e, _⟩ | ⟨g', cap', cur', e, f6, f7, f8, f9, f2⟩
  · rw [hk] at e; cases e
  · rw [hk] at e
    simp only [Value.slice.injEq, Option.some.injEq, Addr.mk.injEq, and_true, true_and] at e
    obtain ⟨rfl, rfl⟩ := e
    rw [hg] at f6
    simp only [Option.some.injEq, Obj.cells.injEq, and_true] at f6
    subst f6
    have hyl : ys.flatten.length = ys.length * sz := flat_len hy
    have hxl : xs.length = ys.length * sz := by rw [← hx.1, hyl]
    have hll : (lo + ys.length) * sz ≤ rows.length * sz := Nat.mul_le_mul_right _ hfit
    rw [Nat.add_mul] at hll
    have hcl : cur.toList.length = cap * sz := by rw [Array.length_toList]; exact f9
    have hrc : rows.length * sz ≤ cap * sz := Nat.mul_le_mul_right _ f7
    have hlen : (rows.take lo ++ ys ++ rows.drop (lo + ys.length)).length = rows.length := by simp; omega
    have hnl : (cur.toList.take (lo * sz) ++ xs ++ cur.toList.drop (lo * sz + xs.length)).length = cap * sz := by
      simp only [List.length_append, List.length_take, List.length_drop, hcl, hxl]; omega
    have hgr : w.grownBy (w.setRow g (cur.toList.take (lo * sz) ++ xs ++ cur.toList.drop (lo * sz + xs.length)).toArray) (some g) := ⟨rfl, rfl, rfl, by simp, fun q _ hq => setRow_other w g q _ (fun e => hq (by simp [e]))⟩
    refine h.turn h0 (Gr.of_grown hgr fun b hb => by rw [hk]; exact hb) fun hok => ?_
    refine ⟨_, ⟨?_, .inr ⟨g, cap, (cur.toList.take (lo * sz) ++ xs ++ cur.toList.drop (lo * sz + xs.length)).toArray, by rw [hk, hlen], Nat.zero_le _, setRow_heap w g cur _ tb _ hg, by rw [hlen]; exact f7, f8, by rw [List.size_toArray, hnl], rfl⟩⟩, ?_, fun r hr => ?_, f4, fun u hu => ?_⟩
    · rw [List.length_take, hlen]
      show min _ (cur.toList.take (lo * sz) ++ xs ++ cur.toList.drop (lo * sz + xs.length)).length = _
      rw [hnl]; omega
    · rw [hlen, splice_flat f3 hy]
      show AllU _ _ _ ((cur.toList.take (lo * sz) ++ xs ++ cur.toList.drop (lo * sz + xs.length)).take (rows.length * sz))
      have e2 : (cur.toList.take (lo * sz) ++ xs ++ cur.toList.drop (lo * sz + xs.length)).take (rows.length * sz) = (cur.toList.take (rows.length * sz)).take (lo * sz) ++ xs ++ (cur.toList.take (rows.length * sz)).drop (lo * sz + xs.length) := by
        have hAB : (cur.toList.take (lo * sz) ++ xs).length = lo * sz + xs.length := by rw [List.length_append, List.length_take, Nat.min_eq_left xA]
        rw [List.take_append, hAB, List.take_of_length_le (by rw [hAB]; omega), List.take_take, Nat.min_eq_left xA, List.drop_take]
      rw [e2, hyl, ← hxl]
      exact (((f2.take _).app hx).app (f2.drop _)).mono yE hok
    · rcases List.mem_append.1 hr with hr | hr
      · rcases List.mem_append.1 hr with hr | hr
        · exact f3 r (List.mem_of_mem_take hr)
        · exact hy r hr
      · exact f3 r (List.mem_of_mem_drop hr)
    · rw [splice_flat f3 hy] at hu
      rcases List.mem_append.1 hu with hu | hu
      · rcases List.mem_append.1 hu with hu | hu
        · exact f5 u (List.mem_of_mem_take hu)
        · exact h1 u hu
      · exact f5 u (List.mem_of_mem_drop hu)
theorem SatT.same {sb : SB} (h : SatT c σ τ a w) (h0 : σ.sto k = some sb) : SatT c (σ.upd none none [(k, some sb)]) τ a w :=
  h.turn h0 (Gr.refl _ _) fun hok => (h.sto k _ h0).mono (Nat.le_refl _) hok (fun _ _ => rfl) rfl (fun _ _ => rfl)
def PartOf (F : Frm) (x : Operand) (k sz lo hi n : Nat) : Prop := (ev F x = some (.own k) ∧ lo = 0 ∧ hi = n) ∨ (ev F x = some (.osl k sz lo hi) ∧ lo ≤ hi ∧ hi ≤ n)
theorem PartOf.own {F : Frm} {x : Operand} {k sz n : Nat} (h : ev F x = some (.own k)) : PartOf F x k sz 0 n n := .inl ⟨h, rfl, rfl⟩
theorem PartOf.osl {F : Frm} {x : Operand} {k sz lo hi n : Nat} (h : ev F x = some (.osl k sz lo hi)) (h1 : lo ≤ hi) (h2 : hi ≤ n) : PartOf F x k sz lo hi n := .inr ⟨h, h1, h2⟩
theorem PartOf.le {F : Frm} {x : Operand} {hi n : Nat} (h : PartOf F x k sz lo hi n) : lo ≤ hi ∧ hi ≤ n := by
  rcases h with ⟨_, rfl, rfl⟩ | ⟨_, h1, h2⟩
  · exact ⟨Nat.zero_le _, Nat.le_refl _⟩
  · exact ⟨h1, h2⟩
theorem PartOf.val {o : Oper} {x : Operand} {hi : Nat} (hp : PartOf F x k sz lo hi rows.length) (h : SatT c σ τ a w) (hA : AgreeF (o.looksAt ops) F σ) (hm : x ∈ o.op.operands) (h0 : σ.sto k = some (.data tb sz rows)) :
    G.ev (actF a) x = some (a.eval x) ∧ ((rows = [] ∧ lo = 0 ∧ hi = 0 ∧ a.eval x = .slice none 0 0) ∨
      ∃ g cap cur A, τ k = .slice (some ⟨g, 0, none⟩) rows.length cap ∧ w.heap[g]? = some (.cells cur tb (0, 0)) ∧ rows.length ≤ cap ∧ cap ≤ maxLen ∧ cur.size = cap * sz ∧ AllU w (okOf c τ σ.sto) rows.flatten (cur.toList.take (rows.length * sz)) ∧ a.eval x = .slice (some A) (hi - lo) (cap - lo) ∧ (lo < cap → A = ⟨g, lo * sz, none⟩)) := by
  obtain ⟨f4, f3, f5, hd⟩ := h.data h0
  rcases hp with ⟨hx, rfl, rfl⟩ | ⟨hx, h1, h2⟩
  · obtain ⟨p1, p2⟩ := h.opd hA hm hx
    refine ⟨p2, ?_⟩
    generalize a.eval x = v at p1 p2
    cases p1
    rcases hd with ⟨e, e0⟩ | ⟨g, cap, cur, e, f6, f7, f8, f9, f2⟩
    · exact .inl ⟨e0, rfl, by rw [e0]; rfl, e⟩
    · exact .inr ⟨g, cap, cur, _, e, f6, f7, f8, f9, f2, by rw [e]; rfl, fun _ => by rw [Nat.zero_mul]⟩
  · obtain ⟨p1, p2⟩ := h.opd hA hm hx
    refine ⟨p2, ?_⟩
    generalize a.eval x = v at p1 p2
    cases p1 with
    | @osl _ _ _ _ n cc A hk q1 q2 =>
      rcases hd with ⟨e, e0⟩ | ⟨g, cap, cur, e, f6, f7, f8, f9, f2⟩
      · rw [hk] at e
        simp only [Value.slice.injEq] at e
        obtain ⟨rfl, rfl, rfl⟩ := e
        have : hi = 0 := by rw [e0] at h2; simpa using h2
        subst this
        have : lo = 0 := by omega
        subst this
        exact .inl ⟨e0, rfl, rfl, rfl⟩
      · rw [hk] at e
        simp only [Value.slice.injEq] at e
        obtain ⟨rfl, rfl, rfl⟩ := e
        by_cases hc : cc = lo
        · exact .inr ⟨g, cc, cur, _, hk, f6, f7, f8, f9, f2, by simp only [G.subSl]; rw [if_pos hc], fun h => absurd hc xA⟩
        · exact .inr ⟨g, cc, cur, ⟨g, lo * sz, none⟩, hk, f6, f7, f8, f9, f2, by simp [G.subSl, if_neg hc, Addr.add_lit], fun _ => rfl⟩
theorem run_copy0 {t t' e ty : TypeId} {inf : TypeInfo} {A A' : Option Addr} {m cc c' : Nat} (ht : P.underlying t = some (.slice e)) (hi : P.info? e = some inf) :
    (Builtin.copy_ #[t, t'] ty #[.slice A m cc, .slice A' 0 c']).run P w = .ok (.int .i64 0) w := by
  cases A <;> cases A' <;> simp [Builtin.copy_, run_underlying ht, Builtin.lenOf, Builtin.firstCells, sizeOf, typeInfo, hi, storeCells, loadCells, loadCellsFrom, goInt]
theorem run_copyN {t t' e ty tb : TypeId} {inf : TypeInfo} {g o m cc l c' : Nat} {a' : Addr} {cs : List Value} {cur : Array Value} (ht : P.underlying t = some (.slice e)) (hi : P.info? e = some inf) (hlm : l ≤ m) (hl : cs.length = l * inf.size)
    (hs : G.At w a' cs) (hg : w.heap[g]? = some (.cells cur tb (0, 0))) (hfit : o + cs.length ≤ cur.size) (h1 : ∀ v ∈ cs, v.oneCell' = true) :
    (Builtin.copy_ #[t, t'] ty #[.slice (some ⟨g, o, none⟩) m cc, .slice (some a') l c']).run P w = .ok (.int .i64 l) (w.setRow g (cur.toList.take o ++ cs ++ cur.toList.drop (o + cs.length)).toArray) := by
  have hld := run_loadCells_list (P := P) w a' cs hs
  have hst := run_storeCells_at P g o tb cs 0 cur w hg (by simpa using hfit) h1
  rw [hl] at hld
  simp only [Nat.add_zero] at hst
  have hmin : Nat.min l m = l := Nat.min_eq_left hlm
  simp [Builtin.copy_, run_underlying ht, Builtin.lenOf, Builtin.firstCells, sizeOf, typeInfo, hi, hmin, hld, hst, goInt]
theorem O.copy {x y : Operand} {t t' e : TypeId} {hi : Nat} {inf : TypeInfo} (hx : PartOf F x k sz lo hi rows.length) (hS : lookS k S = some (.data tb sz rows)) (hy : SlOf F S T y sz ys) (ht : P.underlying t = some (.slice e)) (hi' : P.info? e = some inf) (hsz : inf.size = sz)
    (hfit : lo + ys.length ≤ hi) (hr : rows.take lo ++ ys ++ rows.drop (lo + ys.length) = rows') (hd : Nat.blt d c.n = true) (hg : Taken ops F gd) :
    OpOk c P ops ⟨some d, .call { callee := .builtin .copy, args := #[x, y], argTypes := #[t, t'] }, ty, pos, af, gd⟩ F S (k :: T) [] (some (.u (.sc (.int .i64 (ys.length : Nat))))) [(k, some (.data tb sz rows'))] := by
  refine OpOk.mem hd hg fun σ τ a w hA hB _ h => ?_
  have h0 := (hB k yE).trans hS
  have hle := hx.le
  obtain ⟨p2, hv⟩ := hx.val h hA yY h0
  obtain ⟨f4, f3, f5, _⟩ := h.data h0
  obtain ⟨j, hy, hs⟩ := hy
  obtain ⟨q1, q2⟩ := h.opd hA yY hy
  obtain ⟨hp, xs', lo', hi2, s1, s2, s3⟩ := hs c σ τ a w _ (fun q hq => hB q (by simp [hq])) h q1
  obtain ⟨B, c', u1, u2, u3, u4⟩ := s1.out
  obtain ⟨s4, s5⟩ := AllRows.flat (h := hp) s2
  have hxl : xs'.length = ys.length := s2.1.symm
  have hrun : ∀ v w', (Builtin.copy_ #[t, t'] ty #[a.eval x, a.eval y]).run P w = .ok v w' → (execOp a.eval ⟨some d, .call { callee := .builtin .copy, args := #[x, y], argTypes := #[t, t'] }, ty, pos, af, gd⟩).run P w = .ok (.value v) w' := fun v w' h => by
    simp only [execOp, resolve, invoke, builtin, Sem.run_bind, Sem.run_pure, Result.andThen_ok, List.map_toArray, List.map_cons, List.map_nil, h]
  subst hsz
  by_cases hys : ys = []
  · subst hys
    have e0 : rows = rows' := by rw [← hr]; simp
    subst e0
    refine ⟨_, w, τ, hrun _ _ ?_, h.same h0, .u (.sc _)⟩
    have hx0 : xs'.length = 0 := by rw [hxl]; rfl
    rw [u1, hx0]
    rcases hv with ⟨_, _, _, hv⟩ | ⟨g, cap, cur, A, _, _, _, _, _, _, hv, _⟩
    · rw [hv]; exact run_copy0 ht hi'
    · rw [hv]; exact run_copy0 ht hi'
  · have hpos : 0 < ys.length := List.length_pos_iff.2 hys
    obtain ⟨a', rfl, _, _, hat⟩ := u4 (fun e => by rw [e] at hxl; simp at hxl; omega)
    rcases hv with ⟨e1, _, e2, _⟩ | ⟨g, cap, cur, A, hk, f6, f7, f8, f9, f2, hv, hAd⟩
    · omega
    · have hA' := hAd xA
      subst hA'
      have hcl : ((encRow inf.size hp).all xs').length = ys.length * inf.size := by rw [← hxl]; exact G.Enc.all_length _ _
      have hll : (lo + ys.length) * inf.size ≤ cap * inf.size := Nat.mul_le_mul_right _ xA
      rw [Nat.add_mul] at hll
      have hone : ∀ v ∈ (encRow inf.size hp).all xs', v.oneCell' = true := fun v hv => by
        obtain ⟨q, hq1, hq2⟩ := List.mem_iff_getElem.1 hv
        have hq3 : q < ys.flatten.length := by rw [s4.1]; exact hq1
        have hrep := s4.2 q ys.flatten[q] v (List.getElem?_eq_getElem hq3) (by rw [List.getElem?_eq_getElem hq1, hq2])
        exact (RepI.u (τ := τ) hrep).isOne (s3 _ (List.getElem_mem hq3))
      have hrn := run_copyN (ty := ty) (t' := t') (m := hi - lo) (cc := cap - lo) (c' := c') (l := ys.length) ht hi' xA hcl hat f6 (by rw [hcl, f9]; exact hll) hone
      have hseg := h.seg (lo := lo) (xs := (encRow inf.size hp).all xs') h0 hk f6 s4 s5 s3 xA hr
      refine ⟨_, _, τ, hrun _ _ (by rw [hv, u1, hxl]; exact hrn), hseg, .u (.sc _)⟩
theorem O.sub_osl {x : Operand} {l h : Option Operand} {t e : TypeId} {inf : TypeInfo} {i j hi : Nat} (hx : ev F x = some (.osl k sz 0 hi)) (hS : lookS k S = some (.data tb sz rows)) (hl : Bnd F l i 0) (hh : Bnd F h j hi) (h1 : i ≤ j) (h2 : j ≤ rows.length)
    (ht : P.underlying t = some (.slice e)) (he : P.info? e = some inf) (hs : inf.size = sz) (hd : Nat.blt d c.n = true) (hg : Taken ops F gd) :
    OpOk c P ops ⟨some d, .slice t x l h none, ty, pos, af, gd⟩ F S [k] [] (some (.osl k sz i j)) [] :=
  OpOk.runs hd hg fun σ τ a w hA hB hst => by
    obtain ⟨p1, p2⟩ := hst.opd hA xH hx
    have hl' := hl.run hst hA (fun y hy => by subst hy; simp [Op.operands])
    have hh' := hh.run hst hA (fun y hy => by subst hy; simp [Op.operands])
    obtain ⟨hp, xs, q1, q2, q3⟩ := (hst.sto k _ ((hB k yE).trans hS)).own
    obtain ⟨A, cc, e1, e2, _⟩ := q1.sl.out
    rw [← q2.1] at e1 e2
    generalize a.eval x = v at p1 p2
    cases p1 with
    | @osl _ _ _ _ n c' A' hk r1 r2 =>
      rw [hk] at e1
      simp only [Value.slice.injEq] at e1
      obtain ⟨rfl, rfl, rfl⟩ := e1
      have hA0 : (if c' = 0 then A' else A'.map (·.add (0 * sz))) = A' := by
        split
        · rfl
        · cases A' with
          | none => rfl
          | some q => simp [Addr.add]
      simp only [G.subSl] at p2
      rw [hA0] at p2
      have := run_sub (w := w) (ty := ty) p2 xA hl' (by simpa using hh') h1 xA ht he hs
      refine ⟨_, this, ?_⟩
      have hr := RepI.osl (τ := τ) (w := w) (ok := okOf c τ σ.sto) (k := k) (sz := sz) (lo := i) (hi := j) hk h1 xA
      simpa [G.subSl] using hr
theorem O.sub3_own {x l h m : Operand} {t e : TypeId} {inf : TypeInfo} {i j q : Nat} {k1 k2 k3 : IntKind} {a1 a2 a3 : Int} (hx : ev F x = some (.own k)) (hS : lookS k S = some (.data tb sz rows)) (hl : ev F l = some (.u (.sc (.int k1 a1)))) (e1 : a1 = (i : Int)) (hh : ev F h = some (.u (.sc (.int k2 a2)))) (e2 : a2 = (j : Int)) (hm : ev F m = some (.u (.sc (.int k3 a3)))) (e3 : a3 = (q : Int)) (h1 : i ≤ j) (h2 : j ≤ q) (h3 : q ≤ rows.length)
    (ht : P.underlying t = some (.slice e)) (he : P.info? e = some inf) (hd : Nat.blt d c.n = true) (hg : Taken ops F gd) :
    OpOk c P ops ⟨some d, .slice t x (some l) (some h) (some m), ty, pos, af, gd⟩ F S [k] [] (some .junk) [] :=
  OpOk.runs hd hg fun σ τ a w hA hB hst => by
    subst e1; subst e2; subst e3
    obtain ⟨p1, p2⟩ := hst.opd hA xH hx
    obtain ⟨_, p3⟩ := hst.opd hA xH hl
    obtain ⟨_, p4⟩ := hst.opd hA xH hh
    obtain ⟨_, p5⟩ := hst.opd hA xH hm
    have v3 := (hst.sc hA xH hl).2
    have v4 := (hst.sc hA xH hh).2
    have v5 := (hst.sc hA xH hm).2
    obtain ⟨hp, xs, q1, q2, q3⟩ := (hst.sto k _ ((hB k yE).trans hS)).own
    obtain ⟨A, cc, o1, o2, _⟩ := q1.sl.out
    rw [← q2.1] at o1 o2
    generalize a.eval x = v at p1 p2
    cases p1
    rw [o1] at p2
    refine ⟨.slice (if q = i then A else A.map (·.add (i * inf.size))) (j - i) (q - i), fun o ρ ho _ hρ => ?_, .junk _⟩
    simp only [execOp, ho, hρ x xH _ p2, hρ l xH _ v3, hρ h xH _ v4, hρ m xH _ v5, Option.map_some]
    have h4 : q ≤ cc := by omega
    simp [Instr.sliceAt, Instr.slice, Instr.sliceBounds, Instr.sliceBound, asIntOf, run_underlying ht, sizeOf, typeInfo, he, h1, h2, h4]
theorem OpOk.doesV (hg : Taken ops F gd) {op : Go.Op} {N : List Nat} {δ : Chg}
    (H : ∀ σ τ a w, AgreeF ((⟨none, op, ty, pos, af, gd⟩ : Oper).looksAt ops) F σ → AgreeS T S σ → SatT c σ τ a w →
      ∃ v w' τ', (execOp a.eval ⟨none, op, ty, pos, af, gd⟩).run P w = .ok (.value v) w' ∧ SatT c (σ.upd none none δ) τ' a w') : OpOk c P ops ⟨none, op, ty, pos, af, gd⟩ F S T N none δ := by
  intro σ a w hA hB hN hS
  obtain ⟨τ, h⟩ := hS
  rw [if_pos (wanted_of h hA hg)]
  obtain ⟨v, w', τ', h1, h2⟩ := H σ τ a w hA hB h
  rw [h1]
  exact ⟨τ', h2⟩
theorem zero_rows {z : Value} {zr : List UV} {ok : Nat → Prop} (hzr : (z.cells.toList.map .sc) = zr) (hzl : zr.length = sz) (hp : 0 < sz) (n : Nat) : AllU w ok (List.replicate n zr).flatten (Builtin.zeroCells z.cells n).toList := by
  have hcs : z.cells.size = sz := by rw [← hzl, ← hzr]; simp
  have hrl : ∀ r ∈ List.replicate n zr, r.length = sz := fun r hr => by rw [List.eq_of_mem_replicate hr]; exact hzl
  have hfl : (List.replicate n zr).flatten.length = n * sz := by rw [flat_len hrl]; simp
  refine ⟨by rw [hfl]; simp [Builtin.zeroCells, hcs], fun j u v h1 h2 => ?_⟩
  have hj : j < n * sz := by rw [← hfl]; exact (List.getElem?_eq_some_iff.1 h1).1
  have hq : j / sz < n := Nat.div_lt_of_lt_mul (by rw [Nat.mul_comm]; exact hj)
  have hm : j % sz < sz := Nat.mod_lt _ hp
  have hrow : (List.replicate n zr)[j / sz]? = some zr := by simp [hq]
  have hg := flatten_get hrl hrow (List.getElem?_eq_getElem (show j % sz < zr.length by rw [hzl]; exact hm))
  rw [show j / sz * sz + j % sz = j by rw [Nat.mul_comm]; exact Nat.div_add_mod j sz, h1] at hg
  have hv : (Builtin.zeroCells z.cells n).toList[j]? = some z.cells[j % sz]! := by simp [Builtin.zeroCells, hcs, hj]
  rw [hv] at h2
  have e1 := Option.some.inj hg
  have e2 := Option.some.inj h2
  subst e2
  have hz : zr[j % sz]'(by rw [hzl]; exact hm) = .sc z.cells[j % sz]! := by
    subst hzr
    rw [List.getElem_map, getElem!_pos z.cells (j % sz) (by rw [hcs]; exact hm), Array.getElem_toList]
  rw [e1, hz]
  exact .sc _
theorem run_clearN {t e ty tb : TypeId} {inf : TypeInfo} {z : Value} {g o m cc : Nat} {cur : Array Value} (ht : P.underlying t = some (.slice e)) (hi : P.info? e = some inf) (hz : inf.zero = some z) (hm : 0 < m) (hg : w.heap[g]? = some (.cells cur tb (0, 0)))
    (hfit : o + (Builtin.zeroCells z.cells m).toList.length ≤ cur.size) (h1 : ∀ v ∈ (Builtin.zeroCells z.cells m).toList, v.oneCell' = true) :
    (Builtin.clear_ #[t] ty #[.slice (some ⟨g, o, none⟩) m cc]).run P w = .ok (.tuple #[]) (w.setRow g (cur.toList.take o ++ (Builtin.zeroCells z.cells m).toList ++ cur.toList.drop (o + (Builtin.zeroCells z.cells m).toList.length)).toArray) := by
  have hst := run_storeCells_at P g o tb _ 0 cur w hg (by simpa using hfit) h1
  simp only [Nat.add_zero] at hst
  obtain ⟨m', rfl⟩ : ∃ m', m = m' + 1 := ⟨m - 1, xA⟩
  simp [Builtin.clear_, run_underlying ht, zeroValue, typeInfo, hi, hz, hst]
theorem run_clear0 {t e ty : TypeId} {A : Option Addr} {cc : Nat} (ht : P.underlying t = some (.slice e)) : (Builtin.clear_ #[t] ty #[.slice A 0 cc]).run P w = .ok (.tuple #[]) w := by
  cases A <;> simp [Builtin.clear_, run_underlying ht]
theorem O.clear {x : Operand} {t e : TypeId} {hi : Nat} {inf : TypeInfo} {z : Value} {zr : List UV} (hx : PartOf F x k sz lo hi rows.length) (hS : lookS k S = some (.data tb sz rows)) (ht : P.underlying t = some (.slice e)) (hi' : P.info? e = some inf) (hz : inf.zero = some z)
    (hzr : (z.cells.toList.map .sc) = zr) (hzl : zr.length = sz) (h1 : zr.all UV.one = true) (hr : rows.take lo ++ List.replicate (hi - lo) zr ++ rows.drop hi = rows') (hg : Taken ops F gd) :
    OpOk c P ops ⟨none, .call { callee := .builtin .clear, args := #[x], argTypes := #[t] }, ty, pos, af, gd⟩ F S [k] [] none [(k, some (.data tb sz rows'))] := by
  refine OpOk.doesV hg fun σ τ a w hA hB h => ?_
  have h0 := (hB k yE).trans hS
  have hle := hx.le
  obtain ⟨p2, hv⟩ := hx.val h hA yY h0
  obtain ⟨f4, f3, f5, _⟩ := h.data h0
  have hrun : ∀ v w', (Builtin.clear_ #[t] ty #[a.eval x]).run P w = .ok v w' → (execOp a.eval ⟨none, .call { callee := .builtin .clear, args := #[x], argTypes := #[t] }, ty, pos, af, gd⟩).run P w = .ok (.value v) w' := fun v w' h => by
    simp only [execOp, resolve, invoke, builtin, Sem.run_bind, Sem.run_pure, Result.andThen_ok, List.map_toArray, List.map_cons, List.map_nil, h]
  by_cases hlh : lo = hi
  · subst hlh
    have e0 : rows = rows' := by rw [← hr]; simp
    subst e0
    refine ⟨.tuple #[], w, τ, hrun _ _ ?_, h.same h0⟩
    rcases hv with ⟨_, _, _, hv⟩ | ⟨g, cap, cur, A, _, _, _, _, _, _, hv, _⟩
    · rw [hv]; exact run_clear0 ht
    · rw [hv, Nat.sub_self]; exact run_clear0 ht
  · rcases hv with ⟨_, _, e2, _⟩ | ⟨g, cap, cur, A, hk, f6, f7, f8, f9, f2, hv, hAd⟩
    · omega
    · have hA' := hAd xA
      subst hA'
      have hrl : ∀ r ∈ List.replicate (hi - lo) zr, r.length = sz := fun r hr => by rw [List.eq_of_mem_replicate hr]; exact hzl
      have hzo : ∀ u ∈ (List.replicate (hi - lo) zr).flatten, u.one = true := fun u hu => by
        obtain ⟨r, hr, hu⟩ := List.mem_flatten.1 hu
        rw [List.eq_of_mem_replicate hr] at hu
        exact List.all_eq_true.1 h1 u hu
      have s4 := zero_rows (w := w) (ok := okOf c τ σ.sto) hzr hzl f4 (hi - lo)
      have hcl : (Builtin.zeroCells z.cells (hi - lo)).toList.length = (hi - lo) * sz := by rw [← s4.1, flat_len hrl]; simp
      have hll : (lo + (hi - lo)) * sz ≤ cap * sz := Nat.mul_le_mul_right _ xA
      rw [Nat.add_mul] at hll
      have hone : ∀ v ∈ (Builtin.zeroCells z.cells (hi - lo)).toList, v.oneCell' = true := fun v hv => by
        obtain ⟨q, hq1, hq2⟩ := List.mem_iff_getElem.1 hv
        have hq3 : q < (List.replicate (hi - lo) zr).flatten.length := by rw [s4.1]; exact hq1
        have hrep := s4.2 q _ v (List.getElem?_eq_getElem hq3) (by rw [List.getElem?_eq_getElem hq1, hq2])
        exact (RepI.u (τ := τ) hrep).isOne (hzo _ (List.getElem_mem hq3))
      have hrn := run_clearN (ty := ty) (m := hi - lo) (cc := cap - lo) (o := lo * sz) ht hi' hz xA f6 (by rw [hcl, f9]; exact hll) hone
      have hseg := h.seg (lo := lo) (ys := List.replicate (hi - lo) zr) (rows' := rows') h0 hk f6 s4 hrl hzo zB (by rw [List.length_replicate, Nat.add_sub_cancel' hle.1]; exact hr)
      exact ⟨_, _, τ, hrun _ _ (by rw [hv]; exact hrn), hseg⟩
theorem run_appIn {t e ty tb : TypeId} {inf : TypeInfo} {g o s cc l c' : Nat} {a' : Addr} {cs : List Value} {cur : Array Value} (ht : P.underlying t = some (.slice e)) (hi : P.info? e = some inf) (hlm : s + l ≤ cc) (hl : cs.length = l * inf.size)
    (hs : G.At w a' cs) (hg : w.heap[g]? = some (.cells cur tb (0, 0))) (hfit : o + s * inf.size + cs.length ≤ cur.size) (h1 : ∀ v ∈ cs, v.oneCell' = true) :
    (Builtin.append_ #[t, t] ty #[.slice (some ⟨g, o, none⟩) s cc, .slice (some a') l c']).run P w = .ok (.slice (some ⟨g, o, none⟩) (s + l) cc) (w.setRow g (cur.toList.take (o + s * inf.size) ++ cs ++ cur.toList.drop (o + s * inf.size + cs.length)).toArray) := by
  have hld := run_loadCells_list (P := P) w a' cs hs
  have hst := run_storeCells_at P g (o + s * inf.size) tb cs 0 cur w hg (by simpa using hfit) h1
  rw [hl] at hld
  simp only [Nat.add_zero] at hst
  simp [Builtin.append_, run_underlying ht, Builtin.lenOf, Builtin.firstCells, sizeOf, typeInfo, hi, hlm, hld, hst, Addr.add_lit]
theorem run_app0 {t e ty : TypeId} {inf : TypeInfo} {A A' : Option Addr} {s cc c' : Nat} (ht : P.underlying t = some (.slice e)) (hi : P.info? e = some inf) (h : s ≤ cc) :
    (Builtin.append_ #[t, t] ty #[.slice A s cc, .slice A' 0 c']).run P w = .ok (.slice A s cc) w := by
  cases A <;> cases A' <;> simp [Builtin.append_, run_underlying ht, Builtin.lenOf, Builtin.firstCells, sizeOf, typeInfo, hi, h, storeCells, loadCells, loadCellsFrom]
theorem O.appIn {x y : Operand} {t e : TypeId} {i m : Nat} {inf : TypeInfo} (hx : ev F x = some (.osl k sz 0 i)) (hS : lookS k S = some (.data tb sz rows)) (hy : SlOf F S T y sz ys) (ht : P.underlying t = some (.slice e)) (hi' : P.info? e = some inf) (hsz : inf.size = sz)
    (hfit : i + ys.length ≤ rows.length) (hm : i + ys.length = m) (hr : rows.take i ++ ys ++ rows.drop (i + ys.length) = rows') (hd : Nat.blt d c.n = true) (hg : Taken ops F gd) :
    OpOk c P ops ⟨some d, .call { callee := .builtin .append, args := #[x, y], argTypes := #[t, t] }, ty, pos, af, gd⟩ F S (k :: T) [] (some (.osl k sz 0 m)) [(k, some (.data tb sz rows'))] := by
  subst hm
  refine OpOk.mem hd hg fun σ τ a w hA hB _ h => ?_
  have h0 := (hB k yE).trans hS
  obtain ⟨p1, p2⟩ := h.opd hA yY hx
  obtain ⟨f4, f3, f5, hdt⟩ := h.data h0
  obtain ⟨j, hy, hs⟩ := hy
  obtain ⟨q1, q2⟩ := h.opd hA yY hy
  obtain ⟨hp, xs', lo', hi2, s1, s2, s3⟩ := hs c σ τ a w _ (fun q hq => hB q (by simp [hq])) h q1
  obtain ⟨B, c', u1, u2, u3, u4⟩ := s1.out
  obtain ⟨s4, s5⟩ := AllRows.flat (h := hp) s2
  have hxl : xs'.length = ys.length := s2.1.symm
  have hrun : ∀ v w', (Builtin.append_ #[t, t] ty #[a.eval x, a.eval y]).run P w = .ok v w' → (execOp a.eval ⟨some d, .call { callee := .builtin .append, args := #[x, y], argTypes := #[t, t] }, ty, pos, af, gd⟩).run P w = .ok (.value v) w' := fun v w' h => by
    simp only [execOp, resolve, invoke, builtin, Sem.run_bind, Sem.run_pure, Result.andThen_ok, List.map_toArray, List.map_cons, List.map_nil, h]
  subst hsz
  obtain ⟨n, cc, A, hk, hin, hval⟩ : ∃ n cc A, τ k = .slice A n cc ∧ i ≤ n ∧ a.eval x = .slice A i cc := by
    generalize a.eval x = v at p1
    cases p1 with
    | @osl _ _ _ _ n c' A' hk r1 r2 =>
      refine ⟨n, c', A', hk, r2, ?_⟩
      simp only [G.subSl, Nat.sub_zero]
      congr 1
      split
      · rfl
      · cases A' with
        | none => rfl
        | some q => simp [Addr.add]
  have hrep : ∀ (τ' : Nat → Value) (w' : World) (ok' : Nat → Prop) (m : Nat), τ' k = .slice A n cc → m ≤ n → RepI τ' w' ok' (.osl k inf.size 0 m) (.slice A m cc) := fun τ' w' ok' m hk' hm => by
    have := RepI.osl (τ := τ') (w := w') (ok := ok') (k := k) (sz := inf.size) (lo := 0) (hi := m) hk' (Nat.zero_le _) hm
    have e : G.subSl (.slice A n cc) inf.size 0 m = .slice A m cc := by
      simp only [G.subSl, Nat.sub_zero]
      congr 1
      split
      · rfl
      · cases A with
        | none => rfl
        | some q => simp [Addr.add]
    rwa [e] at this
  have hcc : n ≤ cc := by
    rcases hdt with ⟨e, e0⟩ | ⟨g, cap, cur, e, _, f7, _⟩
    · rw [hk] at e; simp only [Value.slice.injEq] at e; omega
    · rw [hk] at e; simp only [Value.slice.injEq] at e; omega
  by_cases hys : ys = []
  · subst hys
    have e0 : rows = rows' := by rw [← hr]; simp
    subst e0
    have hx0 : xs'.length = 0 := by rw [hxl]; rfl
    refine ⟨_, w, τ, hrun _ _ ?_, h.same h0, hrep τ w _ (i + ([] : List (List UV)).length) hk (by simpa using hin)⟩
    rw [u1, hx0, hval]
    exact run_app0 ht hi' xA
  · have hpos : 0 < ys.length := List.length_pos_iff.2 hys
    obtain ⟨a', rfl, _, _, hat⟩ := u4 (fun e => by rw [e] at hxl; simp at hxl; omega)
    rcases hdt with ⟨e, e0⟩ | ⟨g, cap, cur, e, f6, f7, f8, f9, f2⟩
    · have := congrArg List.length e0; simp only [List.length_nil] at this; omega
    · have e' := e
      rw [hk] at e'
      simp only [Value.slice.injEq] at e'
      obtain ⟨rfl, rfl, rfl⟩ := e'
      have hcl : ((encRow inf.size hp).all xs').length = ys.length * inf.size := by rw [← hxl]; exact G.Enc.all_length _ _
      have hll : (i + ys.length) * inf.size ≤ cc * inf.size := Nat.mul_le_mul_right _ xA
      rw [Nat.add_mul] at hll
      have hone : ∀ v ∈ (encRow inf.size hp).all xs', v.oneCell' = true := fun v hv => by
        obtain ⟨q, hq1, hq2⟩ := List.mem_iff_getElem.1 hv
        have hq3 : q < ys.flatten.length := by rw [s4.1]; exact hq1
        have hrp := s4.2 q ys.flatten[q] v (List.getElem?_eq_getElem hq3) (by rw [List.getElem?_eq_getElem hq1, hq2])
        exact (RepI.u (τ := τ) hrp).isOne (s3 _ (List.getElem_mem hq3))
      have hrn := run_appIn (ty := ty) (o := 0) (s := i) (cc := cc) (c' := c') (l := ys.length) ht hi' xA hcl hat f6 (by rw [hcl, f9]; omega) hone
      rw [Nat.zero_add] at hrn
      have hseg := h.seg (lo := i) (xs := (encRow inf.size hp).all xs') h0 hk f6 s4 s5 s3 hfit hr
      refine ⟨_, _, τ, hrun _ _ (by rw [hval, u1, hxl]; exact hrn), hseg, hrep τ _ _ _ hk hfit⟩
end
theorem ArgsOk.caps {ρ : Nat → Nat} {S : Sto} {bor : List Nat} : ∀ c : List UV, ArgsOk ρ S bor (c.map .u) (c.map .u)
  | [] => trivial
  | _ :: r => ⟨ArgOk.same rfl, ArgsOk.caps r⟩
theorem ArgOk.fnc {ρ : Nat → Nat} {S : Sto} {bor : List Nat} {fn : Fn} : ArgOk ρ S bor (.u (.sc (.func fn #[] #[]))) (.u (.clo fn [] [])) := fun c σ τ a w v _ hS hr => by
  cases hr with
  | u h =>
    cases h
    exact .u (.clo (vf := []) (vc := []) rfl (fun i u v h => by simp at h) rfl (fun i u v h => by simp at h))
end Go.H
end
section
namespace Go.H
open Go Go.RowKit
def eqv : Value → Value → Bool
  | .int _ a, .int _ b => a == b
  | .string a, .string b => a.toList == b.toList
  | .bool a, .bool b => a == b
  | _, _ => false
def fitv (d : Option TypeDesc) (x y : Value) : Bool := match d, x, y with
  | some (.int _), .int k _, .int k' _ => k == k'
  | some .string, .string _, .string _ => true
  | some .bool, .bool _, .bool _ => true
  | _, _, _ => false
def eqvL : List Value → List Value → Bool
  | x :: xs, y :: ys => eqv x y && eqvL xs ys
  | _, _ => true
def fitF (P : Program) : List Field → Nat → List Value → List Value → Bool
  | [], _, [], [] => true
  | f :: fs, i, x :: xs, y :: ys => f.name != "_" && f.offset == i && fitv (P.underlying f.type) x y && fitF P fs (i + 1) xs ys
  | _, _, _, _ => false
section
variable {P : Program} {w : World}
theorem run_eqv {t : TypeId} {d : Nat} {x y : Value} (h : fitv (P.underlying t) x y = true) : (Op.equalIn (d + 1) t x y).run P w = .ok (eqv x y) w := by
  unfold fitv at h
  split at h
  · rename_i ht
    rename_i k a k' b
    have : k = k' := by simpa using h
    subst this
    exact run_equalIn_int w d t _ _ a b ht
  · rename_i ht; exact run_equalIn_string w d t _ _ ht
  · rename_i ht; exact run_equalIn_bool w d t _ _ ht
  · cases h
theorem run_partv {t : TypeId} {xs : Array Value} {i : Nat} {x y : Value} (h : fitv (P.underlying t) x y = true) (hx : xs[i]? = some x) : (part t xs i).run P w = .ok x w := by
  unfold fitv at h
  split at h
  all_goals first
    | (rename_i ht; simp [part, isAgg, run_underlying ht, hx]; done)
    | cases h
theorem drop_one {α : Type} {X : Array α} {i : Nat} {x : α} {xs : List α} (h : X.toList.drop i = x :: xs) : X[i]? = some x ∧ X.toList.drop (i + 1) = xs := by
  have h1 : (X.toList.drop i)[0]? = some x := by rw [h]; rfl
  rw [List.getElem?_drop, Nat.add_zero, Array.getElem?_toList] at h1
  refine ⟨h1, ?_⟩
  rw [← List.drop_drop, h]; rfl
theorem run_eqFields {d : Nat} {X Y : Array Value} : ∀ (fs : List Field) (i : Nat) (xs ys : List Value), fitF P fs i xs ys = true → X.toList.drop i = xs → Y.toList.drop i = ys → (Op.eqFields (d + 1) X Y fs).run P w = .ok (eqvL xs ys) w
  | [], i, xs, ys, h, _, _ => by
    cases xs <;> cases ys <;> simp [fitF] at h <;> rfl
  | f :: fs, i, [], ys, h, _, _ => by cases ys <;> simp [fitF] at h
  | f :: fs, i, x :: xs, [], h, _, _ => by simp [fitF] at h
  | f :: fs, i, x :: xs, y :: ys, h, hX, hY => by
    simp only [fitF, Bool.and_eq_true, bne_iff_ne, ne_eq, beq_iff_eq] at h
    obtain ⟨⟨⟨h1, h2⟩, h3⟩, h4⟩ := h
    obtain ⟨x1, x2⟩ := drop_one hX
    obtain ⟨y1, y2⟩ := drop_one hY
    have h3' : fitv (P.underlying f.type) y x = true := by
      unfold fitv at h3 ⊢
      split at h3 <;> simp_all
    have ih := run_eqFields (d := d) fs (i + 1) xs ys h4 x2 y2
    subst h2
    simp only [Op.eqFields, if_pos h1, Sem.run_bind, run_partv h3 x1, run_partv h3' y1, run_eqv h3, Result.andThen_ok, eqvL]
    cases he : eqv x y
    · simp
    · simp [ih]
theorem R.eqAgg {F : G.Frm} {tx t' ty : TypeId} {x y : Operand} {ls ms : List Value} (hx : G.ev F x = some (.agg ls.toArray)) (hy : G.ev F y = some (.agg ms.toArray)) (ht : P.underlying tx = some (.struct (P.fieldsOf tx))) (hs : P.stoodInHeld tx = false) (hm : P.eqGuardType P.depth tx = false)
    (hf : fitF P (P.fieldsOf tx).toList 0 ls ms = true) : G.Runs P w F (.binOp .eql tx x y t') ty (.bool (eqvL ls ms)) := fun o ρ ho _ hρ => by
  simp only [execOp, ho, hρ x xH _ hx, hρ y xH _ hy]
  have h1 := run_eqGuard_agg (P := P) w .eql tx x y ls.toArray ms.toArray hm
  have h2 : (Op.equal tx (.agg ls.toArray) (.agg ms.toArray)).run P w = .ok (eqvL ls ms) w := by
    show (Op.equalIn (9998 + 1 + 1) tx _ _).run P w = _
    rw [run_equalIn_struct w (9998 + 1) tx _ _ ht hs]
    exact run_eqFields _ 0 ls ms hf yE yE
  simp [Sem.run_bind, h1, binOp, h2]
theorem R.neAgg {F : G.Frm} {tx t' ty : TypeId} {x y : Operand} {ls ms : List Value} (hx : G.ev F x = some (.agg ls.toArray)) (hy : G.ev F y = some (.agg ms.toArray)) (ht : P.underlying tx = some (.struct (P.fieldsOf tx))) (hs : P.stoodInHeld tx = false) (hm : P.eqGuardType P.depth tx = false)
    (hf : fitF P (P.fieldsOf tx).toList 0 ls ms = true) : G.Runs P w F (.binOp .neq tx x y t') ty (.bool (!eqvL ls ms)) := fun o ρ ho _ hρ => by
  simp only [execOp, ho, hρ x xH _ hx, hρ y xH _ hy]
  have h1 := run_eqGuard_agg (P := P) w .neq tx x y ls.toArray ms.toArray hm
  have h2 : (Op.equal tx (.agg ls.toArray) (.agg ms.toArray)).run P w = .ok (eqvL ls ms) w := by
    show (Op.equalIn (9998 + 1 + 1) tx _ _).run P w = _
    rw [run_equalIn_struct w (9998 + 1) tx _ _ ht hs]
    exact run_eqFields _ 0 ls ms hf yE yE
  simp [Sem.run_bind, h1, binOp, h2]
end
def AggOf (F : Frm) (x : Operand) (ls : List Value) : Prop := ev F x = some (.u (.agg (ls.map .sc))) ∨ ev F x = some (.agg (ls.map fun v => .u (.sc v)))
section
variable {c : Ctx} {P : Program} {F : Frm} {S : Sto} {ops : Array Oper} {T : List Nat} {d : Nat} {ty : TypeId} {pos : String} {af : Array Edge} {gd : Option (Nat × Bool)} {σ : Sig} {τ : Nat → Value} {a : Act} {w : World}
theorem AggOf.val {o : Oper} {x : Operand} {ls : List Value} (hx : AggOf F x ls) (h : SatT c σ τ a w) (hA : AgreeF (o.looksAt ops) F σ) (hm : x ∈ o.op.operands) : G.ev (actF a) x = some (.agg ls.toArray) := by
  rcases hx with hx | hx
  · obtain ⟨p1, p2⟩ := h.opd hA hm hx
    rw [p2]
    generalize a.eval x = v at p1
    cases p1 with
    | u p1 =>
      cases p1 with
      | @agg _ vs hl hg =>
        congr 3
        apply List.ext_getElem (by simpa using hl.symm)
        intro i h1 h2
        exact rep_sc (.u (τ := τ) (hg i (.sc ls[i]) vs[i] (by simp [h2]) yE))
  · obtain ⟨p1, p2⟩ := h.opd hA hm hx
    rw [p2]
    generalize a.eval x = v at p1
    cases p1 with
    | @agg _ vs hl hg =>
      congr 3
      apply List.ext_getElem (by simpa using hl.symm)
      intro i h1 h2
      exact rep_sc (hg i (.u (.sc ls[i])) vs[i] (by simp [h2]) yE)
theorem O.eqAgg {x y : Operand} {tx t' : TypeId} {ls ms : List Value} {r : Bool} (hx : AggOf F x ls) (hy : AggOf F y ms) (ht : P.underlying tx = some (.struct (P.fieldsOf tx))) (hs : P.stoodInHeld tx = false) (hm : P.eqGuardType P.depth tx = false)
    (hf : fitF P (P.fieldsOf tx).toList 0 ls ms = true) (hr : eqvL ls ms = r) (hd : Nat.blt d c.n = true) (hg : Taken ops F gd) :
    OpOk c P ops ⟨some d, .binOp .eql tx x y t', ty, pos, af, gd⟩ F S [] [] (some (.u (.sc (.bool r)))) [] :=
  OpOk.runs hd hg fun σ τ a w hA hB hst => by
    subst hr
    exact ⟨_, R.eqAgg (hx.val hst hA xH) (hy.val hst hA xH) ht hs hm hf, .u (.sc _)⟩
theorem O.neAgg {x y : Operand} {tx t' : TypeId} {ls ms : List Value} {r : Bool} (hx : AggOf F x ls) (hy : AggOf F y ms) (ht : P.underlying tx = some (.struct (P.fieldsOf tx))) (hs : P.stoodInHeld tx = false) (hm : P.eqGuardType P.depth tx = false)
    (hf : fitF P (P.fieldsOf tx).toList 0 ls ms = true) (hr : (!eqvL ls ms) = r) (hd : Nat.blt d c.n = true) (hg : Taken ops F gd) :
    OpOk c P ops ⟨some d, .binOp .neq tx x y t', ty, pos, af, gd⟩ F S [] [] (some (.u (.sc (.bool r)))) [] :=
  OpOk.runs hd hg fun σ τ a w hA hB hst => by
    subst hr
    exact ⟨_, R.neAgg (hx.val hst hA xH) (hy.val hst hA xH) ht hs hm hf, .u (.sc _)⟩
end
end Go.H
end
section
namespace Go.D57
open Go Go.RowKit Go.G
structure Hd where
  id : Int
  pat : Int
  cls : Int
  tim : Int
  ov : Int
instance : Inhabited Hd := ⟨⟨0, 0, 0, 0, 0⟩⟩
theorem Hd.ext {a b : Hd} (h1 : a.id = b.id) (h2 : a.pat = b.pat) (h3 : a.cls = b.cls) (h4 : a.tim = b.tim) (h5 : a.ov = b.ov) : a = b := by
  cases a; cases b; simp_all
instance : DecidableEq Hd := fun a b =>
  if h : a.id = b.id ∧ a.pat = b.pat ∧ a.cls = b.cls ∧ a.tim = b.tim ∧ a.ov = b.ov then .isTrue (Hd.ext h.1 h.2.1 h.2.2.1 h.2.2.2.1 h.2.2.2.2) else .isFalse fun e => h (by subst e; exact ⟨rfl, rfl, rfl, rfl, rfl⟩)
theorem dec_iff {p q : Prop} [Decidable p] [Decidable q] (h : p ↔ q) : decide p = decide q := decide_eq_decide.2 h
theorem dec_t {q : Prop} [Decidable q] (h : q) : decide q = true := decide_eq_true h
theorem dec_f {q : Prop} [Decidable q] (h : ¬ q) : decide q = false := decide_eq_false h
def rng (n : Int) : Prop := -9223372036854775808 ≤ n ∧ n ≤ 9223372036854775807
def Hd.ok (h : Hd) : Prop := rng h.id ∧ rng h.pat ∧ rng h.cls ∧ rng h.tim ∧ rng h.ov
def goodH (h : Hd) : Prop := 1 ≤ h.id ∧ h.id ≤ 1000000000 ∧ 1 ≤ h.pat ∧ h.pat ≤ 1000000000 ∧ 1 ≤ h.cls ∧ h.cls ≤ 3 ∧ 0 ≤ h.tim ∧ h.tim ≤ 1000000 ∧ 0 ≤ h.ov ∧ h.ov ≤ 2
instance (h : Hd) : Decidable (goodH h) := by unfold goodH; infer_instance
def earl (a b : Hd) : Prop := a.tim < b.tim ∨ a.tim = b.tim ∧ a.id < b.id
instance (a b : Hd) : Decidable (earl a b) := by unfold earl; infer_instance
def likeH (a b : Hd) : Prop := a.id = b.id ∨ a.pat = b.pat
instance (a b : Hd) : Decidable (likeH a b) := by unfold likeH; infer_instance
def cmpI (a b : Int) : Int := if a < b then -1 else if b < a then 1 else 0
def cmpH (a b : Hd) : Int := if cmpI a.tim b.tim ≠ 0 then cmpI a.tim b.tim else cmpI a.id b.id
theorem cmpI_lt {a b : Int} (h : a < b) : cmpI a b = -1 := by rw [cmpI, if_pos h]
theorem cmpI_gt {a b : Int} (h : b < a) : cmpI a b = 1 := by rw [cmpI, if_neg xA, if_pos h]
theorem cmpI_eq {a b : Int} (h : ¬ a < b) (k : ¬ b < a) : cmpI a b = 0 := by rw [cmpI, if_neg h, if_neg k]
theorem cmpH_ge (a b : Hd) : 0 ≤ cmpH a b ↔ ¬ earl a b := by
  unfold cmpH cmpI earl
  repeat' split
  all_goals omega
theorem cmpH_lt (a b : Hd) : cmpH a b < 0 ↔ earl a b := by rw [← Int.not_le, cmpH_ge, Decidable.not_not]
def idxF {α : Type} (p : α → Bool) (l : List α) : Int := match l.findIdx? p with
  | some i => (i : Int)
  | none => -1
theorem idxF_here {α : Type} [Inhabited α] {p : α → Bool} {l : List α} {k : Nat} (hk : k < l.length) (h : ∀ j, j < k → p l[j]! = false) (e : p l[k]! = true) : idxF p l = k := by
  have : l.findIdx? p = some k := by
    rw [List.findIdx?_eq_some_iff_getElem]
    refine ⟨hk, by rw [← getElem!_pos l k hk]; exact e, fun j hj => ?_⟩
    have := h j hj
    rw [getElem!_pos l j xA] at this
    simp [this]
  rw [idxF, this]
theorem idxF_none {α : Type} [Inhabited α] {p : α → Bool} {l : List α} {k : Nat} (hk : l.length ≤ k) (h : ∀ j, j < k → p l[j]! = false) : idxF p l = -1 := by
  have : l.findIdx? p = none := by
    rw [List.findIdx?_eq_none_iff]
    intro x hx
    obtain ⟨i, hi, rfl⟩ := List.getElem_of_mem hx
    rw [← getElem!_pos l i hi]
    exact h i xA
  rw [idxF, this]
def before (q : List Hd) (i : Nat) : Prop := goodH q[i]! ∧ (0 < i → earl q[i - 1]! q[i]!) ∧ ∀ k, k < i → ¬ likeH q[k]! q[i]!
instance (q : List Hd) (i : Nat) : Decidable (before q i) := by unfold before; infer_instance
def validQ (q : List Hd) : Prop := (∀ i, i < q.length → before q i) ∧ q.length ≤ 60
instance (q : List Hd) : Decidable (validQ q) := by unfold validQ; infer_instance
theorem or_step {l : List Int} {k : Nat} (hk : k < l.length) : (l.drop k).find? (fun x => decide (x ≠ 0)) = if l[k]! ≠ 0 then some l[k]! else (l.drop (k + 1)).find? (fun x => decide (x ≠ 0)) := by
  rw [List.drop_eq_getElem_cons hk, getElem!_pos l k hk, List.find?_cons]
  by_cases h : l[k] ≠ 0
  · rw [if_pos h]; simp [h]
  · rw [if_neg h]; simp [h]
theorem or_two (a b : Int) : (([a, b] : List Int).find? (fun x => decide (x ≠ 0))).getD 0 = if a ≠ 0 then a else b := by
  by_cases h : a = 0
  · subst h
    by_cases k : b = 0
    · subst k; rfl
    · simp [k]
  · simp [h]
def bestI (q : List Hd) : Nat → Nat
  | 0 => 0
  | k + 1 => if q[k]!.cls < q[bestI q k]!.cls then k else bestI q k
theorem bestI_1 (q : List Hd) : bestI q 1 = 0 := by simp [bestI]
theorem bestI_lt (q : List Hd) : ∀ {k}, 0 < k → bestI q k < k
  | 1, _ => by rw [bestI_1]; omega
  | k + 2, _ => by
    rw [bestI]
    split
    · omega
    · have := bestI_lt q (k := k + 1) xA; omega
theorem bestI_t {q : List Hd} {k : Nat} (h : q[k]!.cls < q[bestI q k]!.cls) : bestI q (k + 1) = k := by rw [bestI, if_pos h]
theorem bestI_f {q : List Hd} {k : Nat} (h : ¬ q[k]!.cls < q[bestI q k]!.cls) : bestI q (k + 1) = bestI q k := by rw [bestI, if_neg h]
theorem cmpI_neg {a b : Int} : cmpI a b < 0 ↔ a < b := by
  unfold cmpI
  split
  · omega
  · split <;> omega
def nextI (q : List Hd) : Nat := if idxF (fun x => decide (x.ov = 2)) q < 0 then bestI q q.length else (idxF (fun x => decide (x.ov = 2)) q).toNat
theorem idxF_range {α : Type} (p : α → Bool) (l : List α) : -1 ≤ idxF p l ∧ idxF p l < l.length := by
  unfold idxF
  split
  · rename_i i h
    have := (List.findIdx?_eq_some_iff_getElem.1 h).1
    omega
  · omega
theorem nextI_lt {q : List Hd} (h : 0 < q.length) : nextI q < q.length := by
  unfold nextI
  split
  · exact bestI_lt q h
  · have := idxF_range (fun x : Hd => decide (x.ov = 2)) q; omega
theorem valid_step {q : List Hd} {k : Nat} (h : ∀ j, j < k → before q j) (hb : before q k) : ∀ j, j < k + 1 → before q j := fun j hj => by
  rcases Nat.lt_succ_iff_lt_or_eq.1 hj with h1 | h1
  · exact h j h1
  · subst h1; exact hb
theorem valid_no {q : List Hd} {k : Nat} (hk : k < q.length) (hb : ¬ before q k) : decide (validQ q) = false := decide_eq_false fun h => hb (h.1 k hk)
theorem valid_yes {q : List Hd} (h : ∀ j, j < q.length → before q j) : decide (validQ q) = decide ((q.length : Int) ≤ 60) := by
  apply decide_eq_decide.2
  exact ⟨fun v => by have := v.2; omega, fun v => ⟨h, xA⟩⟩
theorem like_take {q : List Hd} {k : Nat} (hk : k < q.length) : (0 ≤ idxF (fun x => decide (likeH x q[k]!)) (q.take k)) ↔ ∃ j, j < k ∧ likeH q[j]! q[k]! := by
  unfold idxF
  split
  · rename_i i h
    obtain ⟨h1, h2, _⟩ := List.findIdx?_eq_some_iff_getElem.1 h
    have hi : i < k := by simp at h1; omega
    refine ⟨fun _ => ⟨i, hi, ?_⟩, fun _ => xA⟩
    rw [List.getElem_take] at h2
    rw [getElem!_pos q i xA]
    exact of_decide_eq_true h2
  · rename_i h
    rw [List.findIdx?_eq_none_iff] at h
    refine ⟨fun h => xA, fun ⟨j, hj, hl⟩ => ?_⟩
    have := of_decide_eq_false (h q[j]! (by
      rw [getElem!_pos q j xA]
      exact List.mem_take_iff_getElem.2 ⟨j, xA, rfl⟩))
    exact absurd hl this
theorem next_over {q : List Hd} {k : Nat} (hk : k < q.length) (h : ∀ j, j < k → decide (q[j]!.ov = 2) = false) (e : q[k]!.ov = 2) : nextI q = k := by
  have := idxF_here (p := fun x : Hd => decide (x.ov = 2)) hk h (decide_eq_true e)
  unfold nextI
  rw [this, if_neg xA]; simp
theorem next_best {q : List Hd} (h : ∀ j, j < q.length → decide (q[j]!.ov = 2) = false) : nextI q = bestI q q.length := by
  have := idxF_none (p := fun x : Hd => decide (x.ov = 2)) (Nat.le_refl q.length) h
  unfold nextI
  rw [this, if_pos xA]
def zeroH : Hd := ⟨0, 0, 0, 0, 0⟩
def nextH (q : List Hd) : Hd := if validQ q ∧ 0 < q.length then q[nextI q]! else zeroH
theorem nextH_no {q : List Hd} (h : ¬ (validQ q ∧ 0 < q.length)) : nextH q = zeroH := by rw [nextH, if_neg h]
theorem nextH_yes {q : List Hd} (h : validQ q ∧ 0 < q.length) : nextH q = q[nextI q]! := by rw [nextH, if_pos h]
theorem delete_clear {β : Type} {q : List Hd} {i j : Nat} {f : Hd → β} (hij : i < j) (hj : j ≤ q.length) :
    ((q.take i ++ q.drop j ++ q.drop (i + (q.length - j))).map f).take (i + (q.length - j)) ++ List.replicate (q.length - (i + (q.length - j))) (f zeroH) ++ ((q.take i ++ q.drop j ++ q.drop (i + (q.length - j))).map f).drop q.length = (q.take i ++ q.drop j ++ List.replicate (j - i) zeroH).map f := by
  have h1 : (q.take i ++ q.drop j).length = i + (q.length - j) := by simp; omega
  have h2 : (q.take i ++ q.drop j ++ q.drop (i + (q.length - j))).length ≤ q.length := by rw [List.length_append, h1, List.length_drop]; omega
  rw [← List.map_take, ← List.map_drop, List.take_left' h1, List.drop_eq_nil_of_le h2, show q.length - (i + (q.length - j)) = j - i by omega]
  simp
def incH (h : Hd) : Hd := { h with ov := h.ov + 1 }
def srvR (q : List Hd) (n : Nat) : Nat → List Hd
  | 0 => []
  | k + 1 => if k = n then srvR q n k else srvR q n k ++ [if k < n then incH q[k]! else q[k]!]
def srvL (q : List Hd) (n : Nat) : List Hd := (q.take n).map incH ++ q.drop (n + 1)
theorem snocT {q : List Hd} {k : Nat} (h : k < q.length) : q.take (k + 1) = q.take k ++ [q[k]!] := by
  rw [List.take_add_one, List.getElem?_eq_getElem h, getElem!_pos q k h]; rfl
theorem srvR_lo {q : List Hd} {n : Nat} : ∀ {k : Nat}, k ≤ n → k ≤ q.length → srvR q n k = (q.take k).map incH
  | 0, _, _ => rfl
  | k + 1, h, hk => by
    rw [srvR, if_neg xA, if_pos xA, srvR_lo xA xA, snocT xA]; simp
theorem srvR_hi {q : List Hd} {n : Nat} : ∀ {k : Nat}, n < k → k ≤ q.length → srvR q n k = (q.take n).map incH ++ (q.take k).drop (n + 1)
  | 0, h, _ => by omega
  | k + 1, h, hk => by
    by_cases e : k = n
    · subst e
      rw [srvR, if_pos rfl, srvR_lo (Nat.le_refl _) xA, List.drop_eq_nil_of_le zB, List.append_nil]
    · rw [srvR, if_neg e, if_neg xA, srvR_hi xA xA, snocT xA, List.drop_append_of_le_length zB, List.append_assoc]
theorem srvR_all {q : List Hd} {n : Nat} (h : n < q.length) : srvR q n q.length = srvL q n := by
  rw [srvR_hi h (Nat.le_refl _), List.take_length, srvL]
def srvK (q : List Hd) (n k : Nat) : List Hd := (q.take k).map incH ++ (q.take n ++ q.drop (n + 1)).drop k
theorem srvK_0 (q : List Hd) (n : Nat) : srvK q n 0 = q.take n ++ q.drop (n + 1) := by simp [srvK]
theorem srvK_n {q : List Hd} {n : Nat} (h : n < q.length) : srvK q n n = srvL q n := by
  rw [srvK, srvL, List.drop_left' zB]
theorem srvK_get {q : List Hd} {n k : Nat} (hk : k < n) (hn : n < q.length) : (srvK q n k)[k]! = q[k]! ∧ k < (srvK q n k).length := by
  have hl : k < (srvK q n k).length := by simp [srvK]; omega
  refine ⟨?_, hl⟩
  rw [getElem!_pos _ k hl, getElem!_pos q k xA]
  have h1 : ((q.take k).map incH).length = k := by simp; omega
  simp only [srvK]
  rw [List.getElem_append_right xA]
  simp only [h1, Nat.sub_self, List.getElem_drop, Nat.add_zero]
  rw [List.getElem_append_left zB, List.getElem_take]
theorem srvK_step {q : List Hd} {n k : Nat} (hk : k < n) (hn : n < q.length) : (srvK q n k).set k (incH (srvK q n k)[k]!) = srvK q n (k + 1) := by
  rw [(srvK_get hk hn).1]
  have h1 : ((q.take k).map incH).length = k := by simp; omega
  have h2 : (q.take n ++ q.drop (n + 1)).drop k = q[k]! :: (q.take n ++ q.drop (n + 1)).drop (k + 1) := by
    have hl : k < (q.take n ++ q.drop (n + 1)).length := by simp; omega
    rw [List.drop_eq_getElem_cons hl, List.getElem_append_left zB, List.getElem_take, getElem!_pos q k xA]
  rw [srvK, srvK, List.set_append_right _ _ xA, h1, Nat.sub_self, h2, List.set_cons_zero, snocT xA, List.map_append, List.append_assoc]
  rfl
theorem before_ids {q : List Hd} (h : validQ q) {i j : Nat} (hi : i < q.length) (hj : j < q.length) (hij : i ≠ j) : q[i]!.id ≠ q[j]!.id := by
  rcases Nat.lt_or_gt_of_ne hij with h1 | h1
  · exact fun e => (h.1 j hj).2.2 i h1 (.inl e)
  · exact fun e => (h.1 i hi).2.2 j h1 (.inl e.symm)
theorem idx_id {q : List Hd} (h : validQ q) {i : Nat} (hi : i < q.length) : idxF (fun x => decide (x.id = q[i]!.id)) q = i :=
  idxF_here hi (fun j hj => decide_eq_false (before_ids h xA hi xA)) (decide_eq_true rfl)
theorem idx_next {q : List Hd} (h : validQ q) (hl : 0 < q.length) : idxF (fun x => decide (x.id = (nextH q).id)) q = nextI q := by
  rw [nextH_yes ⟨h, hl⟩]; exact idx_id h (nextI_lt hl)
def srvE (q : List Hd) : Int := if ¬ validQ q then 1 else if q.length = 0 then 9 else 0
def srvQ (q : List Hd) : List Hd := if validQ q ∧ 0 < q.length then srvL q (nextI q) else []
theorem srv_1 {q : List Hd} (h : ¬ validQ q) : srvE q = 1 ∧ srvQ q = [] ∧ nextH q = zeroH := ⟨by rw [srvE, if_pos h], by rw [srvQ, if_neg (fun k => h k.1)], nextH_no fun k => h k.1⟩
theorem srv_9 {q : List Hd} (h : validQ q) (hl : ¬ 0 < q.length) : srvE q = 9 ∧ srvQ q = [] ∧ nextH q = zeroH := ⟨by rw [srvE, if_neg (fun k => k h), if_pos xA], by rw [srvQ, if_neg (fun k => hl k.2)], nextH_no fun k => hl k.2⟩
theorem srv_0 {q : List Hd} (h : validQ q) (hl : 0 < q.length) : srvE q = 0 ∧ srvQ q = srvL q (nextI q) ∧ nextH q = q[nextI q]! := ⟨by rw [srvE, if_neg (fun k => k h), if_neg xA], by rw [srvQ, if_pos ⟨h, hl⟩], nextH_yes ⟨h, hl⟩⟩
theorem srvR_len (q : List Hd) (n : Nat) : ∀ k, (srvR q n k).length ≤ k
  | 0 => Nat.le_refl _
  | k + 1 => by
    have := srvR_len q n k
    rw [srvR]
    split
    · omega
    · rw [List.length_append]; simp; omega
theorem srvL_len {q : List Hd} {n : Nat} (h : n < q.length) : (srvL q n).length = q.length - 1 := by simp [srvL]; omega
theorem srvL_get {q : List Hd} {n i : Nat} (h : n < q.length) (hi : i < q.length - 1) : (srvL q n)[i]! = if i < n then incH q[i]! else q[i + 1]! := by
  have hl := srvL_len h
  have h1 : ((q.take n).map incH).length = n := by simp; omega
  rw [getElem!_pos _ i xA]
  simp only [srvL]
  by_cases e : i < n
  · rw [if_pos e, List.getElem_append_left xA, List.getElem_map, List.getElem_take, getElem!_pos q i xA]
  · rw [if_neg e, List.getElem_append_right xA, List.getElem_drop, getElem!_pos q (i + 1) xA]
    congr 1
    omega
theorem earl_trans {a b c : Hd} (h1 : earl a b) (h2 : earl b c) : earl a c := by unfold earl at *; omega
theorem ov_lt {q : List Hd} (h : validQ q) {i : Nat} (hi : i < nextI q) (hl : 0 < q.length) : q[i]!.ov < 2 := by
  have hn := nextI_lt hl
  have hg := (h.1 i xA).1.2.2.2.2.2.2.2.2.2
  by_cases e : q[i]!.ov = 2
  · exfalso
    have hle : idxF (fun x => decide (x.ov = 2)) q ≤ i ∧ 0 ≤ idxF (fun x => decide (x.ov = 2)) q := by
      unfold idxF
      cases hf : q.findIdx? (fun x => decide (x.ov = 2)) with
      | none =>
        rw [List.findIdx?_eq_none_iff] at hf
        exact absurd e (of_decide_eq_false (hf q[i]! (by rw [getElem!_pos q i xA]; exact List.getElem_mem _)))
      | some j =>
        obtain ⟨h1, h2, h3⟩ := List.findIdx?_eq_some_iff_getElem.1 hf
        refine ⟨?_, by simp⟩
        rcases Nat.lt_or_ge i j with hlt | hge
        · have := h3 i hlt
          rw [← getElem!_pos q i xA] at this
          exact absurd (decide_eq_true e) this
        · simp; omega
    unfold nextI at hi
    rw [if_neg xA] at hi
    omega
  · omega
theorem srv_valid {q : List Hd} (h : validQ q) (hl : 0 < q.length) : validQ (srvL q (nextI q)) := by
  have hn := nextI_lt hl
  have hlen := srvL_len hn
  have h60 := h.2
  refine ⟨fun i hi => ?_, xA⟩
  rw [hlen] at hi
  have hgi := srvL_get hn hi
  unfold before
  rw [hgi]
  have like : ∀ a b : Hd, (likeH (incH a) b ↔ likeH a b) ∧ (likeH a (incH b) ↔ likeH a b) := fun a b => ⟨Iff.rfl, Iff.rfl⟩
  have ear : ∀ a b : Hd, (earl (incH a) b ↔ earl a b) ∧ (earl a (incH b) ↔ earl a b) := fun a b => ⟨Iff.rfl, Iff.rfl⟩
  refine ⟨?_, fun h0 => ?_, fun k hk => ?_⟩
  · split
    · rename_i e
      have h1 := (h.1 i xA).1
      have h2 := ov_lt h e hl
      unfold goodH at *
      simp only [incH]
      omega
    · exact (h.1 (i + 1) xA).1
  · rw [srvL_get hn xA]
    by_cases e : i < nextI q
    · rw [if_pos e, if_pos xA, (ear _ _).1, (ear _ _).2]
      exact (h.1 i xA).2.1 h0
    · rw [if_neg e]
      by_cases e2 : i - 1 < nextI q
      · rw [if_pos e2, (ear _ _).1]
        have h1 := (h.1 i xA).2.1 h0
        have h2 := (h.1 (i + 1) xA).2.1 xA
        exact earl_trans h1 h2
      · rw [if_neg e2, show i - 1 + 1 = i by omega]
        exact (h.1 (i + 1) xA).2.1 xA
  · rw [srvL_get hn xA]
    by_cases e : i < nextI q
    · rw [if_pos e, if_pos xA, (like _ _).1, (like _ _).2]
      exact (h.1 i xA).2.2 k hk
    · rw [if_neg e]
      split
      · rw [(like _ _).1]; exact (h.1 (i + 1) xA).2.2 k xA
      · exact (h.1 (i + 1) xA).2.2 (k + 1) xA
def ordS (q : List Hd) : Nat → List Hd
  | 0 => q
  | k + 1 => srvL (ordS q k) (nextI (ordS q k))
def ordAt (q : List Hd) (k : Nat) : Int := (ordS q k)[nextI (ordS q k)]!.id
def ordI (q : List Hd) (k : Nat) : List Int := (List.range k).map (ordAt q)
theorem ordS_ok {q : List Hd} (h : validQ q) : ∀ k, k ≤ q.length → validQ (ordS q k) ∧ (ordS q k).length = q.length - k
  | 0, _ => ⟨h, rfl⟩
  | k + 1, hk => by
    obtain ⟨h1, h2⟩ := ordS_ok h k xA
    refine ⟨srv_valid h1 xA, ?_⟩
    rw [ordS, srvL_len (nextI_lt xA), h2]; omega
def ordQ (q : List Hd) : List Int := if validQ q then ordI q q.length else []
def ordE (q : List Hd) : Int := if validQ q then 0 else 1
def rankE (q : List Hd) (id : Int) : Int := if ¬ validQ q then 1 else if idxF (fun x => decide (x = id)) (ordQ q) < 0 then 9 else 0
def rankN (q : List Hd) (id : Int) : Int := if ¬ validQ q then 0 else if idxF (fun x => decide (x = id)) (ordQ q) < 0 then 0 else idxF (fun x => decide (x = id)) (ordQ q)
def fewQ (q : List Hd) : Prop := q.length ≤ 12 ∨ q.length = 60 ∨ q.length = 61
instance (q : List Hd) : Decidable (fewQ q) := by unfold fewQ; infer_instance
theorem ext_get {α : Type} [Inhabited α] {a b : List α} (hl : a.length = b.length) (h : ∀ j, j < a.length → a[j]! = b[j]!) : a = b := by
  apply List.ext_getElem hl
  intro i h1 h2
  have := h i h1
  rwa [getElem!_pos a i h1, getElem!_pos b i h2] at this
def ixI (q : List Hd) (id : Int) : Int := idxF (fun x => decide (x.id = id)) q
def canE (q : List Hd) (id : Int) : Int := if ¬ validQ q then 1 else if ixI q id < 0 then 9 else 0
def canQ (q : List Hd) (id : Int) : List Hd := if ¬ validQ q then [] else if ixI q id < 0 then [] else q.take (ixI q id).toNat ++ q.drop ((ixI q id).toNat + 1)
theorem can_1 {q : List Hd} (id : Int) (h : ¬ validQ q) : canE q id = 1 ∧ canQ q id = [] := ⟨by rw [canE, if_pos h], by rw [canQ, if_pos h]⟩
theorem can_9 {q : List Hd} {id : Int} (h : validQ q) (k : ixI q id < 0) : canE q id = 9 ∧ canQ q id = [] := ⟨by rw [canE, if_neg (fun e => e h), if_pos k], by rw [canQ, if_neg (fun e => e h), if_pos k]⟩
theorem can_0 {q : List Hd} {id : Int} (h : validQ q) (k : ¬ ixI q id < 0) : canE q id = 0 ∧ canQ q id = q.take (ixI q id).toNat ++ q.drop ((ixI q id).toNat + 1) := ⟨by rw [canE, if_neg (fun e => e h), if_neg k], by rw [canQ, if_neg (fun e => e h), if_neg k]⟩
theorem ixI_range (q : List Hd) (id : Int) : -1 ≤ ixI q id ∧ ixI q id < q.length := idxF_range _ _
def exQ : List Hd := [⟨1, 1, 3, 1, 0⟩, ⟨2, 2, 1, 2, 0⟩, ⟨3, 3, 1, 3, 0⟩, ⟨4, 4, 1, 4, 0⟩]
theorem sorted {q : List Hd} (h : validQ q) : ∀ {j i : Nat}, i < j → j < q.length → earl q[i]! q[j]!
  | 0, _, hi, _ => by omega
  | j + 1, i, hi, hj => by
    have h1 := (h.1 (j + 1) hj).2.1 xA
    rw [Nat.add_sub_cancel] at h1
    by_cases e : i = j
    · subst e; exact h1
    · exact earl_trans (sorted h xA xA) h1
def ovd (q : List Hd) (k : Nat) : Bool := (q.take k).any fun x => decide (x.ov = 2)
end Go.D57
end
section
namespace Go.H
open Go Go.RowKit
section
variable {c : Ctx} {P : Program} {Q : Exit → Act → World → Prop} {F : Frm} {S : Sto} {ops : Array Oper} {r : List Oper} {d : Nat} {op : Go.Op} {ty : TypeId} {pos : String} {af : Array Edge} {gd : Option (Nat × Bool)} {i : IV} {T : List Nat}
variable {pl : List Pl} {Zp : Frm → Sto → Prop} {m : Nat}
theorem SL.o {x : Operand} (h : SL c P ops Q r ((d, i) :: F) S) (hx : ev F x = some i := by exact rfl) (hd : Nat.blt d c.n = true := by exact rfl) : SL c P ops Q (⟨some d, .move x, ty, pos, af, none⟩ :: r) F S := SL.val (O.move hx hd Taken.no) h
theorem SL.a {x : Operand} (h : SL c P ops Q r ((d, i) :: F) S) (hx : ev F x = some i := by exact rfl) (hd : Nat.blt d c.n = true := by exact rfl) : SL c P ops Q (⟨some d, .assign x, ty, pos, af, none⟩ :: r) F S := SL.val (O.assign hx hd Taken.no) h
theorem WH.o {x : Operand} (hx : ev F x = some i) (h : WH c P ops pl Zp (m + 1) r ((d, i) :: F) S) (hd : Nat.blt d c.n = true := by exact rfl) (hi : subl i.tags (pl.getD m default).A = true := by exact rfl) : WH c P ops pl Zp m (⟨some d, .move x, ty, pos, af, none⟩ :: r) F S := WH.val (O.move hx hd Taken.no) rfl hi h
theorem SL.k {j g : Nat} {b want : Bool} (hb : b ≠ want) (h : SL c P ops Q r ((d, .u (.sc undef)) :: F) S) (hd : Nat.blt d c.n = true := by exact rfl) (hj : (ops[j]?).bind (·.dst) = some g := by exact rfl) (hg : look g F = some (.u (.sc (.bool b))) := by exact rfl) : SL c P ops Q (⟨some d, op, ty, pos, af, some (j, want)⟩ :: r) F S := SL.skip (OpOk.not hd hj hg hb) h
theorem WH.k {j g : Nat} {b want : Bool} (hb : b ≠ want) (h : WH c P ops pl Zp (m + 1) r ((d, .u (.sc undef)) :: F) S) (hd : Nat.blt d c.n = true := by exact rfl) (hj : (ops[j]?).bind (·.dst) = some g := by exact rfl) (hg : look g F = some (.u (.sc (.bool b))) := by exact rfl) : WH c P ops pl Zp m (⟨some d, op, ty, pos, af, some (j, want)⟩ :: r) F S := WH.skip (OpOk.not hd hj hg hb) h
theorem SL.cl {fo : Operand} {args : List Operand} {at_ : Array TypeId} {fi : IV} {f : FuncId} {la lb is ivs : List IV} {r0 : IV} {Sc Sc' : Sto} (l : List (Nat × Nat)) (bor : List Nat) (r' : IV) (S' : Sto) (hg : Taken ops F gd := by exact Taken.no) (hf : ev F fo = some fi := by exact rfl) (hcal : callee fi = some (f, la, lb) := by exact rfl) (ha : evs F args = some is := by exact rfl) (harg : ArgsOk (rn l) S bor (la ++ is ++ lb) ivs := by repeat' first | exact ArgsOk.nil | refine ArgsOk.cons (ArgOk.same rfl) ?_ | refine ArgsOk.cons (ArgOk.aggU ?_) ?_ | refine ArgsOk.cons (ArgOk.own rfl rfl) ?_ | refine ArgsOk.cons ArgOk.nil ?_ | refine ArgsOk.cons (ArgOk.ref rfl rfl rfl) ?_ | refine ArgsOk.cons ArgOk.fnc ?_ | refine ArgsOk.cons (ArgOk.cloU ?_ ?_) ?_ | exact ArgsOk.caps _) (hsto : SubS (rn l) S Sc := by repeat' first | exact SubS.nil | refine SubS.cons rfl ?_) (hd1 : distinct ((keysS Sc ++ callNew Sc Sc').map (rn l)) = true := by exact rfl) (hbor : disj bor ((keysS Sc).map (rn l)) = true := by exact rfl) (hrt : subl r0.tags (keysS Sc ++ callNew Sc Sc') = true := by exact rfl) (hst : subl (tagsS Sc') (keysS Sc ++ callNew Sc Sc') = true := by exact rfl) (hlive : liveB Sc' = true := by exact rfl) (fl : bor = [] ∨ (r0.flat = true ∧ ∀ x ∈ Sc', x.2.flatP) := by exact .inl rfl) (hr : r0.ren (rn l) = r' := by exact rfl) (hd : Nat.blt d c.n = true := by exact rfl) (hf2 : freshB ((callNew Sc Sc').map (rn l)) F S = true := by exact rfl) (hp2 : disj ((callNew Sc Sc').map (rn l)) c.pk = true := by exact rfl) (hS2 : updS (callChg (rn l) Sc Sc') S = S' := by exact rfl) (q : Con P f ivs Sc r0 Sc') (o : G.callOk P f = true := by kernel_rfl) (h : SL c P ops Q r ((d, r') :: F) S') : SL c P ops Q (⟨some d, .call { callee := .value fo, args := args.toArray, argTypes := at_ }, ty, pos, af, gd⟩ :: r) F S := SL.memS (O.call (rn l) bor hf hcal ha q harg hsto hd1 hbor hrt hst hlive fl o hr hd hg) hf2 hp2 hS2 h
theorem WH.cl {fo : Operand} {args : List Operand} {at_ : Array TypeId} {fi : IV} {f : FuncId} {la lb is ivs : List IV} {r0 : IV} {Sc Sc' : Sto} (l : List (Nat × Nat)) (bor : List Nat) (r' : IV) (S' : Sto) (hg : Taken ops F gd := by exact Taken.no) (hf : ev F fo = some fi := by exact rfl) (hcal : callee fi = some (f, la, lb) := by exact rfl) (ha : evs F args = some is := by exact rfl) (harg : ArgsOk (rn l) S bor (la ++ is ++ lb) ivs := by repeat' first | exact ArgsOk.nil | refine ArgsOk.cons (ArgOk.same rfl) ?_ | refine ArgsOk.cons (ArgOk.aggU ?_) ?_ | refine ArgsOk.cons (ArgOk.own rfl rfl) ?_ | refine ArgsOk.cons ArgOk.nil ?_ | refine ArgsOk.cons (ArgOk.ref rfl rfl rfl) ?_ | refine ArgsOk.cons ArgOk.fnc ?_ | refine ArgsOk.cons (ArgOk.cloU ?_ ?_) ?_ | exact ArgsOk.caps _) (hsto : SubS (rn l) S Sc := by repeat' first | exact SubS.nil | refine SubS.cons rfl ?_) (hd1 : distinct ((keysS Sc ++ callNew Sc Sc').map (rn l)) = true := by exact rfl) (hbor : disj bor ((keysS Sc).map (rn l)) = true := by exact rfl) (hrt : subl r0.tags (keysS Sc ++ callNew Sc Sc') = true := by exact rfl) (hst : subl (tagsS Sc') (keysS Sc ++ callNew Sc Sc') = true := by exact rfl) (hlive : liveB Sc' = true := by exact rfl) (fl : bor = [] ∨ (r0.flat = true ∧ ∀ x ∈ Sc', x.2.flatP) := by exact .inl rfl) (hr : r0.ren (rn l) = r' := by exact rfl) (hd : Nat.blt d c.n = true := by exact rfl) (hT2 : subl ((keysS Sc).map (rn l) ++ (callNew Sc Sc').map (rn l) ++ bor) (pl.getD m default).T = true := by exact rfl) (hN2 : subl ((callNew Sc Sc').map (rn l)) (pl.getD m default).N = true := by exact rfl) (hk2 : subl (keysC (callChg (rn l) Sc Sc')) (pl.getD m default).Wr = true := by exact rfl) (hi2 : subl r'.tags (pl.getD m default).A = true := by exact rfl) (hd2 : subl (tagsC (callChg (rn l) Sc Sc')) (pl.getD m default).T = true := by exact rfl) (hS2 : updS (callChg (rn l) Sc Sc') S = S' := by exact rfl) (q : Con P f ivs Sc r0 Sc') (o : G.callOk P f = true := by kernel_rfl) (h : WH c P ops pl Zp (m + 1) r ((d, r') :: F) S') : WH c P ops pl Zp m (⟨some d, .call { callee := .value fo, args := args.toArray, argTypes := at_ }, ty, pos, af, gd⟩ :: r) F S := WH.memS (O.call (rn l) bor hf hcal ha q harg hsto hd1 hbor hrt hst hlive fl o hr hd hg) hT2 hN2 hk2 hi2 hd2 hS2 h
theorem O.ix {x y : Operand} {t e : TypeId} {k : IntKind} {i : Nat} {ii : Int} {inf : TypeInfo} {sz : Nat} {rows : List (List UV)} {row : List UV} (ht : P.underlying t = some (.slice e)) (hi : P.info? e = some inf) (hs : inf.size = sz) (hg : Taken ops F gd := by exact Taken.no) (hx : ev F x = some (.u (.sl sz rows)) := by exact rfl) (hy : ev F y = some (.u (.sc (.int k ii))) := by exact rfl) (hii : ii = (i : Int) := by exact rfl) (hrow : rows[i]? = some row := by exact row_get (by omega)) (hd : Nat.blt d c.n = true := by exact rfl) : OpOk c P ops ⟨some d, .indexAddr t x y, ty, pos, af, gd⟩ F S [] [] (some (.u (.ptr row))) [] := O.idx_fz hx hy hii hrow ht hi hs hd hg
theorem SL.cs {l : List Oper} {g : Nat} {b : Bool} (j : Nat) (want : Bool) (h1 : b = want → SL c P ops Q l F S) (h2 : b ≠ want → SL c P ops Q l F S) (hj : (ops[j]?).bind (·.dst) = some g := by exact rfl) (hg : look g F = some (.u (.sc (.bool b))) := by exact rfl) : SL c P ops Q l F S := SL.case hj hg h1 h2
theorem WH.cs {l : List Oper} {g : Nat} {b : Bool} (j : Nat) (want : Bool) (h1 : b = want → WH c P ops pl Zp m l F S) (h2 : b ≠ want → WH c P ops pl Zp m l F S) (hj : (ops[j]?).bind (·.dst) = some g := by exact rfl) (hg : look g F = some (.u (.sc (.bool b))) := by exact rfl) : WH c P ops pl Zp m l F S := WH.case hj hg h1 h2
theorem Con.en {fn : Func} {f : FuncId} {cd : Code} {S S' : Sto} {ivs : List IV} {r : IV} (n : Nat) (hf : P.funcs[f]? = some fn) (h : ∀ τ w ok vs, In τ w ok ivs S vs → W (cx n S τ w ok) P cd (Post P fn S τ w ok r S') (args0 0 ivs) S) (hb : fn.body = some cd := by exact rfl) (hn : fn.ntmps = n := by exact rfl) (hl : Nat.ble ivs.length n = true := by exact rfl) : Con P f ivs S r S' := Con.enterL hf hb hn hl h
theorem W.pk {cd : Code} (K : Frm) (Z : Sto) (h : W c P cd Q K Z) (hF : Pick F K := by repeat' first | exact trivial | refine ⟨rfl, ?_⟩) (hS : PickS S Z := by repeat' first | exact trivial | refine ⟨rfl, ?_⟩) : W c P cd Q F S := W.pick hF hS h
theorem E.ag {ι : Type} {Fi : ι → Frm} {Si : ι → Sto} {Φ : ι → Prop} {μ : ι → Nat} {m : Nat} (i : ι) (l : List (Nat × Nat)) (hF : SubF (rn l) F (Fi i)) (hS : SubS (rn l) S (Si i)) (h0 : Φ i) (hm : μ i < m) (hd : distinct ((Si i).map fun x => rn l x.1) = true := by exact rfl) (hp : fixL (rn l) c.pk = true := by exact rfl) : E c (Exit.then (Again c Fi Si Φ μ m) Q) .normal F S := E.again i (rn l) hF hS hd (fixL_spec hp) h0 hm
theorem E.ai {ι : Type} {Fi : ι → Frm} {Si : ι → Sto} {Φ : ι → Prop} {μ : ι → Nat} {m : Nat} (i : ι) (l : List (Nat × Nat)) (h0 : Φ i) (hF : SubF (rn l) F (Fi i) := by repeat' first | exact SubF.nil | refine SubF.cons rfl ?_) (hS : SubS (rn l) S (Si i) := by repeat' first | exact SubS.nil | refine SubS.cons rfl ?_) (hm : μ i < m := by (try dsimp only); omega) (hd : distinct ((Si i).map fun x => rn l x.1) = true := by exact rfl) (hp : fixL (rn l) c.pk = true := by exact rfl) : E c (Exit.then (Again c Fi Si Φ μ m) Q) .normal F S := E.again i (rn l) hF hS hd (fixL_spec hp) h0 hm
theorem W.lp {cd : Code} {A0 : Type} (Fi : A0 → Frm) (Si : A0 → Sto) (Φ : A0 → Prop) (μ : A0 → Nat) (i0 : A0) (l : List (Nat × Nat)) (K : Frm) (Z : Sto) (hF : SubF (rn l) F (Fi i0)) (hS : SubS (rn l) S (Si i0)) (h0 : Φ i0) (round : ∀ (i0 : A0), Φ i0 → W c P cd (Exit.then (Again c (fun x : A0 => Fi x ++ K) (fun x : A0 => Si x ++ Z) (fun x : A0 => Φ x) (fun x : A0 => μ x) (μ i0)) Q) (Fi i0 ++ K) (Si i0 ++ Z)) (hK : Pick F K := by repeat' first | exact trivial | refine ⟨rfl, ?_⟩) (hZ : PickS S Z := by repeat' first | exact trivial | refine ⟨rfl, ?_⟩) (hfx : fixB (rn l) K Z = true := by exact rfl) (hd : distinct ((Si i0 ++ Z).map fun x => rn l x.1) = true := by exact rfl) (hp : fixL (rn l) c.pk = true := by exact rfl) : W c P (.loop cd) Q F S := W.loopx1 Fi Si Φ μ i0 (rn l) hK hZ hfx hF hS hd hp h0 round
theorem W.lq {cd : Code} {A0 : Type} (Fi : A0 → Frm) (Si : A0 → Sto) (Φ : A0 → Prop) (μ : A0 → Nat) (i0 : A0) (l : List (Nat × Nat)) (K : Frm) (Z : Sto) (h0 : Φ i0) (round : ∀ (i0 : A0), Φ i0 → W c P cd (Exit.then (Again c (fun x : A0 => Fi x ++ K) (fun x : A0 => Si x ++ Z) (fun x : A0 => Φ x) (fun x : A0 => μ x) (μ i0)) Q) (Fi i0 ++ K) (Si i0 ++ Z)) (hK : Pick F K := by repeat' first | exact trivial | refine ⟨rfl, ?_⟩) (hZ : PickS S Z := by repeat' first | exact trivial | refine ⟨rfl, ?_⟩) (hfx : fixB (rn l) K Z = true := by exact rfl) (hd : distinct ((Si i0 ++ Z).map fun x => rn l x.1) = true := by exact rfl) (hp : fixL (rn l) c.pk = true := by exact rfl) (hF : SubF (rn l) F (Fi i0) := by repeat' first | exact SubF.nil | refine SubF.cons rfl ?_) (hS : SubS (rn l) S (Si i0) := by repeat' first | exact SubS.nil | refine SubS.cons rfl ?_) : W c P (.loop cd) Q F S := W.loopx1 Fi Si Φ μ i0 (rn l) hK hZ hfx hF hS hd hp h0 round
theorem SubS.v3 {ρ : Nat → Nat} {F F' : Sto} (h : SubS ρ F F' := by repeat' first | exact SubS.nil | refine SubS.val rfl rfl ?_ | refine SubS.val rfl (sb_data rfl) ?_) : SubS ρ F F' := h
theorem SL.v (hg : OpOk c P ops ⟨some d, op, ty, pos, af, gd⟩ F S T [] (some i) []) (h : SL c P ops Q r ((d, i) :: F) S) : SL c P ops Q (⟨some d, op, ty, pos, af, gd⟩ :: r) F S := SL.val hg h
theorem WH.v (hg : OpOk c P ops ⟨some d, op, ty, pos, af, gd⟩ F S T [] (some i) []) (h : WH c P ops pl Zp (m + 1) r ((d, i) :: F) S) (hT : subl T (pl.getD m default).T = true := by exact rfl) (hi : subl i.tags (pl.getD m default).A = true := by exact rfl) : WH c P ops pl Zp m (⟨some d, op, ty, pos, af, gd⟩ :: r) F S := WH.val hg hT hi h
theorem tY {j g : Nat} {b want : Bool} (hb : b = want) (hj : (ops[j]?).bind (·.dst) = some g := by exact rfl) (hg : look g F = some (.u (.sc (.bool b))) := by exact rfl) : Taken ops F (some (j, want)) := Taken.yes hj hg hb
theorem O.fr {x : Operand} {s : TypeId} {k kk off : Nat} {fs : Array Field} {f : Field} (o' m : Nat) (ht : P.underlying s = some (.struct fs)) (hg : Taken ops F gd := by exact Taken.no) (hx : ev F x = some (.ref kk off) := by exact rfl) (hf : fs[k]? = some f := by exact rfl) (hm : (P.info? f.type).map (·.size) = some (m + 1) := by kernel_rfl)  (he : off + f.offset = o' := by exact rfl) (hd : Nat.blt d c.n = true := by exact rfl) : OpOk c P ops ⟨some d, .fieldAddr s x k, ty, pos, af, gd⟩ F S [] [] (some (.ref kk o')) [] := O.fld_ref hx ht hf hm he hd hg
theorem O.fe {x : Operand} {s : TypeId} {k kk sz i off : Nat} {fs : Array Field} {f : Field} (o' m : Nat) (ht : P.underlying s = some (.struct fs)) (hg : Taken ops F gd := by exact Taken.no) (hx : ev F x = some (.el kk sz i off) := by exact rfl) (hf : fs[k]? = some f := by exact rfl) (hm : (P.info? f.type).map (·.size) = some (m + 1) := by kernel_rfl)  (he : off + f.offset = o' := by exact rfl) (hd : Nat.blt d c.n = true := by exact rfl) : OpOk c P ops ⟨some d, .fieldAddr s x k, ty, pos, af, gd⟩ F S [] [] (some (.el kk sz i o')) [] := O.fld_el hx ht hf hm he hd hg
theorem O.ff {x : Operand} {s : TypeId} {k : Nat} {fs : Array Field} {f : Field} {us vs : List UV} (m : Nat) (ht : P.underlying s = some (.struct fs)) (hg : Taken ops F gd := by exact Taken.no) (hx : ev F x = some (.u (.ptr us)) := by exact rfl) (hf : fs[k]? = some f := by exact rfl) (hm : (P.info? f.type).map (·.size) = some (m + 1) := by kernel_rfl)  (he : us.drop f.offset = vs := by exact rfl) (hd : Nat.blt d c.n = true := by exact rfl) : OpOk c P ops ⟨some d, .fieldAddr s x k, ty, pos, af, gd⟩ F S [] [] (some (.u (.ptr vs))) [] := O.fld_fz hx ht hf hm he hd hg
theorem O.l1 {x : Operand} {t : TypeId} {dd : TypeDesc} {is r : List IV} {i : IV} (ht : P.underlying t = some dd) (hg : Taken ops F gd := by exact Taken.no) (hp : PtI F S T x is := by exact PtI.ref rfl rfl) (hi : is = i :: r := by exact rfl) (ha : G.aggD dd = false := by exact rfl) (hd : Nat.blt d c.n = true := by exact rfl) : OpOk c P ops ⟨some d, .load t x, ty, pos, af, gd⟩ F S T [] (some i) [] := O.ld1 hp hi ht ha hd hg
theorem O.l1f {x : Operand} {t : TypeId} {dd : TypeDesc} {is r : List IV} {i : IV} (ht : P.underlying t = some dd) (hg : Taken ops F gd := by exact Taken.no) (hp : PtI F S T x is := by exact PtI.ofU (PtU.fz rfl)) (hi : is = i :: r := by exact rfl) (ha : G.aggD dd = false := by exact rfl) (hd : Nat.blt d c.n = true := by exact rfl) : OpOk c P ops ⟨some d, .load t x, ty, pos, af, gd⟩ F S T [] (some i) [] := O.ld1 hp hi ht ha hd hg
theorem O.lU {x : Operand} {t : TypeId} {dd : TypeDesc} {us : List UV} (m : Nat) (ht : P.underlying t = some dd) (hg : Taken ops F gd := by exact Taken.no) (hp : PtU F S T x us := by exact PtU.fz rfl) (hm : us.length = m := by exact rfl) (ha : G.aggD dd = true := by exact rfl) (hs : (P.info? t).map (·.size) = some m := by kernel_rfl) (hd : Nat.blt d c.n = true := by exact rfl) : OpOk c P ops ⟨some d, .load t x, ty, pos, af, gd⟩ F S T [] (some (.u (.agg us))) [] := O.ldU hp hm ht ha hs hd hg
theorem O.le {x : Operand} {t e : TypeId} {sz n : Nat} {rows : List (List UV)} (ht : P.underlying t = some (.slice e)) (hg : Taken ops F gd := by exact Taken.no) (hs : SlOf F S T x sz rows := by exact SlOf.fz rfl (by decide)) (hn : rows.length = n := by first | exact List.length_map _ | rfl) (hd : Nat.blt d c.n = true := by exact rfl) : OpOk c P ops ⟨some d, .call { callee := .builtin .len, args := #[x], argTypes := #[t] }, ty, pos, af, gd⟩ F S T [] (some (.u (.sc (.int .i64 n)))) [] := O.lenE hs hn ht hd hg
theorem O.lss {tx t' : TypeId} {x y : Operand} {k : IntKind} {a b : Int} (hg : Taken ops F gd := by exact Taken.no) (hx : G.ev (scal F) x = some (.int k a) := by exact rfl) (hy : G.ev (scal F) y = some (.int k b) := by exact rfl) (hd : Nat.blt d c.n = true := by exact rfl) : OpOk c P ops ⟨some d, .binOp .lss tx x y t', ty, pos, af, gd⟩ F S [] [] (some (.u (.sc (.bool (decide (a < b)))))) [] := O.det (fun _ => G.R.lss hx hy) hd hg
theorem O.leq {tx t' : TypeId} {x y : Operand} {k : IntKind} {a b : Int} (hg : Taken ops F gd := by exact Taken.no) (hx : G.ev (scal F) x = some (.int k a) := by exact rfl) (hy : G.ev (scal F) y = some (.int k b) := by exact rfl) (hd : Nat.blt d c.n = true := by exact rfl) : OpOk c P ops ⟨some d, .binOp .leq tx x y t', ty, pos, af, gd⟩ F S [] [] (some (.u (.sc (.bool (decide (a ≤ b)))))) [] := O.det (fun _ => G.R.leq hx hy) hd hg
theorem O.eql {tx t' : TypeId} {x y : Operand} {k : IntKind} {a b : Int} (hg : Taken ops F gd := by exact Taken.no) (hx : G.ev (scal F) x = some (.int k a) := by exact rfl) (hy : G.ev (scal F) y = some (.int k b) := by exact rfl) (hd : Nat.blt d c.n = true := by exact rfl) : OpOk c P ops ⟨some d, .binOp .eql tx x y t', ty, pos, af, gd⟩ F S [] [] (some (.u (.sc (.bool (decide (a = b)))))) [] := O.det (fun _ => G.R.eql hx hy) hd hg
theorem O.neq {tx t' : TypeId} {x y : Operand} {k : IntKind} {a b : Int} (hg : Taken ops F gd := by exact Taken.no) (hx : G.ev (scal F) x = some (.int k a) := by exact rfl) (hy : G.ev (scal F) y = some (.int k b) := by exact rfl) (hd : Nat.blt d c.n = true := by exact rfl) : OpOk c P ops ⟨some d, .binOp .neq tx x y t', ty, pos, af, gd⟩ F S [] [] (some (.u (.sc (.bool (decide (a ≠ b)))))) [] := O.det (fun _ => G.R.neq hx hy) hd hg
theorem O.geq {tx t' : TypeId} {x y : Operand} {k : IntKind} {a b : Int} (hg : Taken ops F gd := by exact Taken.no) (hx : G.ev (scal F) x = some (.int k a) := by exact rfl) (hy : G.ev (scal F) y = some (.int k b) := by exact rfl) (hd : Nat.blt d c.n = true := by exact rfl) : OpOk c P ops ⟨some d, .binOp .geq tx x y t', ty, pos, af, gd⟩ F S [] [] (some (.u (.sc (.bool (decide (b ≤ a)))))) [] := O.det (fun _ => G.R.geq hx hy) hd hg
theorem O.gtr {tx t' : TypeId} {x y : Operand} {k : IntKind} {a b : Int} (hg : Taken ops F gd := by exact Taken.no) (hx : G.ev (scal F) x = some (.int k a) := by exact rfl) (hy : G.ev (scal F) y = some (.int k b) := by exact rfl) (hd : Nat.blt d c.n = true := by exact rfl) : OpOk c P ops ⟨some d, .binOp .gtr tx x y t', ty, pos, af, gd⟩ F S [] [] (some (.u (.sc (.bool (decide (b < a)))))) [] := O.det (fun _ => G.R.gtr hx hy) hd hg
theorem O.nt {tx : TypeId} {x : Operand} {b : Bool} (hg : Taken ops F gd := by exact Taken.no) (hx : G.ev (scal F) x = some (.bool b) := by exact rfl) (hd : Nat.blt d c.n = true := by exact rfl) : OpOk c P ops ⟨some d, .unOp .not tx x, ty, pos, af, gd⟩ F S [] [] (some (.u (.sc (.bool (!b))))) [] := O.det (fun _ => G.R.not hx) hd hg
theorem O.ad {tx t' : TypeId} {x y : Operand} {k : IntKind} {a b v : Int} (hg : Taken ops F gd := by exact Taken.no) (hx : G.ev (scal F) x = some (.int k a) := by exact rfl) (hy : G.ev (scal F) y = some (.int k b) := by exact rfl) (hv : k.wrap (a + b) = v := by first | exact IntWalk.i64_in _ (by omega) | exact rfl) (hd : Nat.blt d c.n = true := by exact rfl) : OpOk c P ops ⟨some d, .binOp .add tx x y t', ty, pos, af, gd⟩ F S [] [] (some (.u (.sc (.int k v)))) [] := O.det (fun _ => hv ▸ G.R.add hx hy) hd hg
theorem O.sb {tx t' : TypeId} {x y : Operand} {k : IntKind} {a b v : Int} (hg : Taken ops F gd := by exact Taken.no) (hx : G.ev (scal F) x = some (.int k a) := by exact rfl) (hy : G.ev (scal F) y = some (.int k b) := by exact rfl) (hv : k.wrap (a - b) = v := by first | exact IntWalk.i64_in _ (by omega) | exact rfl) (hd : Nat.blt d c.n = true := by exact rfl) : OpOk c P ops ⟨some d, .binOp .sub tx x y t', ty, pos, af, gd⟩ F S [] [] (some (.u (.sc (.int k v)))) [] := O.det (fun _ => hv ▸ G.R.sub hx hy) hd hg
theorem O.pt {q x y : Operand} {i : IV} {b : Bool} (hb : b = true) (hg : Taken ops F gd := by exact Taken.no) (hq : ev F q = some (.u (.sc (.bool b))) := by exact rfl) (hx : ev F x = some i := by exact rfl) (hd : Nat.blt d c.n = true := by exact rfl) : OpOk c P ops ⟨some d, .pick q x y, ty, pos, af, gd⟩ F S [] [] (some i) [] := O.pick_t hq hb hx hd hg
theorem O.pf {q x y : Operand} {i : IV} {b : Bool} (hb : b = false) (hg : Taken ops F gd := by exact Taken.no) (hq : ev F q = some (.u (.sc (.bool b))) := by exact rfl) (hx : ev F y = some i := by exact rfl) (hd : Nat.blt d c.n = true := by exact rfl) : OpOk c P ops ⟨some d, .pick q x y, ty, pos, af, gd⟩ F S [] [] (some i) [] := O.pick_f hq hb hx hd hg
theorem O.mo {x : Operand} {i : IV} (hg : Taken ops F gd := by exact Taken.no) (hx : ev F x = some i := by exact rfl) (hd : Nat.blt d c.n = true := by exact rfl) : OpOk c P ops ⟨some d, .move x, ty, pos, af, gd⟩ F S [] [] (some i) [] := O.move hx hd hg
theorem O.as1 {x : Operand} {i : IV} (hg : Taken ops F gd := by exact Taken.no) (hx : ev F x = some i := by exact rfl) (hd : Nat.blt d c.n = true := by exact rfl) : OpOk c P ops ⟨some d, .assign x, ty, pos, af, gd⟩ F S [] [] (some i) [] := O.assign hx hd hg
theorem O.nc {x : Operand} {i : IV} (hg : Taken ops F gd := by exact Taken.no) (hx : ev F x = some i := by exact rfl) (hi : (match i with | .u (.ptr _) => true | .ref _ _ => true | .el _ _ _ _ => true | _ => false) = true := by exact rfl) (hd : Nat.blt d c.n = true := by exact rfl) : OpOk c P ops ⟨some d, .nilCheck x, ty, pos, af, gd⟩ F S [] [] (some i) [] := O.nilCheck hx hi hd hg
theorem O.ex {x : Operand} {i j : IV} {k : Nat} (hg : Taken ops F gd := by exact Taken.no) (hx : ev F x = some i := by exact rfl) (hj : i.part k = some j := by exact rfl) (hd : Nat.blt d c.n = true := by exact rfl) : OpOk c P ops ⟨some d, .extract x k, ty, pos, af, gd⟩ F S [] [] (some j) [] := O.extract hx hj hd hg
theorem O.cp {fo : Operand} {args : List Operand} {at_ : Array TypeId} {fi : IV} {f : FuncId} {la lb is ivs : List IV} {r : UV} (hg : Taken ops F gd := by exact Taken.no) (hf : ev F fo = some fi := by exact rfl) (hcal : callee fi = some (f, la, lb) := by exact rfl) (ha : evs F args = some is := by exact rfl) (harg : ArgsOk (fun k => k) S [] (la ++ is ++ lb) ivs := by repeat' first | exact ArgsOk.nil | refine ArgsOk.cons (ArgOk.same rfl) ?_ | refine ArgsOk.cons (ArgOk.aggU ?_) ?_ | refine ArgsOk.cons (ArgOk.own rfl rfl) ?_ | refine ArgsOk.cons ArgOk.nil ?_ | refine ArgsOk.cons (ArgOk.ref rfl rfl rfl) ?_ | refine ArgsOk.cons ArgOk.fnc ?_ | refine ArgsOk.cons (ArgOk.cloU ?_ ?_) ?_ | exact ArgsOk.caps _) (hd : Nat.blt d c.n = true := by exact rfl) (q : Con P f ivs [] (.u r) []) (o : G.callOk P f = true := by kernel_rfl) : OpOk c P ops ⟨some d, .call { callee := .value fo, args := args.toArray, argTypes := at_ }, ty, pos, af, gd⟩ F S [] [] (some (.u r)) [] := O.callp hf hcal ha q harg o hd hg
theorem SL.s2 {j g : Nat} {want : Bool} (h : SL c P ops Q r ((d, .u (.sc undef)) :: F) S) (hd : Nat.blt d c.n = true := by exact rfl) (hj : (ops[j]?).bind (·.dst) = some g := by exact rfl) (hg : look g F = some (.u (.sc undef)) := by exact rfl) : SL c P ops Q (⟨some d, op, ty, pos, af, some (j, want)⟩ :: r) F S := SL.skip (OpOk.not2 hd hj hg) h
theorem WH.s2 {j g : Nat} {want : Bool} (h : WH c P ops pl Zp (m + 1) r ((d, .u (.sc undef)) :: F) S) (hd : Nat.blt d c.n = true := by exact rfl) (hj : (ops[j]?).bind (·.dst) = some g := by exact rfl) (hg : look g F = some (.u (.sc undef)) := by exact rfl) : WH c P ops pl Zp m (⟨some d, op, ty, pos, af, some (j, want)⟩ :: r) F S := WH.skip (OpOk.not2 hd hj hg) h
class CondB (b : Bool) (A B : outParam Prop) : Prop where
  t : b = true → A
  f : b = false → B
instance (priority := low) CondB.any {b : Bool} : CondB b (b = true) (b = false) := ⟨id, id⟩
instance CondB.dec {p : Prop} [Decidable p] : CondB (decide p) p (¬ p) := ⟨of_decide_eq_true, of_decide_eq_false⟩
instance CondB.not {p : Prop} [Decidable p] : CondB (!decide p) (¬ p) p := ⟨fun e => by simpa using e, fun e => by simpa using e⟩
theorem W.cc {x : Operand} {y z : Code} {b : Bool} {A B : Prop} (hc : ev F x = some (.u (.sc (.bool b)))) [h : CondB b A B] (ht : A → W c P y Q F S) (hf : B → W c P z Q F S) : W c P (.cond x y z) Q F S := W.cond hc (fun e => ht (h.t e)) (fun e => hf (h.f e))
class GP (a : Prop) (b : outParam Prop) : Prop where
  g : a → b
instance (priority := low) GP.any {a : Prop} : GP a a := ⟨id⟩
instance GP.dec {p : Prop} [Decidable p] : GP (decide p = true) p := ⟨G.gA1⟩
instance GP.f1 {p : Prop} [Decidable p] : GP (decide p = false) (¬ p) := ⟨G.gA3⟩
instance GP.f2 {p : Prop} [Decidable p] : GP ((!decide p) = false) p := ⟨G.gA4⟩
instance GP.f3 {p : Prop} [Decidable p] : GP (decide p ≠ true) (¬ p) := ⟨G.gA5⟩
instance GP.f4 {p : Prop} [Decidable p] : GP ((!decide p) ≠ true) p := ⟨G.gA6⟩
instance GP.f5 {p : Prop} [Decidable p] : GP (decide p ≠ false) p := ⟨G.gA7⟩
instance GP.f6 {p : Prop} [Decidable p] : GP ((!decide p) ≠ false) (¬ p) := ⟨G.gA8⟩
instance GP.not {p : Prop} [Decidable p] : GP ((!decide p) = true) (¬ p) := ⟨G.gA2⟩
theorem gP {a b : Prop} [h : GP a b] (x : a) : b := h.g x
theorem W.dr {id : Nat} {l : List Oper} (pl : List Pl) (H : WH c P l.toArray pl (fun F' S' => E c Q .normal F' S') 0 l F S) (hm : P.follows .mixedOrders = true := by exact rfl) (hB : G.drawOk l.toArray l.length = true := by kernel_rfl) (hk : planOk (G.masks l []) l.length pl = true := by kernel_rfl) (hf : freshB (allN pl) F S = true := by exact rfl) (hp : disj (allN pl) c.pk = true := by exact rfl) : W c P (.region id l.toArray true) Q F S := W.draw pl hm hB hk hf hp H
abbrev pO : Pl := ⟨[], [], [], []⟩
abbrev pXs (l : List Nat) : Pl := ⟨l, [], [], []⟩
abbrev pX (k : Nat) : Pl := ⟨[k], [], [], []⟩
abbrev pW (k : Nat) : Pl := ⟨[], [], [], [k]⟩
theorem SubF.au {ρ : Nat → Nat} {F F' : Frm} (h : SubF ρ F F' := by repeat' first | exact SubF.nil | refine SubF.cons rfl ?_) : SubF ρ F F' := h
theorem SubS.au {ρ : Nat → Nat} {F F' : Sto} (h : SubS ρ F F' := by repeat' first | exact SubS.nil | refine SubS.cons rfl ?_) : SubS ρ F F' := h
theorem SL.al1 {t : TypeId} {Z : Sto} (k : Nat) (h : SL c P ops Q r ((d, .ref k 0) :: F) ((k, .cells t [.u (.sc (.int .i64 0)), .u (.sc (.int .i64 0)), .u (.sc (.int .i64 0)), .u (.sc (.int .i64 0)), .u (.sc (.int .i64 0))]) :: Z)) (hg : Taken ops F gd := by exact Taken.no) (hz : (P.info? t).bind (·.zero) = some (.agg #[.int .i64 0, .int .i64 0, .int .i64 0, .int .i64 0, .int .i64 0]) := by kernel_rfl) (hb : Nat.blt d c.n = true := by exact rfl) (hf : freshB [k] F S = true := by exact rfl) (hp : disj [k] c.pk = true := by exact rfl) (hZ : updS [(k, some (.cells t [.u (.sc (.int .i64 0)), .u (.sc (.int .i64 0)), .u (.sc (.int .i64 0)), .u (.sc (.int .i64 0)), .u (.sc (.int .i64 0))]))] S = (k, .cells t [.u (.sc (.int .i64 0)), .u (.sc (.int .i64 0)), .u (.sc (.int .i64 0)), .u (.sc (.int .i64 0)), .u (.sc (.int .i64 0))]) :: Z := by exact rfl) : SL c P ops Q (⟨some d, .alloc t, ty, pos, af, gd⟩ :: r) F S := SL.memS (O.alloc k hz rfl rfl hb hg) hf hp hZ h
theorem SL.al10 {t : TypeId} {Z : Sto} (k : Nat) (h : SL c P ops Q r ((d, .ref k 0) :: F) ((k, .cells t [.u (.sc (.nilFunc)), .u (.sc (.nilFunc)), .u (.sc (.nilFunc)), .u (.sc (.nilFunc)), .u (.sc (.nilFunc)), .u (.sc (.nilFunc)), .u (.sc (.nilFunc)), .u (.sc (.nilFunc)), .u (.sc (.nilFunc))]) :: Z)) (hg : Taken ops F gd := by exact Taken.no) (hz : (P.info? t).bind (·.zero) = some (.agg #[.nilFunc, .nilFunc, .nilFunc, .nilFunc, .nilFunc, .nilFunc, .nilFunc, .nilFunc, .nilFunc]) := by kernel_rfl) (hb : Nat.blt d c.n = true := by exact rfl) (hf : freshB [k] F S = true := by exact rfl) (hp : disj [k] c.pk = true := by exact rfl) (hZ : updS [(k, some (.cells t [.u (.sc (.nilFunc)), .u (.sc (.nilFunc)), .u (.sc (.nilFunc)), .u (.sc (.nilFunc)), .u (.sc (.nilFunc)), .u (.sc (.nilFunc)), .u (.sc (.nilFunc)), .u (.sc (.nilFunc)), .u (.sc (.nilFunc))]))] S = (k, .cells t [.u (.sc (.nilFunc)), .u (.sc (.nilFunc)), .u (.sc (.nilFunc)), .u (.sc (.nilFunc)), .u (.sc (.nilFunc)), .u (.sc (.nilFunc)), .u (.sc (.nilFunc)), .u (.sc (.nilFunc)), .u (.sc (.nilFunc))]) :: Z := by exact rfl) : SL c P ops Q (⟨some d, .alloc t, ty, pos, af, gd⟩ :: r) F S := SL.memS (O.alloc k hz rfl rfl hb hg) hf hp hZ h
theorem SL.al2 {t : TypeId} {Z : Sto} (k : Nat) (h : SL c P ops Q r ((d, .ref k 0) :: F) ((k, .cells t [.u (.sc (.nilFunc))]) :: Z)) (hg : Taken ops F gd := by exact Taken.no) (hz : (P.info? t).bind (·.zero) = some (.nilFunc) := by kernel_rfl) (hb : Nat.blt d c.n = true := by exact rfl) (hf : freshB [k] F S = true := by exact rfl) (hp : disj [k] c.pk = true := by exact rfl) (hZ : updS [(k, some (.cells t [.u (.sc (.nilFunc))]))] S = (k, .cells t [.u (.sc (.nilFunc))]) :: Z := by exact rfl) : SL c P ops Q (⟨some d, .alloc t, ty, pos, af, gd⟩ :: r) F S := SL.memS (O.alloc k hz rfl rfl hb hg) hf hp hZ h
theorem SL.al3 {t : TypeId} {Z : Sto} (k : Nat) (h : SL c P ops Q r ((d, .ref k 0) :: F) ((k, .cells t [.u (.sc (.int .i64 0)), .u (.sc (.int .i64 0)), .u (.sc (.string ByteArray.empty)), .u (.sc (.int .i64 0)), .u (.sc (.int .i64 0)), .u (.sc (.int .i64 0)), .u (.sc (.int .i64 0)), .u (.sc (.bool false))]) :: Z)) (hg : Taken ops F gd := by exact Taken.no) (hz : (P.info? t).bind (·.zero) = some (.agg #[.int .i64 0, .int .i64 0, .string ByteArray.empty, .int .i64 0, .int .i64 0, .int .i64 0, .int .i64 0, .bool false]) := by kernel_rfl) (hb : Nat.blt d c.n = true := by exact rfl) (hf : freshB [k] F S = true := by exact rfl) (hp : disj [k] c.pk = true := by exact rfl) (hZ : updS [(k, some (.cells t [.u (.sc (.int .i64 0)), .u (.sc (.int .i64 0)), .u (.sc (.string ByteArray.empty)), .u (.sc (.int .i64 0)), .u (.sc (.int .i64 0)), .u (.sc (.int .i64 0)), .u (.sc (.int .i64 0)), .u (.sc (.bool false))]))] S = (k, .cells t [.u (.sc (.int .i64 0)), .u (.sc (.int .i64 0)), .u (.sc (.string ByteArray.empty)), .u (.sc (.int .i64 0)), .u (.sc (.int .i64 0)), .u (.sc (.int .i64 0)), .u (.sc (.int .i64 0)), .u (.sc (.bool false))]) :: Z := by exact rfl) : SL c P ops Q (⟨some d, .alloc t, ty, pos, af, gd⟩ :: r) F S := SL.memS (O.alloc k hz rfl rfl hb hg) hf hp hZ h
theorem SL.al4 {t : TypeId} {Z : Sto} (k : Nat) (h : SL c P ops Q r ((d, .ref k 0) :: F) ((k, .cells t [.u (.sc (.int .i64 0)), .u (.sc (.int .i64 0)), .u (.sc (.int .i64 0))]) :: Z)) (hg : Taken ops F gd := by exact Taken.no) (hz : (P.info? t).bind (·.zero) = some (.agg #[.int .i64 0, .int .i64 0, .int .i64 0]) := by kernel_rfl) (hb : Nat.blt d c.n = true := by exact rfl) (hf : freshB [k] F S = true := by exact rfl) (hp : disj [k] c.pk = true := by exact rfl) (hZ : updS [(k, some (.cells t [.u (.sc (.int .i64 0)), .u (.sc (.int .i64 0)), .u (.sc (.int .i64 0))]))] S = (k, .cells t [.u (.sc (.int .i64 0)), .u (.sc (.int .i64 0)), .u (.sc (.int .i64 0))]) :: Z := by exact rfl) : SL c P ops Q (⟨some d, .alloc t, ty, pos, af, gd⟩ :: r) F S := SL.memS (O.alloc k hz rfl rfl hb hg) hf hp hZ h
theorem SL.al5 {t : TypeId} {Z : Sto} (k : Nat) (h : SL c P ops Q r ((d, .ref k 0) :: F) ((k, .cells t [.u (.sc (.int .i64 0)), .u (.sc (.int .i64 0))]) :: Z)) (hg : Taken ops F gd := by exact Taken.no) (hz : (P.info? t).bind (·.zero) = some (.agg #[.int .i64 0, .int .i64 0]) := by kernel_rfl) (hb : Nat.blt d c.n = true := by exact rfl) (hf : freshB [k] F S = true := by exact rfl) (hp : disj [k] c.pk = true := by exact rfl) (hZ : updS [(k, some (.cells t [.u (.sc (.int .i64 0)), .u (.sc (.int .i64 0))]))] S = (k, .cells t [.u (.sc (.int .i64 0)), .u (.sc (.int .i64 0))]) :: Z := by exact rfl) : SL c P ops Q (⟨some d, .alloc t, ty, pos, af, gd⟩ :: r) F S := SL.memS (O.alloc k hz rfl rfl hb hg) hf hp hZ h
theorem SL.al6 {t : TypeId} {Z : Sto} (k : Nat) (h : SL c P ops Q r ((d, .ref k 0) :: F) ((k, .cells t [.u (.sc (.map none))]) :: Z)) (hg : Taken ops F gd := by exact Taken.no) (hz : (P.info? t).bind (·.zero) = some (.map none) := by kernel_rfl) (hb : Nat.blt d c.n = true := by exact rfl) (hf : freshB [k] F S = true := by exact rfl) (hp : disj [k] c.pk = true := by exact rfl) (hZ : updS [(k, some (.cells t [.u (.sc (.map none))]))] S = (k, .cells t [.u (.sc (.map none))]) :: Z := by exact rfl) : SL c P ops Q (⟨some d, .alloc t, ty, pos, af, gd⟩ :: r) F S := SL.memS (O.alloc k hz rfl rfl hb hg) hf hp hZ h
theorem SL.al7 {t : TypeId} {Z : Sto} (k : Nat) (h : SL c P ops Q r ((d, .ref k 0) :: F) ((k, .cells t [.u (.sc (.int .i64 0)), .u (.sc (.slice none 0 0))]) :: Z)) (hg : Taken ops F gd := by exact Taken.no) (hz : (P.info? t).bind (·.zero) = some (.agg #[.int .i64 0, .slice none 0 0]) := by kernel_rfl) (hb : Nat.blt d c.n = true := by exact rfl) (hf : freshB [k] F S = true := by exact rfl) (hp : disj [k] c.pk = true := by exact rfl) (hZ : updS [(k, some (.cells t [.u (.sc (.int .i64 0)), .u (.sc (.slice none 0 0))]))] S = (k, .cells t [.u (.sc (.int .i64 0)), .u (.sc (.slice none 0 0))]) :: Z := by exact rfl) : SL c P ops Q (⟨some d, .alloc t, ty, pos, af, gd⟩ :: r) F S := SL.memS (O.alloc k hz rfl rfl hb hg) hf hp hZ h
theorem SL.al8 {t : TypeId} {Z : Sto} (k : Nat) (h : SL c P ops Q r ((d, .ref k 0) :: F) ((k, .cells t [.u (.sc (.int .i64 0)), .u (.sc (.int .i64 0)), .u (.sc (.int .i64 0)), .u (.sc (.int .i64 0)), .u (.sc (.int .i64 0)), .u (.sc (.int .i64 0)), .u (.sc (.int .i64 0)), .u (.sc (.string ByteArray.empty))]) :: Z)) (hg : Taken ops F gd := by exact Taken.no) (hz : (P.info? t).bind (·.zero) = some (.agg #[.int .i64 0, .int .i64 0, .int .i64 0, .int .i64 0, .int .i64 0, .int .i64 0, .int .i64 0, .string ByteArray.empty]) := by kernel_rfl) (hb : Nat.blt d c.n = true := by exact rfl) (hf : freshB [k] F S = true := by exact rfl) (hp : disj [k] c.pk = true := by exact rfl) (hZ : updS [(k, some (.cells t [.u (.sc (.int .i64 0)), .u (.sc (.int .i64 0)), .u (.sc (.int .i64 0)), .u (.sc (.int .i64 0)), .u (.sc (.int .i64 0)), .u (.sc (.int .i64 0)), .u (.sc (.int .i64 0)), .u (.sc (.string ByteArray.empty))]))] S = (k, .cells t [.u (.sc (.int .i64 0)), .u (.sc (.int .i64 0)), .u (.sc (.int .i64 0)), .u (.sc (.int .i64 0)), .u (.sc (.int .i64 0)), .u (.sc (.int .i64 0)), .u (.sc (.int .i64 0)), .u (.sc (.string ByteArray.empty))]) :: Z := by exact rfl) : SL c P ops Q (⟨some d, .alloc t, ty, pos, af, gd⟩ :: r) F S := SL.memS (O.alloc k hz rfl rfl hb hg) hf hp hZ h
theorem SL.al9 {t : TypeId} {Z : Sto} (k : Nat) (h : SL c P ops Q r ((d, .ref k 0) :: F) ((k, .cells t [.u (.sc (.int .i64 0)), .u (.sc (.slice none 0 0)), .u (.sc (.slice none 0 0))]) :: Z)) (hg : Taken ops F gd := by exact Taken.no) (hz : (P.info? t).bind (·.zero) = some (.agg #[.int .i64 0, .slice none 0 0, .slice none 0 0]) := by kernel_rfl) (hb : Nat.blt d c.n = true := by exact rfl) (hf : freshB [k] F S = true := by exact rfl) (hp : disj [k] c.pk = true := by exact rfl) (hZ : updS [(k, some (.cells t [.u (.sc (.int .i64 0)), .u (.sc (.slice none 0 0)), .u (.sc (.slice none 0 0))]))] S = (k, .cells t [.u (.sc (.int .i64 0)), .u (.sc (.slice none 0 0)), .u (.sc (.slice none 0 0))]) :: Z := by exact rfl) : SL c P ops Q (⟨some d, .alloc t, ty, pos, af, gd⟩ :: r) F S := SL.memS (O.alloc k hz rfl rfl hb hg) hf hp hZ h
theorem WH.al1 {t : TypeId} {Z : Sto} (k : Nat) (h : WH c P ops pl Zp (m + 1) r ((d, .ref k 0) :: F) ((k, .cells t [.u (.sc (.int .i64 0)), .u (.sc (.int .i64 0)), .u (.sc (.int .i64 0)), .u (.sc (.int .i64 0)), .u (.sc (.int .i64 0))]) :: Z)) (hg : Taken ops F gd := by exact Taken.no) (hz : (P.info? t).bind (·.zero) = some (.agg #[.int .i64 0, .int .i64 0, .int .i64 0, .int .i64 0, .int .i64 0]) := by kernel_rfl) (hb : Nat.blt d c.n = true := by exact rfl) (hT : subl [k] (pl.getD m default).T = true := by exact rfl) (hN : subl [k] (pl.getD m default).N = true := by exact rfl) (hk : subl (keysC [(k, some (.cells t [.u (.sc (.int .i64 0)), .u (.sc (.int .i64 0)), .u (.sc (.int .i64 0)), .u (.sc (.int .i64 0)), .u (.sc (.int .i64 0))]))]) (pl.getD m default).Wr = true := by exact rfl) (hi : subl (IV.ref k 0).tags (pl.getD m default).A = true := by exact rfl) (hd : subl (tagsC [(k, some (.cells t [.u (.sc (.int .i64 0)), .u (.sc (.int .i64 0)), .u (.sc (.int .i64 0)), .u (.sc (.int .i64 0)), .u (.sc (.int .i64 0))]))]) (pl.getD m default).T = true := by exact rfl) (hZ : updS [(k, some (.cells t [.u (.sc (.int .i64 0)), .u (.sc (.int .i64 0)), .u (.sc (.int .i64 0)), .u (.sc (.int .i64 0)), .u (.sc (.int .i64 0))]))] S = (k, .cells t [.u (.sc (.int .i64 0)), .u (.sc (.int .i64 0)), .u (.sc (.int .i64 0)), .u (.sc (.int .i64 0)), .u (.sc (.int .i64 0))]) :: Z := by exact rfl) : WH c P ops pl Zp m (⟨some d, .alloc t, ty, pos, af, gd⟩ :: r) F S := WH.memS (O.alloc k hz rfl rfl hb hg) hT hN hk hi hd hZ h
theorem WH.al9 {t : TypeId} {Z : Sto} (k : Nat) (h : WH c P ops pl Zp (m + 1) r ((d, .ref k 0) :: F) ((k, .cells t [.u (.sc (.int .i64 0)), .u (.sc (.slice none 0 0)), .u (.sc (.slice none 0 0))]) :: Z)) (hg : Taken ops F gd := by exact Taken.no) (hz : (P.info? t).bind (·.zero) = some (.agg #[.int .i64 0, .slice none 0 0, .slice none 0 0]) := by kernel_rfl) (hb : Nat.blt d c.n = true := by exact rfl) (hT : subl [k] (pl.getD m default).T = true := by exact rfl) (hN : subl [k] (pl.getD m default).N = true := by exact rfl) (hk : subl (keysC [(k, some (.cells t [.u (.sc (.int .i64 0)), .u (.sc (.slice none 0 0)), .u (.sc (.slice none 0 0))]))]) (pl.getD m default).Wr = true := by exact rfl) (hi : subl (IV.ref k 0).tags (pl.getD m default).A = true := by exact rfl) (hd : subl (tagsC [(k, some (.cells t [.u (.sc (.int .i64 0)), .u (.sc (.slice none 0 0)), .u (.sc (.slice none 0 0))]))]) (pl.getD m default).T = true := by exact rfl) (hZ : updS [(k, some (.cells t [.u (.sc (.int .i64 0)), .u (.sc (.slice none 0 0)), .u (.sc (.slice none 0 0))]))] S = (k, .cells t [.u (.sc (.int .i64 0)), .u (.sc (.slice none 0 0)), .u (.sc (.slice none 0 0))]) :: Z := by exact rfl) : WH c P ops pl Zp m (⟨some d, .alloc t, ty, pos, af, gd⟩ :: r) F S := WH.memS (O.alloc k hz rfl rfl hb hg) hT hN hk hi hd hZ h
theorem O.bd1 {t : TypeId} {parts : List (Nat × Operand)} {is : List IV} {a0 a1 a2 a3 a4 : IV} {fs : Array Field} (ht : P.underlying t = some (.struct fs)) (hg : Taken ops F gd := by exact Taken.no) (hv : evs F (parts.map (·.2)) = some is := by exact rfl) (hj : is.all notJunk = true := by exact rfl) (hz : (P.info? t).bind (·.zero) = some (.agg #[.int .i64 0, .int .i64 0, .int .i64 0, .int .i64 0, .int .i64 0]) := by kernel_rfl) (hp : ∀ w : World, (fs.mapM (fun f => do pure (f.offset, ← sizeOf f.type) : Field → Sem (Nat × Nat))).run P w = .ok ([(0, 1), (1, 1), (2, 1), (3, 1), (4, 1)] : List (Nat × Nat)).toArray w := by intro _; kernel_rfl) (hfill : fillI (([(0, 1), (1, 1), (2, 1), (3, 1), (4, 1)] : List (Nat × Nat)).toArray[·]?) (Value.cells (.agg #[.int .i64 0, .int .i64 0, .int .i64 0, .int .i64 0, .int .i64 0])|>.toList.map fun v => .u (.sc v)) ((parts.map (·.1)).zip is) = some [a0, a1, a2, a3, a4] := by exact rfl) (hd : Nat.blt d c.n = true := by exact rfl) : OpOk c P ops ⟨some d, .build t parts.toArray, ty, pos, af, gd⟩ F S [] [] (some (.agg [a0, a1, a2, a3, a4])) [] := O.build hv hj ht hz hp hfill hd hg
theorem O.bd2 {t : TypeId} {parts : List (Nat × Operand)} {is : List IV} {a0 a1 a2 a3 a4 a5 a6 a7 : IV} {fs : Array Field} (ht : P.underlying t = some (.struct fs)) (hg : Taken ops F gd := by exact Taken.no) (hv : evs F (parts.map (·.2)) = some is := by exact rfl) (hj : is.all notJunk = true := by exact rfl) (hz : (P.info? t).bind (·.zero) = some (.agg #[.int .i64 0, .int .i64 0, .string ByteArray.empty, .int .i64 0, .int .i64 0, .int .i64 0, .int .i64 0, .bool false]) := by kernel_rfl) (hp : ∀ w : World, (fs.mapM (fun f => do pure (f.offset, ← sizeOf f.type) : Field → Sem (Nat × Nat))).run P w = .ok ([(0, 1), (1, 1), (2, 1), (3, 1), (4, 1), (5, 1), (6, 1), (7, 1)] : List (Nat × Nat)).toArray w := by intro _; kernel_rfl) (hfill : fillI (([(0, 1), (1, 1), (2, 1), (3, 1), (4, 1), (5, 1), (6, 1), (7, 1)] : List (Nat × Nat)).toArray[·]?) (Value.cells (.agg #[.int .i64 0, .int .i64 0, .string ByteArray.empty, .int .i64 0, .int .i64 0, .int .i64 0, .int .i64 0, .bool false])|>.toList.map fun v => .u (.sc v)) ((parts.map (·.1)).zip is) = some [a0, a1, a2, a3, a4, a5, a6, a7] := by exact rfl) (hd : Nat.blt d c.n = true := by exact rfl) : OpOk c P ops ⟨some d, .build t parts.toArray, ty, pos, af, gd⟩ F S [] [] (some (.agg [a0, a1, a2, a3, a4, a5, a6, a7])) [] := O.build hv hj ht hz hp hfill hd hg
theorem O.bd3 {t : TypeId} {parts : List (Nat × Operand)} {is : List IV} {a0 a1 : IV} {fs : Array Field} (ht : P.underlying t = some (.struct fs)) (hg : Taken ops F gd := by exact Taken.no) (hv : evs F (parts.map (·.2)) = some is := by exact rfl) (hj : is.all notJunk = true := by exact rfl) (hz : (P.info? t).bind (·.zero) = some (.agg #[.int .i64 0, .int .i64 0]) := by kernel_rfl) (hp : ∀ w : World, (fs.mapM (fun f => do pure (f.offset, ← sizeOf f.type) : Field → Sem (Nat × Nat))).run P w = .ok ([(0, 1), (1, 1)] : List (Nat × Nat)).toArray w := by intro _; kernel_rfl) (hfill : fillI (([(0, 1), (1, 1)] : List (Nat × Nat)).toArray[·]?) (Value.cells (.agg #[.int .i64 0, .int .i64 0])|>.toList.map fun v => .u (.sc v)) ((parts.map (·.1)).zip is) = some [a0, a1] := by exact rfl) (hd : Nat.blt d c.n = true := by exact rfl) : OpOk c P ops ⟨some d, .build t parts.toArray, ty, pos, af, gd⟩ F S [] [] (some (.agg [a0, a1])) [] := O.build hv hj ht hz hp hfill hd hg
theorem O.bd4 {t : TypeId} {parts : List (Nat × Operand)} {is : List IV} {a0 a1 a2 a3 a4 a5 a6 a7 : IV} {fs : Array Field} (ht : P.underlying t = some (.struct fs)) (hg : Taken ops F gd := by exact Taken.no) (hv : evs F (parts.map (·.2)) = some is := by exact rfl) (hj : is.all notJunk = true := by exact rfl) (hz : (P.info? t).bind (·.zero) = some (.agg #[.int .i64 0, .int .i64 0, .int .i64 0, .int .i64 0, .int .i64 0, .int .i64 0, .int .i64 0, .string ByteArray.empty]) := by kernel_rfl) (hp : ∀ w : World, (fs.mapM (fun f => do pure (f.offset, ← sizeOf f.type) : Field → Sem (Nat × Nat))).run P w = .ok ([(0, 1), (1, 1), (2, 1), (3, 1), (4, 1), (5, 1), (6, 1), (7, 1)] : List (Nat × Nat)).toArray w := by intro _; kernel_rfl) (hfill : fillI (([(0, 1), (1, 1), (2, 1), (3, 1), (4, 1), (5, 1), (6, 1), (7, 1)] : List (Nat × Nat)).toArray[·]?) (Value.cells (.agg #[.int .i64 0, .int .i64 0, .int .i64 0, .int .i64 0, .int .i64 0, .int .i64 0, .int .i64 0, .string ByteArray.empty])|>.toList.map fun v => .u (.sc v)) ((parts.map (·.1)).zip is) = some [a0, a1, a2, a3, a4, a5, a6, a7] := by exact rfl) (hd : Nat.blt d c.n = true := by exact rfl) : OpOk c P ops ⟨some d, .build t parts.toArray, ty, pos, af, gd⟩ F S [] [] (some (.agg [a0, a1, a2, a3, a4, a5, a6, a7])) [] := O.build hv hj ht hz hp hfill hd hg
theorem O.bd5 {t : TypeId} {parts : List (Nat × Operand)} {is : List IV} {a0 a1 : IV} {fs : Array Field} (ht : P.underlying t = some (.struct fs)) (hg : Taken ops F gd := by exact Taken.no) (hv : evs F (parts.map (·.2)) = some is := by exact rfl) (hj : is.all notJunk = true := by exact rfl) (hz : (P.info? t).bind (·.zero) = some (.agg #[.int .i64 0, .slice none 0 0]) := by kernel_rfl) (hp : ∀ w : World, (fs.mapM (fun f => do pure (f.offset, ← sizeOf f.type) : Field → Sem (Nat × Nat))).run P w = .ok ([(0, 1), (1, 1)] : List (Nat × Nat)).toArray w := by intro _; kernel_rfl) (hfill : fillI (([(0, 1), (1, 1)] : List (Nat × Nat)).toArray[·]?) (Value.cells (.agg #[.int .i64 0, .slice none 0 0])|>.toList.map fun v => .u (.sc v)) ((parts.map (·.1)).zip is) = some [a0, a1] := by exact rfl) (hd : Nat.blt d c.n = true := by exact rfl) : OpOk c P ops ⟨some d, .build t parts.toArray, ty, pos, af, gd⟩ F S [] [] (some (.agg [a0, a1])) [] := O.build hv hj ht hz hp hfill hd hg
theorem O.bd6 {t : TypeId} {parts : List (Nat × Operand)} {is : List IV} {a0 a1 a2 : IV} {fs : Array Field} (ht : P.underlying t = some (.struct fs)) (hg : Taken ops F gd := by exact Taken.no) (hv : evs F (parts.map (·.2)) = some is := by exact rfl) (hj : is.all notJunk = true := by exact rfl) (hz : (P.info? t).bind (·.zero) = some (.agg #[.int .i64 0, .slice none 0 0, .slice none 0 0]) := by kernel_rfl) (hp : ∀ w : World, (fs.mapM (fun f => do pure (f.offset, ← sizeOf f.type) : Field → Sem (Nat × Nat))).run P w = .ok ([(0, 1), (1, 1), (2, 1)] : List (Nat × Nat)).toArray w := by intro _; kernel_rfl) (hfill : fillI (([(0, 1), (1, 1), (2, 1)] : List (Nat × Nat)).toArray[·]?) (Value.cells (.agg #[.int .i64 0, .slice none 0 0, .slice none 0 0])|>.toList.map fun v => .u (.sc v)) ((parts.map (·.1)).zip is) = some [a0, a1, a2] := by exact rfl) (hd : Nat.blt d c.n = true := by exact rfl) : OpOk c P ops ⟨some d, .build t parts.toArray, ty, pos, af, gd⟩ F S [] [] (some (.agg [a0, a1, a2])) [] := O.build hv hj ht hz hp hfill hd hg
theorem SL.bx1 {t : TypeId} {x : Operand} {i : IV} {a0 : IV} {Z : Sto} (k : Nat) (h : SL c P ops Q r ((d, .ref k 0) :: F) ((k, .cells t [a0]) :: Z)) (hg : Taken ops F gd := by exact Taken.no) (hx : ev F x = some i := by exact rfl) (hj : i.cells = [a0] := by exact rfl) (h1 : [a0].all IV.one = true := by exact rfl) (hb : Nat.blt d c.n = true := by exact rfl) (hf : freshB [k] F S = true := by exact rfl) (hp : disj [k] c.pk = true := by exact rfl) (hZ : updS [(k, some (.cells t [a0]))] S = (k, .cells t [a0]) :: Z := by exact rfl) : SL c P ops Q (⟨some d, .box t x, ty, pos, af, gd⟩ :: r) F S := SL.memS (O.box k hx hj (List.cons_ne_nil _ _) h1 hb hg) hf hp hZ h
theorem SL.bx2 {t : TypeId} {x : Operand} {i : IV} {a0 a1 : IV} {Z : Sto} (k : Nat) (h : SL c P ops Q r ((d, .ref k 0) :: F) ((k, .cells t [a0, a1]) :: Z)) (hg : Taken ops F gd := by exact Taken.no) (hx : ev F x = some i := by exact rfl) (hj : i.cells = [a0, a1] := by exact rfl) (h1 : [a0, a1].all IV.one = true := by exact rfl) (hb : Nat.blt d c.n = true := by exact rfl) (hf : freshB [k] F S = true := by exact rfl) (hp : disj [k] c.pk = true := by exact rfl) (hZ : updS [(k, some (.cells t [a0, a1]))] S = (k, .cells t [a0, a1]) :: Z := by exact rfl) : SL c P ops Q (⟨some d, .box t x, ty, pos, af, gd⟩ :: r) F S := SL.memS (O.box k hx hj (List.cons_ne_nil _ _) h1 hb hg) hf hp hZ h
theorem SL.bx3 {t : TypeId} {x : Operand} {i : IV} {a0 a1 a2 : IV} {Z : Sto} (k : Nat) (h : SL c P ops Q r ((d, .ref k 0) :: F) ((k, .cells t [a0, a1, a2]) :: Z)) (hg : Taken ops F gd := by exact Taken.no) (hx : ev F x = some i := by exact rfl) (hj : i.cells = [a0, a1, a2] := by exact rfl) (h1 : [a0, a1, a2].all IV.one = true := by exact rfl) (hb : Nat.blt d c.n = true := by exact rfl) (hf : freshB [k] F S = true := by exact rfl) (hp : disj [k] c.pk = true := by exact rfl) (hZ : updS [(k, some (.cells t [a0, a1, a2]))] S = (k, .cells t [a0, a1, a2]) :: Z := by exact rfl) : SL c P ops Q (⟨some d, .box t x, ty, pos, af, gd⟩ :: r) F S := SL.memS (O.box k hx hj (List.cons_ne_nil _ _) h1 hb hg) hf hp hZ h
theorem SL.bx5 {t : TypeId} {x : Operand} {i : IV} {a0 a1 a2 a3 a4 : IV} {Z : Sto} (k : Nat) (h : SL c P ops Q r ((d, .ref k 0) :: F) ((k, .cells t [a0, a1, a2, a3, a4]) :: Z)) (hg : Taken ops F gd := by exact Taken.no) (hx : ev F x = some i := by exact rfl) (hj : i.cells = [a0, a1, a2, a3, a4] := by exact rfl) (h1 : [a0, a1, a2, a3, a4].all IV.one = true := by exact rfl) (hb : Nat.blt d c.n = true := by exact rfl) (hf : freshB [k] F S = true := by exact rfl) (hp : disj [k] c.pk = true := by exact rfl) (hZ : updS [(k, some (.cells t [a0, a1, a2, a3, a4]))] S = (k, .cells t [a0, a1, a2, a3, a4]) :: Z := by exact rfl) : SL c P ops Q (⟨some d, .box t x, ty, pos, af, gd⟩ :: r) F S := SL.memS (O.box k hx hj (List.cons_ne_nil _ _) h1 hb hg) hf hp hZ h
theorem SL.bx8 {t : TypeId} {x : Operand} {i : IV} {a0 a1 a2 a3 a4 a5 a6 a7 : IV} {Z : Sto} (k : Nat) (h : SL c P ops Q r ((d, .ref k 0) :: F) ((k, .cells t [a0, a1, a2, a3, a4, a5, a6, a7]) :: Z)) (hg : Taken ops F gd := by exact Taken.no) (hx : ev F x = some i := by exact rfl) (hj : i.cells = [a0, a1, a2, a3, a4, a5, a6, a7] := by exact rfl) (h1 : [a0, a1, a2, a3, a4, a5, a6, a7].all IV.one = true := by exact rfl) (hb : Nat.blt d c.n = true := by exact rfl) (hf : freshB [k] F S = true := by exact rfl) (hp : disj [k] c.pk = true := by exact rfl) (hZ : updS [(k, some (.cells t [a0, a1, a2, a3, a4, a5, a6, a7]))] S = (k, .cells t [a0, a1, a2, a3, a4, a5, a6, a7]) :: Z := by exact rfl) : SL c P ops Q (⟨some d, .box t x, ty, pos, af, gd⟩ :: r) F S := SL.memS (O.box k hx hj (List.cons_ne_nil _ _) h1 hb hg) hf hp hZ h
theorem ResOne.c3 {t : Nat} {tt : TypeId} {dd : TypeDesc} {is : List IV} {a0 a1 a2 : IV} (ht : P.underlying tt = some dd) (hp : PtI F S T (.tmp t) is := by exact PtI.ref rfl rfl) (hj : is.take 3 = [a0, a1, a2] := by exact rfl) (hm : 3 ≤ is.length := by exact Nat.le_of_ble_eq_true rfl) (ha : G.aggD dd = true := by exact rfl) (hs : (P.info? tt).map (·.size) = some 3 := by kernel_rfl) : ResOne P F S (.cell t tt) (.agg [a0, a1, a2]) := ResOne.cellN hp hj hm ht ha hs
theorem ResOne.c5 {t : Nat} {tt : TypeId} {dd : TypeDesc} {is : List IV} {a0 a1 a2 a3 a4 : IV} (ht : P.underlying tt = some dd) (hp : PtI F S T (.tmp t) is := by exact PtI.ref rfl rfl) (hj : is.take 5 = [a0, a1, a2, a3, a4] := by exact rfl) (hm : 5 ≤ is.length := by exact Nat.le_of_ble_eq_true rfl) (ha : G.aggD dd = true := by exact rfl) (hs : (P.info? tt).map (·.size) = some 5 := by kernel_rfl) : ResOne P F S (.cell t tt) (.agg [a0, a1, a2, a3, a4]) := ResOne.cellN hp hj hm ht ha hs
theorem ResOne.c8 {t : Nat} {tt : TypeId} {dd : TypeDesc} {is : List IV} {a0 a1 a2 a3 a4 a5 a6 a7 : IV} (ht : P.underlying tt = some dd) (hp : PtI F S T (.tmp t) is := by exact PtI.ref rfl rfl) (hj : is.take 8 = [a0, a1, a2, a3, a4, a5, a6, a7] := by exact rfl) (hm : 8 ≤ is.length := by exact Nat.le_of_ble_eq_true rfl) (ha : G.aggD dd = true := by exact rfl) (hs : (P.info? tt).map (·.size) = some 8 := by kernel_rfl) : ResOne P F S (.cell t tt) (.agg [a0, a1, a2, a3, a4, a5, a6, a7]) := ResOne.cellN hp hj hm ht ha hs
theorem E.f1 {fn : Func} {n : Nat} {S0 S1 : Sto} {τ : Nat → Value} {w : World} {ok : Nat → Prop} {r : IV} {t0 : Nat} {i0 : IV} (l : List (Nat × Nat)) (hi : r.ren (rn l) = resI [i0]) (hS : SubS (rn l) S S1) (hr : fn.results = [.tmp t0].toArray := by exact rfl) (r0 : look t0 F = some i0 := by exact rfl) (hd : distinct (S1.map fun x => rn l x.1) = true := by exact rfl) (hq : fixL (rn l) (keysS S0) = true := by exact rfl) : E (cx n S0 τ w ok) (Post P fn S0 τ w ok r S1) .ret F S := E.fin (rs := [.tmp t0]) (rn l) (.inl rfl) hr (.cons (ResOne.tmp r0) .nil) hi hS hd (fixL_spec hq)
theorem E.h1 {fn : Func} {n : Nat} {S0 S1 : Sto} {τ : Nat → Value} {w : World} {ok : Nat → Prop} {r : IV} {t0 : Nat} {i0 : IV} (l : List (Nat × Nat)) (hi : r.ren (rn l) = resI [i0]) (hS : SubS (rn l) S S1 := by repeat' first | exact SubS.nil | refine SubS.cons rfl ?_) (hr : fn.results = [.tmp t0].toArray := by exact rfl) (r0 : look t0 F = some i0 := by exact rfl) (hd : distinct (S1.map fun x => rn l x.1) = true := by exact rfl) (hq : fixL (rn l) (keysS S0) = true := by exact rfl) : E (cx n S0 τ w ok) (Post P fn S0 τ w ok r S1) .ret F S := E.fin (rs := [.tmp t0]) (rn l) (.inl rfl) hr (.cons (ResOne.tmp r0) .nil) hi hS hd (fixL_spec hq)
theorem E.h2 {fn : Func} {n : Nat} {S0 S1 : Sto} {τ : Nat → Value} {w : World} {ok : Nat → Prop} {r : IV} {t0 t1 : Nat} {i0 i1 : IV} (l : List (Nat × Nat)) (hi : r.ren (rn l) = resI [i0, i1]) (hS : SubS (rn l) S S1 := by repeat' first | exact SubS.nil | refine SubS.cons rfl ?_) (hr : fn.results = [.tmp t0, .tmp t1].toArray := by exact rfl) (r0 : look t0 F = some i0 := by exact rfl) (r1 : look t1 F = some i1 := by exact rfl) (hd : distinct (S1.map fun x => rn l x.1) = true := by exact rfl) (hq : fixL (rn l) (keysS S0) = true := by exact rfl) : E (cx n S0 τ w ok) (Post P fn S0 τ w ok r S1) .ret F S := E.fin (rs := [.tmp t0, .tmp t1]) (rn l) (.inl rfl) hr (.cons (ResOne.tmp r0) (.cons (ResOne.tmp r1) .nil)) hi hS hd (fixL_spec hq)
theorem E.j1 {fn : Func} {n : Nat} {S0 S1 : Sto} {τ : Nat → Value} {w : World} {ok : Nat → Prop} {r : IV} {v0 : ResultVar} {i0 : IV} (l : List (Nat × Nat)) (hr : fn.results = [v0].toArray) (r0 : ResOne P F S v0 i0) (hi : r.ren (rn l) = resI [i0]) (hS : SubS (rn l) S S1 := by repeat' first | exact SubS.nil | refine SubS.cons rfl ?_) (hd : distinct (S1.map fun x => rn l x.1) = true := by exact rfl) (hq : fixL (rn l) (keysS S0) = true := by exact rfl) : E (cx n S0 τ w ok) (Post P fn S0 τ w ok r S1) .ret F S := E.fin (rs := [v0]) (rn l) (.inl rfl) hr (.cons r0 .nil) hi hS hd (fixL_spec hq)
theorem E.j2 {fn : Func} {n : Nat} {S0 S1 : Sto} {τ : Nat → Value} {w : World} {ok : Nat → Prop} {r : IV} {v0 v1 : ResultVar} {i0 i1 : IV} (l : List (Nat × Nat)) (hr : fn.results = [v0, v1].toArray) (r0 : ResOne P F S v0 i0) (r1 : ResOne P F S v1 i1) (hi : r.ren (rn l) = resI [i0, i1]) (hS : SubS (rn l) S S1 := by repeat' first | exact SubS.nil | refine SubS.cons rfl ?_) (hd : distinct (S1.map fun x => rn l x.1) = true := by exact rfl) (hq : fixL (rn l) (keysS S0) = true := by exact rfl) : E (cx n S0 τ w ok) (Post P fn S0 τ w ok r S1) .ret F S := E.fin (rs := [v0, v1]) (rn l) (.inl rfl) hr (.cons r0 (.cons r1 .nil)) hi hS hd (fixL_spec hq)
theorem E.j3 {fn : Func} {n : Nat} {S0 S1 : Sto} {τ : Nat → Value} {w : World} {ok : Nat → Prop} {r : IV} {v0 v1 v2 : ResultVar} {i0 i1 i2 : IV} (l : List (Nat × Nat)) (hr : fn.results = [v0, v1, v2].toArray) (r0 : ResOne P F S v0 i0) (r1 : ResOne P F S v1 i1) (r2 : ResOne P F S v2 i2) (hi : r.ren (rn l) = resI [i0, i1, i2]) (hS : SubS (rn l) S S1 := by repeat' first | exact SubS.nil | refine SubS.cons rfl ?_) (hd : distinct (S1.map fun x => rn l x.1) = true := by exact rfl) (hq : fixL (rn l) (keysS S0) = true := by exact rfl) : E (cx n S0 τ w ok) (Post P fn S0 τ w ok r S1) .ret F S := E.fin (rs := [v0, v1, v2]) (rn l) (.inl rfl) hr (.cons r0 (.cons r1 (.cons r2 .nil))) hi hS hd (fixL_spec hq)
theorem O.n2 {x : Operand} {t : TypeId} {dd : TypeDesc} {is : List IV} {a0 a1 : IV} (ht : P.underlying t = some dd) (hg : Taken ops F gd := by exact Taken.no) (hp : PtI F S T x is := by exact PtI.ref rfl rfl) (hj : is.take 2 = [a0, a1] := by exact rfl) (hm : 2 ≤ is.length := by exact Nat.le_of_ble_eq_true rfl) (ha : G.aggD dd = true := by exact rfl) (hs : (P.info? t).map (·.size) = some 2 := by kernel_rfl) (hd : Nat.blt d c.n = true := by exact rfl) : OpOk c P ops ⟨some d, .load t x, ty, pos, af, gd⟩ F S T [] (some (.agg [a0, a1])) [] := O.ldN hp hj hm ht ha hs hd hg
theorem O.n3 {x : Operand} {t : TypeId} {dd : TypeDesc} {is : List IV} {a0 a1 a2 : IV} (ht : P.underlying t = some dd) (hg : Taken ops F gd := by exact Taken.no) (hp : PtI F S T x is := by exact PtI.ref rfl rfl) (hj : is.take 3 = [a0, a1, a2] := by exact rfl) (hm : 3 ≤ is.length := by exact Nat.le_of_ble_eq_true rfl) (ha : G.aggD dd = true := by exact rfl) (hs : (P.info? t).map (·.size) = some 3 := by kernel_rfl) (hd : Nat.blt d c.n = true := by exact rfl) : OpOk c P ops ⟨some d, .load t x, ty, pos, af, gd⟩ F S T [] (some (.agg [a0, a1, a2])) [] := O.ldN hp hj hm ht ha hs hd hg
theorem O.n5 {x : Operand} {t : TypeId} {dd : TypeDesc} {is : List IV} {a0 a1 a2 a3 a4 : IV} (ht : P.underlying t = some dd) (hg : Taken ops F gd := by exact Taken.no) (hp : PtI F S T x is := by exact PtI.ref rfl rfl) (hj : is.take 5 = [a0, a1, a2, a3, a4] := by exact rfl) (hm : 5 ≤ is.length := by exact Nat.le_of_ble_eq_true rfl) (ha : G.aggD dd = true := by exact rfl) (hs : (P.info? t).map (·.size) = some 5 := by kernel_rfl) (hd : Nat.blt d c.n = true := by exact rfl) : OpOk c P ops ⟨some d, .load t x, ty, pos, af, gd⟩ F S T [] (some (.agg [a0, a1, a2, a3, a4])) [] := O.ldN hp hj hm ht ha hs hd hg
theorem O.n8 {x : Operand} {t : TypeId} {dd : TypeDesc} {is : List IV} {a0 a1 a2 a3 a4 a5 a6 a7 : IV} (ht : P.underlying t = some dd) (hg : Taken ops F gd := by exact Taken.no) (hp : PtI F S T x is := by exact PtI.ref rfl rfl) (hj : is.take 8 = [a0, a1, a2, a3, a4, a5, a6, a7] := by exact rfl) (hm : 8 ≤ is.length := by exact Nat.le_of_ble_eq_true rfl) (ha : G.aggD dd = true := by exact rfl) (hs : (P.info? t).map (·.size) = some 8 := by kernel_rfl) (hd : Nat.blt d c.n = true := by exact rfl) : OpOk c P ops ⟨some d, .load t x, ty, pos, af, gd⟩ F S T [] (some (.agg [a0, a1, a2, a3, a4, a5, a6, a7])) [] := O.ldN hp hj hm ht ha hs hd hg
theorem SL.st1_1 {x y : Operand} {t tb : TypeId} {off : Nat} {is : List IV} {j : IV} {a0 : IV} {b0 : IV} {Z : Sto} (k : Nat) (h : SL c P ops Q r F ((k, .cells tb [b0]) :: Z)) (hg : Taken ops F gd := by exact Taken.no) (hx : ev F x = some (.ref k off) := by exact rfl) (hS : lookS k S = some (.cells tb is) := by exact rfl) (hy : ev F y = some j := by exact rfl) (hj : j.cells = [a0] := by exact rfl) (hs : (P.info? t).map (·.size) = some 1 := by kernel_rfl) (hfit : off + 1 ≤ is.length := by exact Nat.le_of_ble_eq_true rfl) (h1 : [a0].all IV.one = true := by exact rfl) (hr : is.take off ++ [a0] ++ is.drop (off + 1) = [b0] := by exact rfl) (hZ : updS [(k, some (.cells tb [b0]))] S = (k, .cells tb [b0]) :: Z := by exact rfl) : SL c P ops Q (⟨none, .store t x y, ty, pos, af, gd⟩ :: r) F S := SL.effS (O.st_ref hx hS hy hj rfl hs (List.cons_ne_nil _ _) hfit h1 hr hg) hZ h
theorem SL.st1_3 {x y : Operand} {t tb : TypeId} {off : Nat} {is : List IV} {j : IV} {a0 : IV} {b0 b1 b2 : IV} {Z : Sto} (k : Nat) (h : SL c P ops Q r F ((k, .cells tb [b0, b1, b2]) :: Z)) (hg : Taken ops F gd := by exact Taken.no) (hx : ev F x = some (.ref k off) := by exact rfl) (hS : lookS k S = some (.cells tb is) := by exact rfl) (hy : ev F y = some j := by exact rfl) (hj : j.cells = [a0] := by exact rfl) (hs : (P.info? t).map (·.size) = some 1 := by kernel_rfl) (hfit : off + 1 ≤ is.length := by exact Nat.le_of_ble_eq_true rfl) (h1 : [a0].all IV.one = true := by exact rfl) (hr : is.take off ++ [a0] ++ is.drop (off + 1) = [b0, b1, b2] := by exact rfl) (hZ : updS [(k, some (.cells tb [b0, b1, b2]))] S = (k, .cells tb [b0, b1, b2]) :: Z := by exact rfl) : SL c P ops Q (⟨none, .store t x y, ty, pos, af, gd⟩ :: r) F S := SL.effS (O.st_ref hx hS hy hj rfl hs (List.cons_ne_nil _ _) hfit h1 hr hg) hZ h
theorem SL.st1_5 {x y : Operand} {t tb : TypeId} {off : Nat} {is : List IV} {j : IV} {a0 : IV} {b0 b1 b2 b3 b4 : IV} {Z : Sto} (k : Nat) (h : SL c P ops Q r F ((k, .cells tb [b0, b1, b2, b3, b4]) :: Z)) (hg : Taken ops F gd := by exact Taken.no) (hx : ev F x = some (.ref k off) := by exact rfl) (hS : lookS k S = some (.cells tb is) := by exact rfl) (hy : ev F y = some j := by exact rfl) (hj : j.cells = [a0] := by exact rfl) (hs : (P.info? t).map (·.size) = some 1 := by kernel_rfl) (hfit : off + 1 ≤ is.length := by exact Nat.le_of_ble_eq_true rfl) (h1 : [a0].all IV.one = true := by exact rfl) (hr : is.take off ++ [a0] ++ is.drop (off + 1) = [b0, b1, b2, b3, b4] := by exact rfl) (hZ : updS [(k, some (.cells tb [b0, b1, b2, b3, b4]))] S = (k, .cells tb [b0, b1, b2, b3, b4]) :: Z := by exact rfl) : SL c P ops Q (⟨none, .store t x y, ty, pos, af, gd⟩ :: r) F S := SL.effS (O.st_ref hx hS hy hj rfl hs (List.cons_ne_nil _ _) hfit h1 hr hg) hZ h
theorem SL.st1_8 {x y : Operand} {t tb : TypeId} {off : Nat} {is : List IV} {j : IV} {a0 : IV} {b0 b1 b2 b3 b4 b5 b6 b7 : IV} {Z : Sto} (k : Nat) (h : SL c P ops Q r F ((k, .cells tb [b0, b1, b2, b3, b4, b5, b6, b7]) :: Z)) (hg : Taken ops F gd := by exact Taken.no) (hx : ev F x = some (.ref k off) := by exact rfl) (hS : lookS k S = some (.cells tb is) := by exact rfl) (hy : ev F y = some j := by exact rfl) (hj : j.cells = [a0] := by exact rfl) (hs : (P.info? t).map (·.size) = some 1 := by kernel_rfl) (hfit : off + 1 ≤ is.length := by exact Nat.le_of_ble_eq_true rfl) (h1 : [a0].all IV.one = true := by exact rfl) (hr : is.take off ++ [a0] ++ is.drop (off + 1) = [b0, b1, b2, b3, b4, b5, b6, b7] := by exact rfl) (hZ : updS [(k, some (.cells tb [b0, b1, b2, b3, b4, b5, b6, b7]))] S = (k, .cells tb [b0, b1, b2, b3, b4, b5, b6, b7]) :: Z := by exact rfl) : SL c P ops Q (⟨none, .store t x y, ty, pos, af, gd⟩ :: r) F S := SL.effS (O.st_ref hx hS hy hj rfl hs (List.cons_ne_nil _ _) hfit h1 hr hg) hZ h
theorem SL.st2_2 {x y : Operand} {t tb : TypeId} {off : Nat} {is : List IV} {j : IV} {a0 a1 : IV} {b0 b1 : IV} {Z : Sto} (k : Nat) (h : SL c P ops Q r F ((k, .cells tb [b0, b1]) :: Z)) (hg : Taken ops F gd := by exact Taken.no) (hx : ev F x = some (.ref k off) := by exact rfl) (hS : lookS k S = some (.cells tb is) := by exact rfl) (hy : ev F y = some j := by exact rfl) (hj : j.cells = [a0, a1] := by exact rfl) (hs : (P.info? t).map (·.size) = some 2 := by kernel_rfl) (hfit : off + 2 ≤ is.length := by exact Nat.le_of_ble_eq_true rfl) (h1 : [a0, a1].all IV.one = true := by exact rfl) (hr : is.take off ++ [a0, a1] ++ is.drop (off + 2) = [b0, b1] := by exact rfl) (hZ : updS [(k, some (.cells tb [b0, b1]))] S = (k, .cells tb [b0, b1]) :: Z := by exact rfl) : SL c P ops Q (⟨none, .store t x y, ty, pos, af, gd⟩ :: r) F S := SL.effS (O.st_ref hx hS hy hj rfl hs (List.cons_ne_nil _ _) hfit h1 hr hg) hZ h
theorem SL.st3_3 {x y : Operand} {t tb : TypeId} {off : Nat} {is : List IV} {j : IV} {a0 a1 a2 : IV} {b0 b1 b2 : IV} {Z : Sto} (k : Nat) (h : SL c P ops Q r F ((k, .cells tb [b0, b1, b2]) :: Z)) (hg : Taken ops F gd := by exact Taken.no) (hx : ev F x = some (.ref k off) := by exact rfl) (hS : lookS k S = some (.cells tb is) := by exact rfl) (hy : ev F y = some j := by exact rfl) (hj : j.cells = [a0, a1, a2] := by exact rfl) (hs : (P.info? t).map (·.size) = some 3 := by kernel_rfl) (hfit : off + 3 ≤ is.length := by exact Nat.le_of_ble_eq_true rfl) (h1 : [a0, a1, a2].all IV.one = true := by exact rfl) (hr : is.take off ++ [a0, a1, a2] ++ is.drop (off + 3) = [b0, b1, b2] := by exact rfl) (hZ : updS [(k, some (.cells tb [b0, b1, b2]))] S = (k, .cells tb [b0, b1, b2]) :: Z := by exact rfl) : SL c P ops Q (⟨none, .store t x y, ty, pos, af, gd⟩ :: r) F S := SL.effS (O.st_ref hx hS hy hj rfl hs (List.cons_ne_nil _ _) hfit h1 hr hg) hZ h
theorem SL.st5_5 {x y : Operand} {t tb : TypeId} {off : Nat} {is : List IV} {j : IV} {a0 a1 a2 a3 a4 : IV} {b0 b1 b2 b3 b4 : IV} {Z : Sto} (k : Nat) (h : SL c P ops Q r F ((k, .cells tb [b0, b1, b2, b3, b4]) :: Z)) (hg : Taken ops F gd := by exact Taken.no) (hx : ev F x = some (.ref k off) := by exact rfl) (hS : lookS k S = some (.cells tb is) := by exact rfl) (hy : ev F y = some j := by exact rfl) (hj : j.cells = [a0, a1, a2, a3, a4] := by exact rfl) (hs : (P.info? t).map (·.size) = some 5 := by kernel_rfl) (hfit : off + 5 ≤ is.length := by exact Nat.le_of_ble_eq_true rfl) (h1 : [a0, a1, a2, a3, a4].all IV.one = true := by exact rfl) (hr : is.take off ++ [a0, a1, a2, a3, a4] ++ is.drop (off + 5) = [b0, b1, b2, b3, b4] := by exact rfl) (hZ : updS [(k, some (.cells tb [b0, b1, b2, b3, b4]))] S = (k, .cells tb [b0, b1, b2, b3, b4]) :: Z := by exact rfl) : SL c P ops Q (⟨none, .store t x y, ty, pos, af, gd⟩ :: r) F S := SL.effS (O.st_ref hx hS hy hj rfl hs (List.cons_ne_nil _ _) hfit h1 hr hg) hZ h
theorem SL.st8_8 {x y : Operand} {t tb : TypeId} {off : Nat} {is : List IV} {j : IV} {a0 a1 a2 a3 a4 a5 a6 a7 : IV} {b0 b1 b2 b3 b4 b5 b6 b7 : IV} {Z : Sto} (k : Nat) (h : SL c P ops Q r F ((k, .cells tb [b0, b1, b2, b3, b4, b5, b6, b7]) :: Z)) (hg : Taken ops F gd := by exact Taken.no) (hx : ev F x = some (.ref k off) := by exact rfl) (hS : lookS k S = some (.cells tb is) := by exact rfl) (hy : ev F y = some j := by exact rfl) (hj : j.cells = [a0, a1, a2, a3, a4, a5, a6, a7] := by exact rfl) (hs : (P.info? t).map (·.size) = some 8 := by kernel_rfl) (hfit : off + 8 ≤ is.length := by exact Nat.le_of_ble_eq_true rfl) (h1 : [a0, a1, a2, a3, a4, a5, a6, a7].all IV.one = true := by exact rfl) (hr : is.take off ++ [a0, a1, a2, a3, a4, a5, a6, a7] ++ is.drop (off + 8) = [b0, b1, b2, b3, b4, b5, b6, b7] := by exact rfl) (hZ : updS [(k, some (.cells tb [b0, b1, b2, b3, b4, b5, b6, b7]))] S = (k, .cells tb [b0, b1, b2, b3, b4, b5, b6, b7]) :: Z := by exact rfl) : SL c P ops Q (⟨none, .store t x y, ty, pos, af, gd⟩ :: r) F S := SL.effS (O.st_ref hx hS hy hj rfl hs (List.cons_ne_nil _ _) hfit h1 hr hg) hZ h
theorem SL.st9_9 {x y : Operand} {t tb : TypeId} {off : Nat} {is : List IV} {j : IV} {a0 a1 a2 a3 a4 a5 a6 a7 a8 : IV} {b0 b1 b2 b3 b4 b5 b6 b7 b8 : IV} {Z : Sto} (k : Nat) (h : SL c P ops Q r F ((k, .cells tb [b0, b1, b2, b3, b4, b5, b6, b7, b8]) :: Z)) (hg : Taken ops F gd := by exact Taken.no) (hx : ev F x = some (.ref k off) := by exact rfl) (hS : lookS k S = some (.cells tb is) := by exact rfl) (hy : ev F y = some j := by exact rfl) (hj : j.cells = [a0, a1, a2, a3, a4, a5, a6, a7, a8] := by exact rfl) (hs : (P.info? t).map (·.size) = some 9 := by kernel_rfl) (hfit : off + 9 ≤ is.length := by exact Nat.le_of_ble_eq_true rfl) (h1 : [a0, a1, a2, a3, a4, a5, a6, a7, a8].all IV.one = true := by exact rfl) (hr : is.take off ++ [a0, a1, a2, a3, a4, a5, a6, a7, a8] ++ is.drop (off + 9) = [b0, b1, b2, b3, b4, b5, b6, b7, b8] := by exact rfl) (hZ : updS [(k, some (.cells tb [b0, b1, b2, b3, b4, b5, b6, b7, b8]))] S = (k, .cells tb [b0, b1, b2, b3, b4, b5, b6, b7, b8]) :: Z := by exact rfl) : SL c P ops Q (⟨none, .store t x y, ty, pos, af, gd⟩ :: r) F S := SL.effS (O.st_ref hx hS hy hj rfl hs (List.cons_ne_nil _ _) hfit h1 hr hg) hZ h
theorem WH.st1_3 {x y : Operand} {t tb : TypeId} {off : Nat} {is : List IV} {j : IV} {a0 : IV} {b0 b1 b2 : IV} {Z : Sto} (k : Nat) (h : WH c P ops pl Zp (m + 1) r F ((k, .cells tb [b0, b1, b2]) :: Z)) (hg : Taken ops F gd := by exact Taken.no) (hx : ev F x = some (.ref k off) := by exact rfl) (hS : lookS k S = some (.cells tb is) := by exact rfl) (hy : ev F y = some j := by exact rfl) (hj : j.cells = [a0] := by exact rfl) (hs : (P.info? t).map (·.size) = some 1 := by kernel_rfl) (hfit : off + 1 ≤ is.length := by exact Nat.le_of_ble_eq_true rfl) (h1 : [a0].all IV.one = true := by exact rfl) (hr : is.take off ++ [a0] ++ is.drop (off + 1) = [b0, b1, b2] := by exact rfl) (hT : subl [k] (pl.getD m default).T = true := by exact rfl) (hk : subl (keysC [(k, some (.cells tb [b0, b1, b2]))]) (pl.getD m default).Wr = true := by exact rfl) (hd : subl (tagsC [(k, some (.cells tb [b0, b1, b2]))]) (pl.getD m default).T = true := by exact rfl) (hZ : updS [(k, some (.cells tb [b0, b1, b2]))] S = (k, .cells tb [b0, b1, b2]) :: Z := by exact rfl) : WH c P ops pl Zp m (⟨none, .store t x y, ty, pos, af, gd⟩ :: r) F S := WH.effS (O.st_ref hx hS hy hj rfl hs (List.cons_ne_nil _ _) hfit h1 hr hg) hT hk hd hZ h
theorem WH.st1_8 {x y : Operand} {t tb : TypeId} {off : Nat} {is : List IV} {j : IV} {a0 : IV} {b0 b1 b2 b3 b4 b5 b6 b7 : IV} {Z : Sto} (k : Nat) (h : WH c P ops pl Zp (m + 1) r F ((k, .cells tb [b0, b1, b2, b3, b4, b5, b6, b7]) :: Z)) (hg : Taken ops F gd := by exact Taken.no) (hx : ev F x = some (.ref k off) := by exact rfl) (hS : lookS k S = some (.cells tb is) := by exact rfl) (hy : ev F y = some j := by exact rfl) (hj : j.cells = [a0] := by exact rfl) (hs : (P.info? t).map (·.size) = some 1 := by kernel_rfl) (hfit : off + 1 ≤ is.length := by exact Nat.le_of_ble_eq_true rfl) (h1 : [a0].all IV.one = true := by exact rfl) (hr : is.take off ++ [a0] ++ is.drop (off + 1) = [b0, b1, b2, b3, b4, b5, b6, b7] := by exact rfl) (hT : subl [k] (pl.getD m default).T = true := by exact rfl) (hk : subl (keysC [(k, some (.cells tb [b0, b1, b2, b3, b4, b5, b6, b7]))]) (pl.getD m default).Wr = true := by exact rfl) (hd : subl (tagsC [(k, some (.cells tb [b0, b1, b2, b3, b4, b5, b6, b7]))]) (pl.getD m default).T = true := by exact rfl) (hZ : updS [(k, some (.cells tb [b0, b1, b2, b3, b4, b5, b6, b7]))] S = (k, .cells tb [b0, b1, b2, b3, b4, b5, b6, b7]) :: Z := by exact rfl) : WH c P ops pl Zp m (⟨none, .store t x y, ty, pos, af, gd⟩ :: r) F S := WH.effS (O.st_ref hx hS hy hj rfl hs (List.cons_ne_nil _ _) hfit h1 hr hg) hT hk hd hZ h
theorem WH.st3_3 {x y : Operand} {t tb : TypeId} {off : Nat} {is : List IV} {j : IV} {a0 a1 a2 : IV} {b0 b1 b2 : IV} {Z : Sto} (k : Nat) (h : WH c P ops pl Zp (m + 1) r F ((k, .cells tb [b0, b1, b2]) :: Z)) (hg : Taken ops F gd := by exact Taken.no) (hx : ev F x = some (.ref k off) := by exact rfl) (hS : lookS k S = some (.cells tb is) := by exact rfl) (hy : ev F y = some j := by exact rfl) (hj : j.cells = [a0, a1, a2] := by exact rfl) (hs : (P.info? t).map (·.size) = some 3 := by kernel_rfl) (hfit : off + 3 ≤ is.length := by exact Nat.le_of_ble_eq_true rfl) (h1 : [a0, a1, a2].all IV.one = true := by exact rfl) (hr : is.take off ++ [a0, a1, a2] ++ is.drop (off + 3) = [b0, b1, b2] := by exact rfl) (hT : subl [k] (pl.getD m default).T = true := by exact rfl) (hk : subl (keysC [(k, some (.cells tb [b0, b1, b2]))]) (pl.getD m default).Wr = true := by exact rfl) (hd : subl (tagsC [(k, some (.cells tb [b0, b1, b2]))]) (pl.getD m default).T = true := by exact rfl) (hZ : updS [(k, some (.cells tb [b0, b1, b2]))] S = (k, .cells tb [b0, b1, b2]) :: Z := by exact rfl) : WH c P ops pl Zp m (⟨none, .store t x y, ty, pos, af, gd⟩ :: r) F S := WH.effS (O.st_ref hx hS hy hj rfl hs (List.cons_ne_nil _ _) hfit h1 hr hg) hT hk hd hZ h
theorem WH.st5_5 {x y : Operand} {t tb : TypeId} {off : Nat} {is : List IV} {j : IV} {a0 a1 a2 a3 a4 : IV} {b0 b1 b2 b3 b4 : IV} {Z : Sto} (k : Nat) (h : WH c P ops pl Zp (m + 1) r F ((k, .cells tb [b0, b1, b2, b3, b4]) :: Z)) (hg : Taken ops F gd := by exact Taken.no) (hx : ev F x = some (.ref k off) := by exact rfl) (hS : lookS k S = some (.cells tb is) := by exact rfl) (hy : ev F y = some j := by exact rfl) (hj : j.cells = [a0, a1, a2, a3, a4] := by exact rfl) (hs : (P.info? t).map (·.size) = some 5 := by kernel_rfl) (hfit : off + 5 ≤ is.length := by exact Nat.le_of_ble_eq_true rfl) (h1 : [a0, a1, a2, a3, a4].all IV.one = true := by exact rfl) (hr : is.take off ++ [a0, a1, a2, a3, a4] ++ is.drop (off + 5) = [b0, b1, b2, b3, b4] := by exact rfl) (hT : subl [k] (pl.getD m default).T = true := by exact rfl) (hk : subl (keysC [(k, some (.cells tb [b0, b1, b2, b3, b4]))]) (pl.getD m default).Wr = true := by exact rfl) (hd : subl (tagsC [(k, some (.cells tb [b0, b1, b2, b3, b4]))]) (pl.getD m default).T = true := by exact rfl) (hZ : updS [(k, some (.cells tb [b0, b1, b2, b3, b4]))] S = (k, .cells tb [b0, b1, b2, b3, b4]) :: Z := by exact rfl) : WH c P ops pl Zp m (⟨none, .store t x y, ty, pos, af, gd⟩ :: r) F S := WH.effS (O.st_ref hx hS hy hj rfl hs (List.cons_ne_nil _ _) hfit h1 hr hg) hT hk hd hZ h
end
end Go.H
namespace Go.Proofs.YtmekkjehkcjpdaaGreat
open Go
set_option linter.defProp false
def u3 := Tryz.underlying3
def u4 := Tryz.underlying4
def u5 := Tryz.underlying5
def u9 := Tryz.underlying9
def u22 := Tryz.underlying22
def u23 := Tryz.underlying23
def u25 := Tryz.underlying25
def u27 := Tryz.underlying27
def u30 := Tryz.underlying30
def u31 := Tryz.underlying31
def u33 := Tryz.underlying33
def u38 := Tryz.underlying38
def u44 := Tryz.underlying44
def u48 := Tryz.underlying48
def u55 := Tryz.underlying55
def u56 := Tryz.underlying56
def u59 := Tryz.underlying59
def u61 := Tryz.underlying61
def u65 := Tryz.underlying65
def u67 := Tryz.underlying67
def u69 := Tryz.underlying69
def u72 := Tryz.underlying72
def u75 := Tryz.underlying75
def u79 := Tryz.underlying79
def u96 := Tryz.underlying96
def u121 := Tryz.underlying121
def u132 := Tryz.underlying132
def u133 := Tryz.underlying133
def u134 := Tryz.underlying134
def u136 := Tryz.underlying136
def u137 := Tryz.underlying137
def u139 := Tryz.underlying139
def u140 := Tryz.underlying140
end Go.Proofs.YtmekkjehkcjpdaaGreat
namespace Go
theorem G.ntf : true ≠ false := by decide
theorem G.nft : false ≠ true := by decide
end Go
theorem xG {p : Prop} (h : p := by kernel_rfl) : p := h
end
section
namespace Go.Proofs.YtmekkjehkcjpdaaGreat
open Go Go.RowKit Go.H Go.D57

theorem hinf3 : ∃ i, Tryz.prog.info? 3 = some i ∧ i.zero = some (.int .i64 0) ∧ i.size = 1 ∧ i.bytes = 8 := G.info_of xG

abbrev eH (h : Hd) : List UV := [uI h.id, uI h.pat, uI h.cls, uI h.tim, uI h.ov]
abbrev vH (h : Hd) : IV := vA (eH h)
abbrev vQ (q : List Hd) : IV := vL 5 (q.map eH)
abbrev pH (h : Hd) : UV := .ptr (eH h)

set_option maxRecDepth 8000 in
theorem isNaN_h {a : Int} :
    Con Tryz.prog 101 [vI a] [] (vB false) [] := by
 refine Con.en 6 Tryz.func101 fun τ w ok vs hin => ?_
 clear hin
 refine W.rg (SL.a (E.fo (W.rg (SL.o (SL.o ?_)))))
 refine SL.v (O.det (fun _ => G.R.mv (G.R.neq rfl rfl) (congrArg Value.bool (decide_eq_false yE))) rfl Taken.no) ?_
 refine SL.a (E.fo (W.ret ?_))
 refine E.h1 [] ?_
 ·rfl

set_option maxRecDepth 8000 in
theorem cmpCompare_h {a b : Int} :
    Con Tryz.prog 67 [vI a, vI b] [] (vI (cmpI a b)) [] := by
 refine Con.en 20 Tryz.func67 fun τ w ok vs hin => ?_
 clear hin
 refine W.rg (SL.a (E.fo (W.rg (SL.o ?_))))
 refine SL.v (O.cp (q := isNaN_h)) ?_
 refine SL.a (E.fo (W.rg (SL.o ?_)))
 refine SL.v (O.cp (q := isNaN_h)) ?_
 refine SL.a (E.fo (W.seq (W.rg (SL.o (E.fo ?_)))))
 refine W.cond_f rfl ?_
 refine W.skip (E.to (W.seq (W.rg (SL.o (E.fo ?_)))))
 refine W.cond_f rfl ?_
 refine W.skip (E.to (W.seq (W.rg (SL.o (SL.o ?_)))))
 refine SL.v (O.lss) ?_
 refine E.fo ?_
 refine W.cc rfl (fun hc1 => ?_) fun hc1 => ?_
 ·refine W.rg (SL.a (E.fo (W.ret (E.thr ?_))))
  refine E.h1 [] ?_
  ·exact iv_int (cmpI_lt xK)
 refine W.skip (E.to (W.seq (W.rg (SL.o (SL.o ?_)))))
 refine SL.v (O.gtr) ?_
 refine E.fo ?_
 refine W.cc rfl (fun hc2 => ?_) fun hc2 => ?_
 ·refine W.rg (SL.a (E.fo (W.ret (E.thr ?_))))
  refine E.h1 [] ?_
  ·exact iv_int (cmpI_gt xK)
 refine W.skip (E.to (W.rg (SL.a (E.fo (W.ret ?_)))))
 refine E.h1 [] ?_
 ·exact iv_int (cmpI_eq xK xK)

set_option maxRecDepth 8000 in
theorem cmpOr_h {l : List Int} :
    Con Tryz.prog 129 [vL 1 (l.map eI)] [] (vI ((l.find? (fun x => decide (x ≠ 0))).getD 0)) [] := by
 obtain ⟨i3, hi3, hz3, hs3, hb3⟩ := hinf3
 refine Con.en 18 Tryz.func129 fun τ w ok vs hin => ?_
 have hl0 := hin.len (i := 0) rfl
 try rw [List.length_map] at hl0
 clear hin
 refine W.rg (SL.a (E.fo (W.rg (SL.a (E.fo (W.seq (W.rg (SL.o ?_))))))))
 refine SL.v (O.le u61) ?_
 refine SL.o (E.fo (W.block ?_))
 refine W.lq (fun (k : Nat) => [(8, vI (k : Int))]) (fun (k : Nat) => []) (fun (k : Nat) => k ≤ l.length ∧ (l.drop k).find? (fun x => decide (x ≠ 0)) = l.find? (fun x => decide (x ≠ 0))) (fun (k : Nat) => l.length - k) (0) [] [(3, _), (6, _), (7, _)] [] ?_ ?_
 ·exact ⟨xA, rfl⟩
 intro k hinv
 obtain ⟨hk, hp⟩ := hinv
 refine W.rg ?_
 refine SL.v (O.lss) ?_
 refine E.fo (W.seq ?_)
 refine W.cc rfl (fun hc1 => ?_) fun hc1 => ?_
 ·refine W.skip (E.to (W.seq (W.block (W.rg ?_))))
  refine SL.v (O.ix u61 hi3 hs3) ?_
  refine SL.v (O.l1f u3) ?_
  refine SL.a (E.fo (W.rg (SL.o (SL.o ?_))))
  refine SL.v (O.neq) ?_
  refine E.fo ?_
  refine W.cc rfl (fun hc2 => ?_) fun hc2 => ?_
  ·refine W.rg (SL.o (SL.a (E.fo (W.ret ?_))))
   refine E.inr ?_
   refine E.thr (E.thr ?_)
   refine E.inr ?_
   refine E.thr ?_
   refine E.h1 [] ?_
   ·exact iv_int (by rw [or_step xA, if_pos xK] at hp; rw [← hp]; rfl)
  refine W.skip (E.inn (E.to (W.region ?_)))
  refine SL.v (O.ad) ?_
  refine SL.o (SL.nil ?_)
  refine E.ai (k + 1) [] ?_
  ·try dsimp only
   exact ⟨xA, by rw [or_step xA, if_neg xK] at hp; exact hp⟩
 refine W.exit (E.th (E.th (E.hit (E.to (W.rg (SL.o (SL.a (E.fo (W.ret ?_)))))))))
 refine E.h1 [] ?_
 ·exact iv_int (by rw [List.drop_eq_nil_of_le xA] at hp; rw [← hp]; rfl)

set_option maxRecDepth 8000 in
theorem compare_h {a b : Hd} :
    Con Tryz.prog 115 [vA (eH a), vA (eH b)] [] (vI (cmpH a b)) [] := by
 obtain ⟨i3, hi3, hz3, hs3, hb3⟩ := hinf3
 refine Con.en 17 Tryz.func115 fun τ w ok vs hin => ?_
 clear hin
 refine W.rg ?_
 refine SL.bx5 101 ?_
 refine SL.bx5 102 ?_
 refine SL.a (E.fo (W.seq ?_))
 refine W.dr [pW 101, pX 101, pW 102, pX 102, pO, pW 101, pX 101, pW 102, pX 102, pO, ⟨[103], [103], [103], []⟩, pX 103, pO] ?_
 refine WH.v (O.fr 3 0 u96) ?_
 refine WH.v (O.l1 u3) ?_
 refine WH.v (O.fr 3 0 u96) ?_
 refine WH.v (O.l1 u3) ?_
 refine WH.v (O.cp (q := cmpCompare_h)) ?_
 refine WH.v (O.fr 0 0 u96) ?_
 refine WH.v (O.l1 u3) ?_
 refine WH.v (O.fr 0 0 u96) ?_
 refine WH.v (O.l1 u3) ?_
 refine WH.v (O.cp (q := cmpCompare_h)) ?_
 refine WH.memS (O.buildSlice 103 rfl rfl u61 hi3 hz3 hs3 xI rfl xI rfl rfl rfl Taken.no) rfl rfl rfl rfl rfl (S' := (103, _) :: _) rfl ?_
 refine WH.cl [] [103] (.u _) _ (q := cmpOr_h (l := [cmpI a.tim b.tim, cmpI a.id b.id]))  (fl := .inr ⟨rfl, fun x hx => by simp at hx⟩) (h := ?_)
 refine WH.v (O.as1) ?_
 refine WH.nil (E.to (W.ret ?_))
 refine E.h1 [] ?_
 ·exact iv_int (or_two _ _).symm

set_option maxRecDepth 8000 in
theorem holdvalid_h {h : Hd} :
    Con Tryz.prog 112 [vA (eH h)] [] (vB (decide (goodH h))) [] := by
 refine Con.en 51 Tryz.func112 fun τ w ok vs hin => ?_
 clear hin
 refine W.rg ?_
 refine SL.bx5 101 ?_
 refine SL.a (E.fo (W.rg ?_))
 refine SL.v (O.fr 0 0 u96) ?_
 refine SL.v (O.l1 u3) ?_
 refine SL.v (O.geq) ?_
 refine SL.o ?_
 refine SL.cs 3 true (fun hg1 => ?_) fun hg1 => ?_
 ·have hg1p := gP hg1
  refine SL.v (O.fr 0 0 u96 (tY hg1)) ?_
  refine SL.v (O.l1 u3 (tY hg1)) ?_
  refine SL.v (O.leq (tY hg1)) ?_
  refine SL.v (O.pt hg1) ?_
  refine SL.o ?_
  refine SL.cs 8 true (fun hg2 => ?_) fun hg2 => ?_
  ·have hg2p := gP hg2
   refine SL.v (O.fr 1 0 u96 (tY hg2)) ?_
   refine SL.v (O.l1 u3 (tY hg2)) ?_
   refine SL.v (O.geq (tY hg2)) ?_
   refine SL.v (O.pt hg2) ?_
   refine SL.o ?_
   refine SL.cs 13 true (fun hg3 => ?_) fun hg3 => ?_
   ·have hg3p := gP hg3
    refine SL.v (O.fr 1 0 u96 (tY hg3)) ?_
    refine SL.v (O.l1 u3 (tY hg3)) ?_
    refine SL.v (O.leq (tY hg3)) ?_
    refine SL.v (O.pt hg3) ?_
    refine SL.o ?_
    refine SL.cs 18 true (fun hg4 => ?_) fun hg4 => ?_
    ·have hg4p := gP hg4
     refine SL.v (O.fr 2 0 u96 (tY hg4)) ?_
     refine SL.v (O.l1 u3 (tY hg4)) ?_
     refine SL.v (O.geq (tY hg4)) ?_
     refine SL.v (O.pt hg4) ?_
     refine SL.o ?_
     refine SL.cs 23 true (fun hg5 => ?_) fun hg5 => ?_
     ·have hg5p := gP hg5
      refine SL.v (O.fr 2 0 u96 (tY hg5)) ?_
      refine SL.v (O.l1 u3 (tY hg5)) ?_
      refine SL.v (O.leq (tY hg5)) ?_
      refine SL.v (O.pt hg5) ?_
      refine SL.o ?_
      refine SL.cs 28 true (fun hg6 => ?_) fun hg6 => ?_
      ·have hg6p := gP hg6
       refine SL.v (O.fr 3 0 u96 (tY hg6)) ?_
       refine SL.v (O.l1 u3 (tY hg6)) ?_
       refine SL.v (O.geq (tY hg6)) ?_
       refine SL.v (O.pt hg6) ?_
       refine SL.o ?_
       refine SL.cs 33 true (fun hg7 => ?_) fun hg7 => ?_
       ·have hg7p := gP hg7
        refine SL.v (O.fr 3 0 u96 (tY hg7)) ?_
        refine SL.v (O.l1 u3 (tY hg7)) ?_
        refine SL.v (O.leq (tY hg7)) ?_
        refine SL.v (O.pt hg7) ?_
        refine SL.o ?_
        refine SL.cs 38 true (fun hg8 => ?_) fun hg8 => ?_
        ·have hg8p := gP hg8
         refine SL.v (O.fr 4 0 u96 (tY hg8)) ?_
         refine SL.v (O.l1 u3 (tY hg8)) ?_
         refine SL.v (O.geq (tY hg8)) ?_
         refine SL.v (O.pt hg8) ?_
         refine SL.o ?_
         refine SL.cs 43 true (fun hg9 => ?_) fun hg9 => ?_
         ·have hg9p := gP hg9
          refine SL.v (O.fr 4 0 u96 (tY hg9)) ?_
          refine SL.v (O.l1 u3 (tY hg9)) ?_
          refine SL.v (O.leq (tY hg9)) ?_
          refine SL.v (O.pt hg9) ?_
          refine SL.a (E.fo ?_)
          refine W.pk [(2,_)] [(101,_)] ?_
          refine W.ret ?_
          refine E.h1 [] ?_
          ·exact xM
         have hg9p := gP hg9
         refine SL.k hg9 (SL.k hg9 (SL.k hg9 ?_))
         refine SL.v (O.pf (G.ne_t hg9)) ?_
         refine SL.a (E.fo ?_)
         refine W.pk [(2,_)] [(101,_)] ?_
         refine W.ret ?_
         refine E.h1 [] ?_
         ·exact xM
        have hg8p := gP hg8
        refine SL.k hg8 (SL.k hg8 (SL.k hg8 ?_))
        refine SL.v (O.pf (G.ne_t hg8)) ?_
        refine SL.o ?_
        have hg10 := G.nft
        refine SL.k hg10 (SL.k hg10 (SL.k hg10 ?_))
        refine SL.v (O.pf rfl) ?_
        refine SL.a (E.fo ?_)
        refine W.pk [(2,_)] [(101,_)] ?_
        refine W.ret ?_
        refine E.h1 [] ?_
        ·exact xM
       have hg7p := gP hg7
       refine SL.k hg7 (SL.k hg7 (SL.k hg7 ?_))
       refine SL.v (O.pf (G.ne_t hg7)) ?_
       refine SL.o ?_
       have hg11 := G.nft
       refine SL.k hg11 (SL.k hg11 (SL.k hg11 ?_))
       refine SL.v (O.pf rfl) ?_
       refine SL.o ?_
       have hg12 := G.nft
       refine SL.k hg12 (SL.k hg12 (SL.k hg12 ?_))
       refine SL.v (O.pf rfl) ?_
       refine SL.a (E.fo ?_)
       refine W.pk [(2,_)] [(101,_)] ?_
       refine W.ret ?_
       refine E.h1 [] ?_
       ·exact xM
      have hg6p := gP hg6
      refine SL.k hg6 (SL.k hg6 (SL.k hg6 ?_))
      refine SL.v (O.pf (G.ne_t hg6)) ?_
      refine SL.o ?_
      have hg13 := G.nft
      refine SL.k hg13 (SL.k hg13 (SL.k hg13 ?_))
      refine SL.v (O.pf rfl) ?_
      refine SL.o ?_
      have hg14 := G.nft
      refine SL.k hg14 (SL.k hg14 (SL.k hg14 ?_))
      refine SL.v (O.pf rfl) ?_
      refine SL.o ?_
      have hg15 := G.nft
      refine SL.k hg15 (SL.k hg15 (SL.k hg15 ?_))
      refine SL.v (O.pf rfl) ?_
      refine SL.a (E.fo ?_)
      refine W.pk [(2,_)] [(101,_)] ?_
      refine W.ret ?_
      refine E.h1 [] ?_
      ·exact xM
     have hg5p := gP hg5
     refine SL.k hg5 (SL.k hg5 (SL.k hg5 ?_))
     refine SL.v (O.pf (G.ne_t hg5)) ?_
     refine SL.o ?_
     have hg16 := G.nft
     refine SL.k hg16 (SL.k hg16 (SL.k hg16 ?_))
     refine SL.v (O.pf rfl) ?_
     refine SL.o ?_
     have hg17 := G.nft
     refine SL.k hg17 (SL.k hg17 (SL.k hg17 ?_))
     refine SL.v (O.pf rfl) ?_
     refine SL.o ?_
     have hg18 := G.nft
     refine SL.k hg18 (SL.k hg18 (SL.k hg18 ?_))
     refine SL.v (O.pf rfl) ?_
     refine SL.o ?_
     have hg19 := G.nft
     refine SL.k hg19 (SL.k hg19 (SL.k hg19 ?_))
     refine SL.v (O.pf rfl) ?_
     refine SL.a (E.fo ?_)
     refine W.pk [(2,_)] [(101,_)] ?_
     refine W.ret ?_
     refine E.h1 [] ?_
     ·exact xM
    have hg4p := gP hg4
    refine SL.k hg4 (SL.k hg4 (SL.k hg4 ?_))
    refine SL.v (O.pf (G.ne_t hg4)) ?_
    refine SL.o ?_
    have hg20 := G.nft
    refine SL.k hg20 (SL.k hg20 (SL.k hg20 ?_))
    refine SL.v (O.pf rfl) ?_
    refine SL.o ?_
    have hg21 := G.nft
    refine SL.k hg21 (SL.k hg21 (SL.k hg21 ?_))
    refine SL.v (O.pf rfl) ?_
    refine SL.o ?_
    have hg22 := G.nft
    refine SL.k hg22 (SL.k hg22 (SL.k hg22 ?_))
    refine SL.v (O.pf rfl) ?_
    refine SL.o ?_
    have hg23 := G.nft
    refine SL.k hg23 (SL.k hg23 (SL.k hg23 ?_))
    refine SL.v (O.pf rfl) ?_
    refine SL.o ?_
    have hg24 := G.nft
    refine SL.k hg24 (SL.k hg24 (SL.k hg24 ?_))
    refine SL.v (O.pf rfl) ?_
    refine SL.a (E.fo ?_)
    refine W.pk [(2,_)] [(101,_)] ?_
    refine W.ret ?_
    refine E.h1 [] ?_
    ·exact xM
   have hg3p := gP hg3
   refine SL.k hg3 (SL.k hg3 (SL.k hg3 ?_))
   refine SL.v (O.pf (G.ne_t hg3)) ?_
   refine SL.o ?_
   have hg25 := G.nft
   refine SL.k hg25 (SL.k hg25 (SL.k hg25 ?_))
   refine SL.v (O.pf rfl) ?_
   refine SL.o ?_
   have hg26 := G.nft
   refine SL.k hg26 (SL.k hg26 (SL.k hg26 ?_))
   refine SL.v (O.pf rfl) ?_
   refine SL.o ?_
   have hg27 := G.nft
   refine SL.k hg27 (SL.k hg27 (SL.k hg27 ?_))
   refine SL.v (O.pf rfl) ?_
   refine SL.o ?_
   have hg28 := G.nft
   refine SL.k hg28 (SL.k hg28 (SL.k hg28 ?_))
   refine SL.v (O.pf rfl) ?_
   refine SL.o ?_
   have hg29 := G.nft
   refine SL.k hg29 (SL.k hg29 (SL.k hg29 ?_))
   refine SL.v (O.pf rfl) ?_
   refine SL.o ?_
   have hg30 := G.nft
   refine SL.k hg30 (SL.k hg30 (SL.k hg30 ?_))
   refine SL.v (O.pf rfl) ?_
   refine SL.a (E.fo ?_)
   refine W.pk [(2,_)] [(101,_)] ?_
   refine W.ret ?_
   refine E.h1 [] ?_
   ·exact xM
  have hg2p := gP hg2
  refine SL.k hg2 (SL.k hg2 (SL.k hg2 ?_))
  refine SL.v (O.pf (G.ne_t hg2)) ?_
  refine SL.o ?_
  have hg31 := G.nft
  refine SL.k hg31 (SL.k hg31 (SL.k hg31 ?_))
  refine SL.v (O.pf rfl) ?_
  refine SL.o ?_
  have hg32 := G.nft
  refine SL.k hg32 (SL.k hg32 (SL.k hg32 ?_))
  refine SL.v (O.pf rfl) ?_
  refine SL.o ?_
  have hg33 := G.nft
  refine SL.k hg33 (SL.k hg33 (SL.k hg33 ?_))
  refine SL.v (O.pf rfl) ?_
  refine SL.o ?_
  have hg34 := G.nft
  refine SL.k hg34 (SL.k hg34 (SL.k hg34 ?_))
  refine SL.v (O.pf rfl) ?_
  refine SL.o ?_
  have hg35 := G.nft
  refine SL.k hg35 (SL.k hg35 (SL.k hg35 ?_))
  refine SL.v (O.pf rfl) ?_
  refine SL.o ?_
  have hg36 := G.nft
  refine SL.k hg36 (SL.k hg36 (SL.k hg36 ?_))
  refine SL.v (O.pf rfl) ?_
  refine SL.o ?_
  have hg37 := G.nft
  refine SL.k hg37 (SL.k hg37 (SL.k hg37 ?_))
  refine SL.v (O.pf rfl) ?_
  refine SL.a (E.fo ?_)
  refine W.pk [(2,_)] [(101,_)] ?_
  refine W.ret ?_
  refine E.h1 [] ?_
  ·exact xM
 have hg1p := gP hg1
 refine SL.k hg1 (SL.k hg1 (SL.k hg1 ?_))
 refine SL.v (O.pf (G.ne_t hg1)) ?_
 refine SL.o ?_
 have hg38 := G.nft
 refine SL.k hg38 (SL.k hg38 (SL.k hg38 ?_))
 refine SL.v (O.pf rfl) ?_
 refine SL.o ?_
 have hg39 := G.nft
 refine SL.k hg39 (SL.k hg39 (SL.k hg39 ?_))
 refine SL.v (O.pf rfl) ?_
 refine SL.o ?_
 have hg40 := G.nft
 refine SL.k hg40 (SL.k hg40 (SL.k hg40 ?_))
 refine SL.v (O.pf rfl) ?_
 refine SL.o ?_
 have hg41 := G.nft
 refine SL.k hg41 (SL.k hg41 (SL.k hg41 ?_))
 refine SL.v (O.pf rfl) ?_
 refine SL.o ?_
 have hg42 := G.nft
 refine SL.k hg42 (SL.k hg42 (SL.k hg42 ?_))
 refine SL.v (O.pf rfl) ?_
 refine SL.o ?_
 have hg43 := G.nft
 refine SL.k hg43 (SL.k hg43 (SL.k hg43 ?_))
 refine SL.v (O.pf rfl) ?_
 refine SL.o ?_
 have hg44 := G.nft
 refine SL.k hg44 (SL.k hg44 (SL.k hg44 ?_))
 refine SL.v (O.pf rfl) ?_
 refine SL.o ?_
 have hg45 := G.nft
 refine SL.k hg45 (SL.k hg45 (SL.k hg45 ?_))
 refine SL.v (O.pf rfl) ?_
 refine SL.a (E.fo ?_)
 refine W.pk [(2,_)] [(101,_)] ?_
 refine W.ret ?_
 refine E.h1 [] ?_
 ·exact xM

set_option maxRecDepth 8000 in
theorem refgood_h {h : Hd} :
    Con Tryz.prog 122 [vA (eH h)] [] (vB (decide (goodH h))) [] := by
 refine Con.en 51 Tryz.func122 fun τ w ok vs hin => ?_
 clear hin
 refine W.rg ?_
 refine SL.bx5 101 ?_
 refine SL.a (E.fo (W.rg ?_))
 refine SL.v (O.fr 0 0 u121) ?_
 refine SL.v (O.l1 u3) ?_
 refine SL.v (O.geq) ?_
 refine SL.o ?_
 refine SL.cs 3 true (fun hg1 => ?_) fun hg1 => ?_
 ·have hg1p := gP hg1
  refine SL.v (O.fr 0 0 u121 (tY hg1)) ?_
  refine SL.v (O.l1 u3 (tY hg1)) ?_
  refine SL.v (O.leq (tY hg1)) ?_
  refine SL.v (O.pt hg1) ?_
  refine SL.o ?_
  refine SL.cs 8 true (fun hg2 => ?_) fun hg2 => ?_
  ·have hg2p := gP hg2
   refine SL.v (O.fr 1 0 u121 (tY hg2)) ?_
   refine SL.v (O.l1 u3 (tY hg2)) ?_
   refine SL.v (O.geq (tY hg2)) ?_
   refine SL.v (O.pt hg2) ?_
   refine SL.o ?_
   refine SL.cs 13 true (fun hg3 => ?_) fun hg3 => ?_
   ·have hg3p := gP hg3
    refine SL.v (O.fr 1 0 u121 (tY hg3)) ?_
    refine SL.v (O.l1 u3 (tY hg3)) ?_
    refine SL.v (O.leq (tY hg3)) ?_
    refine SL.v (O.pt hg3) ?_
    refine SL.o ?_
    refine SL.cs 18 true (fun hg4 => ?_) fun hg4 => ?_
    ·have hg4p := gP hg4
     refine SL.v (O.fr 2 0 u121 (tY hg4)) ?_
     refine SL.v (O.l1 u3 (tY hg4)) ?_
     refine SL.v (O.geq (tY hg4)) ?_
     refine SL.v (O.pt hg4) ?_
     refine SL.o ?_
     refine SL.cs 23 true (fun hg5 => ?_) fun hg5 => ?_
     ·have hg5p := gP hg5
      refine SL.v (O.fr 2 0 u121 (tY hg5)) ?_
      refine SL.v (O.l1 u3 (tY hg5)) ?_
      refine SL.v (O.leq (tY hg5)) ?_
      refine SL.v (O.pt hg5) ?_
      refine SL.o ?_
      refine SL.cs 28 true (fun hg6 => ?_) fun hg6 => ?_
      ·have hg6p := gP hg6
       refine SL.v (O.fr 3 0 u121 (tY hg6)) ?_
       refine SL.v (O.l1 u3 (tY hg6)) ?_
       refine SL.v (O.geq (tY hg6)) ?_
       refine SL.v (O.pt hg6) ?_
       refine SL.o ?_
       refine SL.cs 33 true (fun hg7 => ?_) fun hg7 => ?_
       ·have hg7p := gP hg7
        refine SL.v (O.fr 3 0 u121 (tY hg7)) ?_
        refine SL.v (O.l1 u3 (tY hg7)) ?_
        refine SL.v (O.leq (tY hg7)) ?_
        refine SL.v (O.pt hg7) ?_
        refine SL.o ?_
        refine SL.cs 38 true (fun hg8 => ?_) fun hg8 => ?_
        ·have hg8p := gP hg8
         refine SL.v (O.fr 4 0 u121 (tY hg8)) ?_
         refine SL.v (O.l1 u3 (tY hg8)) ?_
         refine SL.v (O.geq (tY hg8)) ?_
         refine SL.v (O.pt hg8) ?_
         refine SL.o ?_
         refine SL.cs 43 true (fun hg9 => ?_) fun hg9 => ?_
         ·have hg9p := gP hg9
          refine SL.v (O.fr 4 0 u121 (tY hg9)) ?_
          refine SL.v (O.l1 u3 (tY hg9)) ?_
          refine SL.v (O.leq (tY hg9)) ?_
          refine SL.v (O.pt hg9) ?_
          refine SL.a (E.fo ?_)
          refine W.pk [(2,_)] [(101,_)] ?_
          refine W.ret ?_
          refine E.h1 [] ?_
          ·exact xM
         have hg9p := gP hg9
         refine SL.k hg9 (SL.k hg9 (SL.k hg9 ?_))
         refine SL.v (O.pf (G.ne_t hg9)) ?_
         refine SL.a (E.fo ?_)
         refine W.pk [(2,_)] [(101,_)] ?_
         refine W.ret ?_
         refine E.h1 [] ?_
         ·exact xM
        have hg8p := gP hg8
        refine SL.k hg8 (SL.k hg8 (SL.k hg8 ?_))
        refine SL.v (O.pf (G.ne_t hg8)) ?_
        refine SL.o ?_
        have hg10 := G.nft
        refine SL.k hg10 (SL.k hg10 (SL.k hg10 ?_))
        refine SL.v (O.pf rfl) ?_
        refine SL.a (E.fo ?_)
        refine W.pk [(2,_)] [(101,_)] ?_
        refine W.ret ?_
        refine E.h1 [] ?_
        ·exact xM
       have hg7p := gP hg7
       refine SL.k hg7 (SL.k hg7 (SL.k hg7 ?_))
       refine SL.v (O.pf (G.ne_t hg7)) ?_
       refine SL.o ?_
       have hg11 := G.nft
       refine SL.k hg11 (SL.k hg11 (SL.k hg11 ?_))
       refine SL.v (O.pf rfl) ?_
       refine SL.o ?_
       have hg12 := G.nft
       refine SL.k hg12 (SL.k hg12 (SL.k hg12 ?_))
       refine SL.v (O.pf rfl) ?_
       refine SL.a (E.fo ?_)
       refine W.pk [(2,_)] [(101,_)] ?_
       refine W.ret ?_
       refine E.h1 [] ?_
       ·exact xM
      have hg6p := gP hg6
      refine SL.k hg6 (SL.k hg6 (SL.k hg6 ?_))
      refine SL.v (O.pf (G.ne_t hg6)) ?_
      refine SL.o ?_
      have hg13 := G.nft
      refine SL.k hg13 (SL.k hg13 (SL.k hg13 ?_))
      refine SL.v (O.pf rfl) ?_
      refine SL.o ?_
      have hg14 := G.nft
      refine SL.k hg14 (SL.k hg14 (SL.k hg14 ?_))
      refine SL.v (O.pf rfl) ?_
      refine SL.o ?_
      have hg15 := G.nft
      refine SL.k hg15 (SL.k hg15 (SL.k hg15 ?_))
      refine SL.v (O.pf rfl) ?_
      refine SL.a (E.fo ?_)
      refine W.pk [(2,_)] [(101,_)] ?_
      refine W.ret ?_
      refine E.h1 [] ?_
      ·exact xM
     have hg5p := gP hg5
     refine SL.k hg5 (SL.k hg5 (SL.k hg5 ?_))
     refine SL.v (O.pf (G.ne_t hg5)) ?_
     refine SL.o ?_
     have hg16 := G.nft
     refine SL.k hg16 (SL.k hg16 (SL.k hg16 ?_))
     refine SL.v (O.pf rfl) ?_
     refine SL.o ?_
     have hg17 := G.nft
     refine SL.k hg17 (SL.k hg17 (SL.k hg17 ?_))
     refine SL.v (O.pf rfl) ?_
     refine SL.o ?_
     have hg18 := G.nft
     refine SL.k hg18 (SL.k hg18 (SL.k hg18 ?_))
     refine SL.v (O.pf rfl) ?_
     refine SL.o ?_
     have hg19 := G.nft
     refine SL.k hg19 (SL.k hg19 (SL.k hg19 ?_))
     refine SL.v (O.pf rfl) ?_
     refine SL.a (E.fo ?_)
     refine W.pk [(2,_)] [(101,_)] ?_
     refine W.ret ?_
     refine E.h1 [] ?_
     ·exact xM
    have hg4p := gP hg4
    refine SL.k hg4 (SL.k hg4 (SL.k hg4 ?_))
    refine SL.v (O.pf (G.ne_t hg4)) ?_
    refine SL.o ?_
    have hg20 := G.nft
    refine SL.k hg20 (SL.k hg20 (SL.k hg20 ?_))
    refine SL.v (O.pf rfl) ?_
    refine SL.o ?_
    have hg21 := G.nft
    refine SL.k hg21 (SL.k hg21 (SL.k hg21 ?_))
    refine SL.v (O.pf rfl) ?_
    refine SL.o ?_
    have hg22 := G.nft
    refine SL.k hg22 (SL.k hg22 (SL.k hg22 ?_))
    refine SL.v (O.pf rfl) ?_
    refine SL.o ?_
    have hg23 := G.nft
    refine SL.k hg23 (SL.k hg23 (SL.k hg23 ?_))
    refine SL.v (O.pf rfl) ?_
    refine SL.o ?_
    have hg24 := G.nft
    refine SL.k hg24 (SL.k hg24 (SL.k hg24 ?_))
    refine SL.v (O.pf rfl) ?_
    refine SL.a (E.fo ?_)
    refine W.pk [(2,_)] [(101,_)] ?_
    refine W.ret ?_
    refine E.h1 [] ?_
    ·exact xM
   have hg3p := gP hg3
   refine SL.k hg3 (SL.k hg3 (SL.k hg3 ?_))
   refine SL.v (O.pf (G.ne_t hg3)) ?_
   refine SL.o ?_
   have hg25 := G.nft
   refine SL.k hg25 (SL.k hg25 (SL.k hg25 ?_))
   refine SL.v (O.pf rfl) ?_
   refine SL.o ?_
   have hg26 := G.nft
   refine SL.k hg26 (SL.k hg26 (SL.k hg26 ?_))
   refine SL.v (O.pf rfl) ?_
   refine SL.o ?_
   have hg27 := G.nft
   refine SL.k hg27 (SL.k hg27 (SL.k hg27 ?_))
   refine SL.v (O.pf rfl) ?_
   refine SL.o ?_
   have hg28 := G.nft
   refine SL.k hg28 (SL.k hg28 (SL.k hg28 ?_))
   refine SL.v (O.pf rfl) ?_
   refine SL.o ?_
   have hg29 := G.nft
   refine SL.k hg29 (SL.k hg29 (SL.k hg29 ?_))
   refine SL.v (O.pf rfl) ?_
   refine SL.o ?_
   have hg30 := G.nft
   refine SL.k hg30 (SL.k hg30 (SL.k hg30 ?_))
   refine SL.v (O.pf rfl) ?_
   refine SL.a (E.fo ?_)
   refine W.pk [(2,_)] [(101,_)] ?_
   refine W.ret ?_
   refine E.h1 [] ?_
   ·exact xM
  have hg2p := gP hg2
  refine SL.k hg2 (SL.k hg2 (SL.k hg2 ?_))
  refine SL.v (O.pf (G.ne_t hg2)) ?_
  refine SL.o ?_
  have hg31 := G.nft
  refine SL.k hg31 (SL.k hg31 (SL.k hg31 ?_))
  refine SL.v (O.pf rfl) ?_
  refine SL.o ?_
  have hg32 := G.nft
  refine SL.k hg32 (SL.k hg32 (SL.k hg32 ?_))
  refine SL.v (O.pf rfl) ?_
  refine SL.o ?_
  have hg33 := G.nft
  refine SL.k hg33 (SL.k hg33 (SL.k hg33 ?_))
  refine SL.v (O.pf rfl) ?_
  refine SL.o ?_
  have hg34 := G.nft
  refine SL.k hg34 (SL.k hg34 (SL.k hg34 ?_))
  refine SL.v (O.pf rfl) ?_
  refine SL.o ?_
  have hg35 := G.nft
  refine SL.k hg35 (SL.k hg35 (SL.k hg35 ?_))
  refine SL.v (O.pf rfl) ?_
  refine SL.o ?_
  have hg36 := G.nft
  refine SL.k hg36 (SL.k hg36 (SL.k hg36 ?_))
  refine SL.v (O.pf rfl) ?_
  refine SL.o ?_
  have hg37 := G.nft
  refine SL.k hg37 (SL.k hg37 (SL.k hg37 ?_))
  refine SL.v (O.pf rfl) ?_
  refine SL.a (E.fo ?_)
  refine W.pk [(2,_)] [(101,_)] ?_
  refine W.ret ?_
  refine E.h1 [] ?_
  ·exact xM
 have hg1p := gP hg1
 refine SL.k hg1 (SL.k hg1 (SL.k hg1 ?_))
 refine SL.v (O.pf (G.ne_t hg1)) ?_
 refine SL.o ?_
 have hg38 := G.nft
 refine SL.k hg38 (SL.k hg38 (SL.k hg38 ?_))
 refine SL.v (O.pf rfl) ?_
 refine SL.o ?_
 have hg39 := G.nft
 refine SL.k hg39 (SL.k hg39 (SL.k hg39 ?_))
 refine SL.v (O.pf rfl) ?_
 refine SL.o ?_
 have hg40 := G.nft
 refine SL.k hg40 (SL.k hg40 (SL.k hg40 ?_))
 refine SL.v (O.pf rfl) ?_
 refine SL.o ?_
 have hg41 := G.nft
 refine SL.k hg41 (SL.k hg41 (SL.k hg41 ?_))
 refine SL.v (O.pf rfl) ?_
 refine SL.o ?_
 have hg42 := G.nft
 refine SL.k hg42 (SL.k hg42 (SL.k hg42 ?_))
 refine SL.v (O.pf rfl) ?_
 refine SL.o ?_
 have hg43 := G.nft
 refine SL.k hg43 (SL.k hg43 (SL.k hg43 ?_))
 refine SL.v (O.pf rfl) ?_
 refine SL.o ?_
 have hg44 := G.nft
 refine SL.k hg44 (SL.k hg44 (SL.k hg44 ?_))
 refine SL.v (O.pf rfl) ?_
 refine SL.o ?_
 have hg45 := G.nft
 refine SL.k hg45 (SL.k hg45 (SL.k hg45 ?_))
 refine SL.v (O.pf rfl) ?_
 refine SL.a (E.fo ?_)
 refine W.pk [(2,_)] [(101,_)] ?_
 refine W.ret ?_
 refine E.h1 [] ?_
 ·exact xM

set_option maxRecDepth 8000 in
theorem earlier_h {a b : Hd} :
    Con Tryz.prog 123 [vA (eH a), vA (eH b)] [] (vB (decide (earl a b))) [] := by
 refine Con.en 24 Tryz.func123 fun τ w ok vs hin => ?_
 clear hin
 refine W.rg ?_
 refine SL.bx5 101 ?_
 refine SL.bx5 102 ?_
 refine SL.a (E.fo (W.rg ?_))
 refine SL.v (O.fr 3 0 u121) ?_
 refine SL.v (O.l1 u3) ?_
 refine SL.v (O.fr 3 0 u121) ?_
 refine SL.v (O.l1 u3) ?_
 refine SL.v (O.lss) ?_
 refine SL.o ?_
 refine SL.cs 5 false (fun hg1 => ?_) fun hg1 => ?_
 ·have hg1p := gP hg1
  refine SL.v (O.fr 3 0 u121 (tY hg1)) ?_
  refine SL.v (O.l1 u3 (tY hg1)) ?_
  refine SL.v (O.fr 3 0 u121 (tY hg1)) ?_
  refine SL.v (O.l1 u3 (tY hg1)) ?_
  refine SL.v (O.eql (tY hg1)) ?_
  refine SL.v (O.mo (tY hg1)) ?_
  refine SL.cs 11 true (fun hg2 => ?_) fun hg2 => ?_
  ·have hg2p := gP hg2
   refine SL.v (O.fr 0 0 u121 (tY hg2)) ?_
   refine SL.v (O.l1 u3 (tY hg2)) ?_
   refine SL.v (O.fr 0 0 u121 (tY hg2)) ?_
   refine SL.v (O.l1 u3 (tY hg2)) ?_
   refine SL.v (O.lss (tY hg2)) ?_
   refine SL.v (O.pt hg2 (tY hg1)) ?_
   refine SL.v (O.pf hg1) ?_
   refine SL.a (E.fo ?_)
   refine W.pk [(4,_)] [(101,_),(102,_)] ?_
   refine W.ret ?_
   refine E.h1 [] ?_
   ·exact wK
  have hg2p := gP hg2
  refine SL.k hg2 (SL.k hg2 (SL.k hg2 (SL.k hg2 (SL.k hg2 ?_))))
  refine SL.v (O.pf (G.ne_t hg2) (tY hg1)) ?_
  refine SL.v (O.pf hg1) ?_
  refine SL.a (E.fo ?_)
  refine W.pk [(4,_)] [(101,_),(102,_)] ?_
  refine W.ret ?_
  refine E.h1 [] ?_
  ·exact wK
 have hg1p := gP hg1
 refine SL.k hg1 (SL.k hg1 (SL.k hg1 (SL.k hg1 (SL.k hg1 (SL.k hg1 ?_)))))
 refine SL.s2 ?_
 refine SL.s2 ?_
 refine SL.s2 ?_
 refine SL.s2 ?_
 refine SL.s2 ?_
 refine SL.k hg1 ?_
 refine SL.v (O.pt (G.ne_f hg1)) ?_
 refine SL.a (E.fo ?_)
 refine W.pk [(4,_)] [(101,_),(102,_)] ?_
 refine W.ret ?_
 refine E.h1 [] ?_
 ·exact wK

set_option maxRecDepth 8000 in
theorem valid1_h {h x : Hd} :
    Con Tryz.prog 125 [vA (eH x), .u (.ptr (eH h))] [] (vB (decide (likeH x h))) [] := by
 refine Con.en 16 Tryz.func125 fun τ w ok vs hin => ?_
 clear hin
 refine W.rg ?_
 refine SL.bx5 101 ?_
 refine SL.a (E.fo (W.rg ?_))
 refine SL.v (O.fr 0 0 u96) ?_
 refine SL.v (O.l1 u3) ?_
 refine SL.v (O.ff 0 u96) ?_
 refine SL.v (O.l1f u3) ?_
 refine SL.v (O.eql) ?_
 refine SL.o ?_
 refine SL.cs 5 false (fun hg1 => ?_) fun hg1 => ?_
 ·have hg1p := gP hg1
  refine SL.v (O.fr 1 0 u96 (tY hg1)) ?_
  refine SL.v (O.l1 u3 (tY hg1)) ?_
  refine SL.v (O.ff 0 u96 (tY hg1)) ?_
  refine SL.v (O.l1f u3 (tY hg1)) ?_
  refine SL.v (O.eql (tY hg1)) ?_
  refine SL.v (O.pf hg1) ?_
  refine SL.a (E.fo (W.ret ?_))
  refine E.h1 [] ?_
  ·exact zL
 have hg1p := gP hg1
 refine SL.k hg1 (SL.k hg1 (SL.k hg1 (SL.k hg1 (SL.k hg1 ?_))))
 refine SL.v (O.pt (G.ne_f hg1)) ?_
 refine SL.a (E.fo (W.ret ?_))
 refine E.h1 [] ?_
 ·exact zL

set_option maxRecDepth 8000 in
theorem put1_h {h x : Hd} :
    Con Tryz.prog 113 [vA (eH x), .u (.ptr (eH h))] [] (vB (decide (likeH x h))) [] := by
 refine Con.en 16 Tryz.func113 fun τ w ok vs hin => ?_
 clear hin
 refine W.rg ?_
 refine SL.bx5 101 ?_
 refine SL.a (E.fo (W.rg ?_))
 refine SL.v (O.fr 0 0 u96) ?_
 refine SL.v (O.l1 u3) ?_
 refine SL.v (O.ff 0 u96) ?_
 refine SL.v (O.l1f u3) ?_
 refine SL.v (O.eql) ?_
 refine SL.o ?_
 refine SL.cs 5 false (fun hg1 => ?_) fun hg1 => ?_
 ·have hg1p := gP hg1
  refine SL.v (O.fr 1 0 u96 (tY hg1)) ?_
  refine SL.v (O.l1 u3 (tY hg1)) ?_
  refine SL.v (O.ff 0 u96 (tY hg1)) ?_
  refine SL.v (O.l1f u3 (tY hg1)) ?_
  refine SL.v (O.eql (tY hg1)) ?_
  refine SL.v (O.pf hg1) ?_
  refine SL.a (E.fo (W.ret ?_))
  refine E.h1 [] ?_
  ·exact zL
 have hg1p := gP hg1
 refine SL.k hg1 (SL.k hg1 (SL.k hg1 (SL.k hg1 (SL.k hg1 ?_))))
 refine SL.v (O.pt (G.ne_f hg1)) ?_
 refine SL.a (E.fo (W.ret ?_))
 refine E.h1 [] ?_
 ·exact zL

set_option maxRecDepth 8000 in
theorem index1_h {i : Int} {x : Hd} :
    Con Tryz.prog 130 [vA (eH x), .u (.ptr [uI i])] [] (vB (decide (x.id = i))) [] := by
 refine Con.en 8 Tryz.func130 fun τ w ok vs hin => ?_
 clear hin
 refine W.rg ?_
 refine SL.bx5 101 ?_
 refine SL.a (E.fo (W.rg ?_))
 refine SL.v (O.fr 0 0 u96) ?_
 refine SL.v (O.l1 u3) ?_
 refine SL.v (O.l1f u3) ?_
 refine SL.v (O.eql) ?_
 refine SL.a (E.fo (W.ret ?_))
 refine E.h1 [] ?_
 ·rfl

set_option maxRecDepth 8000 in
theorem next1_h {x : Hd} :
    Con Tryz.prog 133 [vA (eH x)] [] (vB (decide (x.ov = 2))) [] := by
 refine Con.en 6 Tryz.func133 fun τ w ok vs hin => ?_
 clear hin
 refine W.rg ?_
 refine SL.bx5 101 ?_
 refine SL.a (E.fo (W.rg ?_))
 refine SL.v (O.fr 4 0 u96) ?_
 refine SL.v (O.l1 u3) ?_
 refine SL.v (O.eql) ?_
 refine SL.a (E.fo (W.ret ?_))
 refine E.h1 [] ?_
 ·rfl

set_option maxRecDepth 8000 in
theorem next2_h {a b : Hd} :
    Con Tryz.prog 135 [vA (eH a), vA (eH b)] [] (vI (cmpI a.cls b.cls)) [] := by
 refine Con.en 10 Tryz.func135 fun τ w ok vs hin => ?_
 clear hin
 refine W.rg ?_
 refine SL.bx5 101 ?_
 refine SL.bx5 102 ?_
 refine SL.a (E.fo (W.rg ?_))
 refine SL.v (O.fr 2 0 u96) ?_
 refine SL.v (O.l1 u3) ?_
 refine SL.v (O.fr 2 0 u96) ?_
 refine SL.v (O.l1 u3) ?_
 refine SL.v (O.cp (q := cmpCompare_h)) ?_
 refine SL.a (E.fo (W.ret ?_))
 refine E.h1 [] ?_
 ·rfl

end Go.Proofs.YtmekkjehkcjpdaaGreat
end
section
namespace Go.Proofs.YtmekkjehkcjpdaaGreat
open Go Go.RowKit Go.H Go.D57

theorem hinf96 : ∃ i, Tryz.prog.info? 96 = some i ∧ i.zero = some (.agg #[.int .i64 0, .int .i64 0, .int .i64 0, .int .i64 0, .int .i64 0]) ∧ i.size = 5 ∧ i.bytes = 40 := G.info_of xG
theorem hcallOk115 : G.callOk Tryz.prog 115 = true := by kernel_rfl
theorem hcallOk125 : G.callOk Tryz.prog 125 = true := by kernel_rfl
theorem hcallOk130 : G.callOk Tryz.prog 130 = true := by kernel_rfl

set_option maxRecDepth 8000 in
theorem indexFunc_h {f : Nat} {caps : List UV} {pr : Hd → Bool} {q : List Hd} (hok : G.callOk Tryz.prog f = true) (hpr : ∀ x, Con Tryz.prog f ([vA (eH x)] ++ caps.map .u) [] (vB (pr x)) []) :
    Con Tryz.prog 111 [vL 5 (q.map eH), .u (.clo (.func f) [] caps)] [] (vI (idxF pr q)) [] := by
 obtain ⟨i96, hi96, hz96, hs96, hb96⟩ := hinf96
 refine Con.en 19 Tryz.func111 fun τ w ok vs hin => ?_
 have hl0 := hin.len (i := 0) rfl
 try rw [List.length_map] at hl0
 clear hin
 refine W.rg (SL.a (E.fo (W.seq (W.rg (SL.o ?_)))))
 refine SL.v (O.le u59) ?_
 refine SL.o (E.fo (W.block ?_))
 refine W.lq (fun (k : Nat) => [(8, vI (k : Int))]) (fun (k : Nat) => []) (fun (k : Nat) => k ≤ q.length ∧ ∀ j, j < k → pr q[j]! = false) (fun (k : Nat) => q.length - k) (0) [] [(0, _), (1, _), (7, _)] [] ?_ ?_
 ·exact yG
 intro k hinv
 obtain ⟨hk, hp⟩ := hinv
 refine W.rg ?_
 refine SL.v (O.lss) ?_
 refine E.fo (W.seq ?_)
 refine W.cc rfl (fun hc1 => ?_) fun hc1 => ?_
 ·refine W.skip (E.to (W.seq (W.block (W.rg (SL.o (SL.a (E.fo (W.rg (SL.o (SL.o (SL.o ?_)))))))))))
  refine SL.v (O.ix u59 hi96 hs96) ?_
  refine SL.v (O.lU 5 u96) ?_
  refine SL.v (O.cp (q := hpr q[k]!) (o := hok)) ?_
  refine E.fo ?_
  refine W.cc rfl (fun hc2 => ?_) fun hc2 => ?_
  ·refine W.rg (SL.o (SL.a (E.fo (W.ret ?_))))
   refine E.inr ?_
   refine E.thr (E.thr ?_)
   refine E.inr ?_
   refine E.thr ?_
   refine E.h1 [] ?_
   ·exact iv_int (idxF_here xA hp xK)
  refine W.skip (E.inn (E.to (W.region ?_)))
  refine SL.v (O.ad) ?_
  refine SL.o (SL.nil ?_)
  refine E.ai (k + 1) [] ?_
  ·try dsimp only
   exact zD
 refine W.exit (E.th (E.th (E.hit (E.to (W.rg (SL.a (E.fo (W.ret ?_))))))))
 refine E.h1 [] ?_
 ·exact iv_int (idxF_none xA hp)

set_option maxRecDepth 8000 in
theorem containsFunc_h {f : Nat} {caps : List UV} {pr : Hd → Bool} {q : List Hd} (hok : G.callOk Tryz.prog f = true) (hpr : ∀ x, Con Tryz.prog f ([vA (eH x)] ++ caps.map .u) [] (vB (pr x)) []) :
    Con Tryz.prog 74 [vL 5 (q.map eH), .u (.clo (.func f) [] caps)] [] (vB (decide (0 ≤ idxF pr q))) [] := by
 refine Con.en 9 Tryz.func74 fun τ w ok vs hin => ?_
 have hl0 := hin.len (i := 0) rfl
 try rw [List.length_map] at hl0
 clear hin
 refine W.rg (SL.a (E.fo (W.rg (SL.o (SL.o ?_)))))
 refine SL.v (O.cp (q := indexFunc_h hok hpr)) ?_
 refine SL.v (O.geq) ?_
 refine SL.a (E.fo (W.ret ?_))
 refine E.h1 [] ?_
 ·rfl

set_option maxRecDepth 8000 in
theorem index_h {q : List Hd} {i : Int} :
    Con Tryz.prog 119 [vL 5 (q.map eH), vI i] [] (vI (idxF (fun x => decide (x.id = i)) q)) [] := by
 refine Con.en 8 Tryz.func119 fun τ w ok vs hin => ?_
 have hl0 := hin.len (i := 0) rfl
 try rw [List.length_map] at hl0
 clear hin
 refine W.rg ?_
 refine SL.bx1 101 ?_
 refine SL.a (E.fo (W.rg (SL.o ?_)))
 refine SL.v (O.makeFunc rfl rfl rfl Taken.no) ?_
 refine SL.cl [] [101] (.u _) _ (q := indexFunc_h (f := 130) (caps := [.ptr [uI i]]) hcallOk130 (fun x => index1_h))  (fl := .inr ⟨rfl, fun x hx => by simp at hx⟩) (h := ?_)
 refine SL.a (E.fo (W.ret ?_))
 refine E.h1 [] ?_
 ·rfl

set_option maxRecDepth 8000 in
theorem valid_h {q : List Hd} :
    Con Tryz.prog 95 [vL 5 (q.map eH)] [] (vB (decide (validQ q))) [] := by
 obtain ⟨i96, hi96, hz96, hs96, hb96⟩ := hinf96
 refine Con.en 38 Tryz.func95 fun τ w ok vs hin => ?_
 have hl0 := hin.len (i := 0) rfl
 try rw [List.length_map] at hl0
 clear hin
 refine W.rg (SL.a (E.fo (W.seq (W.rg (SL.o ?_)))))
 refine SL.v (O.le u59) ?_
 refine SL.o (E.fo (W.block ?_))
 refine W.lq (fun (k : Nat) => [(7, vI (k : Int))]) (fun (k : Nat) => []) (fun (k : Nat) => k ≤ q.length ∧ ∀ j, j < k → before q j) (fun (k : Nat) => q.length - k) (0) [] [(0, _), (5, _), (6, _)] [] ?_ ?_
 ·exact yG
 intro k hinv
 obtain ⟨hk, hp⟩ := hinv
 have hlt := fun h => like_take (q := q) (k := k) h
 refine W.rg ?_
 refine SL.v (O.lss) ?_
 refine E.fo (W.seq ?_)
 refine W.cc rfl (fun hc1 => ?_) fun hc1 => ?_
 ·refine W.skip (E.to (W.seq (W.block (W.rg (SL.o ?_)))))
  refine SL.v (O.ix u59 hi96 hs96) ?_
  refine SL.v (O.lU 5 u96) ?_
  refine SL.al1 101 ?_
  refine SL.a ?_
  refine SL.st5_5 101 ?_
  refine E.fo (W.seq (W.seq ?_))
  refine W.dr [pX 101, pO, pO, pO, pO, pO, pO, pO, pO, pO, pO, pO, pX 101, pO, pO, pO, pO] ?_
  refine WH.v (O.n5 u96) ?_
  refine WH.v (O.cp (q := holdvalid_h)) ?_
  refine WH.v (O.nt) ?_
  refine WH.o rfl ?_
  refine WH.cs 3 false (fun hg2 => ?_) fun hg2 => ?_
  ·have hg2p := gP hg2
   refine WH.v (O.mo (tY hg2)) ?_
   refine WH.v (O.gtr (tY hg2)) ?_
   refine WH.v (O.mo (tY hg2)) ?_
   refine WH.cs 6 true (fun hg3 => ?_) fun hg3 => ?_
   ·have hg3p := gP hg3
    refine WH.v (O.mo (tY hg3)) ?_
    refine WH.v (O.mo (tY hg3)) ?_
    refine WH.v (O.sb (tY hg3)) ?_
    refine WH.v (O.idx_fz (i := (k - 1)) rfl rfl xA (row_get xA) u59 hi96 hs96 rfl (Taken.yes rfl rfl hg3)) ?_
    refine WH.v (O.lU 5 u96 (tY hg3)) ?_
    refine WH.v (O.n5 u96 (tY hg3)) ?_
    refine WH.v (O.cp (q := compare_h) (hg := (tY hg3))) ?_
    refine WH.v (O.geq (tY hg3)) ?_
    refine WH.v (O.pt hg3 (tY hg2)) ?_
    refine WH.v (O.pf hg2) ?_
    refine WH.nil (E.to ?_)
    refine W.pk [(0,_),(3,_),(4,_),(5,_),(6,_),(7,_),(28,_)] [(101,_)] ?_
    refine W.cc rfl (fun hc4 => ?_) fun hc4 => ?_
    ·refine W.rg (SL.a (E.fo (W.ret (E.thr ?_))))
     refine E.inr ?_
     refine E.thr (E.thr ?_)
     refine E.inr ?_
     refine E.thr ?_
     refine E.h1 [] ?_
     ·exact wR
    refine W.skip (E.to (W.rg (SL.o (SL.o ?_))))
    refine SL.v (O.sub_fz (j := k) rfl Bnd.no (Bnd.at rfl yC) xN yV sub_hi u59 hi96 hs96 rfl Taken.no) ?_
    refine SL.v (O.makeFunc rfl rfl rfl Taken.no) ?_
    refine SL.cl [] [101] (.u _) _ (q := containsFunc_h (f := 125) (caps := [.ptr (eH q[k]!)]) (pr := fun x => decide (likeH x q[k]!)) hcallOk125 (fun x => valid1_h))  (fl := .inr ⟨rfl, fun x hx => by simp at hx⟩) (h := ?_)
    refine E.fo ?_
    refine W.cc rfl (fun hc5 => ?_) fun hc5 => ?_
    ·refine W.rg (SL.a (E.fo (W.ret ?_)))
     refine E.inr ?_
     refine E.thr (E.thr ?_)
     refine E.inr ?_
     refine E.thr ?_
     refine E.h1 [] ?_
     ·exact iv_bool (valid_no (k := k) xA (fun h => by obtain ⟨j, hj, hl⟩ := (hlt xA).1 xK; exact h.2.2 j hj hl))
    refine W.skip (E.inn (E.to (W.region ?_)))
    refine SL.v (O.ad) ?_
    refine SL.o (SL.nil ?_)
    refine E.ai (k + 1) [] ?_
    ·try dsimp only
     exact zI
   have hg3p := gP hg3
   refine WH.k hg3 (WH.k hg3 (WH.k hg3 (WH.k hg3 (WH.k hg3 (WH.k hg3 (WH.k hg3 (WH.k hg3 ?_)))))))
   refine WH.v (O.pf (G.ne_t hg3) (tY hg2)) ?_
   refine WH.v (O.pf hg2) ?_
   refine WH.nil (E.to ?_)
   refine W.pk [(0,_),(3,_),(4,_),(5,_),(6,_),(7,_),(28,_)] [(101,_)] ?_
   refine W.cond_f rfl ?_
   refine W.skip (E.to (W.rg (SL.o (SL.o ?_))))
   refine SL.v (O.sub_fz (j := k) rfl Bnd.no (Bnd.at rfl yC) xN xN sub_hi u59 hi96 hs96 rfl Taken.no) ?_
   refine SL.v (O.makeFunc rfl rfl rfl Taken.no) ?_
   refine SL.cl [] [101] (.u _) _ (q := containsFunc_h (f := 125) (caps := [.ptr (eH q[k]!)]) (pr := fun x => decide (likeH x q[k]!)) hcallOk125 (fun x => valid1_h))  (fl := .inr ⟨rfl, fun x hx => by simp at hx⟩) (h := ?_)
   refine E.fo ?_
   refine W.cc rfl (fun hc6 => ?_) fun hc6 => ?_
   ·refine W.rg (SL.a (E.fo (W.ret ?_)))
    refine E.inr ?_
    refine E.thr (E.thr ?_)
    refine E.inr ?_
    refine E.thr ?_
    refine E.h1 [] ?_
    ·exact iv_bool (valid_no (k := k) xA (fun h => by obtain ⟨j, hj, hl⟩ := (hlt xA).1 xK; exact h.2.2 j hj hl))
   refine W.skip (E.inn (E.to (W.region ?_)))
   refine SL.v (O.ad) ?_
   refine SL.o (SL.nil ?_)
   refine E.ai (k + 1) [] ?_
   ·try dsimp only
    exact zI
  have hg2p := gP hg2
  refine WH.k hg2 (WH.k hg2 (WH.k hg2 ?_))
  refine WH.s2 ?_
  refine WH.s2 ?_
  refine WH.s2 ?_
  refine WH.s2 ?_
  refine WH.s2 ?_
  refine WH.s2 ?_
  refine WH.s2 ?_
  refine WH.s2 ?_
  refine WH.k hg2 ?_
  refine WH.v (O.pt (G.ne_f hg2)) ?_
  refine WH.nil (E.to ?_)
  refine W.pk [(0,_),(3,_),(4,_),(5,_),(6,_),(7,_),(28,_)] [(101,_)] ?_
  refine W.cond_t rfl ?_
  refine W.rg (SL.a (E.fo (W.ret (E.thr ?_))))
  refine E.inr ?_
  refine E.thr (E.thr ?_)
  refine E.inr ?_
  refine E.thr ?_
  refine E.h1 [] ?_
  ·exact wR
 refine W.exit (E.th (E.th (E.hit (E.to (W.rg (SL.o ?_))))))
 refine SL.v (O.le u59) ?_
 refine SL.v (O.leq) ?_
 refine SL.a (E.fo (W.ret ?_))
 refine E.h1 [] ?_
 ·exact iv_bool (valid_yes (fun j hj => hp j xA))

end Go.Proofs.YtmekkjehkcjpdaaGreat
end
section
namespace Go.Proofs.YtmekkjehkcjpdaaGreat
open Go Go.RowKit Go.H Go.D57

theorem hinf121 : ∃ i, Tryz.prog.info? 121 = some i ∧ i.zero = some (.agg #[.int .i64 0, .int .i64 0, .int .i64 0, .int .i64 0, .int .i64 0]) ∧ i.size = 5 ∧ i.bytes = 40 := G.info_of xG

set_option maxRecDepth 8000 in
theorem refvalid_h {q : List Hd} :
    Con Tryz.prog 94 [vL 5 (q.map eH)] [] (vB (decide (validQ q))) [] := by
 obtain ⟨i121, hi121, hz121, hs121, hb121⟩ := hinf121
 refine Con.en 66 Tryz.func94 fun τ w ok vs hin => ?_
 have hl0 := hin.len (i := 0) rfl
 try rw [List.length_map] at hl0
 clear hin
 refine W.rg (SL.a (E.fo (W.seq (W.rg (SL.a (E.fo (W.block ?_)))))))
 refine W.lq (fun (k : Nat) => [(3, vI (k : Int))]) (fun (k : Nat) => []) (fun (k : Nat) => k ≤ q.length ∧ ∀ j, j < k → before q j) (fun (k : Nat) => q.length - k) (0) [] [(0, _)] [] ?_ ?_
 ·exact yG
 intro k hinv
 obtain ⟨hk, hp⟩ := hinv
 refine W.seq (W.rg (SL.o (SL.o ?_)))
 refine SL.v (O.le u67) ?_
 refine SL.v (O.lss) ?_
 refine E.fo ?_
 refine W.cc rfl (fun hc1 => ?_) fun hc1 => ?_
 ·refine W.skip (E.to (W.seq (W.block (W.seq (W.seq ?_)))))
  refine W.dr [pO, pO, pO, pO, pO, pO, pO, pO, pO, pO, pO, pO, pO, pO, pO, pO, pO, pO, pO, pO, pO, pO, pO] ?_
  refine WH.o rfl (WH.o rfl ?_)
  refine WH.v (O.ix u67 hi121 hs121) ?_
  refine WH.v (O.lU 5 u121) ?_
  refine WH.v (O.cp (q := refgood_h)) ?_
  refine WH.v (O.nt) ?_
  refine WH.o rfl ?_
  refine WH.cs 6 false (fun hg2 => ?_) fun hg2 => ?_
  ·have hg2p := gP hg2
   refine WH.v (O.mo (tY hg2)) ?_
   refine WH.v (O.gtr (tY hg2)) ?_
   refine WH.v (O.mo (tY hg2)) ?_
   refine WH.cs 9 true (fun hg3 => ?_) fun hg3 => ?_
   ·have hg3p := gP hg3
    refine WH.v (O.mo (tY hg3)) ?_
    refine WH.v (O.mo (tY hg3)) ?_
    refine WH.v (O.sb (tY hg3)) ?_
    refine WH.v (O.idx_fz (i := (k - 1)) rfl rfl xA (row_get xA) u67 hi121 hs121 rfl (Taken.yes rfl rfl hg3)) ?_
    refine WH.v (O.lU 5 u121 (tY hg3)) ?_
    refine WH.v (O.mo (tY hg3)) ?_
    refine WH.v (O.mo (tY hg3)) ?_
    refine WH.v (O.ix u67 hi121 hs121 (tY hg3)) ?_
    refine WH.v (O.lU 5 u121 (tY hg3)) ?_
    refine WH.v (O.cp (q := earlier_h) (hg := (tY hg3))) ?_
    refine WH.v (O.nt (tY hg3)) ?_
    refine WH.v (O.pt hg3 (tY hg2)) ?_
    refine WH.v (O.pf hg2) ?_
    refine WH.nil (E.to ?_)
    refine W.pk [(0,_),(3,_),(33,_)] [] ?_
    refine W.cc rfl (fun hc4 => ?_) fun hc4 => ?_
    ·refine W.rg (SL.a (E.fo (W.ret (E.thr ?_))))
     refine E.inr ?_
     refine E.thr (E.thr ?_)
     refine E.inr ?_
     refine E.thr ?_
     refine E.h1 [] ?_
     ·exact vE
    refine W.skip (E.to (W.rg (SL.a (E.fo (W.block ?_)))))
    refine W.lq (fun (j : Nat) => [(4, vI (j : Int))]) (fun (j : Nat) => []) (fun (j : Nat) => j ≤ k ∧ ∀ i, i < j → ¬ likeH q[i]! q[k]!) (fun (j : Nat) => k - j) (0) [] [(0, _), (3, _)] [] ?_ ?_
    ·exact yG
    intro j hinv
    obtain ⟨hj, hb⟩ := hinv
    refine W.seq (W.rg (SL.o (SL.o ?_)))
    refine SL.v (O.lss) ?_
    refine E.fo ?_
    refine W.cc rfl (fun hc5 => ?_) fun hc5 => ?_
    ·refine W.skip (E.to (W.seq (W.block (W.seq ?_))))
     refine W.dr [pO, pO, pO, pO, pO, pO, pO, pO, pO, pO, pO, pO, pO, pO, pO, pO, pO, pO, pO, pO, pO, pO, pO, pO] ?_
     refine WH.o rfl (WH.o rfl ?_)
     refine WH.v (O.ix u67 hi121 hs121) ?_
     refine WH.v (O.ff 0 u121) ?_
     refine WH.v (O.l1f u3) ?_
     refine WH.o rfl (WH.o rfl ?_)
     refine WH.v (O.ix u67 hi121 hs121) ?_
     refine WH.v (O.ff 0 u121) ?_
     refine WH.v (O.l1f u3) ?_
     refine WH.v (O.eql) ?_
     refine WH.o rfl ?_
     refine WH.cs 11 false (fun hg6 => ?_) fun hg6 => ?_
     ·have hg6p := gP hg6
      refine WH.v (O.mo (tY hg6)) ?_
      refine WH.v (O.mo (tY hg6)) ?_
      refine WH.v (O.ix u67 hi121 hs121 (tY hg6)) ?_
      refine WH.v (O.ff 0 u121 (tY hg6)) ?_
      refine WH.v (O.l1f u3 (tY hg6)) ?_
      refine WH.v (O.mo (tY hg6)) ?_
      refine WH.v (O.mo (tY hg6)) ?_
      refine WH.v (O.ix u67 hi121 hs121 (tY hg6)) ?_
      refine WH.v (O.ff 0 u121 (tY hg6)) ?_
      refine WH.v (O.l1f u3 (tY hg6)) ?_
      refine WH.v (O.eql (tY hg6)) ?_
      refine WH.v (O.pf hg6) ?_
      refine WH.nil (E.to ?_)
      refine W.pk [(0,_),(3,_),(4,_),(62,_)] [] ?_
      refine W.cc rfl (fun hc7 => ?_) fun hc7 => ?_
      ·refine W.rg (SL.a (E.fo (W.ret ?_)))
       refine E.inr ?_
       refine E.thr (E.thr ?_)
       refine E.inr ?_
       refine E.inr ?_
       refine E.thr (E.thr ?_)
       refine E.inr ?_
       refine E.thr ?_
       refine E.h1 [] ?_
       ·exact yW
      refine W.skip (E.inn (E.to (W.region (SL.o ?_))))
      refine SL.v (O.ad) ?_
      refine SL.a (SL.nil ?_)
      refine E.ai (j + 1) [] ?_
      ·try dsimp only
       exact vO
     have hg6p := gP hg6
     refine WH.k hg6 (WH.k hg6 (WH.k hg6 (WH.k hg6 (WH.k hg6 (WH.k hg6 (WH.k hg6 (WH.k hg6 (WH.k hg6 (WH.k hg6 (WH.k hg6 ?_))))))))))
     refine WH.v (O.pt (G.ne_f hg6)) ?_
     refine WH.nil (E.to ?_)
     refine W.pk [(0,_),(3,_),(4,_),(62,_)] [] ?_
     refine W.cond_t rfl ?_
     refine W.rg (SL.a (E.fo (W.ret ?_)))
     refine E.inr ?_
     refine E.thr (E.thr ?_)
     refine E.inr ?_
     refine E.inr ?_
     refine E.thr (E.thr ?_)
     refine E.inr ?_
     refine E.thr ?_
     refine E.h1 [] ?_
     ·exact yW
    refine W.exit (E.th (E.th (E.hit (E.inn (E.to (W.region (SL.o ?_)))))))
    refine SL.v (O.ad) ?_
    refine SL.a (SL.nil ?_)
    refine E.ai (k + 1) [] ?_
    ·try dsimp only
     exact wO
   have hg3p := gP hg3
   refine WH.k hg3 (WH.k hg3 (WH.k hg3 (WH.k hg3 (WH.k hg3 (WH.k hg3 (WH.k hg3 (WH.k hg3 (WH.k hg3 (WH.k hg3 (WH.k hg3 ?_))))))))))
   refine WH.v (O.pf (G.ne_t hg3) (tY hg2)) ?_
   refine WH.v (O.pf hg2) ?_
   refine WH.nil (E.to ?_)
   refine W.pk [(0,_),(3,_),(33,_)] [] ?_
   refine W.cond_f rfl ?_
   refine W.skip (E.to (W.rg (SL.a (E.fo (W.block ?_)))))
   refine W.lq (fun (j : Nat) => [(4, vI (j : Int))]) (fun (j : Nat) => []) (fun (j : Nat) => j ≤ k ∧ ∀ i, i < j → ¬ likeH q[i]! q[k]!) (fun (j : Nat) => k - j) (0) [] [(0, _), (3, _)] [] ?_ ?_
   ·exact yG
   intro j hinv
   obtain ⟨hj, hb⟩ := hinv
   refine W.seq (W.rg (SL.o (SL.o ?_)))
   refine SL.v (O.lss) ?_
   refine E.fo ?_
   refine W.cc rfl (fun hc8 => ?_) fun hc8 => ?_
   ·refine W.skip (E.to (W.seq (W.block (W.seq ?_))))
    refine W.dr [pO, pO, pO, pO, pO, pO, pO, pO, pO, pO, pO, pO, pO, pO, pO, pO, pO, pO, pO, pO, pO, pO, pO, pO] ?_
    refine WH.o rfl (WH.o rfl ?_)
    refine WH.v (O.ix u67 hi121 hs121) ?_
    refine WH.v (O.ff 0 u121) ?_
    refine WH.v (O.l1f u3) ?_
    refine WH.o rfl (WH.o rfl ?_)
    refine WH.v (O.ix u67 hi121 hs121) ?_
    refine WH.v (O.ff 0 u121) ?_
    refine WH.v (O.l1f u3) ?_
    refine WH.v (O.eql) ?_
    refine WH.o rfl ?_
    refine WH.cs 11 false (fun hg9 => ?_) fun hg9 => ?_
    ·have hg9p := gP hg9
     refine WH.v (O.mo (tY hg9)) ?_
     refine WH.v (O.mo (tY hg9)) ?_
     refine WH.v (O.ix u67 hi121 hs121 (tY hg9)) ?_
     refine WH.v (O.ff 0 u121 (tY hg9)) ?_
     refine WH.v (O.l1f u3 (tY hg9)) ?_
     refine WH.v (O.mo (tY hg9)) ?_
     refine WH.v (O.mo (tY hg9)) ?_
     refine WH.v (O.ix u67 hi121 hs121 (tY hg9)) ?_
     refine WH.v (O.ff 0 u121 (tY hg9)) ?_
     refine WH.v (O.l1f u3 (tY hg9)) ?_
     refine WH.v (O.eql (tY hg9)) ?_
     refine WH.v (O.pf hg9) ?_
     refine WH.nil (E.to ?_)
     refine W.pk [(0,_),(3,_),(4,_),(62,_)] [] ?_
     refine W.cc rfl (fun hc10 => ?_) fun hc10 => ?_
     ·refine W.rg (SL.a (E.fo (W.ret ?_)))
      refine E.inr ?_
      refine E.thr (E.thr ?_)
      refine E.inr ?_
      refine E.inr ?_
      refine E.thr (E.thr ?_)
      refine E.inr ?_
      refine E.thr ?_
      refine E.h1 [] ?_
      ·exact yW
     refine W.skip (E.inn (E.to (W.region (SL.o ?_))))
     refine SL.v (O.ad) ?_
     refine SL.a (SL.nil ?_)
     refine E.ai (j + 1) [] ?_
     ·try dsimp only
      exact vO
    have hg9p := gP hg9
    refine WH.k hg9 (WH.k hg9 (WH.k hg9 (WH.k hg9 (WH.k hg9 (WH.k hg9 (WH.k hg9 (WH.k hg9 (WH.k hg9 (WH.k hg9 (WH.k hg9 ?_))))))))))
    refine WH.v (O.pt (G.ne_f hg9)) ?_
    refine WH.nil (E.to ?_)
    refine W.pk [(0,_),(3,_),(4,_),(62,_)] [] ?_
    refine W.cond_t rfl ?_
    refine W.rg (SL.a (E.fo (W.ret ?_)))
    refine E.inr ?_
    refine E.thr (E.thr ?_)
    refine E.inr ?_
    refine E.inr ?_
    refine E.thr (E.thr ?_)
    refine E.inr ?_
    refine E.thr ?_
    refine E.h1 [] ?_
    ·exact yW
   refine W.exit (E.th (E.th (E.hit (E.inn (E.to (W.region (SL.o ?_)))))))
   refine SL.v (O.ad) ?_
   refine SL.a (SL.nil ?_)
   refine E.ai (k + 1) [] ?_
   ·try dsimp only
    exact wO
  have hg2p := gP hg2
  refine WH.k hg2 (WH.k hg2 (WH.k hg2 ?_))
  refine WH.s2 ?_
  refine WH.s2 ?_
  refine WH.s2 ?_
  refine WH.s2 ?_
  refine WH.s2 ?_
  refine WH.s2 ?_
  refine WH.s2 ?_
  refine WH.s2 ?_
  refine WH.s2 ?_
  refine WH.s2 ?_
  refine WH.s2 ?_
  refine WH.k hg2 ?_
  refine WH.v (O.pt (G.ne_f hg2)) ?_
  refine WH.nil (E.to ?_)
  refine W.pk [(0,_),(3,_),(33,_)] [] ?_
  refine W.cond_t rfl ?_
  refine W.rg (SL.a (E.fo (W.ret (E.thr ?_))))
  refine E.inr ?_
  refine E.thr (E.thr ?_)
  refine E.inr ?_
  refine E.thr ?_
  refine E.h1 [] ?_
  ·exact vE
 refine W.exit (E.th (E.th (E.hit (E.to (W.rg (SL.o ?_))))))
 refine SL.v (O.le u67) ?_
 refine SL.v (O.leq) ?_
 refine SL.a (E.fo (W.ret ?_))
 refine E.h1 [] ?_
 ·exact iv_bool (valid_yes (fun j hj => hp j xA))

set_option maxRecDepth 8000 in
theorem refnext_h {q : List Hd} :
    Con Tryz.prog 136 [vL 5 (q.map eH)] [] (vI (nextI q : Int)) [] := by
 obtain ⟨i121, hi121, hz121, hs121, hb121⟩ := hinf121
 refine Con.en 31 Tryz.func136 fun τ w ok vs hin => ?_
 have hl0 := hin.len (i := 0) rfl
 try rw [List.length_map] at hl0
 clear hin
 refine W.rg (SL.a (E.fo (W.rg (SL.a (E.fo (W.seq (W.rg (SL.a (E.fo (W.block ?_))))))))))
 refine W.lq (fun (k : Nat) => [(3, vI (bestI q k : Nat)), (4, vI (k : Int))]) (fun (k : Nat) => []) (fun (k : Nat) => k ≤ q.length ∧ ∀ j, j < k → decide (q[j]!.ov = 2) = false) (fun (k : Nat) => q.length - k) (0) [] [(0, _)] [] ?_ ?_
 ·exact yG
 intro k hinv
 obtain ⟨hk, hp⟩ := hinv
 have hbl := bestI_lt q (k := k)
 have hbz : k = 0 → bestI q k = 0 := fun h => by subst h; rfl
 refine W.seq (W.rg (SL.o (SL.o ?_)))
 refine SL.v (O.le u67) ?_
 refine SL.v (O.lss) ?_
 refine E.fo ?_
 refine W.cc rfl (fun hc1 => ?_) fun hc1 => ?_
 ·refine W.skip (E.to (W.seq (W.block (W.seq (W.rg (SL.o (SL.o ?_)))))))
  refine SL.v (O.ix u67 hi121 hs121) ?_
  refine SL.v (O.ff 0 u121) ?_
  refine SL.v (O.l1f u3) ?_
  refine SL.v (O.eql) ?_
  refine E.fo ?_
  refine W.cc rfl (fun hc2 => ?_) fun hc2 => ?_
  ·refine W.rg (SL.o (SL.a (E.fo (W.ret (E.thr ?_)))))
   refine E.inr ?_
   refine E.thr (E.thr ?_)
   refine E.inr ?_
   refine E.thr ?_
   refine E.h1 [] ?_
   ·exact iv_int (by rw [next_over xA hp xV])
  refine W.skip (E.to (W.seq ?_))
  refine W.dr [pO, pO, pO, pO, pO, pO, pO, pO, pO, pO, pO] ?_
  refine WH.o rfl (WH.o rfl ?_)
  refine WH.v (O.ix u67 hi121 hs121) ?_
  refine WH.v (O.ff 0 u121) ?_
  refine WH.v (O.l1f u3) ?_
  refine WH.o rfl (WH.o rfl ?_)
  refine WH.v (O.idx_fz (i := (bestI q k)) rfl rfl (rfl) (row_get xA) u67 hi121 hs121 rfl Taken.no) ?_
  refine WH.v (O.ff 0 u121) ?_
  refine WH.v (O.l1f u3) ?_
  refine WH.v (O.lss) ?_
  refine WH.nil (E.to ?_)
  refine W.cc rfl (fun hc3 => ?_) fun hc3 => ?_
  ·refine W.region (SL.o (SL.a (SL.nil (E.inn (E.to ?_)))))
   refine W.pk [(0,_),(3,_),(4,_)] [] ?_
   refine W.region (SL.o ?_)
   refine SL.v (O.ad) ?_
   refine SL.a (SL.nil ?_)
   refine E.ag (k + 1) [] ?_ ?_ ?_ ?_
   · exact wQ
   · exact SubS.nil
   ·try dsimp only
    exact zO
   · exact xT
  refine W.skip (E.inn (E.to (W.region (SL.o ?_))))
  refine SL.v (O.ad) ?_
  refine SL.a (SL.nil ?_)
  refine E.ag (k + 1) [] ?_ ?_ ?_ ?_
  · exact wQ
  · exact SubS.nil
  ·try dsimp only
   exact zO
  · exact xT
 refine W.exit (E.th (E.th (E.hit (E.to (W.rg (SL.o (SL.a (E.fo (W.ret ?_)))))))))
 refine E.h1 [] ?_
 ·obtain rfl : k = q.length := by omega
  exact iv_int (by rw [next_best hp])

end Go.Proofs.YtmekkjehkcjpdaaGreat
end
section
namespace Go.Proofs.YtmekkjehkcjpdaaGreat
open Go Go.RowKit Go.H Go.D57

theorem hcallOk133 : G.callOk Tryz.prog 133 = true := by kernel_rfl
theorem hcallOk135 : G.callOk Tryz.prog 135 = true := by kernel_rfl

set_option maxRecDepth 8000 in
theorem minFunc_h {f : Nat} {caps : List UV} {q : List Hd} (hok : G.callOk Tryz.prog f = true) (hpr : ∀ a b, Con Tryz.prog f ([vA (eH a), vA (eH b)] ++ caps.map .u) [] (vI (cmpI a.cls b.cls)) []) (hq : 0 < q.length) :
    Con Tryz.prog 134 [vL 5 (q.map eH), .u (.clo (.func f) [] caps)] [] (.agg [.u (uI q[bestI q q.length]!.id), .u (uI q[bestI q q.length]!.pat), .u (uI q[bestI q q.length]!.cls), .u (uI q[bestI q q.length]!.tim), .u (uI q[bestI q q.length]!.ov)]) [] := by
 obtain ⟨i96, hi96, hz96, hs96, hb96⟩ := hinf96
 refine Con.en 33 Tryz.func134 fun τ w ok vs hin => ?_
 have hl0 := hin.len (i := 0) rfl
 try rw [List.length_map] at hl0
 clear hin
 refine W.rg ?_
 refine SL.al1 101 ?_
 refine E.fo (W.seq (W.rg (SL.o ?_)))
 refine SL.v (O.le u59) ?_
 refine SL.v (O.lss) ?_
 refine E.fo ?_
 refine W.cc rfl (fun hc1 => ?_) fun hc1 => ?_
 ·exact absurd hq xA
 refine W.skip (E.to (W.rg (SL.o ?_)))
 refine SL.v (O.ix u59 hi96 hs96) ?_
 refine SL.v (O.lU 5 u96) ?_
 refine SL.al1 102 ?_
 refine SL.st5_5 102 ?_
 refine E.fo (W.seq (W.rg (SL.a (E.fo (W.block ?_)))))
 refine W.lp (fun (k : Nat) => [(6, vI (k : Int))]) (fun (k : Nat) => [(102, .cells 96 [.u (uI q[bestI q k]!.id), .u (uI q[bestI q k]!.pat), .u (uI q[bestI q k]!.cls), .u (uI q[bestI q k]!.tim), .u (uI q[bestI q k]!.ov)])]) (fun (k : Nat) => 1 ≤ k ∧ k ≤ q.length) (fun (k : Nat) => q.length - k) (1) [] [(0, _), (1, _), (4, _), (5, _)] [(101, _)] ?_ ?_ ?_ ?_
 · exact zH
 · exact (SubS.val rfl (by rw [bestI_1]; rfl) SubS.nil)
 ·exact ⟨xA, xA⟩
 intro k hinv
 obtain ⟨hk1, hk⟩ := hinv
 refine W.seq (W.rg (SL.o (SL.o ?_)))
 refine SL.v (O.le u59) ?_
 refine SL.v (O.lss) ?_
 refine E.fo ?_
 refine W.cc rfl (fun hc2 => ?_) fun hc2 => ?_
 ·refine W.skip (E.to (W.seq (W.block (W.seq ?_))))
  refine W.dr [pO, pO, pO, pO, pO, pX 102, pO, pO] ?_
  refine WH.o rfl (WH.o rfl (WH.o rfl ?_))
  refine WH.v (O.ix u59 hi96 hs96) ?_
  refine WH.v (O.lU 5 u96) ?_
  refine WH.v (O.n5 u96) ?_
  refine WH.v (O.cp (q := hpr q[k]! q[bestI q k]!) (o := hok)) ?_
  refine WH.v (O.lss) ?_
  refine WH.nil (E.to ?_)
  refine W.cc rfl (fun hc3 => ?_) fun hc3 => ?_
  ·refine W.region (SL.o (SL.o ?_))
   refine SL.v (O.ix u59 hi96 hs96) ?_
   refine SL.v (O.lU 5 u96) ?_
   refine SL.st5_5 102 ?_
   refine SL.nil (E.inn (E.to (W.region (SL.o ?_))))
   refine SL.v (O.ad) ?_
   refine SL.a (SL.nil ?_)
   refine E.ag (k + 1) [] ?_ ?_ ?_ ?_
   · exact zH
   · exact wM
   ·try dsimp only
    exact ⟨xA, xA⟩
   · exact xT
  refine W.skip (E.inn (E.to (W.region (SL.o ?_))))
  refine SL.v (O.ad) ?_
  refine SL.a (SL.nil ?_)
  refine E.ag (k + 1) [] ?_ ?_ ?_ ?_
  · exact zH
  · exact wM
  ·try dsimp only
   exact ⟨xA, xA⟩
  · exact xT
 refine W.exit (E.th (E.th (E.hit (E.to (W.rg ?_)))))
 refine SL.v (O.n5 u96) ?_
 refine SL.st5_5 101 ?_
 refine E.fo (W.ret ?_)
 refine E.j1 [] rfl (ResOne.c5 u96) ?_
 ·obtain rfl : k = q.length := by omega
  rfl

set_option maxRecDepth 8000 in
theorem holdNext_h {q : List Hd} :
    Con Tryz.prog 128 [vL 5 (q.map eH)] [] (.tup [.agg [.u (uI (nextH q).id), .u (uI (nextH q).pat), .u (uI (nextH q).cls), .u (uI (nextH q).tim), .u (uI (nextH q).ov)], vB (decide (validQ q ∧ 0 < q.length))]) [] := by
 have hir := idxF_range (fun x : Hd => decide (x.ov = 2)) q
 obtain ⟨i96, hi96, hz96, hs96, hb96⟩ := hinf96
 refine Con.en 24 Tryz.func128 fun τ w ok vs hin => ?_
 have hl0 := hin.len (i := 0) rfl
 try rw [List.length_map] at hl0
 clear hin
 refine W.rg ?_
 refine SL.al1 101 ?_
 refine SL.a (E.fo (W.seq (W.rg (SL.o ?_))))
 refine SL.v (O.cp (q := valid_h)) ?_
 refine SL.v (O.nt) ?_
 refine SL.o ?_
 refine SL.cs 3 false (fun hg1 => ?_) fun hg1 => ?_
 ·have hg1p := gP hg1
  refine SL.v (O.mo (tY hg1)) ?_
  refine SL.v (O.le u59 (tY hg1)) ?_
  refine SL.v (O.eql (tY hg1)) ?_
  refine SL.v (O.pf hg1) ?_
  refine E.fo ?_
  refine W.cc rfl (fun hc2 => ?_) fun hc2 => ?_
  ·refine W.rg ?_
   refine SL.v (O.bd1 u96) ?_
   refine SL.st5_5 101 ?_
   refine SL.a (E.fo (W.ret (E.thr ?_)))
   refine E.j2 [] rfl (ResOne.c5 u96) (ResOne.tmp rfl) ?_
   ·rw [nextH_no yU, decide_eq_false yU]; rfl
  refine W.skip (E.to (W.seq (W.rg (SL.o ?_))))
  refine SL.v (O.cp (q := indexFunc_h (f := 133) (caps := []) hcallOk133 (fun x => next1_h))) ?_
  refine SL.a (E.fo (W.rg (SL.o ?_)))
  refine SL.v (O.geq) ?_
  refine E.fo ?_
  refine W.cc rfl (fun hc3 => ?_) fun hc3 => ?_
  ·refine W.rg (SL.o (SL.o ?_))
   refine SL.v (O.idx_fz (i := (idxF (fun x => decide (x.ov = 2)) q).toNat) rfl rfl xA (row_get xA) u59 hi96 hs96 rfl Taken.no) ?_
   refine SL.v (O.lU 5 u96) ?_
   refine SL.st5_5 101 ?_
   refine SL.a (E.fo (W.ret (E.thr ?_)))
   refine E.j2 [] rfl (ResOne.c5 u96) (ResOne.tmp rfl) ?_
   ·rw [nextH_yes ⟨by assumption, xA⟩, decide_eq_true ⟨by assumption, xA⟩, nextI, if_neg xA]; rfl
  refine W.skip (E.to (W.rg (SL.o ?_)))
  refine SL.cl [] [] (.agg [.u _, .u _, .u _, .u _, .u _]) _ (q := minFunc_h (f := 135) (caps := []) hcallOk135 (fun a b => next2_h) xA)  (h := ?_)
  refine SL.st5_5 101 ?_
  refine SL.a (E.fo (W.ret ?_))
  refine E.j2 [] rfl (ResOne.c5 u96) (ResOne.tmp rfl) ?_
  ·rw [nextH_yes ⟨by assumption, xA⟩, decide_eq_true ⟨by assumption, xA⟩, nextI, if_pos xA]; rfl
 have hg1p := gP hg1
 refine SL.k hg1 (SL.k hg1 (SL.k hg1 ?_))
 refine SL.v (O.pt (G.ne_f hg1)) ?_
 refine E.fo ?_
 refine W.cond_t rfl ?_
 refine W.rg ?_
 refine SL.v (O.bd1 u96) ?_
 refine SL.st5_5 101 ?_
 refine SL.a (E.fo (W.ret (E.thr ?_)))
 refine E.j2 [] rfl (ResOne.c5 u96) (ResOne.tmp rfl) ?_
 ·rw [nextH_no yU, decide_eq_false yU]; rfl

set_option maxRecDepth 8000 in
theorem clone_h {l : List Hd} (hb : l.length ≤ 1000000) :
    Con Tryz.prog 57 [vL 5 (l.map eH)] [] (.own 0) [(0, .data 96 5 (l.map eH))] := by
 obtain ⟨i96, hi96, hz96, hs96, hb96⟩ := hinf96
 refine Con.en 8 Tryz.func57 fun τ w ok vs hin => ?_
 have hl0 := hin.len (i := 0) rfl
 try rw [List.length_map] at hl0
 clear hin
 refine W.rg (SL.a (E.fo (W.seq (W.rg (SL.o ?_)))))
 refine SL.isnil (SlOf.fz rfl xI) u59 rfl Taken.no (fun bn1 hbn1 => ?_)
 refine E.fo ?_
 refine W.cc rfl (fun hc2 => ?_) fun hc2 => ?_
 ·refine W.rg (SL.a (E.fo (W.ret (E.thr ?_))))
  refine E.adopt 2 101 96 5 xI rfl rfl rfl ?_
  refine E.f1 [(0, 101)] ?_ ?_
  ·rfl
  · exact zC
 refine W.skip (E.to (W.rg ?_))
 refine SL.memS (O.buildSlice 102 rfl rfl u59 hi96 hz96 hs96 xI rfl xI rfl rfl rfl Taken.no) rfl rfl (S' := (102, _) :: _) rfl ?_
 refine SL.o ?_
 refine SL.memS (O.app (k' := 103) rfl rfl (SlOf.fz rfl xI) u59 hi96 hz96 hs96 rfl rfl yN wB xX rfl Taken.no) rfl rfl (S' := (103, _) :: (102, .dead) :: _) rfl ?_
 refine SL.a (E.fo (W.ret ?_))
 refine E.f1 [(0, 103)] ?_ ?_
 ·rfl
 · exact (SubS.val rfl yT SubS.nil)

set_option maxRecDepth 8000 in
theorem delete_h {q : List Hd} (i j : Nat) (hij : i < j) (hj : j ≤ q.length) (_ : q.length ≤ 1000000) :
    Con Tryz.prog 120 [.own 0, vI (i : Int), vI (j : Int)] [(0, .data 96 5 (q.map eH))] (.own 1) [(1, .data 96 5 ((q.take i ++ q.drop j).map eH))] := by
 have hdl : (q.take i ++ q.drop j).length = i + (q.length - j) := by simp; omega
 obtain ⟨i96, hi96, hz96, hs96, hb96⟩ := hinf96
 refine Con.en 33 Tryz.func120 fun τ w ok vs hin => ?_
 clear hin
 refine W.rg (SL.a (E.fo (W.rg (SL.o (SL.o (SL.o (SL.o ?_)))))))
 refine SL.v (O.lenE (SlOf.own rfl rfl) yB u59 rfl Taken.no) ?_
 refine SL.v (O.sub3_own (i := i) (j := j) (q := q.length) rfl rfl rfl yC rfl yC rfl yC xA xA (by first | omega | (rw [List.length_map]; omega)) u59 hi96 rfl Taken.no) ?_
 refine E.fo (W.seq (W.rg (SL.o (SL.o ?_))))
 refine SL.v (O.det (fun _ => G.R.mv (G.R.eql rfl rfl) (congrArg Value.bool (decide_eq_false xA))) rfl Taken.no) ?_
 refine E.fo ?_
 refine W.cond_f rfl ?_
 refine W.skip (E.to (W.rg (SL.o ?_)))
 refine SL.v (O.lenE (SlOf.own rfl rfl) yB u59 rfl Taken.no) ?_
 refine SL.a (E.fo (W.seq ?_))
 refine W.dr [pW 0, pO, pX 0, pW 0, pO, pX 0, ⟨[0], [0], [], []⟩, pW 0] ?_
 refine WH.o rfl (WH.o rfl ?_)
 refine WH.v (O.sub_own (j := i) rfl rfl Bnd.no (Bnd.at rfl yC) xA xS u59 hi96 hs96 rfl Taken.no) ?_
 refine WH.o rfl (WH.o rfl ?_)
 refine WH.v (O.sub_own (i := j) rfl rfl (Bnd.at rfl yC) Bnd.no xS yX u59 hi96 hs96 rfl Taken.no) ?_
 refine WH.memS (O.appIn (m := i + (q.length - j)) rfl rfl (SlOf.osl rfl rfl) u59 hi96 hs96 zB yE (rows' := ((q.take i ++ q.drop j) ++ q.drop (i + (q.length - j))).map eH) (by simp [List.take_of_length_le]) rfl Taken.no) rfl rfl rfl rfl rfl (S' := (0, _) :: _) rfl ?_
 refine WH.v (O.as1) ?_
 refine WH.nil (E.to (W.rg (SL.o (SL.o ?_))))
 refine SL.v (O.lenE (n := i + (q.length - j)) (SlOf.osl rfl rfl) (by rw [List.drop_zero, List.length_take, List.length_map, List.length_append, hdl]; omega) u59 rfl Taken.no) ?_
 refine SL.o ?_
 refine SL.v (O.sub_osl (i := (i + (q.length - j))) (j := q.length) rfl rfl (Bnd.at rfl yC) (Bnd.at rfl yC) xA zQ u59 hi96 hs96 rfl Taken.no) ?_
 refine SL.effS (O.clear (PartOf.osl rfl xA zQ) rfl u59 hi96 hz96 rfl rfl rfl (rows' := ((q.take i ++ q.drop j) ++ List.replicate (j - i) zeroH).map eH) (by exact delete_clear (f := eH) hij hj) Taken.no) (S' := (0, _) :: _) rfl ?_
 refine E.fo ?_
 refine W.pk [(0,_),(6,_)] [(0,_)] ?_
 refine W.rg (SL.o ?_)
 refine SL.trunc 32 102 rfl rfl (rows' := (q.take i ++ q.drop j).map eH) (by rw [← List.map_take, List.take_left' hdl]) rfl rfl ?_
 refine SL.a (E.fo (W.ret ?_))
 refine E.h1 [(1, 102)] ?_
 ·rfl

end Go.Proofs.YtmekkjehkcjpdaaGreat
end
section
namespace Go.Proofs.YtmekkjehkcjpdaaGreat
open Go Go.RowKit Go.H Go.D57


set_option maxRecDepth 8000 in
theorem refserve_h {q : List Hd} (hv : validQ q) (hl : 0 < q.length) :
    Con Tryz.prog 131 [vL 5 (q.map eH)] [] (.tup [.agg [.u (uI q[nextI q]!.id), .u (uI q[nextI q]!.pat), .u (uI q[nextI q]!.cls), .u (uI q[nextI q]!.tim), .u (uI q[nextI q]!.ov)], vL 5 ((srvL q (nextI q)).map eH)]) [] := by
 have hn := nextI_lt hl
 have h60 := hv.2
 obtain ⟨i121, hi121, hz121, hs121, hb121⟩ := hinf121
 refine Con.en 39 Tryz.func131 fun τ w ok vs hin => ?_
 have hl0 := hin.len (i := 0) rfl
 try rw [List.length_map] at hl0
 clear hin
 refine W.rg ?_
 refine SL.al1 101 ?_
 refine SL.a (E.fo (W.rg (SL.o ?_)))
 refine SL.v (O.cp (q := refnext_h)) ?_
 refine SL.a (E.fo (W.rg (SL.a (E.fo (W.seq (W.rg (SL.a (E.fo (W.block ?_)))))))))
 refine W.adopt 5 103 121 5 xI rfl rfl rfl ?_
 refine W.lq (fun (k : Nat) => [(5, .own 102), (6, vI (k : Int))]) (fun (k : Nat) => [(102, .data 121 5 ((srvR q (nextI q) k).map eH))]) (fun (k : Nat) => k ≤ q.length) (fun (k : Nat) => q.length - k) (0) [(102, 103)] [(0, _), (2, _), (3, _), (4, _)] [(101, _)] ?_ ?_
 ·omega
 intro k hinv
 have hk := hinv
 have hrl := srvR_len q (nextI q) k
 have hov := fun h : k < q.length => (hv.1 k h).1
 refine W.seq (W.rg (SL.o (SL.o ?_)))
 refine SL.v (O.le u67) ?_
 refine SL.v (O.lss) ?_
 refine E.fo ?_
 refine W.cc rfl (fun hc1 => ?_) fun hc1 => ?_
 ·refine W.skip (E.to (W.seq (W.block (W.rg (SL.o (SL.o ?_))))))
  refine SL.v (O.ix u67 hi121 hs121) ?_
  refine SL.v (O.lU 5 u121) ?_
  refine SL.al1 104 ?_
  refine SL.st5_5 104 ?_
  refine E.fo (W.seq (W.rg (SL.o (SL.o ?_))))
  refine SL.v (O.lss) ?_
  refine E.fo ?_
  refine W.cc rfl (fun hc2 => ?_) fun hc2 => ?_
  ·refine W.region ?_
   refine SL.v (O.fr 4 0 u121) ?_
   refine SL.v (O.l1 u3) ?_
   refine SL.v (O.det (fun _ => by first | exact G.R.add64 rfl rfl (by have := (hov xA).2.2.2.2.2.2.2.2; omega)) rfl Taken.no) ?_
   refine SL.v (O.fr 4 0 u121) ?_
   refine SL.st1_5 104 ?_
   refine E.fo (W.rg (SL.o (SL.o ?_)))
   refine SL.v (O.neq) ?_
   refine E.fo ?_
   refine W.pk [(0,_),(2,_),(3,_),(4,_),(5,_),(6,_),(7,_),(29,_)] [(101,_),(102,_),(104,_)] ?_
   refine W.cc rfl (fun hc3 => ?_) fun hc3 => ?_
   ·refine W.region (SL.o ?_)
    refine SL.v (O.n5 u121) ?_
    refine SL.memS (O.buildSlice 105 rfl rfl u67 hi121 hz121 hs121 xI rfl xI rfl rfl rfl Taken.no) rfl rfl (S' := (105, _) :: _) rfl ?_
    refine SL.memS (O.app (k' := 106) rfl rfl (SlOf.own rfl rfl) u67 hi121 hz121 hs121 rfl rfl (by first | exact map_snoc (x := incH q[k]!) rfl | exact map_snoc (x := q[k]!) rfl) yK xX rfl Taken.no) rfl rfl (S' := (106, _) :: (102, .dead) :: _) rfl ?_
    refine SL.a (SL.nil (E.inn (E.to (W.region (SL.o ?_)))))
    refine SL.v (O.ad) ?_
    refine SL.a (SL.nil ?_)
    refine E.ag (k + 1) [(102, 106)] ?_ ?_ ?_ ?_
    · exact zH
    · exact yP
    ·try dsimp only
     omega
    · exact xT
   refine W.skip (E.inn (E.to (W.region (SL.o ?_))))
   refine SL.v (O.ad) ?_
   refine SL.a (SL.nil ?_)
   refine E.ag (k + 1) [] ?_ ?_ ?_ ?_
   · exact zH
   · exact yP
   ·try dsimp only
    omega
   · exact xT
  refine W.skip (E.to (W.rg (SL.o (SL.o ?_))))
  refine SL.v (O.neq) ?_
  refine E.fo ?_
  refine W.cc rfl (fun hc4 => ?_) fun hc4 => ?_
  ·refine W.region (SL.o ?_)
   refine SL.v (O.n5 u121) ?_
   refine SL.memS (O.buildSlice 107 rfl rfl u67 hi121 hz121 hs121 xI rfl xI rfl rfl rfl Taken.no) rfl rfl (S' := (107, _) :: _) rfl ?_
   refine SL.memS (O.app (k' := 108) rfl rfl (SlOf.own rfl rfl) u67 hi121 hz121 hs121 rfl rfl (by first | exact map_snoc (x := incH q[k]!) rfl | exact map_snoc (x := q[k]!) rfl) yK xX rfl Taken.no) rfl rfl (S' := (108, _) :: (102, .dead) :: _) rfl ?_
   refine SL.a (SL.nil (E.inn (E.to ?_)))
   refine W.pk [(0,_),(2,_),(3,_),(4,_),(5,_),(6,_)] [(101,_),(104,_),(107,_),(108,_)] ?_
   refine W.region (SL.o ?_)
   refine SL.v (O.ad) ?_
   refine SL.a (SL.nil ?_)
   refine E.ag (k + 1) [(102, 108)] ?_ ?_ ?_ ?_
   · exact zH
   · exact yP
   ·try dsimp only
    omega
   · exact xT
  refine W.skip (E.inn (E.to (W.region (SL.o ?_))))
  refine SL.v (O.ad) ?_
  refine SL.a (SL.nil ?_)
  refine E.ag (k + 1) [] ?_ ?_ ?_ ?_
  · exact zH
  · exact yP
  ·try dsimp only
   omega
  · exact xT
 refine W.exit (E.th (E.th (E.hit (E.to (W.rg (SL.o (SL.o ?_)))))))
 refine SL.v (O.idx_fz (i := (nextI q)) rfl rfl (rfl) (row_get xA) u67 hi121 hs121 rfl Taken.no) ?_
 refine SL.v (O.lU 5 u121) ?_
 refine SL.o ?_
 refine SL.st5_5 101 ?_
 refine SL.a (E.fo (W.ret ?_))
 refine E.freeze 102 rfl (F' := [(3, _)]) (⟨⟨_, rfl, rfl⟩, trivial⟩) ?_
 refine E.j2 [] rfl (ResOne.c5 u121) (ResOne.tmp rfl) ?_
 ·obtain rfl : k = q.length := by omega
  rw [srvR_all hn]; rfl

set_option maxRecDepth 8000 in
theorem refServe_h {q : List Hd} :
    Con Tryz.prog 121 [vL 5 (q.map eH)] [] (.tup [.agg [.u (uI (nextH q).id), .u (uI (nextH q).pat), .u (uI (nextH q).cls), .u (uI (nextH q).tim), .u (uI (nextH q).ov)], vL 5 ((srvQ q).map eH), vI (srvE q)]) [] := by
 refine Con.en 22 Tryz.func121 fun τ w ok vs hin => ?_
 have hl0 := hin.len (i := 0) rfl
 try rw [List.length_map] at hl0
 clear hin
 refine W.rg ?_
 refine SL.al1 101 ?_
 refine SL.a (SL.a (E.fo (W.seq (W.rg (SL.o ?_)))))
 refine SL.v (O.cp (q := refvalid_h)) ?_
 refine SL.v (O.nt) ?_
 refine E.fo ?_
 refine W.cc rfl (fun hc1 => ?_) fun hc1 => ?_
 ·refine W.rg ?_
  refine SL.v (O.bd1 u121) ?_
  refine SL.st5_5 101 ?_
  refine SL.a (SL.a (E.fo (W.ret (E.thr ?_))))
  refine E.nilsl 3 5 rfl ?_
  refine E.j3 [] rfl (ResOne.c5 u121) (ResOne.tmp rfl) (ResOne.tmp rfl) ?_
  ·rw [(srv_1 (q := q) xV).1, (srv_1 (q := q) xV).2.1, (srv_1 (q := q) xV).2.2]; rfl
 refine W.skip (E.to (W.seq (W.rg (SL.o ?_))))
 refine SL.v (O.le u67) ?_
 refine SL.v (O.eql) ?_
 refine E.fo ?_
 refine W.cc rfl (fun hc2 => ?_) fun hc2 => ?_
 ·refine W.rg ?_
  refine SL.v (O.bd1 u121) ?_
  refine SL.st5_5 101 ?_
  refine SL.a (SL.a (E.fo (W.ret (E.thr ?_))))
  refine E.nilsl 3 5 rfl ?_
  refine E.j3 [] rfl (ResOne.c5 u121) (ResOne.tmp rfl) (ResOne.tmp rfl) ?_
  ·rw [(srv_9 (q := q) xK xA).1, (srv_9 (q := q) xK xA).2.1, (srv_9 (q := q) xK xA).2.2]; rfl
 refine W.skip (E.to (W.rg (SL.o ?_)))
 refine SL.cl [] [] (.tup [.agg [.u _, .u _, .u _, .u _, .u _], .u _]) _ (q := refserve_h xK xA)  (h := ?_)
 refine SL.o ?_
 refine SL.v (O.ex) ?_
 refine SL.v (O.ex) ?_
 refine SL.al1 102 ?_
 refine SL.st5_5 102 ?_
 refine SL.a (E.fo (W.rg ?_))
 refine SL.v (O.n5 u121) ?_
 refine SL.o ?_
 refine SL.st5_5 101 ?_
 refine SL.a (SL.a (E.fo (W.ret ?_)))
 refine E.j3 [] rfl (ResOne.c5 u121) (ResOne.tmp rfl) (ResOne.tmp rfl) ?_
 ·rw [(srv_0 (q := q) xK xA).1, (srv_0 (q := q) xK xA).2.1, (srv_0 (q := q) xK xA).2.2]; rfl

set_option maxRecDepth 8000 in
theorem holdServe_h {q : List Hd} :
    Con Tryz.prog 104 [vL 5 (q.map eH)] [] (.tup [.agg [.u (uI (nextH q).id), .u (uI (nextH q).pat), .u (uI (nextH q).cls), .u (uI (nextH q).tim), .u (uI (nextH q).ov)], vL 5 ((srvQ q).map eH), vI (srvE q)]) [] := by
 obtain ⟨i96, hi96, hz96, hs96, hb96⟩ := hinf96
 refine Con.en 49 Tryz.func104 fun τ w ok vs hin => ?_
 have hl0 := hin.len (i := 0) rfl
 try rw [List.length_map] at hl0
 clear hin
 refine W.rg ?_
 refine SL.al1 101 ?_
 refine SL.a (SL.a (E.fo (W.rg (SL.o ?_))))
 refine SL.cl [] [] (.tup [.agg [.u _, .u _, .u _, .u _, .u _], .u _]) _ (q := holdNext_h)  (h := ?_)
 refine SL.o ?_
 refine SL.v (O.ex) ?_
 refine SL.v (O.ex) ?_
 refine SL.al1 102 ?_
 refine SL.st5_5 102 ?_
 refine SL.a (E.fo (W.seq (W.block (W.rg (SL.o ?_)))))
 refine SL.v (O.cp (q := valid_h)) ?_
 refine SL.v (O.nt) ?_
 refine SL.a (E.fo ?_)
 refine W.cc rfl (fun hc1 => ?_) fun hc1 => ?_
 ·refine W.rg ?_
  refine SL.v (O.bd1 u96) ?_
  refine SL.st5_5 101 ?_
  refine SL.a (SL.a (E.fo (W.ret ?_)))
  refine E.inr ?_
  refine E.thr ?_
  refine E.nilsl 3 5 rfl ?_
  refine E.j3 [] rfl (ResOne.c5 u96) (ResOne.tmp rfl) (ResOne.tmp rfl) ?_
  ·rw [(srv_1 (q := q) xV).1, (srv_1 (q := q) xV).2.1, (srv_1 (q := q) xV).2.2]; rfl
 refine W.rg (SL.o ?_)
 refine SL.v (O.nt) ?_
 refine SL.a (E.fo ?_)
 refine W.cc rfl (fun hc2 => ?_) fun hc2 => ?_
 ·refine W.rg ?_
  refine SL.v (O.bd1 u96) ?_
  refine SL.st5_5 101 ?_
  refine SL.a (SL.a (E.fo (W.ret ?_)))
  refine E.inr ?_
  refine E.thr ?_
  refine E.nilsl 3 5 rfl ?_
  refine E.j3 [] rfl (ResOne.c5 u96) (ResOne.tmp rfl) (ResOne.tmp rfl) ?_
  ·rw [(srv_9 (q := q) xV (by first | (intro hz; simp_all; done) | simp_all)).1, (srv_9 (q := q) xV (by first | (intro hz; simp_all; done) | simp_all)).2.1, (srv_9 (q := q) xV (by first | (intro hz; simp_all; done) | simp_all)).2.2]; rfl
 have hvl : validQ q ∧ 0 < q.length := by first | assumption | simp_all
 have hv := hvl.1
 have hl := hvl.2
 have hn := nextI_lt hl
 have h60 := hv.2
 refine W.skip (E.inn (E.to (W.rg (SL.o ?_))))
 refine SL.v (O.fr 0 0 u96) ?_
 refine SL.v (O.l1 u3) ?_
 refine SL.v (O.cp (q := index_h)) ?_
 refine SL.as (i' := vI ((nextI q) : Nat)) 27 rfl (by rw [idx_next hv hl]) ?_
 refine SL.a (E.fo (W.rg (SL.o ?_)))
 refine SL.cl [(0, 103)] [] (.own 103) ((103, .data _ _ _) :: _) (q := clone_h (by first | omega | (simp <;> omega)))  (h := ?_)
 refine SL.o (SL.o ?_)
 refine SL.v (O.ad) ?_
 refine SL.cl [(0, 103), (1, 104)] [] (.own 104) ((104, .data _ _ _) :: (103, .dead) :: _) (q := delete_h (q := q) (nextI q) ((nextI q) + 1) xA xA xA)  (h := ?_)
 refine SL.a (E.fo ?_)
 refine W.pk [(2,_),(3,_),(4,_),(5,_),(7,_),(8,_)] [(101,_),(102,_),(104,_)] ?_
 refine W.seq (W.rg (SL.o (SL.o (E.fo (W.block ?_)))))
 refine W.lp (fun (k : Nat) => [(8, .own 105), (35, vI (k : Int))]) (fun (k : Nat) => [(105, .data 96 5 ((srvK q (nextI q) k).map eH))]) (fun (k : Nat) => k ≤ (nextI q)) (fun (k : Nat) => (nextI q) - k) (0) [(105, 104)] [(2, _), (3, _), (4, _), (5, _), (34, _)] [(101, _), (102, _)] ?_ ?_ ?_ ?_
 · exact zH
 · exact (SubS.val rfl (by exact sb_data (by rw [srvK_0])) SubS.nil)
 ·omega
 intro k hinv
 have hk := hinv
 have hkg := fun h : k < (nextI q) => srvK_get (q := q) h hn
 have hov := fun h : k < (nextI q) => (hv.1 k xA).1
 refine W.rg ?_
 refine SL.v (O.lss) ?_
 refine E.fo (W.seq ?_)
 refine W.cc rfl (fun hc3 => ?_) fun hc3 => ?_
 ·refine W.skip (E.to (W.seq (W.block (W.rg (SL.o (SL.a (E.fo (W.region (SL.o (SL.o ?_))))))))))
  refine SL.v (O.idx_own (i := k) rfl rfl rfl (rfl) (by rw [List.length_map]; exact (hkg xA).2) u59 hi96 hs96 rfl Taken.no) ?_
  refine SL.v (O.fe 4 0 u96) ?_
  refine SL.v (O.ld1 (PtI.ofU (PtU.el rfl rfl (row_get (by exact (hkg xA).2)))) rfl u3 rfl rfl Taken.no) ?_
  refine SL.v (O.det (fun _ => by exact G.R.add64 rfl rfl (by rw [(hkg xA).1]; have := (hov xA).2.2.2.2.2.2.2.2; omega)) rfl Taken.no) ?_
  refine SL.v (O.idx_own (i := k) rfl rfl rfl (rfl) (by rw [List.length_map]; exact (hkg xA).2) u59 hi96 hs96 rfl Taken.no) ?_
  refine SL.v (O.fe 4 0 u96) ?_
  refine SL.effS (O.st_els (m := 1) rfl rfl rfl (us := [_]) rfl rfl xG yE (row_get (by exact (hkg xA).2)) xP rfl rfl (rows' := ((srvK q (nextI q) k).set k (incH (srvK q (nextI q) k)[k]!)).map eH) (by exact set_map rfl) Taken.no) (S' := (105, _) :: _) rfl ?_
  refine SL.nil (E.inn (E.to (W.region ?_)))
  refine SL.v (O.ad) ?_
  refine SL.o (SL.nil ?_)
  refine E.ag (k + 1) [] ?_ ?_ ?_ ?_
  · exact zH
  · exact (SubS.val rfl (by (try dsimp only); exact sb_data (by rw [srvK_step xA hn])) (SubS.cons rfl (SubS.cons rfl SubS.nil)))
  ·try dsimp only
   omega
  · exact xT
 refine W.exit (E.th (E.th (E.hit (E.to (W.rg ?_)))))
 refine SL.v (O.n5 u96) ?_
 refine SL.o ?_
 refine SL.st5_5 101 ?_
 refine SL.a (SL.a (E.fo (W.ret ?_)))
 refine E.freeze 105 rfl (F' := [(3, _)]) (⟨⟨_, rfl, rfl⟩, trivial⟩) ?_
 refine E.j3 [] rfl (ResOne.c5 u96) (ResOne.tmp rfl) (ResOne.tmp rfl) ?_
 ·obtain rfl : k = (nextI q) := by omega
  rw [srvK_n hn]
  rw [(srv_0 (q := q) hv hl).1, (srv_0 (q := q) hv hl).2.1, (srv_0 (q := q) hv hl).2.2]; rfl

end Go.Proofs.YtmekkjehkcjpdaaGreat
end
section
namespace Go.Proofs.YtmekkjehkcjpdaaGreat
open Go Go.RowKit Go.H Go.D57



set_option maxRecDepth 8000 in
theorem rfind_h {q : List Hd} {i : Int} :
    Con Tryz.prog 124 [vL 5 (q.map eH), vI i] [] (vI (idxF (fun x => decide (x.id = i)) q)) [] := by
 obtain ⟨i121, hi121, hz121, hs121, hb121⟩ := hinf121
 refine Con.en 20 Tryz.func124 fun τ w ok vs hin => ?_
 have hl0 := hin.len (i := 0) rfl
 try rw [List.length_map] at hl0
 clear hin
 refine W.rg (SL.a (E.fo (W.seq (W.rg (SL.a (E.fo (W.block ?_)))))))
 refine W.lq (fun (k : Nat) => [(5, vI (k : Int))]) (fun (k : Nat) => []) (fun (k : Nat) => k ≤ q.length ∧ ∀ j, j < k → decide (q[j]!.id = i) = false) (fun (k : Nat) => q.length - k) (0) [] [(0, _), (1, _)] [] ?_ ?_
 ·exact yG
 intro k hinv
 obtain ⟨hk, hp⟩ := hinv
 refine W.seq (W.rg (SL.o (SL.o ?_)))
 refine SL.v (O.le u67) ?_
 refine SL.v (O.lss) ?_
 refine E.fo ?_
 refine W.cc rfl (fun hc1 => ?_) fun hc1 => ?_
 ·refine W.skip (E.to (W.seq (W.block (W.rg (SL.o (SL.o ?_))))))
  refine SL.v (O.ix u67 hi121 hs121) ?_
  refine SL.v (O.ff 0 u121) ?_
  refine SL.v (O.l1f u3) ?_
  refine SL.o ?_
  refine SL.v (O.eql) ?_
  refine E.fo ?_
  refine W.cc rfl (fun hc2 => ?_) fun hc2 => ?_
  ·refine W.rg (SL.o (SL.a (E.fo (W.ret ?_))))
   refine E.inr ?_
   refine E.thr (E.thr ?_)
   refine E.inr ?_
   refine E.thr ?_
   refine E.h1 [] ?_
   ·exact iv_int (idxF_here xA hp (decide_eq_true xK))
  refine W.skip (E.inn (E.to (W.region (SL.o ?_))))
  refine SL.v (O.ad) ?_
  refine SL.a (SL.nil ?_)
  refine E.ai (k + 1) [] ?_
  ·try dsimp only
   exact zO
 refine W.exit (E.th (E.th (E.hit (E.to (W.rg (SL.a (E.fo (W.ret ?_))))))))
 refine E.h1 [] ?_
 ·exact iv_int (idxF_none xA hp)

set_option maxRecDepth 8000 in
theorem few_h {q : List Hd} :
    Con Tryz.prog 23 [vL 5 (q.map eH)] [] (vB (decide (fewQ q))) [] := by
 refine Con.en 16 Tryz.func23 fun τ w ok vs hin => ?_
 have hl0 := hin.len (i := 0) rfl
 try rw [List.length_map] at hl0
 clear hin
 refine W.rg (SL.a (E.fo (W.rg (SL.o ?_))))
 refine SL.v (O.le u67) ?_
 refine SL.v (O.leq) ?_
 refine SL.o ?_
 refine SL.cs 3 false (fun hg1 => ?_) fun hg1 => ?_
 ·have hg1p := gP hg1
  refine SL.v (O.mo (tY hg1)) ?_
  refine SL.v (O.le u67 (tY hg1)) ?_
  refine SL.v (O.eql (tY hg1)) ?_
  refine SL.v (O.pf hg1) ?_
  refine SL.o ?_
  refine SL.cs 8 false (fun hg2 => ?_) fun hg2 => ?_
  ·have hg2p := gP hg2
   refine SL.v (O.mo (tY hg2)) ?_
   refine SL.v (O.le u67 (tY hg2)) ?_
   refine SL.v (O.eql (tY hg2)) ?_
   refine SL.v (O.pf hg2) ?_
   refine SL.a (E.fo (W.ret ?_))
   refine E.h1 [] ?_
   ·exact wL
  have hg2p := gP hg2
  refine SL.k hg2 (SL.k hg2 (SL.k hg2 ?_))
  refine SL.v (O.pt (G.ne_f hg2)) ?_
  refine SL.a (E.fo (W.ret ?_))
  refine E.h1 [] ?_
  ·exact wL
 have hg1p := gP hg1
 refine SL.k hg1 (SL.k hg1 (SL.k hg1 ?_))
 refine SL.v (O.pt (G.ne_f hg1)) ?_
 refine SL.o ?_
 have hg3 := G.ntf
 refine SL.k hg3 (SL.k hg3 (SL.k hg3 ?_))
 refine SL.v (O.pt rfl) ?_
 refine SL.a (E.fo (W.ret ?_))
 refine E.h1 [] ?_
 ·exact wL

end Go.Proofs.YtmekkjehkcjpdaaGreat
end
section
namespace Go.Proofs.YtmekkjehkcjpdaaGreat
open Go Go.RowKit Go.H Go.D57



def hV (h : Hd) : List Value := [.int .i64 h.id, .int .i64 h.pat, .int .i64 h.cls, .int .i64 h.tim, .int .i64 h.ov]
theorem eqH (a b : Hd) : eqvL (hV a) (hV b) = decide (a = b) := by
  cases a; cases b
  rw [Bool.eq_iff_iff]
  simp [hV, eqvL, eqv]

set_option maxRecDepth 8000 in
theorem same_h {a b : List Hd} :
    Con Tryz.prog 43 [vL 5 (a.map eH), vL 5 (b.map eH)] [] (vB (decide (a = b))) [] := by
 obtain ⟨i121, hi121, hz121, hs121, hb121⟩ := hinf121
 refine Con.en 26 Tryz.func43 fun τ w ok vs hin => ?_
 have hl0 := hin.len (i := 0) rfl
 try rw [List.length_map] at hl0
 have hl1 := hin.len (i := 1) rfl
 try rw [List.length_map] at hl1
 clear hin
 refine W.rg (SL.a (E.fo (W.seq (W.rg (SL.o ?_)))))
 refine SL.v (O.le u67) ?_
 refine SL.o ?_
 refine SL.v (O.le u67) ?_
 refine SL.v (O.neq) ?_
 refine E.fo ?_
 refine W.cc rfl (fun hc1 => ?_) fun hc1 => ?_
 ·refine W.rg (SL.a (E.fo (W.ret (E.thr ?_))))
  refine E.h1 [] ?_
  ·exact iv_bool (decide_eq_false fun e => by subst e; omega)
 refine W.skip (E.to (W.seq (W.rg (SL.a (E.fo (W.block ?_))))))
 refine W.lq (fun (k : Nat) => [(5, vI (k : Int))]) (fun (k : Nat) => []) (fun (k : Nat) => k ≤ a.length ∧ ∀ j, j < k → a[j]! = b[j]!) (fun (k : Nat) => a.length - k) (0) [] [(0, _), (1, _)] [] ?_ ?_
 ·exact yG
 intro k hinv
 obtain ⟨hk, hp⟩ := hinv
 refine W.seq (W.rg (SL.o (SL.o ?_)))
 refine SL.v (O.le u67) ?_
 refine SL.v (O.lss) ?_
 refine E.fo ?_
 refine W.cc rfl (fun hc2 => ?_) fun hc2 => ?_
 ·refine W.skip (E.to (W.seq (W.block (W.seq ?_))))
  refine W.dr [pO, pO, pO, pO, pO, pO, pO, pO, pO] ?_
  refine WH.o rfl (WH.o rfl ?_)
  refine WH.v (O.ix u67 hi121 hs121) ?_
  refine WH.v (O.lU 5 u121) ?_
  refine WH.o rfl (WH.o rfl ?_)
  refine WH.v (O.ix u67 hi121 hs121) ?_
  refine WH.v (O.lU 5 u121) ?_
  refine WH.v (O.neAgg (ls := (hV a[k]!)) (ms := (hV b[k]!)) (r := (!decide (a[k]! = b[k]!))) (.inl rfl) (.inl rfl) xG xG xG xG (by rw [eqH]) rfl Taken.no) ?_
  refine WH.nil (E.to ?_)
  refine W.cc rfl (fun hc3 => ?_) fun hc3 => ?_
  ·refine W.rg (SL.a (E.fo (W.ret ?_)))
   refine E.inr ?_
   refine E.thr (E.thr ?_)
   refine E.inr ?_
   refine E.thr ?_
   refine E.h1 [] ?_
   ·exact iv_bool (decide_eq_false fun e => by subst e; simp_all)
  refine W.skip (E.inn (E.to (W.region (SL.o ?_))))
  refine SL.v (O.ad) ?_
  refine SL.a (SL.nil ?_)
  refine E.ai (k + 1) [] ?_
  ·try dsimp only
   exact ⟨xA, fun j hj => by rcases Nat.lt_succ_iff_lt_or_eq.1 hj with h | h; exact hp j h; subst h; first | assumption | simp_all⟩
 refine W.exit (E.th (E.th (E.hit (E.to (W.rg (SL.a (E.fo (W.ret ?_))))))))
 refine E.h1 [] ?_
 ·exact iv_bool (decide_eq_true (ext_get xA (fun j hj => hp j xA)))

set_option maxRecDepth 8000 in
theorem own_h {q : List Hd} (hn : q.length ≤ 1000) :
    Con Tryz.prog 35 [vL 5 (q.map eH)] [] (vL 5 (q.map eH)) [] := by
 obtain ⟨i96, hi96, hz96, hs96, hb96⟩ := hinf96
 obtain ⟨i121, hi121, hz121, hs121, hb121⟩ := hinf121
 refine Con.en 18 Tryz.func35 fun τ w ok vs hin => ?_
 have hl0 := hin.len (i := 0) rfl
 try rw [List.length_map] at hl0
 clear hin
 refine W.rg (SL.a (E.fo (W.rg (SL.a (E.fo (W.seq (W.rg (SL.o ?_))))))))
 refine SL.v (O.le u67) ?_
 refine SL.o (E.fo (W.block ?_))
 refine W.adopt 3 102 96 5 xI rfl rfl rfl ?_
 refine W.lq (fun (k : Nat) => [(8, vI (k : Int)), (3, .own 101)]) (fun (k : Nat) => [(101, .data 96 5 ((q.take k).map eH))]) (fun (k : Nat) => k ≤ q.length) (fun (k : Nat) => q.length - k) (0) [(101, 102)] [(2, _), (6, _), (7, _)] [] ?_ ?_
 ·omega
 intro k hinv
 have hk := hinv
 have htl : (q.take k).length = k := by rw [List.length_take]; omega
 refine W.rg ?_
 refine SL.v (O.lss) ?_
 refine E.fo (W.seq ?_)
 refine W.cc rfl (fun hc1 => ?_) fun hc1 => ?_
 ·refine W.skip (E.to (W.seq (W.block (W.rg ?_))))
  refine SL.v (O.ix u67 hi121 hs121) ?_
  refine SL.v (O.lU 5 u121) ?_
  refine SL.al1 103 ?_
  refine SL.st5_5 103 ?_
  refine E.fo (W.region (SL.o ?_))
  refine SL.v (O.n5 u121) ?_
  refine SL.memS (O.buildSlice 104 rfl rfl u59 hi96 hz96 hs96 xI rfl xI rfl rfl rfl Taken.no) rfl rfl (S' := (104, _) :: _) rfl ?_
  refine SL.memS (O.app (k' := 105) rfl rfl (SlOf.own rfl rfl) u59 hi96 hz96 hs96 rfl rfl (by exact map_snoc (x := q[k]!) rfl) wB xX rfl Taken.no) rfl rfl (S' := (105, _) :: (101, .dead) :: _) rfl ?_
  refine SL.a (SL.nil (E.inn (E.to (W.region ?_))))
  refine SL.v (O.ad) ?_
  refine SL.o (SL.nil ?_)
  refine E.ag (k + 1) [(101, 105)] ?_ ?_ ?_ ?_
  · exact zH
  · exact (SubS.val rfl (by (try dsimp only); exact sb_data (by rw [snocT xA])) SubS.nil)
  ·try dsimp only
   omega
  · exact xT
 refine W.exit (E.th (E.th (E.hit (E.to (W.rg (SL.o (SL.a (E.fo (W.ret ?_)))))))))
 refine E.freeze 101 rfl (F' := [(2, _)]) (⟨⟨_, rfl, rfl⟩, trivial⟩) ?_
 refine E.h1 [] ?_
 ·obtain rfl : k = q.length := by omega
  rw [List.take_length]; rfl

set_option maxRecDepth 8000 in
theorem theirs_h {q : List Hd} (hn : q.length ≤ 1000) :
    Con Tryz.prog 44 [vL 5 (q.map eH)] [] (vL 5 (q.map eH)) [] := by
 obtain ⟨i96, hi96, hz96, hs96, hb96⟩ := hinf96
 obtain ⟨i121, hi121, hz121, hs121, hb121⟩ := hinf121
 refine Con.en 18 Tryz.func44 fun τ w ok vs hin => ?_
 have hl0 := hin.len (i := 0) rfl
 try rw [List.length_map] at hl0
 clear hin
 refine W.rg (SL.a (E.fo (W.rg (SL.a (E.fo (W.seq (W.rg (SL.o ?_))))))))
 refine SL.v (O.le u59) ?_
 refine SL.o (E.fo (W.block ?_))
 refine W.adopt 3 102 121 5 xI rfl rfl rfl ?_
 refine W.lq (fun (k : Nat) => [(8, vI (k : Int)), (3, .own 101)]) (fun (k : Nat) => [(101, .data 121 5 ((q.take k).map eH))]) (fun (k : Nat) => k ≤ q.length) (fun (k : Nat) => q.length - k) (0) [(101, 102)] [(2, _), (6, _), (7, _)] [] ?_ ?_
 ·omega
 intro k hinv
 have hk := hinv
 have htl : (q.take k).length = k := by rw [List.length_take]; omega
 refine W.rg ?_
 refine SL.v (O.lss) ?_
 refine E.fo (W.seq ?_)
 refine W.cc rfl (fun hc1 => ?_) fun hc1 => ?_
 ·refine W.skip (E.to (W.seq (W.block (W.rg ?_))))
  refine SL.v (O.ix u59 hi96 hs96) ?_
  refine SL.v (O.lU 5 u96) ?_
  refine SL.al1 103 ?_
  refine SL.st5_5 103 ?_
  refine E.fo (W.region (SL.o ?_))
  refine SL.v (O.n5 u96) ?_
  refine SL.memS (O.buildSlice 104 rfl rfl u67 hi121 hz121 hs121 xI rfl xI rfl rfl rfl Taken.no) rfl rfl (S' := (104, _) :: _) rfl ?_
  refine SL.memS (O.app (k' := 105) rfl rfl (SlOf.own rfl rfl) u67 hi121 hz121 hs121 rfl rfl (by exact map_snoc (x := q[k]!) rfl) yK xX rfl Taken.no) rfl rfl (S' := (105, _) :: (101, .dead) :: _) rfl ?_
  refine SL.a (SL.nil (E.inn (E.to (W.region ?_))))
  refine SL.v (O.ad) ?_
  refine SL.o (SL.nil ?_)
  refine E.ag (k + 1) [(101, 105)] ?_ ?_ ?_ ?_
  · exact zH
  · exact (SubS.val rfl (by (try dsimp only); exact sb_data (by rw [snocT xA])) SubS.nil)
  ·try dsimp only
   omega
  · exact xT
 refine W.exit (E.th (E.th (E.hit (E.to (W.rg (SL.o (SL.a (E.fo (W.ret ?_)))))))))
 refine E.freeze 101 rfl (F' := [(2, _)]) (⟨⟨_, rfl, rfl⟩, trivial⟩) ?_
 refine E.h1 [] ?_
 ·obtain rfl : k = q.length := by omega
  rw [List.take_length]; rfl

end Go.Proofs.YtmekkjehkcjpdaaGreat
end
section
namespace Go.Proofs.YtmekkjehkcjpdaaGreat
open Go Go.RowKit Go.H Go.D57


set_option maxRecDepth 8000 in
theorem holdCancel_h {q : List Hd} (id : Int) :
    Con Tryz.prog 80 [vL 5 (q.map eH), vI id] [] (.tup [vL 5 ((canQ q id).map eH), vI (canE q id)]) [] := by
 have hir := ixI_range q id
 refine Con.en 25 Tryz.func80 fun τ w ok vs hin => ?_
 have hl0 := hin.len (i := 0) rfl
 try rw [List.length_map] at hl0
 clear hin
 refine W.rg (SL.a (SL.a (E.fo (W.seq (W.block (W.rg (SL.o ?_)))))))
 refine SL.v (O.cp (q := valid_h)) ?_
 refine SL.v (O.nt) ?_
 refine SL.a (E.fo ?_)
 refine W.cc rfl (fun hc1 => ?_) fun hc1 => ?_
 ·refine W.rg (SL.a (SL.a (E.fo (W.ret ?_))))
  refine E.inr ?_
  refine E.thr ?_
  refine E.nilsl 4 5 rfl ?_
  refine E.h2 [] ?_
  ·rw [(can_1 id xV).1, (can_1 id xV).2]; rfl
 refine W.rg (SL.o (SL.o ?_))
 refine SL.v (O.cp (q := index_h)) ?_
 refine SL.as (i' := vI (ixI q id)) 14 rfl yT ?_
 refine SL.v (O.lss) ?_
 refine SL.a (E.fo ?_)
 refine W.cc rfl (fun hc2 => ?_) fun hc2 => ?_
 ·refine W.rg (SL.a (SL.a (E.fo (W.ret ?_))))
  refine E.inr ?_
  refine E.thr ?_
  refine E.nilsl 4 5 rfl ?_
  refine E.h2 [] ?_
  ·rw [(can_9 (id := id) xK xK).1, (can_9 (id := id) xK xK).2]; rfl
 have hv : validQ q := by assumption
 have h60 := hv.2
 obtain ⟨j, hj⟩ : ∃ j : Nat, ixI q id = j := ⟨(ixI q id).toNat, xA⟩
 refine W.skip (E.inn (E.to (W.rg (SL.o (SL.o ?_)))))
 refine SL.v (O.cp (q := index_h)) ?_
 refine SL.as (i' := vI ((ixI q id).toNat : Nat)) 18 rfl (by exact iv_int (show ixI q id = _ by omega)) ?_
 refine SL.a (E.fo (W.rg (SL.o ?_)))
 refine SL.cl [(0, 101)] [] (.own 101) ((101, .data _ _ _) :: _) (q := clone_h (by first | omega | (simp <;> omega)))  (h := ?_)
 refine SL.o (SL.o ?_)
 refine SL.v (O.det (fun _ => G.R.mv (G.R.add64 rfl rfl xA) (congrArg (Value.int .i64) (show _ = (((ixI q id).toNat + 1 : Nat) : Int) by omega))) rfl Taken.no) ?_
 refine SL.cl [(0, 101)] [] (.u _) ((101, .dead) :: _) (q := Con.fz (delete_h (q := q) (ixI q id).toNat ((ixI q id).toNat + 1) xA xA xA) rfl rfl)  (h := ?_)
 refine SL.a (SL.a (E.fo ?_))
 refine W.pk [(4,_),(5,_)] [] ?_
 refine W.ret ?_
 refine E.h2 [] ?_
 ·rw [(can_0 (id := id) xK xK).1, (can_0 (id := id) xK xK).2]; rfl

set_option maxRecDepth 8000 in
theorem refCancel_h {q : List Hd} (id : Int) :
    Con Tryz.prog 92 [vL 5 (q.map eH), vI id] [] (.tup [vL 5 ((canQ q id).map eH), vI (canE q id)]) [] := by
 have hir := ixI_range q id
 obtain ⟨i121, hi121, hz121, hs121, hb121⟩ := hinf121
 refine Con.en 25 Tryz.func92 fun τ w ok vs hin => ?_
 have hl0 := hin.len (i := 0) rfl
 try rw [List.length_map] at hl0
 clear hin
 refine W.rg (SL.a (SL.a (E.fo (W.seq (W.rg (SL.o ?_))))))
 refine SL.v (O.cp (q := refvalid_h)) ?_
 refine SL.v (O.nt) ?_
 refine E.fo ?_
 refine W.cc rfl (fun hc1 => ?_) fun hc1 => ?_
 ·refine W.rg (SL.a (SL.a (E.fo (W.ret (E.thr ?_)))))
  refine E.nilsl 4 5 rfl ?_
  refine E.h2 [] ?_
  ·rw [(can_1 id xV).1, (can_1 id xV).2]; rfl
 have hv : validQ q := by first | assumption | (rename_i z; simpa using z)
 have h60 := hv.2
 refine W.skip (E.to (W.rg (SL.o (SL.o ?_))))
 refine SL.v (O.cp (q := rfind_h)) ?_
 refine SL.as (i' := vI (ixI q id)) 12 rfl yT ?_
 refine SL.a (E.fo (W.seq (W.rg (SL.o ?_))))
 refine SL.v (O.lss) ?_
 refine E.fo ?_
 refine W.cc rfl (fun hc2 => ?_) fun hc2 => ?_
 ·refine W.rg (SL.a (SL.a (E.fo (W.ret (E.thr ?_)))))
  refine E.nilsl 4 5 rfl ?_
  refine E.h2 [] ?_
  ·rw [(can_9 (id := id) xK xK).1, (can_9 (id := id) xK xK).2]; rfl
 refine W.skip (E.to (W.seq ?_))
 refine W.dr [⟨[101], [101], [101], []⟩, pO, pO, pO, ⟨[101, 102], [101, 102], [102], []⟩, pO, pO, pO, pO, ⟨[102, 103], [102, 103], [103], []⟩, pW 103, pO] ?_
 refine WH.memS (O.buildSlice 101 rfl rfl u67 hi121 hz121 hs121 xI rfl xI rfl rfl rfl Taken.no) rfl rfl rfl rfl rfl (S' := (101, _) :: _) rfl ?_
 refine WH.o rfl (WH.o rfl ?_)
 refine WH.v (O.sub_fz (j := (ixI q id).toNat) rfl Bnd.no (Bnd.at rfl xA) xN yV sub_hi u67 hi121 hs121 rfl Taken.no) ?_
 refine WH.memS (O.app (k' := 102) rfl rfl (SlOf.fz rfl xI) u67 hi121 hz121 hs121 rfl rfl yN yK xX rfl Taken.no) rfl rfl rfl rfl rfl (S' := (102, _) :: (101, .dead) :: _) rfl ?_
 refine WH.o rfl (WH.o rfl ?_)
 refine WH.v (O.ad) ?_
 refine WH.v (O.sub_fz (i := ((ixI q id).toNat + 1)) rfl (Bnd.at rfl xA) Bnd.no yV xN sub_lo u67 hi121 hs121 rfl Taken.no) ?_
 refine WH.memS (O.app (k' := 103) rfl rfl (SlOf.fz rfl xI) u67 hi121 hz121 hs121 rfl rfl yN yK xX rfl Taken.no) rfl rfl rfl rfl rfl (S' := (103, _) :: (102, .dead) :: _) rfl ?_
 refine WH.v (O.as1) ?_
 refine WH.v (O.as1) ?_
 refine WH.nil (E.to ?_)
 refine W.pk [(4,_),(5,_)] [(103,_)] ?_
 refine W.ret ?_
 refine E.freeze 103 rfl (F' := [(4, _)]) (⟨⟨_, rfl, rfl⟩, trivial⟩) ?_
 refine E.h2 [] ?_
 ·rw [(can_0 (id := id) xK xK).1, (can_0 (id := id) xK xK).2]; rfl

end Go.Proofs.YtmekkjehkcjpdaaGreat
end
section
namespace Go.G
open Go Go.RowKit
section
variable {n : Nat} {P : Program} {F : Frm} {w : World} {ty : TypeId}
theorem R.buildA {t e : TypeId} {N m : Nat} {inf : TypeInfo} {parts : List (Nat × Operand)} {vs : List Value} {cs : List Value} {z : Value} (hv : evs F (parts.map (·.2)) = some vs) (ht : P.underlying t = some (.array N e)) (hz : (P.info? t).bind (·.zero) = some z)
    (hi : P.info? e = some inf) (hs : inf.size = m) (hfill : Instr.fill (fun i => some (i * m, m)) z.cells ((parts.map (·.1)).zip vs) = some cs.toArray) :
    Runs P w F (.build t parts.toArray) ty (.agg cs.toArray) := fun o ρ ho _ hρ => by
  obtain ⟨i, hi', hz⟩ := Option.bind_eq_some_iff.1 hz
  have hpp : parts.map (fun (i, x) => (i, ρ x)) = (parts.map (·.1)).zip vs := evs_parts parts vs (fun x hx => hρ x (by simpa [Op.operands] using hx)) hv
  simp only [execOp, ho, List.map_toArray, hpp]
  simp only [Instr.build, Sem.run_bind, zeroValue, sizeOf, typeInfo, show (program : Sem Program).run P w = .ok P w from rfl, Result.andThen_ok, hi', hi, hz, Sem.run_pure, run_underlying ht, hs, hfill]
theorem R.idx_arrA {x y : Operand} {t e : TypeId} {len : Nat} {k : IntKind} {ad : Addr} {i m : Nat} (hx : ev F x = some (.pointer (some ad))) (hy : ev F y = some (.int k (i : Int))) (hi' : i < len)
    (ht : P.underlying t = some (.array len e)) (hm : (P.info? e).map (·.size) = some m) : Runs P w F (.indexAddr t x y) ty (.pointer (some (ad.add (i * m)))) := fun op ρ ho _ hρ => by
  obtain ⟨inf, he, hs⟩ := Option.map_eq_some_iff.1 hm
  simp only [execOp, ho, hρ x xH _ hx, hρ y xH _ hy]
  simp [Instr.indexAt, asIntOf, run_underlying ht, sizeOf, typeInfo, he, hs, hi', Instr.sureAddr]
end
end Go.G
namespace Go.H
open Go Go.RowKit
section
variable {c : Ctx} {P : Program} {F : Frm} {S : Sto} {ops : Array Oper} {d : Nat} {ty : TypeId} {pos : String} {af : Array Edge} {gd : Option (Nat × Bool)}
theorem O.buildA {t e : TypeId} {N m : Nat} {inf : TypeInfo} {parts : List (Nat × Operand)} {is res : List IV} {z : Value} (hv : evs F (parts.map (·.2)) = some is) (hj : is.all notJunk = true) (ht : P.underlying t = some (.array N e)) (hz : (P.info? t).bind (·.zero) = some z)
    (hi : P.info? e = some inf) (hs : inf.size = m) (hfill : fillI (fun i => some (i * m, m)) (z.cells.toList.map fun v => .u (.sc v)) ((parts.map (·.1)).zip is) = some res) (hd : Nat.blt d c.n = true) (hg : Taken ops F gd) :
    OpOk c P ops ⟨some d, .build t parts.toArray, ty, pos, af, gd⟩ F S [] [] (some (.agg res)) [] :=
  OpOk.runs hd hg fun σ τ a w hA hB h => by
    obtain ⟨g1, g2⟩ := evs_all h hA (args := parts.map (·.2)) (fun x hx => by simpa [Op.operands] using hx) hv
    obtain ⟨rv, q1, q2⟩ := fill_rep (ps := parts.map (·.1)) (AllI.sc z.cells.toList) g1 (fun i hi e => by have := List.all_eq_true.1 hj i hi; subst e; simp [notJunk] at this) hfill
    exact ⟨_, G.R.buildA g2 ht hz hi hs (by rw [← q1]), .agg q2.1 q2.2⟩
theorem O.idx_ref {x y : Operand} {t e : TypeId} {k : IntKind} {kk off o' len i m : Nat} {ii : Int} (hx : ev F x = some (.ref kk off)) (hy : ev F y = some (.u (.sc (.int k ii)))) (hii : ii = (i : Int)) (hlt : i < len)
    (ht : P.underlying t = some (.array len e)) (hm : (P.info? e).map (·.size) = some m) (he : off + i * m = o') (hd : Nat.blt d c.n = true) (hg : Taken ops F gd) : OpOk c P ops ⟨some d, .indexAddr t x y, ty, pos, af, gd⟩ F S [] [] (some (.ref kk o')) [] :=
  OpOk.runs hd hg fun σ τ a w hA _ h => by
    subst he; subst hii
    obtain ⟨h1, h2⟩ := h.opd hA xH hx
    have hy2 := (h.sc hA xH hy).2
    generalize a.eval x = v at h1 h2
    cases h1 with
    | ref hk => exact ⟨_, G.R.idx_arrA h2 hy2 hlt ht hm, by rw [Addr.add_lit]; exact .ref hk⟩
end
end Go.H
end
section
namespace Go.D57
open Go Go.RowKit Go.G
def h0 (h : Hd) : Hd := { h with ov := 0 }
def posR (q : List Hd) (h : Hd) : Nat → Nat
  | 0 => 0
  | k + 1 => if earl q[k]! h then k + 1 else posR q h k
theorem posR_le (q : List Hd) (h : Hd) : ∀ k, posR q h k ≤ k
  | 0 => Nat.le_refl _
  | k + 1 => by
    rw [posR]
    split
    · exact yX
    · have := posR_le q h k; omega
theorem posR_spec {q : List Hd} (hv : validQ q) (h : Hd) : ∀ k, k ≤ q.length → (∀ j, j < posR q h k → earl q[j]! h) ∧ (∀ j, posR q h k ≤ j → j < k → ¬ earl q[j]! h)
  | 0, _ => ⟨fun j hj => by simp [posR] at hj, fun j _ hj => xA⟩
  | k + 1, hk => by
    obtain ⟨h1, h2⟩ := posR_spec hv h k xA
    by_cases e : earl q[k]! h
    · rw [posR, if_pos e]
      refine ⟨fun j hj => ?_, fun j hj hj2 => xA⟩
      by_cases ej : j = k
      · subst ej; exact e
      · exact earl_trans (sorted hv (show j < k by omega) xA) e
    · rw [posR, if_neg e]
      refine ⟨h1, fun j hj hj2 => ?_⟩
      by_cases ej : j = k
      · subst ej; exact e
      · exact h2 j hj xA
def posI (q : List Hd) (h : Hd) : Nat := posR q h q.length
theorem posI_le (q : List Hd) (h : Hd) : posI q h ≤ q.length := posR_le q h _
theorem posI_lo {q : List Hd} (hv : validQ q) {h : Hd} {j : Nat} (hj : j < posI q h) : earl q[j]! h := (posR_spec hv h _ (Nat.le_refl _)).1 j hj
theorem posI_hi {q : List Hd} (hv : validQ q) {h : Hd} {j : Nat} (hj : posI q h ≤ j) (hl : j < q.length) : ¬ earl q[j]! h := (posR_spec hv h _ (Nat.le_refl _)).2 j hj hl
theorem posI_eq {q : List Hd} (hv : validQ q) {h : Hd} {i : Nat} (hi : i ≤ q.length) (h1 : ∀ j, j < i → earl q[j]! h) (h2 : ∀ j, i ≤ j → j < q.length → ¬ earl q[j]! h) : i = posI q h := by
  have hl := posI_le q h
  rcases Nat.lt_trichotomy i (posI q h) with e | e | e
  · exact absurd (posI_lo hv e) (h2 i (Nat.le_refl _) xA)
  · exact e
  · exact absurd (h1 _ e) (posI_hi hv (Nat.le_refl _) xA)
theorem bs_lo {q : List Hd} (hv : validQ q) {h : Hd} {m : Nat} (hm : m < q.length) (e : earl q[m]! h) : ∀ j, j < m + 1 → earl q[j]! h := fun j hj => by
  by_cases ej : j = m
  · subst ej; exact e
  · exact earl_trans (sorted hv (show j < m by omega) hm) e
theorem bs_hi {q : List Hd} (hv : validQ q) {h : Hd} {m : Nat} (e : ¬ earl q[m]! h) : ∀ j, m ≤ j → j < q.length → ¬ earl q[j]! h := fun j hj hl k => by
  by_cases ej : j = m
  · subst ej; exact e k
  · exact e (earl_trans (sorted hv (show m < j by omega) hl) k)
def likeQ (q : List Hd) (h : Hd) : Prop := ∃ j, j < q.length ∧ likeH q[j]! h
theorem likeQ_iff (q : List Hd) (h : Hd) : 0 ≤ idxF (fun x => decide (likeH x h)) q ↔ likeQ q h := by
  unfold idxF
  split
  · rename_i i hf
    obtain ⟨h1, h2, _⟩ := List.findIdx?_eq_some_iff_getElem.1 hf
    exact ⟨fun _ => ⟨i, h1, by rw [getElem!_pos q i h1]; exact of_decide_eq_true h2⟩, fun _ => xA⟩
  · rename_i hf
    rw [List.findIdx?_eq_none_iff] at hf
    refine ⟨fun h => xA, fun ⟨j, hj, hl⟩ => ?_⟩
    have := of_decide_eq_false (hf q[j]! (by rw [getElem!_pos q j hj]; exact List.getElem_mem _))
    exact absurd hl this
instance (q : List Hd) (h : Hd) : Decidable (likeQ q h) := decidable_of_iff _ (likeQ_iff q h)
def putL (q : List Hd) (h : Hd) : List Hd := q.take (posI q (h0 h)) ++ [h0 h] ++ q.drop (posI q (h0 h))
def putE (q : List Hd) (h : Hd) : Int := if ¬ (validQ q ∧ goodH (h0 h)) then 1 else if likeQ q (h0 h) then 10 else if q.length = 60 then 20 else 0
def putQ (q : List Hd) (h : Hd) : List Hd := if putE q h = 0 then putL q h else []
theorem put_1 {q : List Hd} {h : Hd} (k : ¬ (validQ q ∧ goodH (h0 h))) : putE q h = 1 ∧ putQ q h = [] := by
  have e : putE q h = 1 := by rw [putE, if_pos k]
  exact ⟨e, by rw [putQ, e, if_neg xI]⟩
theorem put_10 {q : List Hd} {h : Hd} (k : validQ q ∧ goodH (h0 h)) (l : likeQ q (h0 h)) : putE q h = 10 ∧ putQ q h = [] := by
  have e : putE q h = 10 := by rw [putE, if_neg (fun n => n k), if_pos l]
  exact ⟨e, by rw [putQ, e, if_neg xI]⟩
theorem put_20 {q : List Hd} {h : Hd} (k : validQ q ∧ goodH (h0 h)) (l : ¬ likeQ q (h0 h)) (m : q.length = 60) : putE q h = 20 ∧ putQ q h = [] := by
  have e : putE q h = 20 := by rw [putE, if_neg (fun n => n k), if_neg l, if_pos m]
  exact ⟨e, by rw [putQ, e, if_neg xI]⟩
theorem put_0 {q : List Hd} {h : Hd} (k : validQ q ∧ goodH (h0 h)) (l : ¬ likeQ q (h0 h)) (m : q.length ≠ 60) : putE q h = 0 ∧ putQ q h = putL q h := by
  have e : putE q h = 0 := by rw [putE, if_neg (fun n => n k), if_neg l, if_neg m]
  exact ⟨e, by rw [putQ, e, if_pos rfl]⟩
theorem put_ok {q : List Hd} {h : Hd} (e : putE q h = 0) : validQ q ∧ goodH (h0 h) ∧ ¬ likeQ q (h0 h) ∧ q.length ≠ 60 ∧ putQ q h = putL q h := by
  unfold putE at e
  split at e
  · cases e
  · rename_i k
    split at e
    · cases e
    · split at e
      · cases e
      · exact ⟨(Decidable.not_not.1 k).1, (Decidable.not_not.1 k).2, ‹_›, ‹_›, (put_0 (Decidable.not_not.1 k) ‹_› ‹_›).2⟩
def bsB (q : List Hd) (h : Hd) : Bool := decide ((posI q h : Int) < q.length) && decide (cmpH q[posI q h]! h = 0)
theorem put_rows {β : Type} {f : Hd → β} {q : List Hd} {p : Nat} {x : Hd} (hp : p ≤ q.length) :
    (((q.take p ++ List.replicate (q.length + 1 - p) zeroH).set p x).map f).take (p + 1) ++ (q.drop p).map f ++ (((q.take p ++ List.replicate (q.length + 1 - p) zeroH).set p x).map f).drop (p + 1 + ((q.drop p).map f).length) = (q.take p ++ [x] ++ q.drop p).map f := by
  have h1 : (q.take p).length = p := by simp; omega
  have h2 : (q.take p ++ List.replicate (q.length + 1 - p) zeroH).set p x = (q.take p ++ [x]) ++ List.replicate (q.length - p) zeroH := by
    rw [List.set_append_right _ _ xA, h1, Nat.sub_self, show q.length + 1 - p = (q.length - p) + 1 by omega, List.replicate_succ, List.set_cons_zero]; simp
  have h3 : (q.take p ++ [x]).length = p + 1 := by simp [h1]
  have h4 : ((q.take p ++ [x]) ++ List.replicate (q.length - p) zeroH).drop (p + 1 + (q.drop p).length) = [] := List.drop_eq_nil_of_le (by rw [List.length_append, h3]; simp)
  rw [h2, ← List.map_take, ← List.map_drop, List.take_left' h3, List.length_map, h4, List.map_nil, List.append_nil, ← List.map_append]
theorem putL_len (q : List Hd) (h : Hd) : (putL q h).length = q.length + 1 := by
  have := posI_le q (h0 h)
  simp [putL]; omega
theorem putL_get {q : List Hd} {h : Hd} {i : Nat} (hi : i ≤ q.length) : (putL q h)[i]! = if i < posI q (h0 h) then q[i]! else if i = posI q (h0 h) then h0 h else q[i - 1]! := by
  have hp := posI_le q (h0 h)
  have hl := putL_len q h
  rw [getElem!_pos _ i xA]
  simp only [putL, List.append_assoc, List.singleton_append]
  have h1 : (q.take (posI q (h0 h))).length = posI q (h0 h) := by simp; omega
  by_cases e : i < posI q (h0 h)
  · rw [if_pos e, List.getElem_append_left xA, List.getElem_take, getElem!_pos q i xA]
  · rw [if_neg e, List.getElem_append_right xA]
    by_cases e2 : i = posI q (h0 h)
    · rw [if_pos e2]
      simp [h1, e2]
    · rw [if_neg e2]
      obtain ⟨d, hd⟩ : ∃ d, i - posI q (h0 h) = d + 1 := ⟨i - posI q (h0 h) - 1, xA⟩
      simp only [h1, hd, List.getElem_cons_succ, List.getElem_drop]
      rw [getElem!_pos q (i - 1) xA]
      congr 1
      omega
theorem earl_tot {a b : Hd} (h : a.id ≠ b.id) (k : ¬ earl a b) : earl b a := by unfold earl at *; omega
theorem put_valid {q : List Hd} {h : Hd} (e : putE q h = 0) : validQ (putL q h) := by
  obtain ⟨hv, hg, hk, h60, _⟩ := put_ok e
  have hl := putL_len q h
  have h61 := hv.2
  have hp := posI_le q (h0 h)
  have nl : ∀ j, j < q.length → ¬ likeH q[j]! (h0 h) := fun j hj hh => hk ⟨j, hj, hh⟩
  have sym : ∀ a b : Hd, likeH a b → likeH b a := fun a b h => by unfold likeH at *; rcases h with h | h <;> simp [h]
  have nid : ∀ j, j < q.length → q[j]!.id ≠ (h0 h).id := fun j hj hh => nl j hj (.inl hh)
  refine ⟨fun i hi => ?_, xA⟩
  rw [hl] at hi
  unfold before
  rw [putL_get xA]
  refine ⟨?_, fun i0 => ?_, fun k hki => ?_⟩
  · split
    · exact (hv.1 i xA).1
    · split
      · exact hg
      · exact (hv.1 (i - 1) xA).1
  · rw [putL_get xA]
    by_cases e1 : i < posI q (h0 h)
    · rw [if_pos e1, if_pos xA]; exact (hv.1 i xA).2.1 i0
    · rw [if_neg e1]
      by_cases e2 : i = posI q (h0 h)
      · rw [if_pos e2, if_pos xA]; exact posI_lo hv xA
      · rw [if_neg e2]
        by_cases e3 : i - 1 = posI q (h0 h)
        · rw [if_neg xA, if_pos e3]
          exact earl_tot (nid _ xA) (posI_hi hv xA xA)
        · rw [if_neg xA, if_neg e3]
          exact (hv.1 (i - 1) xA).2.1 xA
  · rw [putL_get xA]
    by_cases e1 : i < posI q (h0 h)
    · rw [if_pos e1, if_pos xA]; exact (hv.1 i xA).2.2 k hki
    · rw [if_neg e1]
      by_cases e2 : i = posI q (h0 h)
      · rw [if_pos e2, if_pos xA]; exact nl k xA
      · rw [if_neg e2]
        by_cases k1 : k < posI q (h0 h)
        · rw [if_pos k1]; exact (hv.1 (i - 1) xA).2.2 k xA
        · rw [if_neg k1]
          by_cases k2 : k = posI q (h0 h)
          · rw [if_pos k2]; exact fun hh => nl (i - 1) xA (sym _ _ hh)
          · rw [if_neg k2]; exact (hv.1 (i - 1) xA).2.2 (k - 1) xA
def canL (q : List Hd) (i : Nat) : List Hd := q.take i ++ q.drop (i + 1)
theorem canL_len {q : List Hd} {i : Nat} (h : i < q.length) : (canL q i).length = q.length - 1 := by simp [canL]; omega
theorem canL_get {q : List Hd} {n i : Nat} (h : n < q.length) (hi : i < q.length - 1) : (canL q n)[i]! = if i < n then q[i]! else q[i + 1]! := by
  have hl := canL_len h
  have h1 : (q.take n).length = n := by simp; omega
  rw [getElem!_pos _ i xA]
  simp only [canL]
  by_cases e : i < n
  · rw [if_pos e, List.getElem_append_left xA, List.getElem_take, getElem!_pos q i xA]
  · rw [if_neg e, List.getElem_append_right xA, List.getElem_drop, getElem!_pos q (i + 1) xA]
    congr 1
    omega
theorem canL_valid {q : List Hd} (h : validQ q) {n : Nat} (hn : n < q.length) : validQ (canL q n) := by
  have hl := canL_len hn
  have h60 := h.2
  refine ⟨fun i hi => ?_, xA⟩
  rw [hl] at hi
  unfold before
  rw [canL_get hn hi]
  refine ⟨?_, fun h0 => ?_, fun k hk => ?_⟩
  · split
    · exact (h.1 i xA).1
    · exact (h.1 (i + 1) xA).1
  · rw [canL_get hn xA]
    by_cases e : i < n
    · rw [if_pos e, if_pos xA]; exact (h.1 i xA).2.1 h0
    · rw [if_neg e]
      have key : ∀ m, m < i + 1 → earl q[m]! q[i + 1]! := fun m hm => sorted h hm xA
      split
      · exact key _ xA
      · exact key _ xA
  · rw [canL_get hn xA]
    by_cases e : i < n
    · rw [if_pos e, if_pos xA]; exact (h.1 i xA).2.2 k hk
    · rw [if_neg e]
      split
      · exact (h.1 (i + 1) xA).2.2 k xA
      · exact (h.1 (i + 1) xA).2.2 (k + 1) xA
def agree (q : List Hd) (o : List (Int × Int)) : Prop := ∀ e ∈ o, ∃ j, j < q.length ∧ q[j]!.id = e.1 ∧ q[j]!.ov = e.2
def agreeK (q : List Hd) (h : Hd) (k : Nat) (o : List (Int × Int)) : Prop := ∀ e ∈ o, ∃ j, j < q.length ∧ q[j]!.id = e.1 ∧ e.2 = q[j]!.ov + (if j < k ∧ earl q[j]! h then 1 else 0)
def incE (id : Int) (e : Int × Int) : Int × Int := if e.1 = id then (e.1, e.2 + 1) else e
def incO (id : Int) (o : List (Int × Int)) : List (Int × Int) := o.map (incE id)
def wo (id : Int) (o : List (Int × Int)) : List (Int × Int) := o.filter fun e => decide (e.1 ≠ id)
def incK (id : Int) (o : List (Int × Int)) (i : Nat) : List (Int × Int) := (o.take i).map (incE id) ++ o.drop i
def mono (q : List Hd) : Prop := ∀ i j, i < j → j < q.length → q[j]!.ov ≤ q[i]!.ov
theorem mono_srv {q : List Hd} (hl : 0 < q.length) (h : mono q) : mono (srvL q (nextI q)) := by
  have hn := nextI_lt hl
  have hlen := srvL_len hn
  intro i j hij hj
  rw [hlen] at hj
  rw [srvL_get hn xA, srvL_get hn xA]
  by_cases e : j < nextI q
  · rw [if_pos e, if_pos xA]
    have := h i j hij xA
    simp only [incH]; omega
  · rw [if_neg e]
    split
    · have := h i (j + 1) xA xA
      simp only [incH]; omega
    · exact h (i + 1) (j + 1) xA xA
def core (a b : Hd) : Prop := a.id = b.id ∧ a.cls = b.cls ∧ a.tim = b.tim
theorem core_srv {q : List Hd} {n j : Nat} (hn : n < q.length) (hj : j < (srvL q n).length) : ∃ m, m < q.length ∧ m ≠ n ∧ core q[m]! (srvL q n)[j]! := by
  rw [srvL_len hn] at hj
  by_cases e : j < n
  · exact ⟨j, xA, xA, by rw [srvL_get hn hj, if_pos e]; exact ⟨rfl, rfl, rfl⟩⟩
  · exact ⟨j + 1, xA, xA, by rw [srvL_get hn hj, if_neg e]; exact ⟨rfl, rfl, rfl⟩⟩
theorem core_tr {a b c : Hd} (h : core a b) (k : core b c) : core a c := ⟨h.1.trans k.1, h.2.1.trans k.2.1, h.2.2.trans k.2.2⟩
theorem srvQ_len (q : List Hd) : (srvQ q).length ≤ q.length := by
  unfold srvQ
  split
  · rename_i z; rw [srvL_len (nextI_lt z.2)]; omega
  · simp
theorem srvQ_valid {q : List Hd} (h : srvE q = 0) : validQ (srvQ q) := by
  by_cases hv : validQ q
  · by_cases hl : 0 < q.length
    · rw [(srv_0 hv hl).2.1]; exact srv_valid hv hl
    · exact absurd (h.symm.trans (srv_9 hv hl).1) xI
  · exact absurd (h.symm.trans (srv_1 hv).1) xI
def fnd (q : List Hd) (id : Int) : Nat → Int
  | 0 => -1
  | m + 1 => if q[m]!.id = id then m else fnd q id m
def frsh (q : List Hd) (k : Nat) : Bool := (q.take k).all fun x => decide (x.ov = 0)
def lastOk (q : List Hd) (L : Nat → Int) (k : Nat) : Prop := ∀ c, L c = 0 ∨ ∃ j a : Nat, j < k ∧ a < q.length ∧ q[a]!.id = ordAt q j ∧ q[a]!.cls = c ∧ L c = a + 1
def upd (L : Nat → Int) (c : Nat) (v : Int) : Nat → Int := fun d => if d = c then v else L d
end Go.D57
end
section
namespace Go.Proofs.YtmekkjehkcjpdaaGreat
open Go Go.RowKit Go.H Go.D57

theorem hcallOk113 : G.callOk Tryz.prog 113 = true := by kernel_rfl

set_option maxRecDepth 8000 in
theorem binarySearch_h {f : Nat} {caps : List UV} {q : List Hd} {h : Hd} (hok : G.callOk Tryz.prog f = true) (hpr : ∀ x, Con Tryz.prog f ([vA (eH x), vA (eH h)] ++ caps.map .u) [] (vI (cmpH x h)) []) (hv : validQ q) :
    Con Tryz.prog 114 [vL 5 (q.map eH), vA (eH h), .u (.clo (.func f) [] caps)] [] (.tup [vI (posI q h : Nat), vB (bsB q h)]) [] := by
 have hv60 := hv.2
 obtain ⟨i96, hi96, hz96, hs96, hb96⟩ := hinf96
 refine Con.en 49 Tryz.func114 fun τ w ok vs hin => ?_
 have hl0 := hin.len (i := 0) rfl
 try rw [List.length_map] at hl0
 clear hin
 refine W.rg ?_
 refine SL.bx5 101 ?_
 refine SL.a (SL.a (E.fo (W.rg (SL.o ?_))))
 refine SL.v (O.le u59) ?_
 refine SL.a (E.fo (W.rg (SL.o (SL.a (SL.a (E.fo (W.seq (W.block ?_))))))))
 refine W.loopx2 (fun (i : Nat) (j : Nat) => [(9, vI (i : Int)), (10, vI (j : Int))]) (fun (i : Nat) (j : Nat) => []) (fun (i : Nat) (j : Nat) => i ≤ j ∧ j ≤ q.length ∧ (∀ m, m < i → earl q[m]! h) ∧ (∀ m, j ≤ m → m < q.length → ¬ earl q[m]! h)) (fun (i : Nat) (j : Nat) => j - i) (0) (q.length) (rn []) (.cons (t := 0) rfl (.cons (t := 2) rfl (.cons (t := 4) rfl (.cons (t := 6) rfl (.cons (t := 7) rfl (.cons (t := 8) rfl .nil)))))) (.cons (t := 101) rfl .nil) rfl ?_ ?_ rfl rfl ?_ ?_
 · exact zH
 · exact SubS.nil
 ·exact ⟨xA, xA, fun m h => xA, fun m h1 h2 => xA⟩
 intro i j hinv
 obtain ⟨hij, hj, hlo, hhi⟩ := hinv
 have hm : i < j → (i + j) / 2 < j ∧ i ≤ (i + j) / 2 := fun h => by omega
 refine W.seq (W.rg (SL.o (SL.o ?_)))
 refine SL.v (O.lss) ?_
 refine E.fo ?_
 refine W.cc rfl (fun hc1 => ?_) fun hc1 => ?_
 ·refine W.skip (E.to (W.block (W.rg (SL.o (SL.o ?_)))))
  refine SL.v (O.ad) ?_
  refine SL.v (O.det (fun _ => by first | exact G.R.conv_in rfl u3 u140 (IntWalk.u64_in _ xA) | exact G.R.conv rfl u3 u140) rfl Taken.no) ?_
  refine SL.v (O.det (fun _ => G.R.shr_c (q := 2) rfl rfl xI xI) rfl Taken.no) ?_
  refine SL.v (O.det (fun _ => by first | exact G.R.conv64 rfl u140 u3 xA | exact G.R.conv rfl u140 u3) rfl Taken.no) ?_
  refine SL.a (E.fo (W.seq ?_))
  refine W.dr [pO, pO, pO, pO, pO, pX 101, pO, pO] ?_
  refine WH.o rfl (WH.o rfl (WH.o rfl ?_))
  refine WH.v (O.idx_fz (i := (i + j) / 2) rfl rfl xA (row_get xA) u59 hi96 hs96 rfl Taken.no) ?_
  refine WH.v (O.lU 5 u96) ?_
  refine WH.v (O.n5 u96) ?_
  refine WH.v (O.cp (q := hpr q[(i + j) / 2]!) (o := hok)) ?_
  refine WH.v (O.lss) ?_
  refine WH.nil (E.to ?_)
  refine W.pk [(0,_),(2,_),(4,_),(6,_),(7,_),(8,_),(9,_),(10,_),(11,_),(31,_)] [(101,_)] ?_
  refine W.cc rfl (fun hc2 => ?_) fun hc2 => ?_
  ·refine W.region (SL.o ?_)
   refine SL.v (O.ad) ?_
   refine SL.a (SL.nil (E.inn ?_))
   refine E.ai (((i + j) / 2 + 1), (j)) [] ?_
   ·try dsimp only
    exact ⟨xA, xA, bs_lo hv xA ((cmpH_lt _ _).1 xK), hhi⟩
  refine W.region (SL.o (SL.a (SL.nil (E.inn ?_))))
  refine E.ai ((i), ((i + j) / 2)) [] ?_
  ·try dsimp only
   exact ⟨xA, xA, hlo, bs_hi hv (fun e => absurd ((cmpH_lt _ _).2 e) xK)⟩
 refine W.exit (E.th (E.th (E.hit (E.to (W.seq ?_)))))
 refine W.dr [pO, pO, pO, pO, pO, pO, pO, pO, pO, pO, pX 101, pO, pO, pO, pO, pO] ?_
 obtain rfl : i = j := by omega
 have hpi := posI_eq hv hj hlo hhi
 refine WH.o rfl (WH.o rfl (WH.o rfl ?_))
 refine WH.v (O.lss) ?_
 refine WH.o rfl ?_
 refine WH.cs 4 true (fun hg3 => ?_) fun hg3 => ?_
 ·have hg3p := gP hg3
  refine WH.v (O.mo (tY hg3)) ?_
  refine WH.v (O.mo (tY hg3)) ?_
  refine WH.v (O.mo (tY hg3)) ?_
  refine WH.v (O.ix u59 hi96 hs96 (tY hg3)) ?_
  refine WH.v (O.lU 5 u96 (tY hg3)) ?_
  refine WH.v (O.n5 u96 (tY hg3)) ?_
  refine WH.v (O.cp (q := hpr q[i]!) (o := hok) (hg := (tY hg3))) ?_
  refine WH.v (O.eql (tY hg3)) ?_
  refine WH.v (O.pt hg3) ?_
  refine WH.v (O.as1) ?_
  refine WH.v (O.as1) ?_
  refine WH.nil (E.to ?_)
  refine W.pk [(6,_),(7,_)] [(101,_)] ?_
  refine W.ret ?_
  refine E.h2 [] ?_
  ·rw [← hpi, bsB, ← hpi]
   first | rw [decide_eq_true xK] | rw [decide_eq_false xK]
   rfl
 have hg3p := gP hg3
 refine WH.k hg3 (WH.k hg3 (WH.k hg3 (WH.k hg3 (WH.k hg3 (WH.k hg3 (WH.k hg3 (WH.k hg3 ?_)))))))
 refine WH.v (O.pf (G.ne_t hg3)) ?_
 refine WH.v (O.as1) ?_
 refine WH.v (O.as1) ?_
 refine WH.nil (E.to ?_)
 refine W.pk [(6,_),(7,_)] [(101,_)] ?_
 refine W.ret ?_
 refine E.h2 [] ?_
 ·rw [← hpi, bsB, ← hpi]
  first | rw [decide_eq_true xK] | rw [decide_eq_false xK]
  rfl

set_option maxRecDepth 8000 in
theorem holdPut_h {q : List Hd} {h : Hd} :
    Con Tryz.prog 77 [vL 5 (q.map eH), vA (eH h)] [] (.tup [vL 5 ((putQ q h).map eH), vI (putE q h)]) [] := by
 obtain ⟨i96, hi96, hz96, hs96, hb96⟩ := hinf96
 refine Con.en 55 Tryz.func77 fun τ w ok vs hin => ?_
 have hl0 := hin.len (i := 0) rfl
 try rw [List.length_map] at hl0
 clear hin
 refine W.rg ?_
 refine SL.bx5 101 ?_
 refine SL.a (SL.a (E.fo (W.rg ?_)))
 refine SL.v (O.fr 4 0 u96) ?_
 refine SL.st1_5 101 ?_
 refine E.fo (W.seq (W.block (W.rg (SL.o ?_))))
 refine SL.v (O.cp (q := valid_h (q := q))) ?_
 refine SL.v (O.nt) ?_
 refine SL.o ?_
 refine SL.cs 3 false (fun hg1 => ?_) fun hg1 => ?_
 ·have hg1p := gP hg1
  refine SL.v (O.n5 u96 (tY hg1)) ?_
  refine SL.v (O.cp (q := holdvalid_h (h := h0 h)) (hg := (tY hg1))) ?_
  refine SL.v (O.nt (tY hg1)) ?_
  refine SL.v (O.pf hg1) ?_
  refine SL.a (E.fo ?_)
  refine W.cc rfl (fun hc2 => ?_) fun hc2 => ?_
  ·refine W.rg (SL.a (SL.a (E.fo (W.ret ?_))))
   refine E.inr ?_
   refine E.thr ?_
   refine E.nilsl 4 5 rfl ?_
   refine E.h2 [] ?_
   ·rw [(put_1 (q := q) (h := h) xV).1, (put_1 (q := q) (h := h) xV).2]; rfl
  refine W.rg (SL.o ?_)
  refine SL.v (O.makeFunc rfl rfl rfl Taken.no) ?_
  refine SL.cl [] [101] (.u _) _ (q := containsFunc_h (f := 113) (caps := [.ptr (eH (h0 h))]) (pr := fun x => decide (likeH x (h0 h))) hcallOk113 (fun x => put1_h))  (fl := .inr ⟨rfl, fun x hx => by simp at hx⟩) (h := ?_)
  refine SL.a (E.fo ?_)
  refine W.cc rfl (fun hc3 => ?_) fun hc3 => ?_
  ·refine W.rg (SL.a (SL.a (E.fo (W.ret ?_))))
   refine E.inr ?_
   refine E.thr ?_
   refine E.nilsl 4 5 rfl ?_
   refine E.h2 [] ?_
   ·rw [(put_10 (q := q) (h := h) xV ((likeQ_iff q _).1 xK)).1, (put_10 (q := q) (h := h) xV ((likeQ_iff q _).1 xK)).2]; rfl
  refine W.rg (SL.o ?_)
  refine SL.v (O.le u59) ?_
  refine SL.v (O.eql) ?_
  refine SL.a (E.fo ?_)
  refine W.cc rfl (fun hc4 => ?_) fun hc4 => ?_
  ·refine W.rg (SL.a (SL.a (E.fo ?_)))
   refine W.pk [(0,_),(3,_),(4,_),(5,_)] [(101,_)] ?_
   refine W.ret ?_
   refine E.inr ?_
   refine E.thr ?_
   refine E.nilsl 4 5 rfl ?_
   refine E.h2 [] ?_
   ·rw [(put_20 (q := q) (h := h) xV (fun e => absurd ((likeQ_iff q _).2 e) xK) xA).1, (put_20 (q := q) (h := h) xV (fun e => absurd ((likeQ_iff q _).2 e) xK) xA).2]; rfl
  have hv : validQ q := by simp_all
  have h60 := hv.2
  have hpl := posI_le q (h0 h)
  have hlk : ¬ likeQ q (h0 h) := fun e => absurd ((likeQ_iff q _).2 e) xK
  have hpt := put_0 (q := q) (h := h) yU hlk xA
  have hl61 : (q.take (posI q (h0 h))).length = posI q (h0 h) := by rw [List.length_take]; omega
  have hdl : (q.drop (posI q (h0 h))).length = q.length - posI q (h0 h) := by rw [List.length_drop]
  refine W.skip (E.inn (E.to (W.rg (SL.o ?_))))
  refine SL.v (O.n5 u96) ?_
  refine SL.cl [] [] (.tup [.u _, .u _]) _ (q := binarySearch_h (f := 115) (caps := []) (q := q) (h := h0 h) hcallOk115 (fun x => compare_h) yU)  (h := ?_)
  refine SL.o ?_
  refine SL.v (O.ex) ?_
  refine SL.v (O.ex) ?_
  refine SL.a (SL.a (E.fo ?_))
  refine W.pk [(0,_),(3,_),(4,_),(5,_),(6,_)] [(101,_)] ?_
  refine W.rg (SL.o ?_)
  refine SL.v (O.le u59) ?_
  refine SL.v (O.ad) ?_
  refine SL.memS (O.make (m := q.length + 1) (kk := 102) rfl rfl xA xA u59 hi96 hz96 hs96 rfl rfl xI rfl (by rw [hb96]; omega) xA rfl Taken.no) rfl rfl (S' := (102, _) :: _) rfl ?_
  refine SL.a (E.fo (W.rg (SL.o (SL.o (SL.o ?_)))))
  refine SL.v (O.sub_fz (j := posI q (h0 h)) rfl Bnd.no (Bnd.at rfl yC) xN yV sub_hi u59 hi96 hs96 rfl Taken.no) ?_
  refine SL.memS (O.copy (PartOf.own rfl) rfl (SlOf.fz rfl xI) u59 hi96 hs96 zB (rows' := (q.take (posI q (h0 h)) ++ List.replicate (q.length + 1 - posI q (h0 h)) zeroH).map eH) (by rw [List.map_append, List.map_replicate, List.take_zero, List.nil_append, Nat.zero_add, List.length_map, hl61, List.drop_replicate]; rfl) rfl Taken.no) rfl rfl (S' := (102, _) :: _) rfl ?_
  refine E.fo (W.rg (SL.o (SL.o ?_)))
  refine SL.v (O.n5 u96) ?_
  refine SL.v (O.idx_own (i := posI q (h0 h)) rfl rfl rfl (rfl) (by rw [List.length_map, List.length_append, List.length_replicate]; omega) u59 hi96 hs96 rfl Taken.no) ?_
  refine SL.effS (O.st_els (m := 5) rfl rfl rfl (us := [_, _, _, _, _]) rfl rfl xG yE (row_get (by rw [List.length_append, List.length_replicate]; omega)) xP rfl rfl (rows' := ((q.take (posI q (h0 h)) ++ List.replicate (q.length + 1 - posI q (h0 h)) zeroH).set (posI q (h0 h)) (h0 h)).map eH) (by exact set_map rfl) Taken.no) (S' := (102, _) :: _) rfl ?_
  refine E.fo (W.seq ?_)
  refine W.dr [pW 102, pO, pO, pX 102, pO, pO, pO, ⟨[102], [102], [], []⟩] ?_
  refine WH.o rfl (WH.o rfl ?_)
  refine WH.v (O.ad) ?_
  refine WH.v (O.sub_own (i := (posI q (h0 h) + 1)) rfl rfl (Bnd.at rfl yC) Bnd.no (by rw [List.length_map, List.length_set, List.length_append, List.length_replicate]; omega) yX u59 hi96 hs96 rfl Taken.no) ?_
  refine WH.o rfl (WH.o rfl ?_)
  refine WH.v (O.sub_fz (i := posI q (h0 h)) rfl (Bnd.at rfl yC) Bnd.no xS xN sub_lo u59 hi96 hs96 rfl Taken.no) ?_
  refine WH.memS (O.copy (PartOf.osl rfl (by rw [List.length_map, List.length_set, List.length_append, List.length_replicate]; omega) yX) rfl (SlOf.fz rfl xI) u59 hi96 hs96 (by rw [List.length_map, List.length_map, List.length_set, List.length_append, List.length_replicate]; omega) (rows' := (putL q h).map eH) (by exact put_rows hpl) rfl Taken.no) rfl rfl rfl rfl rfl (S' := (102, _) :: _) rfl ?_
  refine WH.nil (E.to ?_)
  refine W.pk [(4,_),(5,_),(8,_)] [(101,_),(102,_)] ?_
  refine W.rg (SL.o (SL.a (SL.a (E.fo (W.ret ?_)))))
  refine E.freeze 102 rfl (F' := [(4, _)]) (⟨⟨_, rfl, rfl⟩, trivial⟩) ?_
  refine E.h2 [] ?_
  ·rw [hpt.1, hpt.2]; rfl
 have hg1p := gP hg1
 refine SL.k hg1 (SL.k hg1 (SL.k hg1 ?_))
 refine SL.v (O.pt (G.ne_f hg1)) ?_
 refine SL.a (E.fo ?_)
 refine W.cond_t rfl ?_
 refine W.rg (SL.a (SL.a (E.fo (W.ret ?_))))
 refine E.inr ?_
 refine E.thr ?_
 refine E.nilsl 4 5 rfl ?_
 refine E.h2 [] ?_
 ·rw [(put_1 (q := q) (h := h) xV).1, (put_1 (q := q) (h := h) xV).2]; rfl

set_option maxRecDepth 8000 in
theorem refPut_h {q : List Hd} {h : Hd} :
    Con Tryz.prog 89 [vL 5 (q.map eH), vA (eH h)] [] (.tup [vL 5 ((putQ q h).map eH), vI (putE q h)]) [] := by
 obtain ⟨i121, hi121, hz121, hs121, hb121⟩ := hinf121
 refine Con.en 64 Tryz.func89 fun τ w ok vs hin => ?_
 have hl0 := hin.len (i := 0) rfl
 try rw [List.length_map] at hl0
 clear hin
 refine W.rg ?_
 refine SL.bx5 101 ?_
 refine SL.a (SL.a (E.fo (W.rg ?_)))
 refine SL.v (O.fr 4 0 u121) ?_
 refine SL.st1_5 101 ?_
 refine E.fo (W.seq (W.rg (SL.o ?_)))
 refine SL.v (O.cp (q := refvalid_h (q := q))) ?_
 refine SL.v (O.nt) ?_
 refine SL.o ?_
 refine SL.cs 3 false (fun hg1 => ?_) fun hg1 => ?_
 ·have hg1p := gP hg1
  refine SL.v (O.n5 u121 (tY hg1)) ?_
  refine SL.v (O.cp (q := refgood_h (h := h0 h)) (hg := (tY hg1))) ?_
  refine SL.v (O.nt (tY hg1)) ?_
  refine SL.v (O.pf hg1) ?_
  refine E.fo ?_
  refine W.cc rfl (fun hc2 => ?_) fun hc2 => ?_
  ·refine W.rg (SL.a (SL.a (E.fo (W.ret (E.thr ?_)))))
   refine E.nilsl 4 5 rfl ?_
   refine E.h2 [] ?_
   ·rw [(put_1 (q := q) (h := h) xV).1, (put_1 (q := q) (h := h) xV).2]; rfl
  have hvg : validQ q ∧ goodH (h0 h) := by simp_all
  have h60 := hvg.1.2
  refine W.skip (E.to (W.rg (SL.a (E.fo (W.seq (W.rg (SL.a (E.fo (W.block ?_)))))))))
  refine W.lq (fun (k : Nat) => [(6, vI (posR q (h0 h) k : Nat)), (7, vI (k : Int))]) (fun (k : Nat) => []) (fun (k : Nat) => k ≤ q.length ∧ ∀ j, j < k → ¬ likeH q[j]! (h0 h)) (fun (k : Nat) => q.length - k) (0) [] [(0, _), (3, _)] [(101, _)] ?_ ?_
  ·exact yG
  intro k hinv
  obtain ⟨hk, hp⟩ := hinv
  refine W.seq (W.rg (SL.o (SL.o ?_)))
  refine SL.v (O.le u67) ?_
  refine SL.v (O.lss) ?_
  refine E.fo ?_
  refine W.cc rfl (fun hc3 => ?_) fun hc3 => ?_
  ·refine W.skip (E.to (W.seq (W.block (W.seq (W.seq ?_)))))
   refine W.dr [pO, pO, pO, pO, pO, pW 101, pX 101, pO, pO, pO, pO, pO, pO, pO, pW 101, pX 101, pO, pO] ?_
   refine WH.o rfl (WH.o rfl ?_)
   refine WH.v (O.ix u67 hi121 hs121) ?_
   refine WH.v (O.ff 0 u121) ?_
   refine WH.v (O.l1f u3) ?_
   refine WH.v (O.fr 0 0 u121) ?_
   refine WH.v (O.l1 u3) ?_
   refine WH.v (O.eql) ?_
   refine WH.o rfl ?_
   refine WH.cs 8 false (fun hg4 => ?_) fun hg4 => ?_
   ·have hg4p := gP hg4
    refine WH.v (O.mo (tY hg4)) ?_
    refine WH.v (O.mo (tY hg4)) ?_
    refine WH.v (O.ix u67 hi121 hs121 (tY hg4)) ?_
    refine WH.v (O.ff 0 u121 (tY hg4)) ?_
    refine WH.v (O.l1f u3 (tY hg4)) ?_
    refine WH.v (O.fr 1 0 u121 (tY hg4)) ?_
    refine WH.v (O.l1 u3 (tY hg4)) ?_
    refine WH.v (O.eql (tY hg4)) ?_
    refine WH.v (O.pf hg4) ?_
    refine WH.nil (E.to ?_)
    refine W.pk [(0,_),(3,_),(6,_),(7,_),(40,_)] [(101,_)] ?_
    refine W.cc rfl (fun hc5 => ?_) fun hc5 => ?_
    ·refine W.rg (SL.a (SL.a (E.fo (W.ret (E.thr ?_)))))
     refine E.inr ?_
     refine E.thr (E.thr ?_)
     refine E.inr ?_
     refine E.thr ?_
     refine E.nilsl 4 5 rfl ?_
     refine E.h2 [] ?_
     ·rw [(put_10 (q := q) (h := h) hvg ⟨k, xA, by unfold likeH; first | (left; assumption) | (right; assumption) | simp_all [h0]⟩).1, (put_10 (q := q) (h := h) hvg ⟨k, xA, by unfold likeH; first | (left; assumption) | (right; assumption) | simp_all [h0]⟩).2]; rfl
    refine W.skip (E.to (W.seq ?_))
    refine W.dr [pO, pO, pO, pO, pX 101, pO] ?_
    refine WH.o rfl (WH.o rfl ?_)
    refine WH.v (O.ix u67 hi121 hs121) ?_
    refine WH.v (O.lU 5 u121) ?_
    refine WH.v (O.n5 u121) ?_
    refine WH.v (O.cp (q := earlier_h (a := q[k]!) (b := h0 h))) ?_
    refine WH.nil (E.to ?_)
    refine W.cc rfl (fun hc6 => ?_) fun hc6 => ?_
    ·refine W.region (SL.o ?_)
     refine SL.v (O.ad) ?_
     refine SL.a (SL.nil (E.inn (E.to (W.region (SL.o ?_)))))
     refine SL.v (O.ad) ?_
     refine SL.a (SL.nil ?_)
     refine E.ag (k + 1) [] ?_ ?_ ?_ ?_
     · exact zY
     · exact wW
     ·try dsimp only
      exact vM
     · exact xT
    refine W.skip (E.inn (E.to (W.region (SL.o ?_))))
    refine SL.v (O.ad) ?_
    refine SL.a (SL.nil ?_)
    refine E.ag (k + 1) [] ?_ ?_ ?_ ?_
    · exact zY
    · exact wW
    ·try dsimp only
     exact vM
    · exact xT
   have hg4p := gP hg4
   refine WH.k hg4 (WH.k hg4 (WH.k hg4 (WH.k hg4 (WH.k hg4 (WH.k hg4 (WH.k hg4 (WH.k hg4 ?_)))))))
   refine WH.v (O.pt (G.ne_f hg4)) ?_
   refine WH.nil (E.to ?_)
   refine W.pk [(0,_),(3,_),(6,_),(7,_),(40,_)] [(101,_)] ?_
   refine W.cond_t rfl ?_
   refine W.rg (SL.a (SL.a (E.fo (W.ret (E.thr ?_)))))
   refine E.inr ?_
   refine E.thr (E.thr ?_)
   refine E.inr ?_
   refine E.thr ?_
   refine E.nilsl 4 5 rfl ?_
   refine E.h2 [] ?_
   ·rw [(put_10 (q := q) (h := h) hvg ⟨k, xA, by unfold likeH; first | (left; assumption) | (right; assumption) | simp_all [h0]⟩).1, (put_10 (q := q) (h := h) hvg ⟨k, xA, by unfold likeH; first | (left; assumption) | (right; assumption) | simp_all [h0]⟩).2]; rfl
  refine W.exit (E.th (E.th (E.hit (E.to (W.seq (W.rg (SL.o ?_)))))))
  refine SL.v (O.le u67) ?_
  refine SL.v (O.eql) ?_
  refine E.fo ?_
  refine W.cc rfl (fun hc7 => ?_) fun hc7 => ?_
  ·refine W.rg (SL.a (SL.a (E.fo (W.ret (E.thr ?_)))))
   refine E.nilsl 4 5 rfl ?_
   refine E.h2 [] ?_
   ·obtain rfl : k = q.length := by omega
    rw [(put_20 (q := q) (h := h) hvg (fun ⟨j, hj, e⟩ => hp j hj e) xA).1, (put_20 (q := q) (h := h) hvg (fun ⟨j, hj, e⟩ => hp j hj e) xA).2]; rfl
  obtain rfl : k = q.length := by omega
  have hlk : ¬ likeQ q (h0 h) := fun ⟨j, hj, e⟩ => hp j hj e
  have hpt := put_0 (q := q) (h := h) hvg hlk xA
  have hpl := posI_le q (h0 h)
  have hpe : posR q (h0 h) q.length = posI q (h0 h) := rfl
  have htl : (q.take (posI q (h0 h))).length = posI q (h0 h) := by rw [List.length_take]; omega
  have hdl : (q.drop (posI q (h0 h))).length = q.length - posI q (h0 h) := by rw [List.length_drop]
  refine W.skip (E.to (W.seq ?_))
  refine W.dr [⟨[102], [102], [102], []⟩, pO, pO, pO, ⟨[102, 103], [102, 103], [103], []⟩, pX 101, ⟨[104], [104], [104], []⟩, ⟨[103, 104, 105], [103, 105], [105], []⟩, pO, pO, pO, ⟨[105, 106], [105, 106], [106], []⟩, pW 106, pO] ?_
  refine WH.memS (O.buildSlice 102 rfl rfl u67 hi121 hz121 hs121 xI rfl xI rfl rfl rfl Taken.no) rfl rfl rfl rfl rfl (S' := (102, _) :: _) rfl ?_
  refine WH.o rfl (WH.o rfl ?_)
  refine WH.v (O.sub_fz (j := posI q (h0 h)) rfl Bnd.no (Bnd.at rfl yC) xN yV sub_hi u67 hi121 hs121 rfl Taken.no) ?_
  refine WH.memS (O.app (k' := 103) rfl rfl (SlOf.fz rfl xI) u67 hi121 hz121 hs121 rfl rfl yN yK xX rfl Taken.no) rfl rfl rfl rfl rfl (S' := (103, _) :: (102, .dead) :: _) rfl ?_
  refine WH.v (O.n5 u121) ?_
  refine WH.memS (O.buildSlice 104 rfl rfl u67 hi121 hz121 hs121 xI rfl xI rfl rfl rfl Taken.no) rfl rfl rfl rfl rfl (S' := (104, _) :: _) rfl ?_
  refine WH.memS (O.app (k' := 105) rfl rfl (SlOf.own rfl rfl) u67 hi121 hz121 hs121 rfl rfl (by exact map_snoc (x := h0 h) rfl) yK xX rfl Taken.no) rfl rfl rfl rfl rfl (S' := (105, _) :: (103, .dead) :: _) rfl ?_
  refine WH.o rfl (WH.o rfl ?_)
  refine WH.v (O.sub_fz (i := posI q (h0 h)) rfl (Bnd.at rfl yC) Bnd.no yV xN sub_lo u67 hi121 hs121 rfl Taken.no) ?_
  refine WH.memS (O.app (k' := 106) rfl rfl (SlOf.fz rfl xI) u67 hi121 hz121 hs121 rfl rfl yN yK xX rfl Taken.no) rfl rfl rfl rfl rfl (S' := (106, _) :: (105, .dead) :: _) rfl ?_
  refine WH.v (O.as1) ?_
  refine WH.v (O.as1) ?_
  refine WH.nil (E.to ?_)
  refine W.pk [(4,_),(5,_)] [(101,_),(104,_),(106,_)] ?_
  refine W.ret ?_
  refine E.freeze 106 rfl (F' := [(4, _)]) (⟨⟨_, rfl, rfl⟩, trivial⟩) ?_
  refine E.h2 [] ?_
  ·rw [hpt.1, hpt.2]; rfl
 have hg1p := gP hg1
 refine SL.k hg1 (SL.k hg1 (SL.k hg1 ?_))
 refine SL.v (O.pt (G.ne_f hg1)) ?_
 refine E.fo ?_
 refine W.cond_t rfl ?_
 refine W.rg (SL.a (SL.a (E.fo (W.ret (E.thr ?_)))))
 refine E.nilsl 4 5 rfl ?_
 refine E.h2 [] ?_
 ·rw [(put_1 (q := q) (h := h) xV).1, (put_1 (q := q) (h := h) xV).2]; rfl

abbrev eAct (a : Hd × Int) : List UV := [uI a.1.id, uI a.1.pat, uI a.1.cls, uI a.1.tim, uI a.1.ov, uI a.2]

abbrev eP (e : Int × Int) : List UV := [uI e.1, uI e.2]

end Go.Proofs.YtmekkjehkcjpdaaGreat
end
