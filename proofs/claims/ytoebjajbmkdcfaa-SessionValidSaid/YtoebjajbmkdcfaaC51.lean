/-
  slices.Collect over slices.Chunk: the chunks, one behind the other.
-/
import Derived.Test.YtoebjajbmkdcfaaHMap
import Derived.Test.YtoebjajbmkdcfaaM51
import Derived.Test.YtoebjajbmkdcfaaRows
import Derived.RangeFuncBox
import Derived.RangeFuncLeaves
import Derived.Shelf.Abstract
import Derived.WalkKit
import Derived.OwnWalkIn
import Derived.TacticsInMore
import Derived.LoopNIn
import Derived.LoopIn
import Derived.Maps.AppendAt
namespace Go.G
open Go Go.RowKit
/-! ### A list of operations where nothing is fenced -/
section
variable {n N : Nat} {P : Program} {ops : Array Oper} {Q : Exit → Act → World → Prop} {F : Frm} {w : World} {r : List Oper}
def WI (n N : Nat) (P : Program) (ops : Array Oper) (Q : Exit → Act → World → Prop) (l : List Oper) (F : Frm) (w : World) : Prop := ∀ a, Fits n a F w → wpListIn Fence.wide N P ops Q l a w
theorem WI.nil (h : E n Q .normal F w) : WI n N P ops Q [] F w := h
theorem WI.det {d : Nat} {op : Op} {ty : TypeId} {pos : String} {af : Array Edge} {v : Value} (hr : Runs P w F op ty v) (hlt : Nat.blt d n = true) (h : WI n N P ops Q r ((d, .val v) :: F) w) :
    WI n N P ops Q (⟨some d, op, ty, pos, af, none⟩ :: r) F w := by
  intro a ha
  have e := hr ⟨some d, op, ty, pos, af, none⟩ a.eval rfl rfl (fun x _ u hx => ha.ev hx)
  unfold wpListIn
  rw [if_pos (by simp [Region.wanted])]
  refine ⟨fun f _ => trivial, ?_⟩
  rw [Fence.wide_round, Oper.semAt_none, e]
  exact h _ (ha.put hlt rfl)
theorem WI.yield {d l : Nat} {fo x : Operand} {at_ : Array TypeId} {ty : TypeId} {pos : String} {af : Array Edge} {u : Value} {R : Ending → World → Prop} (hf : ev F fo = some (.func (.yield l) #[] #[])) (hx : ev F x = some u) (hv : vals F = true) (hlt : Nat.blt d n = true)
    (hY : YieldAt Fence.wide (N - 1) P l #[u] w R) (h : ∀ e w', R e w' → ∃ b, e = .returned b ∧ WI n N P ops Q r ((d, .val b) :: F) w') :
    WI n N P ops Q (⟨some d, .call { callee := .value fo, args := #[x], argTypes := at_ }, ty, pos, af, none⟩ :: r) F w := by
  intro a ha
  obtain ⟨fn, tmps, assign, body, hy, hR⟩ := hY
  unfold wpListIn
  rw [if_pos (by simp [Region.wanted])]
  refine ⟨fun f _ => trivial, ?_⟩
  have e : (execOp a.eval ⟨some d, .call { callee := .value fo, args := #[x], argTypes := at_ }, ty, pos, af, none⟩).run P w = .ok (.round l fn tmps assign body) w := by
    simp only [execOp, resolve, ha.ev hf, Deferred.ofValue, Sem.run_bind, Sem.run_pure, Result.andThen_ok, invoke, List.map_toArray, List.map_cons, List.map_nil, ha.ev hx]
    simpa using hy
  rw [Fence.wide_round, Oper.semAt_none, e, Oper.uponIn_round]
  refine ⟨fun h => by simp [Fence.wide] at h, hR.mono ?_⟩
  intro e' w' hr
  obtain ⟨b, rfl, hk⟩ := h e' w' hr
  exact hk _ ((ha.world hv w').put hlt rfl)
theorem W.regionI {id : Nat} {l : List Oper} (N : Nat) (h : WI n N P l.toArray Q l F w) : W n P (.region id l.toArray false) Q F w := fun a ha => wpIn_wide.1 (wpIn_region_lit (h a ha))
end
section
variable {P : Program} {F : Frm} {w : World} {ty : TypeId}
theorem R.ldc {x : Operand} {t : TypeId} {d : TypeDesc} {ad : Addr} {u : Value} (hx : ev F x = some (.pointer (some ad))) (hc : w.cell? ad = some u) (ht : P.underlying t = some d) (hd : aggD d = false) : Runs P w F (.load t x) ty u := fun o ρ ho _ hρ => by
  simp only [execOp, ho, hρ x (by simp [Op.operands]) _ hx]
  simp [Instr.loadAt, Instr.sureAddr, loadVar, run_isAgg' ht, hd, hc]
theorem R.lenS {x : Operand} {t e : TypeId} {A : Option Addr} {n c : Nat} (hx : ev F x = some (.slice A n c)) (ht : P.underlying t = some (.slice e)) :
    Runs P w F (.call { callee := .builtin .len, args := #[x], argTypes := #[t] }) ty (.int .i64 (n : Int)) :=
  R.call1 hx fun _ => by simp [builtin, Builtin.len_, run_underlying ht, goInt]
theorem R.subS {x l : Operand} {t e : TypeId} {inf : TypeInfo} {k : IntKind} {A : Option Addr} {n c i : Nat} (hx : ev F x = some (.slice A n c)) (hl : ev F l = some (.int k (i : Int))) (h1 : i ≤ n) (_ : n ≤ c) (ht : P.underlying t = some (.slice e)) (he : P.info? e = some inf) :
    Runs P w F (.slice t x (some l) none none) ty (.slice (if c = i then A else A.map (·.add (i * inf.size))) (n - i) (c - i)) := fun o ρ ho _ hρ => by
  simp only [execOp, ho, hρ x (by simp [Op.operands]) _ hx, hρ l (by simp [Op.operands]) _ hl, Option.map_some, Option.map_none]
  simp [Instr.sliceAt, Instr.slice, Instr.sliceBounds, Instr.sliceBound, asIntOf, run_underlying ht, sizeOf, typeInfo, he, h1]
theorem R.sub3S {x l h m : Operand} {t e : TypeId} {inf : TypeInfo} {k1 k2 k3 : IntKind} {A : Option Addr} {n c i j q : Nat} (hx : ev F x = some (.slice A n c)) (hl : ev F l = some (.int k1 (i : Int))) (hh : ev F h = some (.int k2 (j : Int))) (hm : ev F m = some (.int k3 (q : Int)))
    (h1 : i ≤ j) (h2 : j ≤ q) (h3 : q ≤ c) (ht : P.underlying t = some (.slice e)) (he : P.info? e = some inf) :
    Runs P w F (.slice t x (some l) (some h) (some m)) ty (.slice (if q = i then A else A.map (·.add (i * inf.size))) (j - i) (q - i)) := fun o ρ ho _ hρ => by
  simp only [execOp, ho, hρ x (by simp [Op.operands]) _ hx, hρ l (by simp [Op.operands]) _ hl, hρ h (by simp [Op.operands]) _ hh, hρ m (by simp [Op.operands]) _ hm, Option.map_some]
  simp [Instr.sliceAt, Instr.slice, Instr.sliceBounds, Instr.sliceBound, asIntOf, run_underlying ht, sizeOf, typeInfo, he, h1, h2, h3]
end
end Go.G
namespace Go.Proofs.Ytoebjajbmkdcfaa
open Go Go.RowKit Go.G Go.Shelf
/-- The k-th chunk of a slice. -/
def chV (A : Option Addr) (len nn k : Nat) : Value := .slice (A.map (·.add (k * nn * 2))) (min nn (len - k * nn)) (min nn (len - k * nn))
def chN (len nn : Nat) : Nat := (len + nn - 1) / nn
theorem chN_iff {len nn : Nat} (h : 1 ≤ nn) (k : Nat) : k < chN len nn ↔ k * nn < len := by
  unfold chN
  rw [Nat.lt_div_iff_mul_lt (by omega)]
  omega
theorem info63 : ∃ i, Try.prog.info? 63 = some i ∧ i.size = 2 := by
  obtain ⟨i, h1, _, h2, _⟩ := G.info_of (P := Try.prog) (t := 63) (z := .agg #[.int .i64 0, .int .i64 0]) (s := 2) (b := 16) (by kernel_rfl)
  exact ⟨i, h1, h2⟩
set_option maxRecDepth 8000 in
theorem chunk1_in (N l n0 : Nat) (aS aN : Addr) (A : Option Addr) (len cap nn : Nat) (hn1 : 1 ≤ nn) (hn2 : nn ≤ 1000) (hl1 : len ≤ cap) (hl2 : len ≤ 1000000) (hBs : aS.block < n0) (hBn : aN.block < n0) (J Jx : List Nat → World → Prop) (hJA : ∀ s A B, J s A → Ext A B → J s B)
    (hY : ∀ pre x W0, J pre W0 → pre.length < chN len nn → YieldAt Fence.wide (N - 1) Try.prog l #[chV A len nn x] W0 fun e W' =>
      (e = .returned (.bool true) ∧ J (pre ++ [x]) W' ∧ Below n0 W0 W') ∨ (e = .returned (.bool false) ∧ Jx (pre ++ [x]) W'))
    (W0 : World) (hs : W0.cell? aS = some (.slice A len cap)) (hc : W0.cell? aN = some (.int .i64 (nn : Int))) (h0 : J [] W0) :
    CallsIn Fence.wide N Try.prog 71 #[.func (.yield l) #[] #[], .pointer (some aS), .pointer (some aN)] W0 fun e W' => (∃ v, e = .returned v) ∧
      ((∃ ys, ys = List.range (chN len nn) ∧ J ys W') ∨ (∃ pre, True ∧ Jx pre W')) := by
  obtain ⟨i63, hi63, hs63⟩ := info63
  refine callsIn_wide.2 ?_
  refine enter (n := 31) (l := [.func (.yield l) #[] #[], .pointer (some aS), .pointer (some aN)]) Try.func71 rfl rfl rfl ?_
  refine G.W.seq ?_
  refine G.W.region ?_
  refine WL.det (fun _ _ => R.assign rfl) rfl ?_
  refine WL.nil ?_
  refine E.to ?_
  refine G.W.block ?_
  refine G.W.loop (ι := Nat) (fun k => [(4, .val (.int .i64 ((k * nn : Nat) : Int))), (0, .val (.func (.yield l) #[] #[])), (1, .val (.pointer (some aS))), (2, .val (.pointer (some aN)))])
    (fun k W' => k ≤ chN len nn ∧ J (List.range k) W' ∧ W'.cell? aS = some (.slice A len cap) ∧ W'.cell? aN = some (.int .i64 (nn : Int))) (fun k => chN len nn - k) 0 ?_ ⟨by omega, h0, hs, hc⟩ ?_
  · exact ⟨by rw [Nat.zero_mul]; rfl, rfl, rfl, rfl, trivial⟩
  rintro k W1 ⟨hk, hJ, hs1, hc1⟩
  have hiff := chN_iff (len := len) hn1 k
  have ks : ∀ w1, Ext W1 w1 → w1.cell? aS = some (.slice A len cap) := fun w1 e => (e.cell (p := aS) (World.block_lt_of_cell? W1 _ hs1)).trans hs1
  have kc : ∀ w1, Ext W1 w1 → w1.cell? aN = some (.int .i64 (nn : Int)) := fun w1 e => (e.cell (p := aN) (World.block_lt_of_cell? W1 _ hc1)).trans hc1
  refine G.W.seq ?_
  refine G.W.seq ?_
  refine G.W.region ?_
  refine WL.det (fun _ _ => R.move rfl) rfl ?_
  refine WL.det (fun w1 e => R.ldc rfl (ks w1 e) Try.underlying22 rfl) rfl ?_
  refine WL.det (fun _ _ => R.lenS rfl Try.underlying22) rfl ?_
  refine WL.det (fun _ _ => R.lss rfl rfl) rfl ?_
  refine WL.nil ?_
  refine E.to ?_
  refine G.W.cond_d rfl (fun hlt => ?_) (fun hge => ?_)
  · have hlt' : k * nn < len := by omega
    obtain ⟨m, hm⟩ : ∃ m, m = min nn (len - k * nn) := ⟨_, rfl⟩
    have hmi : (if ((len - k * nn : Nat) : Int) < (nn : Int) then ((len - k * nn : Nat) : Int) else (nn : Int)) = (m : Int) := by rw [hm]; split <;> omega
    refine G.W.skip ?_
    refine E.to ?_
    refine G.W.seq ?_
    refine G.W.block ?_
    refine G.W.seq ?_
    refine G.W.draw 7 rfl (by kernel_rfl) (fun w0 e0 => ?_)
    refine WD.det (fun w1 e1 => R.ldc rfl (kc w1 (Ext.tr e0 e1)) Try.underlying3 rfl) rfl ?_
    refine WD.det (fun w1 e1 => R.ldc rfl (ks w1 (Ext.tr e0 e1)) Try.underlying22 rfl) rfl ?_
    refine WD.det (fun _ _ => R.move rfl) rfl ?_
    refine WD.det (fun _ _ => R.subS rfl rfl (by omega) hl1 Try.underlying22 hi63) rfl ?_
    refine WD.det (fun _ _ => R.lenS rfl Try.underlying22) rfl ?_
    refine WD.det (fun _ _ => R.mv (R.min2 rfl rfl) (congrArg (Value.int .i64) hmi)) rfl ?_
    refine WD.det (fun _ _ => R.assign rfl) rfl ?_
    refine WD.nil (fun w2 e2 => ?_)
    have e02 := Ext.tr e0 e2
    refine WL.nil ?_
    refine E.to ?_
    refine G.W.seq ?_
    refine G.W.regionI N ?_
    refine WI.det (R.move rfl) rfl ?_
    refine WI.det (R.ldc rfl (ks w2 e02) Try.underlying22 rfl) rfl ?_
    refine WI.det (R.move rfl) rfl ?_
    refine WI.det (R.move rfl) rfl ?_
    refine WI.det (R.move rfl) rfl ?_
    refine WI.det (R.mv (R.add64 rfl rfl (by omega)) (congrArg (Value.int .i64) (show _ = ((k * nn + m : Nat) : Int) by omega))) rfl ?_
    refine WI.det (R.move rfl) rfl ?_
    refine WI.det (R.move rfl) rfl ?_
    refine WI.det (R.mv (R.add64 rfl rfl (by omega)) (congrArg (Value.int .i64) (show _ = ((k * nn + m : Nat) : Int) by omega))) rfl ?_
    refine WI.det (R.mv (R.sub3S rfl rfl rfl rfl (by omega) (Nat.le_refl _) (by omega) Try.underlying22 hi63) (show _ = chV A len nn k by rw [if_neg (by omega), hs63, Nat.add_sub_cancel_left, hm]; rfl)) rfl ?_
    refine WI.yield rfl rfl rfl rfl (hY (List.range k) k w2 (hJA _ _ _ hJ e02) (by simpa using hiff.2 hlt')) ?_
    rintro e W3 (⟨rfl, hJ3, hb3⟩ | ⟨rfl, hJ3⟩)
    · refine ⟨_, rfl, ?_⟩
      have hs3 := (hb3.cell (p := aS) hBs).trans (ks w2 e02)
      have hc3 := (hb3.cell (p := aN) hBn).trans (kc w2 e02)
      refine WI.det (R.not rfl) rfl ?_
      refine WI.nil ?_
      refine E.to ?_
      refine G.W.cond_f rfl ?_
      refine G.W.skip ?_
      refine E.inn ?_
      refine E.to ?_
      refine G.W.region ?_
      refine WL.det (fun _ _ => R.move rfl) rfl ?_
      refine WL.det (fun w1 e => R.ldc rfl ((e.cell (p := aN) (World.block_lt_of_cell? W3 _ hc3)).trans hc3) Try.underlying3 rfl) rfl ?_
      refine WL.det (fun _ _ => R.mv (R.add64 rfl rfl (by omega)) (congrArg (Value.int .i64) (show _ = (((k + 1) * nn : Nat) : Int) by rw [Nat.add_mul, Nat.one_mul]; omega))) rfl ?_
      refine WL.det (fun _ _ => R.assign rfl) rfl ?_
      refine WL.nil ?_
      refine E.again (k + 1) ?_ ⟨hiff.2 hlt', by rw [List.range_succ]; exact hJ3, hs3, hc3⟩ (by have := hiff.2 hlt'; omega)
      exact ⟨rfl, rfl, rfl, rfl, trivial⟩
    · refine ⟨_, rfl, ?_⟩
      refine WI.det (R.not rfl) rfl ?_
      refine WI.nil ?_
      refine E.to ?_
      refine G.W.cond_t rfl ?_
      refine G.W.ret ?_
      refine E.inr ?_
      refine E.thr ?_
      refine E.thr ?_
      refine E.inr ?_
      refine E.fin0 (.inl rfl) rfl ?_
      exact ⟨⟨_, rfl⟩, .inr ⟨_, trivial, hJ3⟩⟩
  · obtain rfl : k = chN len nn := by
      have : ¬ k < chN len nn := fun h => hge (by have := hiff.1 h; omega)
      omega
    refine G.W.exit ?_
    refine E.th ?_
    refine E.th ?_
    refine E.hit ?_
    refine E.fin0 (.inr rfl) rfl ?_
    exact ⟨⟨_, rfl⟩, .inl ⟨_, rfl, hJ⟩⟩
theorem chunk_stops (N n0 : Nat) (aS aN : Addr) (A : Option Addr) (len cap nn : Nat) (hn1 : 1 ≤ nn) (hn2 : nn ≤ 1000) (hl1 : len ≤ cap) (hl2 : len ≤ 1000000) (w : World) (hBs : aS.block < n0) (hBn : aN.block < n0) (hn0 : n0 ≤ w.heap.size)
    (hs : w.cell? aS = some (.slice A len cap)) (hc : w.cell? aN = some (.int .i64 (nn : Int))) :
    SeqStopsK Fence.wide N Try.prog 71 #[.pointer (some aS), .pointer (some aN)] (fun x : Nat => #[chV A len nn x]) (Below n0) (fun ys => ys = List.range (chN len nn)) (fun _ => True) (chN len nn) w := fun l J Jx W hW hJ _ hY h0 =>
  chunk1_in N l n0 aS aN A len cap nn hn1 hn2 hl1 hl2 hBs hBn J Jx (fun s X Y hs he => hJ s X Y none hs ⟨he.os, he.tape, he.output, he.size, fun k hk _ => he.block k hk⟩ (fun r e => by cases e)) hY W ((hW.cell (p := aS) (show aS.block < w.heap.size by omega)).trans hs) ((hW.cell (p := aN) (show aN.block < w.heap.size by omega)).trans hc) h0
theorem info22 : (Try.prog.info? 22).map (fun i => (i.zero, i.size, i.bytes)) = some (some (.slice none 0 0), 1, 24) := by kernel_rfl
attribute [local go_sem] Oper.semAt_some
set_option maxRecDepth 100000 in
set_option maxHeartbeats 2000000 in
theorem appendSeq_in (N : Nat) (hN : 2 ≤ N) (g : Nat) (lb : Array Value) (eg : ∀ args w, (callFunc g args).run Try.prog w = .ok (.enter g args) w) (ad : Nat → Option Addr) (ln cp : Nat → Nat) (K : Nat) (hK : K ≤ 1000000) (w : World)
    (hseq : SeqStopsK Fence.wide (N - 1) Try.prog g lb (fun x : Nat => #[.slice (ad x) (ln x) (cp x)]) (Below w.heap.size) (fun ys => ys = List.range K) (fun _ => True) K w) :
    CallsIn Fence.wide N Try.prog 70 #[.slice none 0 0, .func (.func g) #[] lb] w fun e W' => ∃ v, e = .returned v ∧ W'.ownsRow w.heap.size 22 1 v K ((List.range K).map fun x => .slice (ad x) (ln x) (cp x)) ∧ Below w.heap.size w W' := by
  have h1 : 1 ≤ N := by omega
  obtain ⟨i0, hi, hz0, hz1, hz2⟩ := info_parts info22
  refine callsIn_of_wp_marks Try.func70 rfl trivial ?_ rfl
  have hnt : Try.f70.ntmps = 13 := rfl
  simp only [hnt, List.size_toArray, List.length_cons, List.length_nil, Nat.reduceAdd, Nat.reduceSub, Array.replicate_succ, Array.replicate_zero, List.push_toArray, List.append_toArray, List.nil_append, List.cons_append]
  gi_wp2
  have bO := Boxed.new w 111 (.slice none 0 0)
  have hB0 : Below w.heap.size w (w.alloc (.cells #[.slice none 0 0] 111)) := (Below.refl _ w).alloc (Nat.le_refl _) _
  refine wpIn_rangeFunc_ownG (F := Fence.wide) rfl h1 (gf := g) (lb := lb) rfl trivial eg hseq belowK_t (belowK_b (by simp)) hB0 (fun _ => rfl)
    (fun pre W => (∃ v, Boxed W w.heap.size 111 v ∧ W.ownsRow w.heap.size 22 1 v pre.length (pre.map fun x => .slice (ad x) (ln x) (cp x)) ∧ True) ∧ Below w.heap.size w W)
    (fun _ _ _ => False)
    (OwnFrom.and (Own.from (holdsRow_own w.heap.size w.heap.size 111 22 1 (fun pre : List Nat => pre.length) (fun pre => pre.map fun x => .slice (ad x) (ln x) (cp x)) (fun _ _ => True)) _) (ownFrom_below (Nat.le_refl _) (by simp)))
    (fun _ _ _ _ _ hs _ _ => hs)
    ⟨⟨_, bO, World.ownsRow_nil _ _ _ _, trivial⟩, hB0⟩
    (fun x => { tmps := #[.slice none 0 0, .func (.func g) #[] lb, .pointer (some ⟨w.heap.size, 0, none⟩), undef, .slice none 0 0, .slice (ad x) (ln x) (cp x), .func (.func g) #[] lb, .slice (ad x) (ln x) (cp x), undef, undef, undef, undef, undef], defers := [] }) ?assign ?body ?done ?stop
  case assign =>
    intro l x W K hK
    gi_wp2
    exact hK
  case body =>
    rintro l pre x W ⟨⟨v, hv, hrow, _⟩, hB⟩ hlt
    have hc := hv.cell
    gi_wp2_with (gi_at_builtin; refine wpListIn_append_own _ rfl _ _ 111 rfl w.heap.size 22 i0 (.slice none 0 0) 1 24 Try.underlying111 hi hz0 hz1 hz2 rfl (by decide) _ _ _ rfl (hrow.alloc _) ⟨W.heap.size, 0, none⟩ 1 1 [.slice (ad x) (ln x) (cp x)] rfl rfl (cell_one_new _ _ _) (by simp [Value.oneCell']) (by simp [maxLen]; omega) (by omega) (by have := hB.size; simp; omega) ?_; intro v' w1 hown' hgrow _; obtain ⟨g', cap', rfl⟩ := ownsRow_succ hown'; obtain ⟨hv1, hv2, hr2, hk2, hb2⟩ := hv.appended (by decide) hrow hB.size (Nat.le_refl _) hown' hgrow; have hc1 := hv1.cell; have hf1 := hv1.frozen)
    exact ⟨hk2.from _, hb2, ⟨_, hv2, by simpa using hr2, trivial⟩, hB.trans hb2⟩
  case done =>
    rintro D ys W hD rfl ⟨⟨v, hv, hrow, _⟩, hB⟩ hKK
    have hc := hv.cell
    gi_wp2
    refine ⟨by simp, .inl ⟨_, _, rfl, run_takeDeferred hKK, ?_⟩⟩
    refine ⟨_, results_tmp rfl _ _ _, v, rfl, ?_, hB.trans (belowK_b (w := w) (Nat.le_refl _) W D _ _ (by simp at hD; omega) hKK rfl rfl)⟩
    have := ownsRow_putObj hrow (.deferred none) hKK rfl
    simpa using this
  case stop =>
    rintro D c pre W _ _ h _
    exact h.elim
set_option maxRecDepth 8000 in
theorem collect_raw (g : Nat) (lb : Array Value) (eg : ∀ args w, (callFunc g args).run Try.prog w = .ok (.enter g args) w) (ad : Nat → Option Addr) (ln cp : Nat → Nat) (K : Nat) (hK : K ≤ 1000000) (w : World)
    (hseq : SeqStopsK Fence.wide 1 Try.prog g lb (fun x : Nat => #[.slice (ad x) (ln x) (cp x)]) (Below w.heap.size) (fun ys => ys = List.range K) (fun _ => True) K w) :
    Calls Try.prog 60 #[.func (.func g) #[] lb] w (fun e W' => ∃ v, e = .returned v ∧ W'.ownsRow w.heap.size 22 1 v K ((List.range K).map fun x => .slice (ad x) (ln x) (cp x)) ∧ Below w.heap.size w W') := by
  refine enter (n := 5) (l := [.func (.func g) #[] lb]) Try.func60 rfl rfl rfl ?_
  refine G.W.seq ?_
  refine G.W.region ?_
  refine WL.det (fun _ _ => R.assign rfl) rfl ?_
  refine WL.nil ?_
  refine E.to ?_
  refine G.W.seq ?_
  refine G.W.region ?_
  refine WL.det (fun _ _ => R.move rfl) rfl ?_
  refine WL.call (R := fun v W' => W'.ownsRow w.heap.size 22 1 v K ((List.range K).map fun x => .slice (ad x) (ln x) (cp x)) ∧ Below w.heap.size w W') (all := [.slice none 0 0, .func (.func g) #[] lb]) rfl rfl ⟨rfl, rfl⟩ (by kernel_rfl) rfl rfl (Calls.mono (callsIn_wide.1 (appendSeq_in 2 (Nat.le_refl _) g lb eg ad ln cp K hK w hseq)) (fun e W' ⟨v, h1, h2, h3⟩ => ⟨v, h1, h2, h3⟩)) (fun v W' ⟨h2, h3⟩ => ?_)
  refine WL.det (fun _ _ => R.assign rfl) rfl ?_
  refine WL.nil ?_
  refine E.to ?_
  refine G.W.ret ?_
  exact E.fin1 (.inl rfl) rfl rfl ⟨v, rfl, h2, h3⟩
open Go.H in
theorem recap {w : World} {ok : Nat → Prop} {sz : Nat} {rows : List (List UV)} {A : Option Addr} {n c c' : Nat} (h : RepU w ok (.sl sz rows) (.slice A n c)) (h1 : n ≤ c') (h2 : c' ≤ maxLen) (h3 : A = none → c' = 0) : RepU w ok (.sl sz rows) (.slice A n c') := by
  cases h with
  | sl0 hc hn => exact .sl0 h2 h3
  | sl hne q1 q2 q3 q4 q5 hb ho hc hu => exact .sl hne h1 h2 q3 q4 q5 hb ho hc hu
open Go.H in
theorem ptr1 {w : World} {ok : Nat → Prop} {b : Nat} {u : UV} {v : Value} (hc : w.cell? ⟨b, 0, none⟩ = some v) (hb : b < w.heap.size) (ho : ok b) (hu : RepU w ok u v) (h1 : u.one = true) : RepU w ok (.ptr [u]) (.pointer (some ⟨b, 0, none⟩)) :=
  .ptr (cv := fun _ => v) (fun x hx => by simp at hx; subst hx; exact h1) hb ho (fun j x hj => by
    match j with
    | 0 => simpa [Addr.add] using hc
    | j + 1 => simp at hj) (fun j x hj => by
    match j with
    | 0 => simp at hj; subst hj; exact hu
    | j + 1 => simp at hj)
open Go.H in
set_option maxRecDepth 8000 in
set_option maxHeartbeats 1000000 in
theorem chunk_con {rows : List (List UV)} {n : Int} (hn : 1 ≤ n) : Con Try.prog 61 [vL 2 rows, vI n] [] (.u (.clo (.func 71) [] [.ptr [.sl 2 rows], .ptr [uI n]])) [] := by
  intro τ w vs ok hin
  obtain ⟨u, v, rfl, hu, hv⟩ := allI_2 hin.args
  obtain rfl := rep_sc hv
  cases hu with
  | u hu =>
    obtain ⟨A, cap, rfl, hcap⟩ := sl_form hu
    have raw : Calls Try.prog 61 #[.slice A rows.length cap, .int .i64 n] w (fun e w' => e = .returned (.func (.func 71) #[] #[.pointer (some ⟨w.heap.size, 0, none⟩), .pointer (some ⟨w.heap.size + 1, 0, none⟩)]) ∧ w' = (w.alloc (.cells #[.slice A rows.length cap] 22)).alloc (.cells #[.int .i64 n] 3)) := by
      refine (callsIn_wide (n := 3)).1 (callsIn_of_wp Try.func61 rfl trivial ?_ rfl)
      have hnt : Try.f61.ntmps = 9 := rfl
      simp only [hnt, List.size_toArray, List.length_cons, List.length_nil, Nat.reduceAdd, Nat.reduceSub, Array.replicate_succ, Array.replicate_zero, List.push_toArray, List.append_toArray, List.nil_append, List.cons_append]
      gi_wp2
      go_ret
      exact ⟨rfl, rfl⟩
    refine Calls.mono raw ?_
    rintro e w' ⟨rfl, rfl⟩
    have e1 : Ext w (w.alloc (.cells #[.slice A rows.length cap] 22)) := (Ext.rfl' w).alloc (Nat.le_refl _) _
    have e2 : Ext w ((w.alloc (.cells #[.slice A rows.length cap] 22)).alloc (.cells #[.int .i64 n] 3)) := e1.alloc e1.size _
    refine ⟨_, τ, rfl, Gr.of_ext e2, fun k hk => rfl, .u ?_, fun k sb hk => (nomatch (show (none : Option SB) = some _ from hk)), fun k k' sb sb' b hk => (nomatch (show (none : Option SB) = some _ from hk)), fun k sb b hk => (nomatch (show (none : Option SB) = some _ from hk))⟩
    have b1 := (Boxed.new w 22 (.slice A rows.length cap)).alloc (.cells #[.int .i64 n] 3)
    have b2 := Boxed.new (w.alloc (.cells #[.slice A rows.length cap] 22)) 3 (.int .i64 n)
    rw [World.size_alloc] at b2
    have hok : ∀ b, (ok b ∨ w.heap.size ≤ b) → okOut τ w ok [] τ [] b := fun b hb => ⟨hb.elim .inl (fun h => .inr (.inr h)), fun k sb hk => (nomatch (show (none : Option SB) = some _ from hk))⟩
    refine .clo (vf := []) (vc := [_, _]) rfl (fun i u v h1 h2 => by simp at h1) rfl (fun i u v h1 h2 => ?_)
    match i with
    | 0 =>
      simp at h1 h2; subst h1; subst h2
      exact ptr1 b1.cell b1.lt (hok _ (.inr (Nat.le_refl _))) (hu.mono e2.size (fun b hb hlt => ⟨hok b (.inl hb), e2.block b hlt⟩)) rfl
    | 1 =>
      simp at h1 h2; subst h1; subst h2
      exact ptr1 b2.cell b2.lt (hok _ (.inr (Nat.le_succ _))) (.sc _) rfl
    | i + 2 => simp at h1
open Go.H in
theorem ptr_at {w : World} {ok : Nat → Prop} {u : UV} {v : Value} (h : RepU w ok (.ptr [u]) v) : ∃ a x, v = .pointer (some a) ∧ a.block < w.heap.size ∧ w.cell? a = some x ∧ RepU w ok u x := by
  cases h with
  | ptr h5 hb ho hc hu =>
    rename_i a cv
    have := hc 0 u rfl
    rw [show a.add 0 = a by simp [Addr.add]] at this
    exact ⟨a, cv 0, rfl, hb, this, hu 0 u rfl⟩
open Go.H in
set_option maxRecDepth 8000 in
theorem collect_con {rows : List (List UV)} {nn : Nat} (hn1 : 1 ≤ nn) (hn2 : nn ≤ 1000) (hl : rows.length ≤ 1000000) :
    Con Try.prog 60 [.u (.clo (.func 71) [] [.ptr [.sl 2 rows], .ptr [uI (nn : Int)]])] [] (.own 0) [(0, .data 22 1 ((List.range (chN rows.length nn)).map fun k => [.sl 2 ((rows.drop (k * nn)).take nn)]))] := by
  intro τ w vs ok hin
  obtain ⟨u, rfl, hu⟩ : ∃ u, vs = [u] ∧ RepI τ w ok (.u (.clo (.func 71) [] [.ptr [.sl 2 rows], .ptr [uI (nn : Int)]])) u := by
    match vs, hin.args.1, hin.args.2 with
    | [u], _, h => exact ⟨u, rfl, h 0 _ _ rfl rfl⟩
  cases hu with
  | u hu =>
    cases hu with
    | @clo _ _ _ vf vc hl1 hg1 hl2 hg2 =>
      obtain rfl : vf = [] := List.eq_nil_of_length_eq_zero hl1.symm
      match vc, hl2, hg2 with
      | [p1, p2], _, hg2 =>
        obtain ⟨aS, x, rfl, hbS, hcS, hx⟩ := ptr_at (hg2 0 _ _ rfl rfl)
        obtain ⟨aN, y, rfl, hbN, hcN, hy⟩ := ptr_at (hg2 1 _ _ rfl rfl)
        obtain ⟨A, cap, rfl, hcap⟩ := sl_form hx
        cases hy
        have hK : chN rows.length nn ≤ 1000000 := by
          rcases Nat.eq_zero_or_pos (chN rows.length nn) with e | e
          · omega
          · have h1 := (chN_iff (len := rows.length) hn1 (chN rows.length nn - 1)).1 (by omega)
            have h2 : (chN rows.length nn - 1) * 1 ≤ (chN rows.length nn - 1) * nn := Nat.mul_le_mul_left _ hn1
            omega
        refine Calls.mono (collect_raw 71 #[.pointer (some aS), .pointer (some aN)] (fun args w => G.run_callFunc (by kernel_rfl) args) (fun k => A.map (·.add (k * nn * 2))) (fun k => min nn (rows.length - k * nn)) (fun k => min nn (rows.length - k * nn)) (chN rows.length nn) hK w
          (chunk_stops 1 w.heap.size aS aN A rows.length cap nn hn1 hn2 hcap hl w hbS hbN (Nat.le_refl _) hcS hcN)) ?_
        rintro e w' ⟨v, rfl, ho, hb⟩
        have hlt := ho.lt
        obtain ⟨rows2, hr2⟩ : ∃ rows2, rows2 = ((List.range (chN rows.length nn)).map fun k => [UV.sl 2 ((rows.drop (k * nn)).take nn)]) := ⟨_, rfl⟩
        rw [← hr2]
        have hk0 : ∀ {k : Nat} {sb : SB}, lookS k [(0, SB.data 22 1 rows2)] = some sb → k = 0 ∧ sb = .data 22 1 rows2 := fun {k sb} hk => by
          have := lookS_look hk
          by_cases e : 0 = k
          · subst e; rw [Go.H.look_eq] at this; exact ⟨rfl, (Option.some.inj this).symm⟩
          · rw [Go.H.look_ne e] at this; exact nomatch (show (none : Option SB) = some _ from this)
        have ho0 : w'.ownsRow 0 22 1 v (chN rows.length nn) ((List.range (chN rows.length nn)).map fun k => chV A rows.length nn k) := by
          obtain ⟨q1, q2 | ⟨g, cp, cur, q2, q3, q4⟩⟩ := ho
          · exact ⟨q1, .inl q2⟩
          · exact ⟨q1, .inr ⟨g, cp, cur, q2, Nat.zero_le _, q4⟩⟩
        have hvb : ∀ b, vblk v = some b → w.heap.size ≤ b := fun b hv => by
          obtain ⟨q1, q2 | ⟨g, cp, cur, q2, q3, q4⟩⟩ := ho
          · rw [q2.1] at hv; cases hv
          · rw [q2] at hv; cases hv; exact q3
        have hok : ∀ b, ok b → b < w.heap.size → okOut τ w ok [] (fun _ => v) [(0, SB.data 22 1 rows2)] b ∧ w'.heap[b]? = w.heap[b]? := fun b hb1 hb2 => ⟨⟨.inl hb1, fun k sb hk hv => by have := hvb b hv; omega⟩, hb.block b hb2⟩
        have hone : v.oneCell' = true := by
          obtain ⟨q1, q2 | ⟨g, cp, cur, q2, q3, q4⟩⟩ := ho
          · rw [q2.1]; rfl
          · rw [q2]; rfl
        have hflat : rows2.flatten = (List.range (chN rows.length nn)).map fun k => UV.sl 2 ((rows.drop (k * nn)).take nn) := by
          rw [hr2]; generalize List.range (chN rows.length nn) = L
          induction L with
          | nil => rfl
          | cons x L ih => rw [List.map_cons, List.flatten_cons, ih]; rfl
        have hrep : RepB (fun _ => v) w' (okOut τ w ok [] (fun _ => v) [(0, SB.data 22 1 rows2)]) 0 (.data 22 1 rows2) := by
          refine ⟨_, by rw [show rows2.length = chN rows.length nn by rw [hr2]; simp]; exact ho0, ⟨by rw [hflat]; simp, fun i u x h1 h2 => ?_⟩, fun r hr => by rw [hr2, List.mem_map] at hr; obtain ⟨k, _, rfl⟩ := hr; rfl, by decide, fun u hu => by rw [hflat, List.mem_map] at hu; obtain ⟨k, _, rfl⟩ := hu; rfl⟩
          rw [hflat, List.getElem?_map, Option.map_eq_some_iff] at h1
          rw [List.getElem?_map, Option.map_eq_some_iff] at h2
          obtain ⟨k, h1, rfl⟩ := h1
          obtain ⟨k', h2, rfl⟩ := h2
          rw [h1] at h2; cases h2
          obtain ⟨hlt', rfl⟩ : i < chN rows.length nn ∧ k = i := by
            obtain ⟨a, b⟩ := List.getElem?_eq_some_iff.1 h1
            simp at a b
            exact ⟨a, b.symm⟩
          have hk1 := (chN_iff (len := rows.length) hn1 k).1 hlt'
          have hsub := slice_rep (i := k * nn) (j := k * nn + min nn (rows.length - k * nn)) (hx.mono hb.size hok) (by omega) (by omega)
          have e1 : (rows.take (k * nn + min nn (rows.length - k * nn))).drop (k * nn) = (rows.drop (k * nn)).take nn := by
            rw [List.drop_take, Nat.add_sub_cancel_left]
            rcases Nat.le_total nn (rows.length - k * nn) with c | c
            · rw [Nat.min_eq_left c]
            · rw [Nat.min_eq_right c, List.take_of_length_le (by simp), List.take_of_length_le (by simp; omega)]
          rw [e1] at hsub
          have hmx : cap ≤ maxLen := by
            cases hx with
            | sl0 hc hn => exact hc
            | sl hne q1 q2 q3 q4 q5 hb ho hc hu => exact q2
          simp only [G.subSl] at hsub
          rw [if_neg (by omega), Nat.add_sub_cancel_left] at hsub
          exact recap hsub (Nat.le_refl _) (by simp only [maxLen] at *; omega) (fun hA => by
            exfalso
            cases A with
            | none => cases hx with | sl0 hc hn => simp at hk1
            | some a => simp at hA)
        refine ⟨v, fun _ => v, rfl, Gr.of_ext hb, fun k hk => (nomatch hk), RepI.own (τ := fun _ => v) 0 hone, fun k sb hk => ?_, fun k k' sb sb' b h1 h2 _ _ => ?_, fun k sb b hk hv => .inr (hvb b hv)⟩
        · obtain ⟨rfl, rfl⟩ := hk0 hk; exact hrep
        · rw [(hk0 h1).1, (hk0 h2).1]
end Go.Proofs.Ytoebjajbmkdcfaa
