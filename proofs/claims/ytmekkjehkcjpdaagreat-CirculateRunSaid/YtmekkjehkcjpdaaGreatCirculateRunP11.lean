/-
  What the proof rests on: part 11 of 14.
-/
import Derived.Test.YtmekkjehkcjpdaaGreatCirculateRunP10
import Derived.Laws.Pointers
section
namespace Go.G
open Go Go.RowKit
section
variable {n : Nat} {P : Program} {F : Frm} {w : World} {ty : TypeId}
theorem R.ptrnil {tx t' : TypeId} {x y : Operand} {p : Option Addr} (hx : ev F x = some (.pointer p)) (hy : ev F y = some (.pointer none)) (ht : P.underlying tx = some (.pointer (P.pointee tx))) :
    Runs P w F (.binOp .eql tx x y t') ty (.bool p.isNone) := fun o ρ ho _ hρ => by
  simp only [execOp, ho, hρ x xH _ hx, hρ y xH _ hy]
  have h1 : (eqGuard .eql tx x y (.pointer p) (.pointer none)).run P w = .ok () w := by
    unfold eqGuard; split <;> rfl
  have h2 : (Op.equal tx (.pointer p) (.pointer none)).run P w = .ok p.isNone w := run_equalIn_pointer_nil w (9998 + 1) tx p ht
  simp [Sem.run_bind, h1, binOp, h2]
theorem R.ptrnn {tx t' : TypeId} {x y : Operand} {p : Option Addr} (hx : ev F x = some (.pointer p)) (hy : ev F y = some (.pointer none)) (ht : P.underlying tx = some (.pointer (P.pointee tx))) :
    Runs P w F (.binOp .neq tx x y t') ty (.bool (!p.isNone)) := fun o ρ ho _ hρ => by
  simp only [execOp, ho, hρ x xH _ hx, hρ y xH _ hy]
  have h1 : (eqGuard .neq tx x y (.pointer p) (.pointer none)).run P w = .ok () w := by
    unfold eqGuard; split <;> rfl
  have h2 : (Op.equal tx (.pointer p) (.pointer none)).run P w = .ok p.isNone w := run_equalIn_pointer_nil w (9998 + 1) tx p ht
  simp [Sem.run_bind, h1, binOp, h2]
end
end Go.G
namespace Go.H
open Go Go.RowKit
section
variable {c : Ctx} {P : Program} {F : Frm} {S : Sto} {ops : Array Oper} {d : Nat} {ty : TypeId} {pos : String} {af : Array Edge} {gd : Option (Nat × Bool)} {w : World} {ok : Nat → Prop}
def PtrOf (F : Frm) (x : Operand) : Prop := (∃ k o, ev F x = some (.ref k o)) ∨ (∃ us, ev F x = some (.u (.ptr us))) ∨ ∃ k s i o, ev F x = some (.el k s i o)
theorem PtrOf.val {x : Operand} {o : Oper} {σ : Sig} {τ : Nat → Value} {a : Act} (hx : PtrOf F x) (h : SatT c σ τ a w) (hA : AgreeF (o.looksAt ops) F σ) (hm : x ∈ o.op.operands) : ∃ ad, G.ev (actF a) x = some (.pointer (some ad)) := by
  rcases hx with ⟨k, q, hx⟩ | ⟨us, hx⟩ | ⟨k, s, i, q, hx⟩
  · obtain ⟨h1, h2⟩ := h.opd hA hm hx
    generalize a.eval x = v at h1 h2
    cases h1 with
    | ref => exact ⟨_, h2⟩
  · obtain ⟨h1, h2⟩ := h.opd hA hm hx
    generalize a.eval x = v at h1 h2
    cases h1 with
    | u h1 =>
      cases h1 with
      | ptr => exact ⟨_, h2⟩
  · obtain ⟨h1, h2⟩ := h.opd hA hm hx
    generalize a.eval x = v at h1 h2
    cases h1 with
    | el => exact ⟨_, h2⟩
theorem O.ptrnil {tx t' : TypeId} {x y : Operand} (hx : PtrOf F x) (hy : ev F y = some (.u (.sc (.pointer none)))) (ht : P.underlying tx = some (.pointer (P.pointee tx))) (hd : Nat.blt d c.n = true) (hg : Taken ops F gd) :
    OpOk c P ops ⟨some d, .binOp .eql tx x y t', ty, pos, af, gd⟩ F S [] [] (some (.u (.sc (.bool false)))) [] :=
  OpOk.runs hd hg fun σ τ a w hA _ h => by
    obtain ⟨ad, h2⟩ := hx.val h hA xH
    exact ⟨_, G.R.ptrnil h2 (h.sc hA xH hy).2 ht, .u (.sc _)⟩
theorem O.ptrnn {tx t' : TypeId} {x y : Operand} (hx : PtrOf F x) (hy : ev F y = some (.u (.sc (.pointer none)))) (ht : P.underlying tx = some (.pointer (P.pointee tx))) (hd : Nat.blt d c.n = true) (hg : Taken ops F gd) :
    OpOk c P ops ⟨some d, .binOp .neq tx x y t', ty, pos, af, gd⟩ F S [] [] (some (.u (.sc (.bool true)))) [] :=
  OpOk.runs hd hg fun σ τ a w hA _ h => by
    obtain ⟨ad, h2⟩ := hx.val h hA xH
    exact ⟨_, G.R.ptrnn h2 (h.sc hA xH hy).2 ht, .u (.sc _)⟩
end
end Go.H
end
section
namespace Go.Proofs.YtmekkjehkcjpdaaGreat
open Go Go.RowKit Go.H Go.D57 Go.D58


set_option maxRecDepth 8000 in
theorem queueO_h {s : St} {i : Int} (hq : ∀ l ∈ s.lns, l.q.length ≤ 1000000) :
    Con Tryz.prog 20 [vA [uI s.now, .sl 8 (s.cps.map eCp), .sl 2 (s.lns.map eLn)], vI i] [] (.own 0) [(0, .data 96 5 ((queS s i).map eH))] := by
 obtain ⟨i79, hi79, hz79, hs79, hb79⟩ := hinf79
 refine Con.en 19 Tryz.func20 fun τ w ok vs hin => ?_
 have hl0_1 := hin.lenA (i := 0) (j := 1) rfl rfl
 try rw [List.length_map] at hl0_1
 have hl0_2 := hin.lenA (i := 0) (j := 2) rfl rfl
 try rw [List.length_map] at hl0_2
 clear hin
 refine W.rg ?_
 refine SL.bx3 101 ?_
 refine SL.bx1 102 ?_
 refine SL.a (E.fo (W.rg ?_))
 refine SL.v (O.fr 2 0 u33) ?_
 refine SL.v (O.l1 u31) ?_
 refine SL.v (O.makeFunc rfl rfl rfl Taken.no) ?_
 refine SL.cl [] [102] (.u _) _ (q := indexFuncLn (q := s.lns) (f := 56) (caps := [.ptr [uI i]]) (pr := fun l => decide (l.work = i)) hcallOk56 (fun x _ => queue1_h))  (fl := .inr ⟨rfl, fun x hx => by simp at hx⟩) (h := ?_)
 refine SL.a (E.fo (W.seq (W.rg (SL.o ?_))))
 refine SL.v (O.lss) ?_
 refine E.fo ?_
 refine W.cc rfl (fun hc1 => ?_) fun hc1 => ?_
 ·refine W.rg (SL.a (E.fo (W.ret (E.thr ?_))))
  refine E.adopt 4 103 96 5 xI rfl rfl rfl ?_
  refine E.f1 [(0, 103)] ?_ ?_
  ·rfl
  · exact (SubS.val rfl (by exact sb_data (by rw [queS_no xA]; rfl)) SubS.nil)
 have hlt := idxF_lt (p := fun l : Ln => decide (l.work = i)) (l := s.lns) xA
 have hqk := hq s.lns[(idxF (fun l : Ln => decide (l.work = i)) s.lns).toNat]! (at_mem xA)
 refine W.skip (E.to (W.rg ?_))
 refine SL.v (O.fr 2 0 u33) ?_
 refine SL.v (O.l1 u31) ?_
 refine SL.o ?_
 refine SL.v (O.idx_fz (i := (idxF (fun l : Ln => decide (l.work = i)) s.lns).toNat) rfl rfl xA (row_get xA) u31 hi79 hs79 rfl Taken.no) ?_
 refine SL.v (O.ff 0 u79) ?_
 refine SL.v (O.l1f u59) ?_
 refine SL.cl [(0, 104)] [] (.own 104) ((104, .data _ _ _) :: _) (q := cloneQ_h (l := s.lns[(idxF (fun l : Ln => decide (l.work = i)) s.lns).toNat]!.q) xA)  (h := ?_)
 refine SL.a (E.fo (W.ret ?_))
 refine E.f1 [(0, 104)] ?_ ?_
 ·rfl
 · exact (SubS.val rfl (by exact sb_data (by rw [queS_y xA])) SubS.nil)

theorem wt_row {cs : List Cp} {i : Nat} {h : Hd} {now : Int} (hi : i < cs.length) : ((cs.set i (wtC cs[i]! h now)).map eCp)[i]? = some [uI cs[i]!.id, uI cs[i]!.work, uT cs[i]!.lib, uI 3, uI h.pat, uI (if now + 7 ≤ 1000000 then now + 7 else 1000000), uI h.id, uB false] := by
  rw [List.getElem?_map, List.getElem?_set_self hi]; rfl
theorem sh_fin {cs : List Cp} {i : Nat} {a b c d : List UV} : (((((cs.map eCp).set i a).set i b).set i c).set i d).set i [uI cs[i]!.id, uI cs[i]!.work, uT cs[i]!.lib, uI 1, uI 0, uI 0, uI 0, uB false] = (cs.set i (shC cs[i]!)).map eCp := by
  rw [List.set_set, List.set_set, List.set_set, List.set_set, List.map_set]; rfl

set_option maxRecDepth 8000 in
theorem free_h {s : St} {i : Nat} {n : Nat} (hi : i < s.cps.length) (hn : 0 ≤ s.now ∧ s.now ≤ 1000000) (hk : okL s.lns n) (hn2 : n ≤ 1000) :
    Con Tryz.prog 69 [.ref 0 0, .el 1 8 i 0] [(0, .cells 33 [.u (uI s.now), .own 1, .own 2]), (1, .data 55 8 ((s.cps).map eCp)), (2, .data 79 2 ((s.lns).map eLn))] (.tup []) [(0, .cells 33 [.u (uI (freeS s i).now), .own 1, .own 3]), (1, .data 55 8 (((freeS s i).cps).map eCp)), (3, .data 79 2 (((freeS s i).lns).map eLn))] := by
 have hql : ∀ l ∈ s.lns, l.q.length ≤ 1000000 := fun l hl => by have := hk.2.2 l hl; omega
 have hq60 := queS_len hk s.cps[i]!.work
 have hsq := srvQ_len (queS s s.cps[i]!.work)
 refine Con.en 51 Tryz.func69 fun τ w ok vs hin => ?_
 clear hin
 refine W.seq ?_
 refine W.dr [pW 0, pW 0, ⟨[0], [], [], [1, 2]⟩, pW 1, pW 1, pW 1, pX 1, ⟨[1, 2, 101], [101], [101], []⟩, pW 101] ?_
 refine WH.o rfl ?_
 refine WH.v (O.nc) ?_
 refine WH.v (O.n3 u33) ?_
 refine WH.o rfl ?_
 refine WH.v (O.nc) ?_
 refine WH.v (O.fe 1 0 u55) ?_
 refine WH.v (O.ld1 (PtI.ofU (PtU.el rfl rfl (row_get xA))) rfl u3 rfl rfl Taken.no) ?_
 refine WH.cl [(0, 101)] [1, 2] (.own 101) ((101, .data _ _ _) :: _) (q := queueO_h (s := s) (i := s.cps[i]!.work) hql)  (fl := .inr ⟨rfl, fun x hx => by rw [List.mem_singleton] at hx; subst hx; exact flat_H _⟩) (h := ?_)
 refine WH.v (O.as1) ?_
 refine WH.nil (E.to (W.seq (W.rg (SL.o ?_))))
 refine SL.v (O.lenE (SlOf.own rfl rfl) yB u59 rfl Taken.no) ?_
 refine SL.v (O.eql) ?_
 refine E.fo ?_
 refine W.cc rfl (fun hc1 => ?_) fun hc1 => ?_
 ·refine W.rg (SL.o (SL.o (SL.o (SL.o (SL.o ?_)))))
  refine SL.v (O.nc) ?_
  refine SL.v (O.fe 3 0 u55) ?_
  refine SL.effS (O.st_els (m := 1) rfl rfl rfl (us := [_]) rfl rfl xG yE (row_get xA) xP rfl rfl (rows' := ((s.cps.map eCp).set i [uI s.cps[i]!.id, uI s.cps[i]!.work, uT s.cps[i]!.lib, uI 1, uI s.cps[i]!.pat, uI s.cps[i]!.due, uI s.cps[i]!.hold, uB s.cps[i]!.rc])) yT Taken.no) (S' := (1, _) :: _) rfl ?_
  refine SL.v (O.nc) ?_
  refine SL.v (O.fe 4 0 u55) ?_
  refine SL.effS (O.st_els (m := 1) rfl rfl rfl (us := [_]) rfl rfl xG yE (by rw [List.getElem?_set_self zX]) xP rfl rfl (rows' := (((s.cps.map eCp).set i [uI s.cps[i]!.id, uI s.cps[i]!.work, uT s.cps[i]!.lib, uI 1, uI s.cps[i]!.pat, uI s.cps[i]!.due, uI s.cps[i]!.hold, uB s.cps[i]!.rc]).set i [uI s.cps[i]!.id, uI s.cps[i]!.work, uT s.cps[i]!.lib, uI 1, uI 0, uI s.cps[i]!.due, uI s.cps[i]!.hold, uB s.cps[i]!.rc])) yT Taken.no) (S' := (1, _) :: _) rfl ?_
  refine SL.v (O.nc) ?_
  refine SL.v (O.fe 6 0 u55) ?_
  refine SL.effS (O.st_els (m := 1) rfl rfl rfl (us := [_]) rfl rfl xG yE (by rw [List.getElem?_set_self xZ]) xP rfl rfl (rows' := ((((s.cps.map eCp).set i [uI s.cps[i]!.id, uI s.cps[i]!.work, uT s.cps[i]!.lib, uI 1, uI s.cps[i]!.pat, uI s.cps[i]!.due, uI s.cps[i]!.hold, uB s.cps[i]!.rc]).set i [uI s.cps[i]!.id, uI s.cps[i]!.work, uT s.cps[i]!.lib, uI 1, uI 0, uI s.cps[i]!.due, uI s.cps[i]!.hold, uB s.cps[i]!.rc]).set i [uI s.cps[i]!.id, uI s.cps[i]!.work, uT s.cps[i]!.lib, uI 1, uI 0, uI s.cps[i]!.due, uI 0, uB s.cps[i]!.rc])) yT Taken.no) (S' := (1, _) :: _) rfl ?_
  refine SL.v (O.nc) ?_
  refine SL.v (O.fe 5 0 u55) ?_
  refine SL.effS (O.st_els (m := 1) rfl rfl rfl (us := [_]) rfl rfl xG yE (by rw [List.getElem?_set_self xZ]) xP rfl rfl (rows' := (((((s.cps.map eCp).set i [uI s.cps[i]!.id, uI s.cps[i]!.work, uT s.cps[i]!.lib, uI 1, uI s.cps[i]!.pat, uI s.cps[i]!.due, uI s.cps[i]!.hold, uB s.cps[i]!.rc]).set i [uI s.cps[i]!.id, uI s.cps[i]!.work, uT s.cps[i]!.lib, uI 1, uI 0, uI s.cps[i]!.due, uI s.cps[i]!.hold, uB s.cps[i]!.rc]).set i [uI s.cps[i]!.id, uI s.cps[i]!.work, uT s.cps[i]!.lib, uI 1, uI 0, uI s.cps[i]!.due, uI 0, uB s.cps[i]!.rc]).set i [uI s.cps[i]!.id, uI s.cps[i]!.work, uT s.cps[i]!.lib, uI 1, uI 0, uI 0, uI 0, uB s.cps[i]!.rc])) yT Taken.no) (S' := (1, _) :: _) rfl ?_
  refine SL.v (O.nc) ?_
  refine SL.v (O.fe 7 0 u55) ?_
  refine SL.effS (O.st_els (m := 1) rfl rfl rfl (us := [_]) rfl rfl xG yE (by rw [List.getElem?_set_self xZ]) xP rfl rfl (rows' := ((((((s.cps.map eCp).set i [uI s.cps[i]!.id, uI s.cps[i]!.work, uT s.cps[i]!.lib, uI 1, uI s.cps[i]!.pat, uI s.cps[i]!.due, uI s.cps[i]!.hold, uB s.cps[i]!.rc]).set i [uI s.cps[i]!.id, uI s.cps[i]!.work, uT s.cps[i]!.lib, uI 1, uI 0, uI s.cps[i]!.due, uI s.cps[i]!.hold, uB s.cps[i]!.rc]).set i [uI s.cps[i]!.id, uI s.cps[i]!.work, uT s.cps[i]!.lib, uI 1, uI 0, uI s.cps[i]!.due, uI 0, uB s.cps[i]!.rc]).set i [uI s.cps[i]!.id, uI s.cps[i]!.work, uT s.cps[i]!.lib, uI 1, uI 0, uI 0, uI 0, uB s.cps[i]!.rc]).set i [uI s.cps[i]!.id, uI s.cps[i]!.work, uT s.cps[i]!.lib, uI 1, uI 0, uI 0, uI 0, uB false])) yT Taken.no) (S' := (1, _) :: _) rfl ?_
  refine E.fo ?_
  refine W.pk [(0,_),(1,_),(4,_)] [(0,_),(1,_),(2,_),(101,_)] ?_
  refine W.ret (E.thr ?_)
  refine E.fin (rs := []) (rn [(3, 2)]) (.inl rfl) rfl .nil ?_ ?_ rfl (fixL_spec rfl)
  ·rfl
  · exact (SubS.val rfl (by rw [free_now]; rfl) (SubS.val rfl (by exact sb_data (by rw [free_0 xA]; exact sh_fin)) (SubS.val rfl (by exact sb_data (by rw [free_0 xA])) SubS.nil)))
 refine W.skip (E.to (W.rg (SL.o ?_)))
 refine SL.freeze 101 rfl (F' := [(15, _), (4, _), (16, _), (35, _)]) (⟨⟨_, rfl, rfl⟩, ⟨_, rfl, rfl⟩, ⟨_, rfl, rfl⟩, ⟨_, rfl, rfl⟩, trivial⟩) ?_
 refine SL.cl [] [] (.tup [.agg [.u _, .u _, .u _, .u _, .u _], .u _, .u _]) _ (q := holdServe_h (q := (queS s s.cps[i]!.work)))  (h := ?_)
 refine SL.o ?_
 refine SL.v (O.ex) ?_
 refine SL.v (O.ex) ?_
 refine SL.v (O.ex) ?_
 refine SL.al1 102 ?_
 refine SL.st5_5 102 ?_
 refine SL.a (SL.a (E.fo ?_))
 refine W.pk [(0,_),(1,_),(5,_),(6,_)] [(0,_),(1,_),(2,_),(102,_)] ?_
 refine W.rg (SL.o (SL.o ?_))
 refine SL.v (O.n5 u96) ?_
 refine SL.cl [(0, 0), (1, 1), (2, 2)] [] (.tup []) ((0, .cells _ [.u _, .own 1, .own 2]) :: (1, .data _ _ _) :: (2, .data _ _ _) :: _) (q := waits_h (s := s) (i := i) (h := nextH (queS s s.cps[i]!.work)) hi hn)  (h := ?_)
 refine E.fo (W.region (SL.o (SL.o ?_)))
 refine SL.v (O.nc) ?_
 refine SL.v (O.fe 1 0 u55) ?_
 refine SL.v (O.ld1 (PtI.ofU (PtU.el rfl rfl (wt_row hi))) rfl u3 rfl rfl Taken.no) ?_
 refine SL.o ?_
 refine SL.cl [(0, 0), (1, 1), (2, 2), (3, 103)] [] (.tup []) ((0, .cells _ [.u _, .own 1, .own 103]) :: (1, .data _ _ _) :: (103, .data _ _ _) :: (2, .dead) :: _) (q := setQueue_h (s := ⟨s.now, s.cps.set i (wtC s.cps[i]! (nextH (queS s s.cps[i]!.work)) s.now), s.lns⟩) (wk := s.cps[i]!.work) (q := srvQ (queS s s.cps[i]!.work)) hk.1 (by have := hk.2.1; show s.lns.length ≤ 1000; omega))  (h := ?_)
 refine SL.nil ?_
 refine E.fin (rs := []) (rn [(3, 103)]) (.inr rfl) rfl .nil ?_ ?_ rfl (fixL_spec rfl)
 ·rfl
 · exact (SubS.val rfl (by rw [free_now]; rfl) (SubS.val rfl (by exact sb_data (by rw [free_1 xA])) (SubS.val rfl (by exact sb_data (by rw [free_1 xA])) SubS.nil)))

def bIV : Option Nat → IV
  | none => .u (.sc (.pointer none))
  | some i => .el 1 8 i 0
theorem rec_yes {cs : List Cp} {w : Int} {k : Nat} {b : Option Nat} (hb : recB cs w k = b) (h1 : cs[k]!.work = w) (h2 : cs[k]!.place = 2) (h3 : cs[k]!.rc = false) (h4 : ∀ i, b = some i → cs[k]!.due < cs[i]!.due) : recB cs w (k + 1) = some k := by
  refine rec_y ?_
  unfold recC
  rw [hb, decide_eq_true h1, decide_eq_true h2, h3]
  cases b with
  | none => rfl
  | some i => have := decide_eq_true (h4 i rfl); simpa using this
theorem rec_nop {cs : List Cp} {w : Int} {k : Nat} {b : Option Nat} (hb : recB cs w k = b) (h : ¬ (cs[k]!.work = w ∧ cs[k]!.place = 2 ∧ cs[k]!.rc = false ∧ ∀ i, b = some i → cs[k]!.due < cs[i]!.due)) : recB cs w (k + 1) = b := by
  rw [← hb]
  refine rec_n ?_
  cases e : recC cs w (recB cs w k) k with
  | false => rfl
  | true =>
    exfalso
    unfold recC at e
    simp only [Bool.and_eq_true, decide_eq_true_eq] at e
    refine h ⟨e.1.1.1, e.1.1.2, nt_f e.1.2, fun i hi => ?_⟩
    have e2 := e.2
    rw [hb, hi] at e2
    exact of_decide_eq_true e2
theorem recS_n {s : St} {w : Int} (h : recB s.cps w s.cps.length = none) : recS s w = s := by unfold recS; rw [h]
theorem recS_s {s : St} {w : Int} {i : Nat} (h : recB s.cps w s.cps.length = some i) : recS s w = ⟨s.now, s.cps.set i (rclC s.cps[i]! s.now), s.lns⟩ := by unfold recS; rw [h]
theorem rc_fin {cs : List Cp} {i : Nat} {now : Int} {a : List UV} : (((cs.map eCp).set i a)).set i [uI cs[i]!.id, uI cs[i]!.work, uT cs[i]!.lib, uI cs[i]!.place, uI cs[i]!.pat, uI (min (min cs[i]!.due (now + 7)) 1000000), uI cs[i]!.hold, uB true] = (cs.set i (rclC cs[i]! now)).map eCp := by
  rw [List.set_set, List.map_set]; rfl

set_option maxRecDepth 8000 in
theorem recall_h {s : St} {wk : Int} (hn : 0 ≤ s.now ∧ s.now ≤ 1000000) (hcl : s.cps.length ≤ 1000000) :
    Con Tryz.prog 79 [.ref 0 0, vI wk] [(0, .cells 33 [.u (uI s.now), .own 1, .own 2]), (1, .data 55 8 ((s.cps).map eCp)), (2, .data 79 2 ((s.lns).map eLn))] (.tup []) [(0, .cells 33 [.u (uI s.now), .own 1, .own 2]), (1, .data 55 8 (((recS s wk).cps).map eCp)), (2, .data 79 2 ((s.lns).map eLn))] := by
 obtain ⟨i55, hi55, hz55, hs55, hb55⟩ := hinf55
 refine Con.en 76 Tryz.func79 fun τ w ok vs hin => ?_
 clear hin
 refine W.rg (SL.a (E.fo (W.seq (W.rg (SL.o ?_)))))
 refine SL.v (O.nc) ?_
 refine SL.v (O.fr 1 0 u33) ?_
 refine SL.v (O.l1 u30) ?_
 refine SL.v (O.lenE (SlOf.own rfl rfl) yB u30 rfl Taken.no) ?_
 refine SL.o (E.fo (W.block ?_))
 refine W.lq (fun (k : Nat) => [(12, vI (k : Int)), (4, bIV (recB s.cps wk k))]) (fun (k : Nat) => []) (fun (k : Nat) => k ≤ s.cps.length) (fun (k : Nat) => s.cps.length - k) (0) [] [(0, _), (1, _), (11, _)] [(0, _), (1, _), (2, _)] ?_ ?_
 ·omega
 intro k hinv
 have hk := hinv
 refine W.rg ?_
 refine SL.v (O.lss) ?_
 refine E.fo (W.seq ?_)
 refine W.cc rfl (fun hc1 => ?_) fun hc1 => ?_
 ·refine W.skip (E.to (W.seq (W.block (W.rg (SL.o (SL.a (E.fo (W.rg (SL.o ?_)))))))))
  refine SL.v (O.nc) ?_
  refine SL.v (O.fr 1 0 u33) ?_
  refine SL.v (O.l1 u30) ?_
  refine SL.o ?_
  refine SL.v (O.idx_own (i := k) rfl rfl rfl (rfl) xS u30 hi55 hs55 rfl Taken.no) ?_
  refine SL.a (E.fo (W.seq ?_))
  rcases hb : recB s.cps wk k with _ | b
  ·refine W.dr [pW 1, pW 1, pW 1, pX 1, pO, pO, pO, pW 1, pW 1, pW 1, pX 1, pO, pO, pO, pW 1, pW 1, pW 1, pX 1, pO, pO, pO, pO, pO, pO, pO, pO, pO, pO, pO, pO, pO, pO, pO, pO, pO] ?_
   refine WH.o rfl ?_
   refine WH.v (O.nc) ?_
   refine WH.v (O.fe 1 0 u55) ?_
   refine WH.v (O.ld1 (PtI.ofU (PtU.el rfl rfl (row_get xA))) rfl u3 rfl rfl Taken.no) ?_
   refine WH.o rfl ?_
   refine WH.v (O.eql) ?_
   refine WH.o rfl ?_
   refine WH.cs 6 true (fun hg2 => ?_) fun hg2 => ?_
   ·have hg2p := gP hg2
    refine WH.v (O.mo (tY hg2)) ?_
    refine WH.v (O.nc (tY hg2)) ?_
    refine WH.v (O.fe 3 0 u55 (tY hg2)) ?_
    refine WH.v (O.ld1 (PtI.ofU (PtU.el rfl rfl (row_get xA))) rfl u3 rfl rfl (Taken.yes rfl rfl hg2)) ?_
    refine WH.v (O.eql (tY hg2)) ?_
    refine WH.v (O.pt hg2) ?_
    refine WH.o rfl ?_
    refine WH.cs 13 true (fun hg3 => ?_) fun hg3 => ?_
    ·have hg3p := gP hg3
     refine WH.v (O.mo (tY hg3)) ?_
     refine WH.v (O.nc (tY hg3)) ?_
     refine WH.v (O.fe 7 0 u55 (tY hg3)) ?_
     refine WH.v (O.ld1 (PtI.ofU (PtU.el rfl rfl (row_get xA))) rfl u4 rfl rfl (Taken.yes rfl rfl hg3)) ?_
     refine WH.v (O.nt (tY hg3)) ?_
     refine WH.v (O.pt hg3) ?_
     refine WH.o rfl ?_
     refine WH.cs 20 true (fun hg4 => ?_) fun hg4 => ?_
     ·have hg4p := gP hg4
      refine WH.v (O.mo (tY hg4)) ?_
      refine WH.v (O.det (fun _ => G.R.ptrnil (p := none) rfl rfl xG) rfl (Taken.yes rfl rfl hg4)) ?_
      refine WH.v (O.mo (tY hg4)) ?_
      have hg5 := G.ntf
      refine WH.k hg5 (WH.k hg5 (WH.k hg5 (WH.k hg5 (WH.k hg5 (WH.k hg5 (WH.k hg5 (WH.k hg5 (WH.k hg5 ?_))))))))
      refine WH.v (O.pt rfl (tY hg4)) ?_
      refine WH.v (O.pt hg4) ?_
      refine WH.nil (E.to ?_)
      refine W.pk [(0,_),(1,_),(4,_),(6,_),(11,_),(12,_),(55,_)] [(0,_),(1,_),(2,_)] ?_
      refine W.cond_t rfl ?_
      refine W.region (SL.o (SL.a (SL.nil (E.inn (E.to (W.region ?_))))))
      refine SL.v (O.ad) ?_
      refine SL.o (SL.nil ?_)
      refine E.ag (k + 1) [] ?_ ?_ ?_ ?_
      · exact xE
      · exact wW
      ·try dsimp only
       omega
      · exact xT
     have hg4p := gP hg4
     refine WH.k hg4 (WH.k hg4 (WH.k hg4 ?_))
     refine WH.s2 ?_
     refine WH.s2 ?_
     refine WH.s2 ?_
     refine WH.s2 ?_
     refine WH.s2 ?_
     refine WH.s2 ?_
     refine WH.s2 ?_
     refine WH.s2 ?_
     refine WH.s2 ?_
     refine WH.k hg4 ?_
     refine WH.v (O.pf (G.ne_t hg4)) ?_
     refine WH.nil (E.to ?_)
     refine W.pk [(0,_),(1,_),(4,_),(6,_),(11,_),(12,_),(55,_)] [(0,_),(1,_),(2,_)] ?_
     refine W.cond_f rfl ?_
     refine W.skip (E.inn (E.to (W.region ?_)))
     refine SL.v (O.ad) ?_
     refine SL.o (SL.nil ?_)
     refine E.ag (k + 1) [] ?_ ?_ ?_ ?_
     · exact xE
     · exact wW
     ·try dsimp only
      omega
     · exact xT
    have hg3p := gP hg3
    refine WH.k hg3 (WH.k hg3 (WH.k hg3 (WH.k hg3 (WH.k hg3 ?_))))
    refine WH.v (O.pf (G.ne_t hg3)) ?_
    refine WH.o rfl ?_
    have hg6 := G.nft
    refine WH.k hg6 (WH.k hg6 (WH.k hg6 ?_))
    refine WH.s2 ?_
    refine WH.s2 ?_
    refine WH.s2 ?_
    refine WH.s2 ?_
    refine WH.s2 ?_
    refine WH.s2 ?_
    refine WH.s2 ?_
    refine WH.s2 ?_
    refine WH.s2 ?_
    refine WH.k hg6 ?_
    refine WH.v (O.pf rfl) ?_
    refine WH.nil (E.to ?_)
    refine W.pk [(0,_),(1,_),(4,_),(6,_),(11,_),(12,_),(55,_)] [(0,_),(1,_),(2,_)] ?_
    refine W.cond_f rfl ?_
    refine W.skip (E.inn (E.to (W.region ?_)))
    refine SL.v (O.ad) ?_
    refine SL.o (SL.nil ?_)
    refine E.ag (k + 1) [] ?_ ?_ ?_ ?_
    · exact xE
    · exact wW
    ·try dsimp only
     omega
    · exact xT
   have hg2p := gP hg2
   refine WH.k hg2 (WH.k hg2 (WH.k hg2 (WH.k hg2 (WH.k hg2 ?_))))
   refine WH.v (O.pf (G.ne_t hg2)) ?_
   refine WH.o rfl ?_
   have hg7 := G.nft
   refine WH.k hg7 (WH.k hg7 (WH.k hg7 (WH.k hg7 (WH.k hg7 ?_))))
   refine WH.v (O.pf rfl) ?_
   refine WH.o rfl ?_
   have hg8 := G.nft
   refine WH.k hg8 (WH.k hg8 (WH.k hg8 ?_))
   refine WH.s2 ?_
   refine WH.s2 ?_
   refine WH.s2 ?_
   refine WH.s2 ?_
   refine WH.s2 ?_
   refine WH.s2 ?_
   refine WH.s2 ?_
   refine WH.s2 ?_
   refine WH.s2 ?_
   refine WH.k hg8 ?_
   refine WH.v (O.pf rfl) ?_
   refine WH.nil (E.to ?_)
   refine W.pk [(0,_),(1,_),(4,_),(6,_),(11,_),(12,_),(55,_)] [(0,_),(1,_),(2,_)] ?_
   refine W.cond_f rfl ?_
   refine W.skip (E.inn (E.to (W.region ?_)))
   refine SL.v (O.ad) ?_
   refine SL.o (SL.nil ?_)
   refine E.ag (k + 1) [] ?_ ?_ ?_ ?_
   · exact xE
   · exact wW
   ·try dsimp only
    omega
   · exact xT
  have hbl := rec_lt hb
  refine W.dr [pW 1, pW 1, pW 1, pX 1, pO, pO, pO, pW 1, pW 1, pW 1, pX 1, pO, pO, pO, pW 1, pW 1, pW 1, pX 1, pO, pO, pO, pW 1, pX 1, pO, pW 1, pW 1, pW 1, pX 1, pW 1, pW 1, pW 1, pX 1, pO, pO, pO] ?_
  refine WH.o rfl ?_
  refine WH.v (O.nc) ?_
  refine WH.v (O.fe 1 0 u55) ?_
  refine WH.v (O.ld1 (PtI.ofU (PtU.el rfl rfl (row_get xA))) rfl u3 rfl rfl Taken.no) ?_
  refine WH.o rfl ?_
  refine WH.v (O.eql) ?_
  refine WH.o rfl ?_
  refine WH.cs 6 true (fun hg9 => ?_) fun hg9 => ?_
  ·have hg9p := gP hg9
   refine WH.v (O.mo (tY hg9)) ?_
   refine WH.v (O.nc (tY hg9)) ?_
   refine WH.v (O.fe 3 0 u55 (tY hg9)) ?_
   refine WH.v (O.ld1 (PtI.ofU (PtU.el rfl rfl (row_get xA))) rfl u3 rfl rfl (Taken.yes rfl rfl hg9)) ?_
   refine WH.v (O.eql (tY hg9)) ?_
   refine WH.v (O.pt hg9) ?_
   refine WH.o rfl ?_
   refine WH.cs 13 true (fun hg10 => ?_) fun hg10 => ?_
   ·have hg10p := gP hg10
    refine WH.v (O.mo (tY hg10)) ?_
    refine WH.v (O.nc (tY hg10)) ?_
    refine WH.v (O.fe 7 0 u55 (tY hg10)) ?_
    refine WH.v (O.ld1 (PtI.ofU (PtU.el rfl rfl (row_get xA))) rfl u4 rfl rfl (Taken.yes rfl rfl hg10)) ?_
    refine WH.v (O.nt (tY hg10)) ?_
    refine WH.v (O.pt hg10) ?_
    refine WH.o rfl ?_
    refine WH.cs 20 true (fun hg11 => ?_) fun hg11 => ?_
    ·have hg11p := gP hg11
     refine WH.v (O.mo (tY hg11)) ?_
     refine WH.v (O.ptrnil (.inr (.inr ⟨_, _, _, _, rfl⟩)) rfl xG rfl (Taken.yes rfl rfl hg11)) ?_
     refine WH.v (O.mo (tY hg11)) ?_
     have hg12 : false = false := by decide
     refine WH.v (O.mo (tY hg12)) ?_
     refine WH.v (O.nc (tY hg12)) ?_
     refine WH.v (O.fe 5 0 u55 (tY hg12)) ?_
     refine WH.v (O.ld1 (PtI.ofU (PtU.el rfl rfl (row_get xA))) rfl u3 rfl rfl (Taken.yes rfl rfl hg12)) ?_
     refine WH.v (O.mo (tY hg12)) ?_
     refine WH.v (O.nc (tY hg12)) ?_
     refine WH.v (O.fe 5 0 u55 (tY hg12)) ?_
     refine WH.v (O.ld1 (PtI.ofU (PtU.el rfl rfl (row_get xA))) rfl u3 rfl rfl (Taken.yes rfl rfl hg12)) ?_
     refine WH.v (O.lss (tY hg12)) ?_
     refine WH.v (O.pf rfl (tY hg11)) ?_
     refine WH.v (O.pt hg11) ?_
     refine WH.nil (E.to ?_)
     refine W.pk [(0,_),(1,_),(4,_),(6,_),(11,_),(12,_),(55,_)] [(0,_),(1,_),(2,_)] ?_
     refine W.cc rfl (fun hc13 => ?_) fun hc13 => ?_
     ·refine W.region (SL.o (SL.a (SL.nil (E.inn (E.to (W.region ?_))))))
      refine SL.v (O.ad) ?_
      refine SL.o (SL.nil ?_)
      refine E.ag (k + 1) [] ?_ ?_ ?_ ?_
      · exact xE
      · exact wW
      ·try dsimp only
       omega
      · exact xT
     refine W.skip (E.inn (E.to (W.region ?_)))
     refine SL.v (O.ad) ?_
     refine SL.o (SL.nil ?_)
     refine E.ag (k + 1) [] ?_ ?_ ?_ ?_
     · exact xE
     · exact wW
     ·try dsimp only
      omega
     · exact xT
    have hg11p := gP hg11
    refine WH.k hg11 (WH.k hg11 (WH.k hg11 ?_))
    refine WH.s2 ?_
    refine WH.s2 ?_
    refine WH.s2 ?_
    refine WH.s2 ?_
    refine WH.s2 ?_
    refine WH.s2 ?_
    refine WH.s2 ?_
    refine WH.s2 ?_
    refine WH.s2 ?_
    refine WH.k hg11 ?_
    refine WH.v (O.pf (G.ne_t hg11)) ?_
    refine WH.nil (E.to ?_)
    refine W.pk [(0,_),(1,_),(4,_),(6,_),(11,_),(12,_),(55,_)] [(0,_),(1,_),(2,_)] ?_
    refine W.cond_f rfl ?_
    refine W.skip (E.inn (E.to (W.region ?_)))
    refine SL.v (O.ad) ?_
    refine SL.o (SL.nil ?_)
    refine E.ag (k + 1) [] ?_ ?_ ?_ ?_
    · exact xE
    · exact wW
    ·try dsimp only
     omega
    · exact xT
   have hg10p := gP hg10
   refine WH.k hg10 (WH.k hg10 (WH.k hg10 (WH.k hg10 (WH.k hg10 ?_))))
   refine WH.v (O.pf (G.ne_t hg10)) ?_
   refine WH.o rfl ?_
   have hg14 := G.nft
   refine WH.k hg14 (WH.k hg14 (WH.k hg14 ?_))
   refine WH.s2 ?_
   refine WH.s2 ?_
   refine WH.s2 ?_
   refine WH.s2 ?_
   refine WH.s2 ?_
   refine WH.s2 ?_
   refine WH.s2 ?_
   refine WH.s2 ?_
   refine WH.s2 ?_
   refine WH.k hg14 ?_
   refine WH.v (O.pf rfl) ?_
   refine WH.nil (E.to ?_)
   refine W.pk [(0,_),(1,_),(4,_),(6,_),(11,_),(12,_),(55,_)] [(0,_),(1,_),(2,_)] ?_
   refine W.cond_f rfl ?_
   refine W.skip (E.inn (E.to (W.region ?_)))
   refine SL.v (O.ad) ?_
   refine SL.o (SL.nil ?_)
   refine E.ag (k + 1) [] ?_ ?_ ?_ ?_
   · exact xE
   · exact wW
   ·try dsimp only
    omega
   · exact xT
  have hg9p := gP hg9
  refine WH.k hg9 (WH.k hg9 (WH.k hg9 (WH.k hg9 (WH.k hg9 ?_))))
  refine WH.v (O.pf (G.ne_t hg9)) ?_
  refine WH.o rfl ?_
  have hg15 := G.nft
  refine WH.k hg15 (WH.k hg15 (WH.k hg15 (WH.k hg15 (WH.k hg15 ?_))))
  refine WH.v (O.pf rfl) ?_
  refine WH.o rfl ?_
  have hg16 := G.nft
  refine WH.k hg16 (WH.k hg16 (WH.k hg16 ?_))
  refine WH.s2 ?_
  refine WH.s2 ?_
  refine WH.s2 ?_
  refine WH.s2 ?_
  refine WH.s2 ?_
  refine WH.s2 ?_
  refine WH.s2 ?_
  refine WH.s2 ?_
  refine WH.s2 ?_
  refine WH.k hg16 ?_
  refine WH.v (O.pf rfl) ?_
  refine WH.nil (E.to ?_)
  refine W.pk [(0,_),(1,_),(4,_),(6,_),(11,_),(12,_),(55,_)] [(0,_),(1,_),(2,_)] ?_
  refine W.cond_f rfl ?_
  refine W.skip (E.inn (E.to (W.region ?_)))
  refine SL.v (O.ad) ?_
  refine SL.o (SL.nil ?_)
  refine E.ag (k + 1) [] ?_ ?_ ?_ ?_
  · exact xE
  · exact wW
  ·try dsimp only
   omega
  · exact xT
 refine W.exit (E.th (E.th (E.hit (E.to (W.seq ?_)))))
 obtain rfl : k = s.cps.length := by omega
 rcases hb : recB s.cps wk s.cps.length with _ | b
 ·refine W.region (SL.o ?_)
  refine SL.v (O.det (fun _ => G.R.ptrnn (p := none) rfl rfl xG) rfl Taken.no) ?_
  refine E.fo ?_
  refine W.cond_f rfl ?_
  refine W.skip ?_
  refine E.fin (rs := []) (rn []) (.inr rfl) rfl .nil ?_ ?_ rfl (fixL_spec rfl)
  ·rfl
  · exact (SubS.cons rfl (SubS.val rfl (by exact sb_data (by rw [recS_n hb])) (SubS.cons rfl SubS.nil)))
 have hbl := rec_lt hb
 refine W.region (SL.o ?_)
 refine SL.v (O.ptrnn (.inr (.inr ⟨_, _, _, _, rfl⟩)) rfl xG rfl Taken.no) ?_
 refine E.fo ?_
 refine W.cond_t rfl ?_
 refine W.rg (SL.o ?_)
 refine SL.v (O.nc) ?_
 refine SL.v (O.fe 7 0 u55) ?_
 refine SL.effS (O.st_els (m := 1) rfl rfl rfl (us := [_]) rfl rfl xG yE (row_get xA) xP rfl rfl (rows' := ((s.cps.map eCp).set b [uI s.cps[b]!.id, uI s.cps[b]!.work, uT s.cps[b]!.lib, uI s.cps[b]!.place, uI s.cps[b]!.pat, uI s.cps[b]!.due, uI s.cps[b]!.hold, uB true])) yT Taken.no) (S' := (1, _) :: _) rfl ?_
 refine E.fo ?_
 refine W.dr [pW 1, pW 1, pW 1, pW 1, pX 1, pW 0, pW 0, pW 0, pX 0, pO, pO, pW 1, pW 1, ⟨[1], [1], [], []⟩] ?_
 refine WH.o rfl (WH.o rfl ?_)
 refine WH.v (O.nc) ?_
 refine WH.v (O.fe 5 0 u55) ?_
 refine WH.v (O.ld1 (PtI.ofU (PtU.el rfl rfl (List.getElem?_set_self xS))) rfl u3 rfl rfl Taken.no) ?_
 refine WH.o rfl ?_
 refine WH.v (O.nc) ?_
 refine WH.v (O.fr 0 0 u33) ?_
 refine WH.v (O.l1 u3) ?_
 refine WH.v (O.ad) ?_
 refine WH.v (O.det (fun _ => G.R.min3 rfl rfl rfl) rfl Taken.no) ?_
 refine WH.v (O.nc) ?_
 refine WH.v (O.fe 5 0 u55) ?_
 refine WH.effS (O.st_els (m := 1) rfl rfl rfl (us := [_]) rfl rfl xG yE (List.getElem?_set_self xS) xP rfl rfl (rows' := (((s.cps.map eCp).set b [uI s.cps[b]!.id, uI s.cps[b]!.work, uT s.cps[b]!.lib, uI s.cps[b]!.place, uI s.cps[b]!.pat, uI s.cps[b]!.due, uI s.cps[b]!.hold, uB true]).set b [uI s.cps[b]!.id, uI s.cps[b]!.work, uT s.cps[b]!.lib, uI s.cps[b]!.place, uI s.cps[b]!.pat, uI (min (min s.cps[b]!.due (s.now + 7)) 1000000), uI s.cps[b]!.hold, uB true])) yT Taken.no) rfl rfl rfl (S' := (1, _) :: _) rfl ?_
 refine WH.nil ?_
 refine E.fin (rs := []) (rn []) (.inr rfl) rfl .nil ?_ ?_ rfl (fixL_spec rfl)
 ·rfl
 · exact (SubS.cons rfl (SubS.val rfl (by exact sb_data (by rw [recS_s hb]; exact rc_fin)) (SubS.cons rfl SubS.nil)))

end Go.Proofs.YtmekkjehkcjpdaaGreat
end
