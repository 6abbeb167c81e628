/-
  What the proof rests on: part 14 of 14.
-/
import Derived.Test.YtmekkjehkcjpdaaGreatCirculateRunP13
section
namespace Go.Proofs.YtmekkjehkcjpdaaGreat
open Go Go.RowKit Go.H Go.D57 Go.D58

theorem hcallOk11 : G.callOk Tryz.prog 11 = true := by kernel_rfl
theorem hcallOk43 : G.callOk Tryz.prog 43 = true := by kernel_rfl

def cpV (c : Cp) : List Value := [.int .i64 c.id, .int .i64 c.work, .string (G.bs c.lib), .int .i64 c.place, .int .i64 c.pat, .int .i64 c.due, .int .i64 c.hold, .bool c.rc]
theorem eqCpV (a : Cp) : eqvL (cpV a) (cpV a) = true := by
  cases a
  simp [cpV, eqvL, eqv]

set_option maxRecDepth 8000 in
theorem sameS_h {s : St} :
    Con Tryz.prog 11 [vA [uI s.now, .sl 8 (s.cps.map eCp), .sl 2 (s.lns.map eLn)], vA [uI s.now, .sl 8 (s.cps.map eCp), .sl 2 (s.lns.map eLn)]] [] (vB true) [] := by
 obtain ⟨i65, hi65, hz65, hs65, hb65⟩ := hinf65
 obtain ⟨i69, hi69, hz69, hs69, hb69⟩ := hinf69
 refine Con.en 84 Tryz.func11 fun τ w ok vs hin => ?_
 have hl0_1 := hin.lenA (i := 0) (j := 1) rfl rfl
 try rw [List.length_map] at hl0_1
 have hl0_2 := hin.lenA (i := 0) (j := 2) rfl rfl
 try rw [List.length_map] at hl0_2
 have hl1_1 := hin.lenA (i := 1) (j := 1) rfl rfl
 try rw [List.length_map] at hl1_1
 have hl1_2 := hin.lenA (i := 1) (j := 2) rfl rfl
 try rw [List.length_map] at hl1_2
 clear hin
 refine W.rg ?_
 refine SL.bx3 101 ?_
 refine SL.bx3 102 ?_
 refine SL.a (E.fo (W.seq (W.rg ?_)))
 refine SL.v (O.fr 0 0 u25) ?_
 refine SL.v (O.l1 u3) ?_
 refine SL.v (O.fr 0 0 u25) ?_
 refine SL.v (O.l1 u3) ?_
 refine SL.v (O.det (fun _ => G.R.mv (G.R.neq rfl rfl) (congrArg Value.bool (decide_eq_false vJ))) rfl Taken.no) ?_
 refine SL.o ?_
 have hg1 : false = false := by decide
 refine SL.v (O.fr 1 0 u25 (tY hg1)) ?_
 refine SL.v (O.l1 u22 (tY hg1)) ?_
 refine SL.v (O.le u22 (tY hg1)) ?_
 refine SL.v (O.fr 1 0 u25 (tY hg1)) ?_
 refine SL.v (O.l1 u22 (tY hg1)) ?_
 refine SL.v (O.le u22 (tY hg1)) ?_
 refine SL.v (O.det (fun _ => G.R.mv (G.R.neq rfl rfl) (congrArg Value.bool (decide_eq_false vJ))) rfl (Taken.yes rfl rfl hg1)) ?_
 refine SL.v (O.pf rfl) ?_
 refine SL.o ?_
 have hg2 : false = false := by decide
 refine SL.v (O.fr 2 0 u25 (tY hg2)) ?_
 refine SL.v (O.l1 u23 (tY hg2)) ?_
 refine SL.v (O.le u23 (tY hg2)) ?_
 refine SL.v (O.fr 2 0 u25 (tY hg2)) ?_
 refine SL.v (O.l1 u23 (tY hg2)) ?_
 refine SL.v (O.le u23 (tY hg2)) ?_
 refine SL.v (O.det (fun _ => G.R.mv (G.R.neq rfl rfl) (congrArg Value.bool (decide_eq_false vJ))) rfl (Taken.yes rfl rfl hg2)) ?_
 refine SL.v (O.pf rfl) ?_
 refine E.fo ?_
 refine W.pk [(2,_),(3,_),(4,_),(29,_)] [(101,_),(102,_)] ?_
 refine W.cond_f rfl ?_
 refine W.skip (E.to (W.seq (W.rg (SL.a (E.fo (W.block ?_))))))
 refine W.lq (fun (k : Nat) => [(5, vI (k : Int))]) (fun (k : Nat) => []) (fun (k : Nat) => k ≤ s.cps.length) (fun (k : Nat) => s.cps.length - k) (0) [] [(2, _), (3, _)] [(101, _), (102, _)] ?_ ?_
 ·omega
 intro k hinv
 have hk := hinv
 refine W.seq (W.rg (SL.o ?_))
 refine SL.v (O.fr 1 0 u25) ?_
 refine SL.v (O.l1 u22) ?_
 refine SL.v (O.le u22) ?_
 refine SL.v (O.lss) ?_
 refine E.fo ?_
 refine W.cc rfl (fun hc3 => ?_) fun hc3 => ?_
 ·refine W.skip (E.to (W.seq (W.block (W.seq ?_))))
  refine W.dr [pW 101, pX 101, pO, pO, pO, pW 102, pX 102, pO, pO, pO, pO] ?_
  refine WH.v (O.fr 1 0 u25) ?_
  refine WH.v (O.l1 u22) ?_
  refine WH.o rfl ?_
  refine WH.v (O.ix (i := k) u22 hi65 hs65) ?_
  refine WH.v (O.lU 8 u65) ?_
  refine WH.v (O.fr 1 0 u25) ?_
  refine WH.v (O.l1 u22) ?_
  refine WH.o rfl ?_
  refine WH.v (O.ix (i := k) u22 hi65 hs65) ?_
  refine WH.v (O.lU 8 u65) ?_
  refine WH.v (O.neAgg (ls := (cpV s.cps[k]!)) (ms := (cpV s.cps[k]!)) (r := false) (.inl rfl) (.inl rfl) xG xG xG xG (by rw [eqCpV]; rfl) rfl Taken.no) ?_
  refine WH.nil (E.to ?_)
  refine W.cond_f rfl ?_
  refine W.skip (E.inn (E.to (W.region (SL.o ?_))))
  refine SL.v (O.ad) ?_
  refine SL.a (SL.nil ?_)
  refine E.ai (k + 1) [] ?_
  ·try dsimp only
   omega
 refine W.exit (E.th (E.th (E.hit (E.to (W.seq (W.rg (SL.a (E.fo (W.block ?_)))))))))
 refine W.lq (fun (i : Nat) => [(6, vI (i : Int))]) (fun (i : Nat) => []) (fun (i : Nat) => i ≤ s.lns.length) (fun (i : Nat) => s.lns.length - i) (0) [] [(2, _), (3, _)] [(101, _), (102, _)] ?_ ?_
 ·omega
 intro i hinv
 have hi := hinv
 refine W.seq (W.rg (SL.o ?_))
 refine SL.v (O.fr 2 0 u25) ?_
 refine SL.v (O.l1 u23) ?_
 refine SL.v (O.le u23) ?_
 refine SL.v (O.lss) ?_
 refine E.fo ?_
 refine W.cc rfl (fun hc4 => ?_) fun hc4 => ?_
 ·refine W.skip (E.to (W.seq (W.block (W.seq ?_))))
  refine W.dr [pW 101, pX 101, pO, pO, pO, pO, pW 102, pX 102, pO, pO, pO, pO, pO, pO, pW 101, pX 101, pO, pO, pO, pO, pW 102, pX 102, pO, pO, pO, pO, pO, pO, pO] ?_
  refine WH.v (O.fr 2 0 u25) ?_
  refine WH.v (O.l1 u23) ?_
  refine WH.o rfl ?_
  refine WH.v (O.ix (i := i) u23 hi69 hs69) ?_
  refine WH.v (O.ff 0 u69) ?_
  refine WH.v (O.l1f u3) ?_
  refine WH.v (O.fr 2 0 u25) ?_
  refine WH.v (O.l1 u23) ?_
  refine WH.o rfl ?_
  refine WH.v (O.ix (i := i) u23 hi69 hs69) ?_
  refine WH.v (O.ff 0 u69) ?_
  refine WH.v (O.l1f u3) ?_
  refine WH.v (O.det (fun _ => G.R.mv (G.R.neq rfl rfl) (congrArg Value.bool (decide_eq_false vJ))) rfl Taken.no) ?_
  refine WH.o rfl ?_
  have hg5 : false = false := by decide
  refine WH.v (O.fr 2 0 u25 (tY hg5)) ?_
  refine WH.v (O.l1 u23 (tY hg5)) ?_
  refine WH.v (O.mo (tY hg5)) ?_
  refine WH.v (O.ix (i := i) u23 hi69 hs69 (tY hg5)) ?_
  refine WH.v (O.ff 0 u69 (tY hg5)) ?_
  refine WH.v (O.l1f u67 (tY hg5)) ?_
  refine WH.v (O.fr 2 0 u25 (tY hg5)) ?_
  refine WH.v (O.l1 u23 (tY hg5)) ?_
  refine WH.v (O.mo (tY hg5)) ?_
  refine WH.v (O.ix (i := i) u23 hi69 hs69 (tY hg5)) ?_
  refine WH.v (O.ff 0 u69 (tY hg5)) ?_
  refine WH.v (O.l1f u67 (tY hg5)) ?_
  refine WH.val (OpOk.re (i' := vB true) (O.callp rfl rfl rfl (same_h (a := s.lns[i]!.q) (b := s.lns[i]!.q)) (.cons (ArgOk.same rfl) (.cons (ArgOk.same rfl) .nil)) hcallOk43 rfl (Taken.yes rfl rfl hg5)) (by exact iv_bool (decide_eq_true rfl))) rfl rfl ?_
  refine WH.v (O.det (fun _ => G.R.mv (G.R.not rfl) rfl) rfl (Taken.yes rfl rfl hg5)) ?_
  refine WH.v (O.pf rfl) ?_
  refine WH.nil (E.to ?_)
  refine W.pk [(2,_),(3,_),(6,_),(83,_)] [(101,_),(102,_)] ?_
  refine W.cond_f rfl ?_
  refine W.skip (E.inn (E.to (W.region (SL.o ?_))))
  refine SL.v (O.ad) ?_
  refine SL.a (SL.nil ?_)
  refine E.ai (i + 1) [] ?_
  ·try dsimp only
   omega
 refine W.exit (E.th (E.th (E.hit (E.to (W.rg (SL.a (E.fo (W.ret ?_))))))))
 refine E.h1 [] ?_
 ·rfl

theorem sameE_h {a b : St} (h : a = b) : Con Tryz.prog 11 [vA [uI a.now, .sl 8 (a.cps.map eCp), .sl 2 (a.lns.map eLn)], vA [uI b.now, .sl 8 (b.cps.map eCp), .sl 2 (b.lns.map eLn)]] [] (vB true) [] := by subst h; exact sameS_h

set_option maxRecDepth 8000 in
theorem fewS_h {s : St} :
    Con Tryz.prog 7 [vA [uI s.now, .sl 8 (s.cps.map eCp), .sl 2 (s.lns.map eLn)]] [] (vB (decide (fewS s))) [] := by
 obtain ⟨i65, hi65, hz65, hs65, hb65⟩ := hinf65
 obtain ⟨i69, hi69, hz69, hs69, hb69⟩ := hinf69
 refine Con.en 57 Tryz.func7 fun τ w ok vs hin => ?_
 have hl0_1 := hin.lenA (i := 0) (j := 1) rfl rfl
 try rw [List.length_map] at hl0_1
 have hl0_2 := hin.lenA (i := 0) (j := 2) rfl rfl
 try rw [List.length_map] at hl0_2
 clear hin
 refine W.rg ?_
 refine SL.bx3 101 ?_
 refine SL.a (E.fo (W.seq (W.rg (SL.a (E.fo (W.block ?_))))))
 refine W.lq (fun (k : Nat) => [(3, vI (k : Int))]) (fun (k : Nat) => []) (fun (k : Nat) => k ≤ s.cps.length ∧ ∀ j, j < k → s.cps[j]!.lib.length ≤ 50) (fun (k : Nat) => s.cps.length - k) (0) [] [(1, _)] [(101, _)] ?_ ?_
 ·exact yG
 intro k hinv
 obtain ⟨hk, hp⟩ := hinv
 refine W.seq (W.rg (SL.o ?_))
 refine SL.v (O.fr 1 0 u25) ?_
 refine SL.v (O.l1 u22) ?_
 refine SL.v (O.le u22) ?_
 refine SL.v (O.lss) ?_
 refine E.fo ?_
 refine W.cc rfl (fun hc1 => ?_) fun hc1 => ?_
 ·refine W.skip (E.to (W.seq (W.block (W.rg ?_))))
  refine SL.v (O.fr 1 0 u25) ?_
  refine SL.v (O.l1 u22) ?_
  refine SL.o ?_
  refine SL.v (O.ix (i := k) u22 hi65 hs65) ?_
  refine SL.v (O.ff 0 u65) ?_
  refine SL.v (O.l1f u9) ?_
  refine SL.v (O.det (fun _ => G.R.lenL rfl u9) rfl Taken.no) ?_
  refine SL.v (O.gtr) ?_
  refine E.fo ?_
  refine W.cc rfl (fun hc2 => ?_) fun hc2 => ?_
  ·refine W.rg (SL.a (E.fo (W.ret ?_)))
   refine E.inr ?_
   refine E.thr (E.thr ?_)
   refine E.inr ?_
   refine E.thr ?_
   refine E.h1 [] ?_
   ·exact iv_bool (dec_f fun z => by have := z.1 k xA; omega)
  refine W.skip (E.inn (E.to (W.region (SL.o ?_))))
  refine SL.v (O.ad) ?_
  refine SL.a (SL.nil ?_)
  refine E.ai (k + 1) [] ?_
  ·try dsimp only
   exact ⟨xA, upto_s hp xA⟩
 refine W.exit (E.th (E.th (E.hit (E.to (W.seq (W.rg (SL.a (E.fo (W.block ?_)))))))))
 refine W.lq (fun (i : Nat) => [(4, vI (i : Int))]) (fun (i : Nat) => []) (fun (i : Nat) => i ≤ s.lns.length ∧ ∀ j, j < i → fewQ s.lns[j]!.q) (fun (i : Nat) => s.lns.length - i) (0) [] [(1, _)] [(101, _)] ?_ ?_
 ·exact yG
 intro i hinv
 obtain ⟨hi, hq⟩ := hinv
 refine W.seq (W.rg (SL.o ?_))
 refine SL.v (O.fr 2 0 u25) ?_
 refine SL.v (O.l1 u23) ?_
 refine SL.v (O.le u23) ?_
 refine SL.v (O.lss) ?_
 refine E.fo ?_
 refine W.cc rfl (fun hc3 => ?_) fun hc3 => ?_
 ·refine W.skip (E.to (W.seq (W.block (W.rg ?_))))
  refine SL.v (O.fr 2 0 u25) ?_
  refine SL.v (O.l1 u23) ?_
  refine SL.o ?_
  refine SL.v (O.ix (i := i) u23 hi69 hs69) ?_
  refine SL.v (O.ff 0 u69) ?_
  refine SL.v (O.l1f u67) ?_
  refine SL.v (O.cp (q := few_h (q := s.lns[i]!.q))) ?_
  refine SL.v (O.nt) ?_
  refine E.fo ?_
  refine W.cc rfl (fun hc4 => ?_) fun hc4 => ?_
  ·refine W.rg (SL.a (E.fo (W.ret ?_)))
   refine E.inr ?_
   refine E.thr (E.thr ?_)
   refine E.inr ?_
   refine E.thr ?_
   refine E.h1 [] ?_
   ·exact iv_bool (dec_f fun z => by have := z.2.1 i xA; simp_all)
  refine W.skip (E.inn (E.to (W.region (SL.o ?_))))
  refine SL.v (O.ad) ?_
  refine SL.a (SL.nil ?_)
  refine E.ai (i + 1) [] ?_
  ·try dsimp only
   exact ⟨xA, upto_s hq xV⟩
 refine W.exit (E.th (E.th (E.hit (E.to (W.rg ?_)))))
 refine SL.v (O.fr 1 0 u25) ?_
 refine SL.v (O.l1 u22) ?_
 refine SL.v (O.le u22) ?_
 refine SL.v (O.leq) ?_
 refine SL.o ?_
 refine SL.cs 4 false (fun hg5 => ?_) fun hg5 => ?_
 ·have hg5p := gP hg5
  refine SL.v (O.fr 1 0 u25 (tY hg5)) ?_
  refine SL.v (O.l1 u22 (tY hg5)) ?_
  refine SL.v (O.le u22 (tY hg5)) ?_
  refine SL.v (O.eql (tY hg5)) ?_
  refine SL.v (O.pf hg5) ?_
  refine SL.o ?_
  refine SL.cs 10 false (fun hg6 => ?_) fun hg6 => ?_
  ·have hg6p := gP hg6
   refine SL.v (O.fr 1 0 u25 (tY hg6)) ?_
   refine SL.v (O.l1 u22 (tY hg6)) ?_
   refine SL.v (O.le u22 (tY hg6)) ?_
   refine SL.v (O.eql (tY hg6)) ?_
   refine SL.v (O.pf hg6) ?_
   refine SL.o ?_
   refine SL.cs 16 true (fun hg7 => ?_) fun hg7 => ?_
   ·have hg7p := gP hg7
    refine SL.v (O.fr 2 0 u25 (tY hg7)) ?_
    refine SL.v (O.l1 u23 (tY hg7)) ?_
    refine SL.v (O.le u23 (tY hg7)) ?_
    refine SL.v (O.leq (tY hg7)) ?_
    refine SL.v (O.pt hg7) ?_
    refine SL.a (E.fo ?_)
    refine W.pk [(2,_)] [(101,_)] ?_
    refine W.ret ?_
    refine E.h1 [] ?_
    ·exact yM
   have hg7p := gP hg7
   refine SL.k hg7 (SL.k hg7 (SL.k hg7 (SL.k hg7 ?_)))
   refine SL.v (O.pf (G.ne_t hg7)) ?_
   refine SL.a (E.fo ?_)
   refine W.pk [(2,_)] [(101,_)] ?_
   refine W.ret ?_
   refine E.h1 [] ?_
   ·exact yM
  have hg6p := gP hg6
  refine SL.k hg6 (SL.k hg6 (SL.k hg6 (SL.k hg6 ?_)))
  refine SL.v (O.pt (G.ne_f hg6)) ?_
  refine SL.o ?_
  have hg8 : true = true := by decide
  refine SL.v (O.fr 2 0 u25 (tY hg8)) ?_
  refine SL.v (O.l1 u23 (tY hg8)) ?_
  refine SL.v (O.le u23 (tY hg8)) ?_
  refine SL.v (O.leq (tY hg8)) ?_
  refine SL.v (O.pt rfl) ?_
  refine SL.a (E.fo ?_)
  refine W.pk [(2,_)] [(101,_)] ?_
  refine W.ret ?_
  refine E.h1 [] ?_
  ·exact yM
 have hg5p := gP hg5
 refine SL.k hg5 (SL.k hg5 (SL.k hg5 (SL.k hg5 ?_)))
 refine SL.v (O.pt (G.ne_f hg5)) ?_
 refine SL.o ?_
 have hg9 := G.ntf
 refine SL.k hg9 (SL.k hg9 (SL.k hg9 (SL.k hg9 ?_)))
 refine SL.v (O.pt rfl) ?_
 refine SL.o ?_
 have hg10 : true = true := by decide
 refine SL.v (O.fr 2 0 u25 (tY hg10)) ?_
 refine SL.v (O.l1 u23 (tY hg10)) ?_
 refine SL.v (O.le u23 (tY hg10)) ?_
 refine SL.v (O.leq (tY hg10)) ?_
 refine SL.v (O.pt rfl) ?_
 refine SL.a (E.fo ?_)
 refine W.pk [(2,_)] [(101,_)] ?_
 refine W.ret ?_
 refine E.h1 [] ?_
 ·exact yM

set_option maxRecDepth 8000 in
theorem ownS_h {s : St} (hc : s.cps.length ≤ 1000) (hl : s.lns.length ≤ 1000) (hq : ∀ l ∈ s.lns, l.q.length ≤ 100) :
    Con Tryz.prog 9 [vA [uI s.now, .sl 8 (s.cps.map eCp), .sl 2 (s.lns.map eLn)]] [] (.agg [vI (s).now, vL 8 ((s).cps.map eCp), vL 2 ((s).lns.map eLn)]) [] := by
 obtain ⟨i55, hi55, hz55, hs55, hb55⟩ := hinf55
 obtain ⟨i65, hi65, hz65, hs65, hb65⟩ := hinf65
 obtain ⟨i69, hi69, hz69, hs69, hb69⟩ := hinf69
 obtain ⟨i79, hi79, hz79, hs79, hb79⟩ := hinf79
 refine Con.en 45 Tryz.func9 fun τ w ok vs hin => ?_
 have hl0_1 := hin.lenA (i := 0) (j := 1) rfl rfl
 try rw [List.length_map] at hl0_1
 have hl0_2 := hin.lenA (i := 0) (j := 2) rfl rfl
 try rw [List.length_map] at hl0_2
 clear hin
 refine W.rg ?_
 refine SL.bx3 101 ?_
 refine SL.al9 102 ?_
 refine E.fo (W.rg ?_)
 refine SL.v (O.fr 0 0 u25) ?_
 refine SL.v (O.l1 u3) ?_
 refine SL.v (O.bd6 u33) ?_
 refine SL.al9 103 ?_
 refine SL.st3_3 103 ?_
 refine E.fo (W.seq (W.rg ?_))
 refine SL.v (O.fr 1 0 u25) ?_
 refine SL.v (O.l1 u22) ?_
 refine SL.v (O.le u22) ?_
 refine SL.o (E.fo (W.block ?_))
 refine W.adoptC 103 1 105 55 8 (is' := [_, _, _]) xI rfl rfl rfl rfl rfl ?_
 refine W.lq (fun (k : Nat) => [(14, vI (k : Int))]) (fun (k : Nat) => [(104, .data 55 8 ((s.cps.take k).map eCp)), (103, .cells 33 [vI s.now, .own 104, .u (.sc (.slice none 0 0))])]) (fun (k : Nat) => k ≤ s.cps.length) (fun (k : Nat) => s.cps.length - k) (0) [(104, 105)] [(1, _), (2, _), (3, _), (12, _), (13, _)] [(101, _), (102, _)] ?_ ?_
 ·omega
 intro k hinv
 have hk := hinv
 have htl : (s.cps.take k).length = k := by rw [List.length_take]; omega
 refine W.rg ?_
 refine SL.v (O.lss) ?_
 refine E.fo (W.seq ?_)
 refine W.cc rfl (fun hc1 => ?_) fun hc1 => ?_
 ·refine W.skip (E.to (W.seq (W.block (W.rg ?_))))
  refine SL.v (O.ix (i := k) u22 hi65 hs65) ?_
  refine SL.v (O.lU 8 u65) ?_
  refine SL.al3 106 ?_
  refine SL.st8_8 106 ?_
  refine E.fo (W.region ?_)
  refine SL.v (O.fr 1 0 u33) ?_
  refine SL.v (O.l1 u30) ?_
  refine SL.v (O.n8 u65) ?_
  refine SL.memS (O.buildSlice 107 (rows := [s.cps[k]!].map eCp) rfl rfl u30 hi55 hz55 hs55 xI rfl xI rfl rfl rfl Taken.no) rfl rfl (S' := (107, .data 55 8 ([s.cps[k]!].map eCp)) :: _) rfl ?_
  refine SL.memS (O.app (k' := 108) rfl rfl (SlOf.own rfl rfl) u30 hi55 hz55 hs55 rfl rfl zT (by rw [hb55]; (simp only [List.length_map, List.length_singleton]; omega)) yI rfl Taken.no) rfl rfl (S' := (108, _) :: (104, .dead) :: _) rfl ?_
  refine SL.v (O.fr 1 0 u33) ?_
  refine SL.st1_3 103 ?_
  refine SL.nil (E.inn (E.to (W.region ?_)))
  refine SL.v (O.ad) ?_
  refine SL.o (SL.nil ?_)
  refine E.ag (k + 1) [(104, 108)] ?_ ?_ ?_ ?_
  · exact zH
  · exact (SubS.val rfl zS (SubS.cons rfl (SubS.cons rfl (SubS.cons rfl SubS.nil))))
  ·try dsimp only
   omega
  · exact xT
 refine W.exit (E.th (E.th (E.hit (E.to (W.seq (W.rg ?_))))))
 refine SL.v (O.fr 2 0 u25) ?_
 refine SL.v (O.l1 u23) ?_
 refine SL.v (O.le u23) ?_
 refine SL.o (E.fo (W.block ?_))
 refine W.adoptC 103 2 111 79 2 (is' := [_, _, _]) xI rfl rfl rfl rfl rfl ?_
 refine W.lp (fun (i : Nat) => [(28, vI (i : Int))]) (fun (i : Nat) => [(109, .data 55 8 (s.cps.map eCp)), (110, .data 79 2 ((s.lns.take i).map eLn)), (103, .cells 33 [vI s.now, .own 109, .own 110])]) (fun (i : Nat) => i ≤ s.lns.length) (fun (i : Nat) => s.lns.length - i) (0) [(109, 104), (110, 111)] [(2, _), (3, _), (26, _), (27, _)] [(101, _), (102, _)] ?_ ?_ ?_ ?_
 · exact zH
 · exact (SubS.val rfl zP (SubS.cons rfl (SubS.cons rfl SubS.nil)))
 ·omega
 intro i hinv
 have hi := hinv
 have hti : (s.lns.take i).length = i := by rw [List.length_take]; omega
 refine W.rg ?_
 refine SL.v (O.lss) ?_
 refine E.fo (W.seq ?_)
 refine W.cc rfl (fun hc2 => ?_) fun hc2 => ?_
 ·have hqi := hq s.lns[i]! (at_mem xA)
  refine W.skip (E.to (W.seq (W.block (W.rg ?_))))
  refine SL.v (O.ix (i := i) u23 hi69 hs69) ?_
  refine SL.v (O.lU 2 u69) ?_
  refine SL.al7 112 ?_
  refine SL.st2_2 112 ?_
  refine E.fo ?_
  refine W.dr [pW 103, ⟨[103], [], [], [110]⟩, pW 112, pX 112, pW 112, pX 112, pO, pO, ⟨[113], [113], [113], []⟩, ⟨[110, 113, 114], [110, 114], [114], []⟩, pW 103, ⟨[103, 109, 114], [103], [], []⟩] ?_
  refine WH.v (O.fr 2 0 u33) ?_
  refine WH.v (O.l1 u31) ?_
  refine WH.v (O.fr 0 0 u69) ?_
  refine WH.v (O.l1 u3) ?_
  refine WH.v (O.fr 1 0 u69) ?_
  refine WH.v (O.l1 u67) ?_
  refine WH.v (O.cp (q := own_h (q := s.lns[i]!.q) xA)) ?_
  refine WH.v (O.bd5 u79) ?_
  refine WH.memS (O.buildSlice 113 (rows := [s.lns[i]!].map eLn) rfl rfl u31 hi79 hz79 hs79 xI rfl xI rfl rfl rfl Taken.no) rfl rfl rfl rfl rfl (S' := (113, .data 79 2 ([s.lns[i]!].map eLn)) :: _) rfl ?_
  refine WH.memS (O.app (k' := 114) rfl rfl (SlOf.own rfl rfl) u31 hi79 hz79 hs79 rfl rfl zT (by rw [hb79]; (simp only [List.length_map, List.length_singleton]; omega)) yI rfl Taken.no) rfl rfl rfl rfl rfl (S' := (114, _) :: (110, .dead) :: _) rfl ?_
  refine WH.v (O.fr 2 0 u33) ?_
  refine WH.st1_3 103 ?_
  refine WH.nil (E.inn (E.to (W.region ?_)))
  refine SL.v (O.ad) ?_
  refine SL.o (SL.nil ?_)
  refine E.ag (i + 1) [(110, 114)] ?_ ?_ ?_ ?_
  · exact zH
  · exact (SubS.cons rfl (SubS.val rfl zS (SubS.cons rfl (SubS.cons rfl (SubS.cons rfl SubS.nil)))))
  ·try dsimp only
   omega
  · exact xT
 refine W.exit (E.th (E.th (E.hit (E.to (W.rg ?_)))))
 refine SL.v (O.n3 u33) ?_
 refine SL.st3_3 102 ?_
 refine E.fo (W.ret ?_)
 refine E.freezeC 102 1 109 (is' := [_, _, _]) rfl rfl rfl rfl ?_
 refine E.freezeC 102 2 110 (is' := [_, _, _]) rfl rfl rfl rfl ?_
 refine E.j1 [] rfl (ResOne.c3 u33) ?_
 ·rw [show i = s.lns.length by omega, List.take_length]; rfl

set_option maxRecDepth 8000 in
theorem theirsS_h {s : St} (hc : s.cps.length ≤ 1000) (hl : s.lns.length ≤ 1000) (hq : ∀ l ∈ s.lns, l.q.length ≤ 100) :
    Con Tryz.prog 12 [vA [uI s.now, .sl 8 (s.cps.map eCp), .sl 2 (s.lns.map eLn)]] [] (.agg [vI (s).now, vL 8 ((s).cps.map eCp), vL 2 ((s).lns.map eLn)]) [] := by
 obtain ⟨i55, hi55, hz55, hs55, hb55⟩ := hinf55
 obtain ⟨i65, hi65, hz65, hs65, hb65⟩ := hinf65
 obtain ⟨i69, hi69, hz69, hs69, hb69⟩ := hinf69
 obtain ⟨i79, hi79, hz79, hs79, hb79⟩ := hinf79
 refine Con.en 45 Tryz.func12 fun τ w ok vs hin => ?_
 have hl0_1 := hin.lenA (i := 0) (j := 1) rfl rfl
 try rw [List.length_map] at hl0_1
 have hl0_2 := hin.lenA (i := 0) (j := 2) rfl rfl
 try rw [List.length_map] at hl0_2
 clear hin
 refine W.rg ?_
 refine SL.bx3 101 ?_
 refine SL.al9 102 ?_
 refine E.fo (W.rg ?_)
 refine SL.v (O.fr 0 0 u33) ?_
 refine SL.v (O.l1 u3) ?_
 refine SL.v (O.bd6 u25) ?_
 refine SL.al9 103 ?_
 refine SL.st3_3 103 ?_
 refine E.fo (W.seq (W.rg ?_))
 refine SL.v (O.fr 1 0 u33) ?_
 refine SL.v (O.l1 u30) ?_
 refine SL.v (O.le u30) ?_
 refine SL.o (E.fo (W.block ?_))
 refine W.adoptC 103 1 105 65 8 (is' := [_, _, _]) xI rfl rfl rfl rfl rfl ?_
 refine W.lq (fun (k : Nat) => [(14, vI (k : Int))]) (fun (k : Nat) => [(104, .data 65 8 ((s.cps.take k).map eCp)), (103, .cells 25 [vI s.now, .own 104, .u (.sc (.slice none 0 0))])]) (fun (k : Nat) => k ≤ s.cps.length) (fun (k : Nat) => s.cps.length - k) (0) [(104, 105)] [(1, _), (2, _), (3, _), (12, _), (13, _)] [(101, _), (102, _)] ?_ ?_
 ·omega
 intro k hinv
 have hk := hinv
 have htl : (s.cps.take k).length = k := by rw [List.length_take]; omega
 refine W.rg ?_
 refine SL.v (O.lss) ?_
 refine E.fo (W.seq ?_)
 refine W.cc rfl (fun hc1 => ?_) fun hc1 => ?_
 ·refine W.skip (E.to (W.seq (W.block (W.rg ?_))))
  refine SL.v (O.ix (i := k) u30 hi55 hs55) ?_
  refine SL.v (O.lU 8 u55) ?_
  refine SL.al3 106 ?_
  refine SL.st8_8 106 ?_
  refine E.fo (W.region ?_)
  refine SL.v (O.fr 1 0 u25) ?_
  refine SL.v (O.l1 u22) ?_
  refine SL.v (O.n8 u55) ?_
  refine SL.memS (O.buildSlice 107 (rows := [s.cps[k]!].map eCp) rfl rfl u22 hi65 hz65 hs65 xI rfl xI rfl rfl rfl Taken.no) rfl rfl (S' := (107, .data 65 8 ([s.cps[k]!].map eCp)) :: _) rfl ?_
  refine SL.memS (O.app (k' := 108) rfl rfl (SlOf.own rfl rfl) u22 hi65 hz65 hs65 rfl rfl zT (by rw [hb65]; (simp only [List.length_map, List.length_singleton]; omega)) yI rfl Taken.no) rfl rfl (S' := (108, _) :: (104, .dead) :: _) rfl ?_
  refine SL.v (O.fr 1 0 u25) ?_
  refine SL.st1_3 103 ?_
  refine SL.nil (E.inn (E.to (W.region ?_)))
  refine SL.v (O.ad) ?_
  refine SL.o (SL.nil ?_)
  refine E.ag (k + 1) [(104, 108)] ?_ ?_ ?_ ?_
  · exact zH
  · exact (SubS.val rfl zS (SubS.cons rfl (SubS.cons rfl (SubS.cons rfl SubS.nil))))
  ·try dsimp only
   omega
  · exact xT
 refine W.exit (E.th (E.th (E.hit (E.to (W.seq (W.rg ?_))))))
 refine SL.v (O.fr 2 0 u33) ?_
 refine SL.v (O.l1 u31) ?_
 refine SL.v (O.le u31) ?_
 refine SL.o (E.fo (W.block ?_))
 refine W.adoptC 103 2 111 69 2 (is' := [_, _, _]) xI rfl rfl rfl rfl rfl ?_
 refine W.lp (fun (i : Nat) => [(28, vI (i : Int))]) (fun (i : Nat) => [(109, .data 65 8 (s.cps.map eCp)), (110, .data 69 2 ((s.lns.take i).map eLn)), (103, .cells 25 [vI s.now, .own 109, .own 110])]) (fun (i : Nat) => i ≤ s.lns.length) (fun (i : Nat) => s.lns.length - i) (0) [(109, 104), (110, 111)] [(2, _), (3, _), (26, _), (27, _)] [(101, _), (102, _)] ?_ ?_ ?_ ?_
 · exact zH
 · exact (SubS.val rfl zP (SubS.cons rfl (SubS.cons rfl SubS.nil)))
 ·omega
 intro i hinv
 have hi := hinv
 have hti : (s.lns.take i).length = i := by rw [List.length_take]; omega
 refine W.rg ?_
 refine SL.v (O.lss) ?_
 refine E.fo (W.seq ?_)
 refine W.cc rfl (fun hc2 => ?_) fun hc2 => ?_
 ·have hqi := hq s.lns[i]! (at_mem xA)
  refine W.skip (E.to (W.seq (W.block (W.rg ?_))))
  refine SL.v (O.ix (i := i) u31 hi79 hs79) ?_
  refine SL.v (O.lU 2 u79) ?_
  refine SL.al7 112 ?_
  refine SL.st2_2 112 ?_
  refine E.fo ?_
  refine W.dr [pW 103, ⟨[103], [], [], [110]⟩, pW 112, pX 112, pW 112, pX 112, pO, pO, ⟨[113], [113], [113], []⟩, ⟨[110, 113, 114], [110, 114], [114], []⟩, pW 103, ⟨[103, 109, 114], [103], [], []⟩] ?_
  refine WH.v (O.fr 2 0 u25) ?_
  refine WH.v (O.l1 u23) ?_
  refine WH.v (O.fr 0 0 u79) ?_
  refine WH.v (O.l1 u3) ?_
  refine WH.v (O.fr 1 0 u79) ?_
  refine WH.v (O.l1 u59) ?_
  refine WH.v (O.cp (q := theirs_h (q := s.lns[i]!.q) xA)) ?_
  refine WH.v (O.bd5 u69) ?_
  refine WH.memS (O.buildSlice 113 (rows := [s.lns[i]!].map eLn) rfl rfl u23 hi69 hz69 hs69 xI rfl xI rfl rfl rfl Taken.no) rfl rfl rfl rfl rfl (S' := (113, .data 69 2 ([s.lns[i]!].map eLn)) :: _) rfl ?_
  refine WH.memS (O.app (k' := 114) rfl rfl (SlOf.own rfl rfl) u23 hi69 hz69 hs69 rfl rfl zT zE yI rfl Taken.no) rfl rfl rfl rfl rfl (S' := (114, _) :: (110, .dead) :: _) rfl ?_
  refine WH.v (O.fr 2 0 u25) ?_
  refine WH.st1_3 103 ?_
  refine WH.nil (E.inn (E.to (W.region ?_)))
  refine SL.v (O.ad) ?_
  refine SL.o (SL.nil ?_)
  refine E.ag (i + 1) [(110, 114)] ?_ ?_ ?_ ?_
  · exact zH
  · exact (SubS.cons rfl (SubS.val rfl zS (SubS.cons rfl (SubS.cons rfl (SubS.cons rfl SubS.nil)))))
  ·try dsimp only
   omega
  · exact xT
 refine W.exit (E.th (E.th (E.hit (E.to (W.rg ?_)))))
 refine SL.v (O.n3 u25) ?_
 refine SL.st3_3 102 ?_
 refine E.fo (W.ret ?_)
 refine E.freezeC 102 1 109 (is' := [_, _, _]) rfl rfl rfl rfl ?_
 refine E.freezeC 102 2 110 (is' := [_, _, _]) rfl rfl rfl rfl ?_
 refine E.j1 [] rfl (ResOne.c3 u25) ?_
 ·rw [show i = s.lns.length by omega, List.take_length]; rfl

set_option maxRecDepth 8000 in
theorem steps_h {l : List Sp} (hl : l.length ≤ 1000) :
    Con Tryz.prog 15 [vL 8 (l.map eSp)] [] (vL 8 (l.map eSp)) [] := by
 obtain ⟨i27, hi27, hz27, hs27, hb27⟩ := hinf27
 obtain ⟨i38, hi38, hz38, hs38, hb38⟩ := hinf38
 refine Con.en 18 Tryz.func15 fun τ w ok vs hin => ?_
 have hl0 := hin.len (i := 0) rfl
 try rw [List.length_map] at hl0
 clear hin
 refine W.rg (SL.a (E.fo (W.rg (SL.a (E.fo (W.seq (W.rg (SL.o ?_))))))))
 refine SL.v (O.le u44) ?_
 refine SL.o (E.fo (W.block ?_))
 refine W.adopt 3 102 38 8 xI rfl rfl rfl ?_
 refine W.lq (fun (k : Nat) => [(8, vI (k : Int)), (3, .own 101)]) (fun (k : Nat) => [(101, .data 38 8 ((l.take k).map eSp))]) (fun (k : Nat) => k ≤ l.length) (fun (k : Nat) => l.length - k) (0) [(101, 102)] [(2, _), (6, _), (7, _)] [] ?_ ?_
 ·omega
 intro k hinv
 have hk := hinv
 have htl : (l.take k).length = k := by rw [List.length_take]; omega
 refine W.rg ?_
 refine SL.v (O.lss) ?_
 refine E.fo (W.seq ?_)
 refine W.cc rfl (fun hc1 => ?_) fun hc1 => ?_
 ·refine W.skip (E.to (W.seq (W.block (W.rg ?_))))
  refine SL.v (O.ix (i := k) u44 hi27 hs27) ?_
  refine SL.v (O.lU 8 u27) ?_
  refine SL.al8 103 ?_
  refine SL.st8_8 103 ?_
  refine E.fo (W.region (SL.o ?_))
  refine SL.v (O.n8 u27) ?_
  refine SL.memS (O.buildSlice 104 (rows := [l[k]!].map eSp) rfl rfl u48 hi38 hz38 hs38 xI rfl xI rfl rfl rfl Taken.no) rfl rfl (S' := (104, .data 38 8 ([l[k]!].map eSp)) :: _) rfl ?_
  refine SL.memS (O.app (k' := 105) rfl rfl (SlOf.own rfl rfl) u48 hi38 hz38 hs38 rfl rfl zT (by rw [hb38]; (simp only [List.length_map, List.length_singleton]; omega)) yI rfl Taken.no) rfl rfl (S' := (105, _) :: (101, .dead) :: _) rfl ?_
  refine SL.a (SL.nil (E.inn (E.to (W.region ?_))))
  refine SL.v (O.ad) ?_
  refine SL.o (SL.nil ?_)
  refine E.ag (k + 1) [(101, 105)] ?_ ?_ ?_ ?_
  · exact zH
  · exact (SubS.val rfl zS SubS.nil)
  ·try dsimp only
   omega
  · exact xT
 refine W.exit (E.th (E.th (E.hit (E.to (W.rg (SL.o (SL.a (E.fo (W.ret ?_)))))))))
 refine E.freeze 101 rfl (F' := [(2, _)]) (⟨⟨_, rfl, rfl⟩, trivial⟩) ?_
 refine E.h1 [] ?_
 ·rw [show k = l.length by omega, List.take_length]; rfl


set_option maxRecDepth 8000 in
theorem lawRun_h {s : St} {l : List Sp} :
    Con Tryz.prog 4 [vA [uI s.now, .sl 8 (s.cps.map eCp), .sl 2 (s.lns.map eLn)], vL 8 (l.map eSp)] [] (vB true) [] := by
 obtain ⟨i27, hi27, hz27, hs27, hb27⟩ := hinf27
 refine Con.en 109 Tryz.func4 fun τ w ok vs hin => ?_
 have hl0_1 := hin.lenA (i := 0) (j := 1) rfl rfl
 try rw [List.length_map] at hl0_1
 have hl0_2 := hin.lenA (i := 0) (j := 2) rfl rfl
 try rw [List.length_map] at hl0_2
 have hl1 := hin.len (i := 1) rfl
 try rw [List.length_map] at hl1
 clear hin
 refine W.rg ?_
 refine SL.bx3 101 ?_
 refine SL.a (E.fo (W.seq (W.rg ?_)))
 refine SL.v (O.cp (q := awake_h)) ?_
 refine SL.as (i' := vB true) 17 rfl (by exact iv_bool (rfl)) ?_
 refine SL.v (O.det (fun _ => G.R.mv (G.R.not rfl) rfl) rfl Taken.no) ?_
 refine SL.o ?_
 have hg1 : false = false := by decide
 refine SL.v (O.n3 u25 (tY hg1)) ?_
 refine SL.v (O.cp (q := fewS_h (s := s)) (hg := (tY hg1))) ?_
 refine SL.v (O.nt (tY hg1)) ?_
 refine SL.v (O.pf rfl) ?_
 refine SL.o ?_
 refine SL.cs 7 false (fun hg2 => ?_) fun hg2 => ?_
 ·have hg2p := gP hg2
  refine SL.v (O.mo (tY hg2)) ?_
  refine SL.v (O.cp (q := fewSteps_h (l := l)) (hg := (tY hg2))) ?_
  refine SL.v (O.nt (tY hg2)) ?_
  refine SL.v (O.pf hg2) ?_
  refine E.fo ?_
  refine W.cc rfl (fun hc3 => ?_) fun hc3 => ?_
  ·refine W.rg ?_
   refine SL.v (O.cp (q := awake_h)) ?_
   refine SL.as (i' := vB true) 29 rfl (by exact iv_bool (rfl)) ?_
   refine SL.a (E.fo (W.ret (E.thr ?_)))
   refine E.h1 [] ?_
   ·rfl
  have hfb := fewS_b (s := s) xV
  have hfl : fewL l := by first | assumption | simp_all
  have hxl : ∀ j, j < l.length → l[j]!.lib.length ≤ 1000 := fun j hj => by have := hfl.1 j hj; omega
  have hl30 := hfl.2
  have hvd := valid_b (runF_valid s l)
  have hnl := runF_le s l
  refine W.skip (E.to (W.rg ?_))
  refine SL.v (O.n3 u25) ?_
  refine SL.cl [] [] (.agg [.u _, .u _, .u _]) _ (q := ownS_h (s := s) hfb.1 hfb.2.1 hfb.2.2.1)  (h := ?_)
  refine SL.o ?_
  refine SL.v (O.cp (q := steps_h (l := l) xA)) ?_
  refine SL.cl [] [] (.tup [.agg [.u _, .u _, .u _], .u _, .u _]) _ (q := run_h (s := s) (l := l))  (h := ?_)
  refine SL.o ?_
  refine SL.v (O.ex) ?_
  refine SL.v (O.ex) ?_
  refine SL.v (O.ex) ?_
  refine SL.al9 102 ?_
  refine SL.st3_3 102 ?_
  refine SL.a (SL.a (E.fo ?_))
  refine W.pk [(1,_),(2,_),(4,_),(5,_),(6,_),(7,_)] [(101,_),(102,_)] ?_
  refine W.rg ?_
  refine SL.v (O.n3 u25) ?_
  refine SL.o ?_
  refine SL.cl [] [] (.tup [.agg [.u _, .u _, .u _], .u _, .u _]) _ (q := refrun_h (s := s) (l := l) hfb.1 hfb.2.1 hfb.2.2.1 hfb.2.2.2 hxl)  (h := ?_)
  refine SL.o ?_
  refine SL.v (O.ex) ?_
  refine SL.v (O.ex) ?_
  refine SL.v (O.ex) ?_
  refine SL.al9 103 ?_
  refine SL.st3_3 103 ?_
  refine SL.a (SL.a (E.fo (W.seq (W.seq ?_))))
  refine W.dr [pX 102, pO, pX 103, pO, pO, pO, pO, pO, pO, pO, pO, pO, pO, pO, pO] ?_
  refine WH.v (O.n3 u33) ?_
  refine WH.cl [] [] (.agg [.u _, .u _, .u _]) _ (q := theirsS_h (s := (runF s l).1) hvd.1 hvd.2.1 hvd.2.2.1)  (h := ?_)
  refine WH.v (O.n3 u25) ?_
  refine WH.val (OpOk.re (i' := vB true) (O.callp rfl rfl rfl (sameS_h (s := (runF s l).1)) (.cons (ArgOk.aggU (.cons (ArgOk.same rfl) (.cons (ArgOk.same rfl) (.cons (ArgOk.same rfl) .nil)))) (.cons (ArgOk.aggU (.cons (ArgOk.same rfl) (.cons (ArgOk.same rfl) (.cons (ArgOk.same rfl) .nil)))) .nil)) hcallOk11 rfl Taken.no) (by exact iv_bool (rfl))) rfl rfl ?_
  refine WH.v (O.det (fun _ => G.R.mv (G.R.not rfl) rfl) rfl Taken.no) ?_
  refine WH.o rfl ?_
  have hg4 : false = false := by decide
  refine WH.v (O.mo (tY hg4)) ?_
  refine WH.v (O.mo (tY hg4)) ?_
  refine WH.v (O.det (fun _ => G.R.mv (G.R.neq rfl rfl) (congrArg Value.bool (decide_eq_false vJ))) rfl (Taken.yes rfl rfl hg4)) ?_
  refine WH.v (O.pf rfl) ?_
  refine WH.o rfl ?_
  have hg5 : false = false := by decide
  refine WH.v (O.mo (tY hg5)) ?_
  refine WH.v (O.mo (tY hg5)) ?_
  refine WH.v (O.det (fun _ => G.R.mv (G.R.neq rfl rfl) (congrArg Value.bool (decide_eq_false vJ))) rfl (Taken.yes rfl rfl hg5)) ?_
  refine WH.v (O.pf rfl) ?_
  refine WH.nil (E.to ?_)
  refine W.pk [(1,_),(2,_),(4,_),(6,_),(7,_),(8,_),(60,_)] [(101,_),(102,_),(103,_)] ?_
  refine W.cond_f rfl ?_
  refine W.skip (E.to (W.seq (W.rg ?_)))
  refine SL.v (O.n3 u25) ?_
  refine SL.v (O.cp (q := refvalidS_h (s := s) hfb.1 hfb.2.1 hfb.2.2.1 hfb.2.2.2)) ?_
  refine SL.v (O.nt) ?_
  refine E.fo ?_
  refine W.cc rfl (fun hc6 => ?_) fun hc6 => ?_
  ·refine W.rg (SL.o ?_)
   refine SL.v (O.det (fun _ => G.R.mv (G.R.eql rfl rfl) (congrArg Value.bool (decide_eq_true (by exact runF_no xV)))) rfl Taken.no) ?_
   refine SL.a (E.fo (W.ret (E.thr ?_)))
   refine E.h1 [] ?_
   ·rfl
  have hv : validS s := by first | assumption | simp_all
  have hrf : runF s l = runR s (l.drop 0) 0 := if_pos hv
  refine W.skip (E.to (W.rg ?_))
  refine SL.v (O.n3 u25) ?_
  refine SL.cl [] [] (.agg [.u _, .u _, .u _]) _ (q := ownS_h (s := s) hfb.1 hfb.2.1 hfb.2.2.1)  (h := ?_)
  refine SL.al9 104 ?_
  refine SL.st3_3 104 ?_
  refine E.fo (W.seq (W.rg (SL.o (SL.o (E.fo (W.block ?_))))))
  refine W.loopx2 (fun (k : Nat) (t : St) => [(69, vI (k : Int))]) (fun (k : Nat) (t : St) => [(104, .cells 33 [vI t.now, vL 8 (t.cps.map eCp), vL 2 (t.lns.map eLn)])]) (fun (k : Nat) (t : St) => k ≤ (runF s l).2.1 ∧ validS t ∧ runF s l = runR t (l.drop k) k) (fun (k : Nat) (t : St) => (runF s l).2.1 - k) (0) (s) (rn []) (.cons (t := 1) rfl (.cons (t := 6) rfl (.cons (t := 7) rfl (.cons (t := 8) rfl (.cons (t := 11) rfl (.cons (t := 68) rfl .nil)))))) (.cons (t := 101) rfl (.cons (t := 102) rfl (.cons (t := 103) rfl .nil))) rfl ?_ ?_ rfl rfl ?_ ?_
  · exact zH
  · exact wW
  ·exact ⟨xA, hv, hrf⟩
  intro k t hinv
  obtain ⟨hk, ht, hr⟩ := hinv
  refine W.rg ?_
  refine SL.v (O.lss) ?_
  refine E.fo (W.seq ?_)
  refine W.cc rfl (fun hc7 => ?_) fun hc7 => ?_
  ·have hmo := run_more (t := t) (l := l) (k := k) (by rw [← hr]; omega)
   refine W.skip (E.to (W.seq (W.block (W.rg (SL.o (SL.a (E.fo (W.seq ?_))))))))
   refine W.dr [pX 104, pO, pO, pO, pO, pO, pO, pO, pO, ⟨[105], [105], [105], []⟩, ⟨[105], [105], [], []⟩, pO] ?_
   refine WH.v (O.n3 u33) ?_
   refine WH.o rfl (WH.o rfl ?_)
   refine WH.v (O.idx_fz (i := k) rfl rfl (rfl) (row_get (by exact hmo.1)) u44 hi27 hs27 rfl Taken.no) ?_
   refine WH.v (O.lU 8 u27) ?_
   refine WH.cl [] [] (.tup [.agg [.u _, .u _, .u _], .u _]) _ (q := do_h (s := t) (x := l[k]!))  (h := ?_)
   refine WH.o rfl ?_
   refine WH.v (O.ex) ?_
   refine WH.v (O.ex) ?_
   refine WH.al9 105 ?_
   refine WH.st3_3 105 ?_
   refine WH.v (O.as1) ?_
   refine WH.nil (E.to (W.seq (W.rg (SL.o ?_))))
   refine SL.v (O.det (fun _ => G.R.mv (G.R.neq rfl rfl) (congrArg Value.bool (decide_eq_false (by exact fun z => z hmo.2)))) rfl Taken.no) ?_
   refine E.fo ?_
   refine W.cond_f rfl ?_
   refine W.skip (E.to (W.region ?_))
   refine SL.v (O.n3 u33) ?_
   refine SL.st3_3 104 ?_
   refine SL.nil (E.inn (E.to (W.region ?_)))
   refine SL.v (O.ad) ?_
   refine SL.o (SL.nil ?_)
   refine E.ai ((k + 1), (doS t l[k]!)) [] ?_
   ·try dsimp only
    exact ⟨xA, do_valid hmo.2, hr.trans (run_at hmo.1 hmo.2)⟩
  have hnk : (runF s l).2.1 = k := by omega
  have hfx := run_fix (t := t) (l := l) (k := k) (by rw [← hr]; omega)
  rw [← hr] at hfx
  have hvt := valid_b ht
  refine W.exit (E.th (E.th (E.hit (E.to (W.seq (W.rg (SL.o (SL.o ?_))))))))
  refine SL.v (O.le u44) ?_
  refine SL.v (O.lss) ?_
  refine E.fo ?_
  refine W.cc rfl (fun hc8 => ?_) fun hc8 => ?_
  ·refine W.seq ?_
   refine W.dr [pX 104, pO, pO, pO, pO, pO, pO, pO, pO, ⟨[106], [106], [106], []⟩, ⟨[106], [106], [], []⟩, pO] ?_
   refine WH.v (O.n3 u33) ?_
   refine WH.o rfl (WH.o rfl ?_)
   refine WH.v (O.idx_fz (i := k) rfl rfl xA (row_get xA) u44 hi27 hs27 rfl Taken.no) ?_
   refine WH.v (O.lU 8 u27) ?_
   refine WH.cl [] [] (.tup [.agg [.u _, .u _, .u _], .u _]) _ (q := do_h (s := t) (x := l[k]!))  (h := ?_)
   refine WH.o rfl ?_
   refine WH.v (O.ex) ?_
   refine WH.v (O.ex) ?_
   refine WH.al9 106 ?_
   refine WH.st3_3 106 ?_
   refine WH.v (O.as1) ?_
   refine WH.nil (E.to (W.rg (SL.o (SL.o ?_))))
   refine SL.v (O.det (fun _ => G.R.mv (G.R.neq rfl rfl) (congrArg Value.bool (decide_eq_false (by exact fun z => z (hfx.2 xA).2.symm)))) rfl Taken.no) ?_
   refine SL.o ?_
   have hg9 : false = false := by decide
   refine SL.v (O.mo (tY hg9)) ?_
   refine SL.v (O.det (fun _ => G.R.mv (G.R.eql rfl rfl) (congrArg Value.bool (decide_eq_false (by have z := hfx.2 xA; rw [z.2]; exact z.1)))) rfl (Taken.yes rfl rfl hg9)) ?_
   refine SL.v (O.pf rfl) ?_
   refine E.fo ?_
   refine W.pk [(8,_),(11,_),(104,_)] [(101,_),(102,_),(103,_),(104,_),(106,_)] ?_
   refine W.cond_f rfl ?_
   refine W.skip (E.to (W.seq ?_))
   refine W.dr [pX 104, pO, pX 103, pO, pO] ?_
   refine WH.v (O.n3 u33) ?_
   refine WH.cl [] [] (.agg [.u _, .u _, .u _]) _ (q := theirsS_h (s := t) hvt.1 hvt.2.1 hvt.2.2.1)  (h := ?_)
   refine WH.v (O.n3 u25) ?_
   refine WH.v (O.cp (q := sameE_h (a := t) (b := (runF s l).1) hfx.1.symm)) ?_
   refine WH.v (O.as1) ?_
   refine WH.nil (E.to (W.ret ?_))
   refine E.h1 [] ?_
   ·rfl
  refine W.skip (E.to (W.seq ?_))
  refine W.dr [pX 104, pO, pX 103, pO, pO] ?_
  refine WH.v (O.n3 u33) ?_
  refine WH.cl [] [] (.agg [.u _, .u _, .u _]) _ (q := theirsS_h (s := t) hvt.1 hvt.2.1 hvt.2.2.1)  (h := ?_)
  refine WH.v (O.n3 u25) ?_
  refine WH.v (O.cp (q := sameE_h (a := t) (b := (runF s l).1) hfx.1.symm)) ?_
  refine WH.v (O.as1) ?_
  refine WH.nil (E.to (W.ret ?_))
  refine E.h1 [] ?_
  ·rfl
 have hg2p := gP hg2
 refine SL.k hg2 (SL.k hg2 (SL.k hg2 ?_))
 refine SL.v (O.pt (G.ne_f hg2)) ?_
 refine E.fo ?_
 refine W.cond_t rfl ?_
 refine W.rg ?_
 refine SL.v (O.cp (q := awake_h)) ?_
 refine SL.as (i' := vB true) 29 rfl (by exact iv_bool (rfl)) ?_
 refine SL.a (E.fo (W.ret (E.thr ?_)))
 refine E.h1 [] ?_
 ·rfl


end Go.Proofs.YtmekkjehkcjpdaaGreat
end
