/-
  Arrays built from their parts.
-/
import Derived.Test.YtfmgpocbpbfalaaHEq
namespace Go.G
open Go Go.RowKit
section
variable {n : Nat} {P : Program} {F : Frm} {w : World} {ty : TypeId}
theorem R.buildA {t e : TypeId} {N m : Nat} {inf : TypeInfo} {parts : List (Nat × Operand)} {vs : List Value} {cs : List Value} {z : Value} (hv : evs F (parts.map (·.2)) = some vs) (ht : P.underlying t = some (.array N e)) (hz : (P.info? t).bind (·.zero) = some z)
    (hi : P.info? e = some inf) (hs : inf.size = m) (hfill : Instr.fill (fun i => some (i * m, m)) z.cells ((parts.map (·.1)).zip vs) = some cs.toArray) :
    Runs P w F (.build t parts.toArray) ty (.agg cs.toArray) := fun o ρ ho _ hρ => by
  obtain ⟨i, hi', hz⟩ := Option.bind_eq_some_iff.1 hz
  have hpp : parts.map (fun (i, x) => (i, ρ x)) = (parts.map (·.1)).zip vs := evs_parts parts vs (fun x hx => hρ x (by simpa [Op.operands] using hx)) hv
  simp only [execOp, ho, List.map_toArray, hpp]
  simp only [Instr.build, Sem.run_bind, zeroValue, sizeOf, typeInfo, show (program : Sem Program).run P w = .ok P w from rfl, Result.andThen_ok, hi', hi, hz, Sem.run_pure, run_underlying ht, hs, hfill]
theorem R.idx_arrA {x y : Operand} {t e : TypeId} {len : Nat} {k : IntKind} {ad : Addr} {i m : Nat} (hx : ev F x = some (.pointer (some ad))) (hy : ev F y = some (.int k (i : Int))) (hi' : i < len)
    (ht : P.underlying t = some (.array len e)) (hm : (P.info? e).map (·.size) = some m) : Runs P w F (.indexAddr t x y) ty (.pointer (some (ad.add (i * m)))) := fun op ρ ho _ hρ => by
  obtain ⟨inf, he, hs⟩ := Option.map_eq_some_iff.1 hm
  simp only [execOp, ho, hρ x (by simp [Op.operands]) _ hx, hρ y (by simp [Op.operands]) _ hy]
  simp [Instr.indexAt, asIntOf, run_underlying ht, sizeOf, typeInfo, he, hs, hi', Instr.sureAddr]
end
end Go.G
namespace Go.H
open Go Go.RowKit
section
variable {c : Ctx} {P : Program} {F : Frm} {S : Sto} {ops : Array Oper} {d : Nat} {ty : TypeId} {pos : String} {af : Array Edge} {gd : Option (Nat × Bool)}
theorem O.buildA {t e : TypeId} {N m : Nat} {inf : TypeInfo} {parts : List (Nat × Operand)} {is res : List IV} {z : Value} (hv : evs F (parts.map (·.2)) = some is) (hj : is.all notJunk = true) (ht : P.underlying t = some (.array N e)) (hz : (P.info? t).bind (·.zero) = some z)
    (hi : P.info? e = some inf) (hs : inf.size = m) (hfill : fillI (fun i => some (i * m, m)) (z.cells.toList.map fun v => .u (.sc v)) ((parts.map (·.1)).zip is) = some res) (hd : Nat.blt d c.n = true) (hg : Taken ops F gd) :
    OpOk c P ops ⟨some d, .build t parts.toArray, ty, pos, af, gd⟩ F S [] [] (some (.agg res)) [] :=
  OpOk.runs hd hg fun σ τ a w hA hB h => by
    obtain ⟨g1, g2⟩ := evs_all h hA (args := parts.map (·.2)) (fun x hx => by simpa [Op.operands] using hx) hv
    obtain ⟨rv, q1, q2⟩ := fill_rep (ps := parts.map (·.1)) (AllI.sc z.cells.toList) g1 (fun i hi e => by have := List.all_eq_true.1 hj i hi; subst e; simp [notJunk] at this) hfill
    exact ⟨_, G.R.buildA g2 ht hz hi hs (by rw [← q1]), .agg q2.1 q2.2⟩
theorem O.idx_ref {x y : Operand} {t e : TypeId} {k : IntKind} {kk off o' len i m : Nat} {ii : Int} (hx : ev F x = some (.ref kk off)) (hy : ev F y = some (.u (.sc (.int k ii)))) (hii : ii = (i : Int)) (hlt : i < len)
    (ht : P.underlying t = some (.array len e)) (hm : (P.info? e).map (·.size) = some m) (he : off + i * m = o') (hd : Nat.blt d c.n = true) (hg : Taken ops F gd) : OpOk c P ops ⟨some d, .indexAddr t x y, ty, pos, af, gd⟩ F S [] [] (some (.ref kk o')) [] :=
  OpOk.runs hd hg fun σ τ a w hA _ h => by
    subst he; subst hii
    obtain ⟨h1, h2⟩ := h.opd hA (by simp [Op.operands]) hx
    have hy2 := (h.sc hA (by simp [Op.operands]) hy).2
    generalize a.eval x = v at h1 h2
    cases h1 with
    | ref hk => exact ⟨_, G.R.idx_arrA h2 hy2 hlt ht hm, by rw [Addr.add_lit]; exact .ref hk⟩
theorem O.idx_el {x y : Operand} {t e : TypeId} {k : IntKind} {kk sz q off o' len i m : Nat} {ii : Int} (hx : ev F x = some (.el kk sz q off)) (hy : ev F y = some (.u (.sc (.int k ii)))) (hii : ii = (i : Int)) (hlt : i < len)
    (ht : P.underlying t = some (.array len e)) (hm : (P.info? e).map (·.size) = some m) (he : off + i * m = o') (hd : Nat.blt d c.n = true) (hg : Taken ops F gd) : OpOk c P ops ⟨some d, .indexAddr t x y, ty, pos, af, gd⟩ F S [] [] (some (.el kk sz q o')) [] :=
  OpOk.runs hd hg fun σ τ a w hA _ h => by
    subst he; subst hii
    obtain ⟨h1, h2⟩ := h.opd hA (by simp [Op.operands]) hx
    have hy2 := (h.sc hA (by simp [Op.operands]) hy).2
    generalize a.eval x = v at h1 h2
    cases h1 with
    | el hk => exact ⟨_, G.R.idx_arrA h2 hy2 hlt ht hm, by rw [Addr.add_lit, Nat.add_assoc]; exact .el hk⟩
theorem O.idx_ptr {x y : Operand} {t e : TypeId} {k : IntKind} {us vs : List UV} {len i m : Nat} {ii : Int} (hx : ev F x = some (.u (.ptr us))) (hy : ev F y = some (.u (.sc (.int k ii)))) (hii : ii = (i : Int)) (hlt : i < len)
    (ht : P.underlying t = some (.array len e)) (hm : (P.info? e).map (·.size) = some m) (he : us.drop (i * m) = vs) (hd : Nat.blt d c.n = true) (hg : Taken ops F gd) : OpOk c P ops ⟨some d, .indexAddr t x y, ty, pos, af, gd⟩ F S [] [] (some (.u (.ptr vs))) [] :=
  OpOk.runs hd hg fun σ τ a w hA _ h => by
    subst he; subst hii
    obtain ⟨h1, h2⟩ := h.opd hA (by simp [Op.operands]) hx
    have hy2 := (h.sc hA (by simp [Op.operands]) hy).2
    cases h1 with
    | u h1 =>
      generalize a.eval x = v at h1 h2
      have h0 := h1
      cases h1 with
      | ptr => exact ⟨_, G.R.idx_arrA h2 hy2 hlt ht hm, .u (ptr_drop h0 _)⟩
end
end Go.H
