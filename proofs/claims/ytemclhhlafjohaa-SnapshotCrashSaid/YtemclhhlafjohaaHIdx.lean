/-
  An element of an array's value.
-/
import Derived.Test.YtemclhhlafjohaaHFreeze
namespace Go.G
open Go Go.RowKit
section
variable {n : Nat} {P : Program} {F : Frm} {w : World} {ty : TypeId}
theorem R.idxval {x y : Operand} {t e : TypeId} {len i : Nat} {k : IntKind} {cs : List Value} {u : Value} {dd : TypeDesc} (hx : ev F x = some (.agg cs.toArray)) (hy : ev F y = some (.int k (i : Int))) (hi : i < len) (ht : P.underlying t = some (.array len e))
    (he : (P.info? e).map (·.size) = some 1) (ho : cs[i]? = some u) (hd : P.underlying e = some dd) (ha : aggD dd = false) : Runs P w F (.index t x y) ty u := fun op ρ ho' _ hρ => by
  obtain ⟨inf, hinf, hs⟩ := Option.map_eq_some_iff.1 he
  simp only [execOp, ho', hρ x (by simp [Op.operands]) _ hx, hρ y (by simp [Op.operands]) _ hy]
  simp [Instr.index, asIntOf, run_underlying ht, hi, sizeOf, typeInfo, hinf, hs, part, run_isAgg' hd, ha, ho]
end
end Go.G
namespace Go.H
open Go Go.RowKit
section
variable {c : Ctx} {P : Program} {F : Frm} {S : Sto} {ops : Array Oper} {d : Nat} {ty : TypeId} {pos : String} {af : Array Edge} {gd : Option (Nat × Bool)}
theorem O.idxval {x y : Operand} {t e : TypeId} {k : IntKind} {ii : Int} {len i : Nat} {dd : TypeDesc} {i0 j : IV} (hx : ev F x = some i0) (hy : ev F y = some (.u (.sc (.int k ii)))) (hii : ii = (i : Int)) (hi : i < len) (hj : i0.fld i = some j)
    (ht : P.underlying t = some (.array len e)) (he : (P.info? e).map (·.size) = some 1) (hty : P.underlying e = some dd) (hag : G.aggD dd = false) (hd : Nat.blt d c.n = true) (hg : Taken ops F gd) : OpOk c P ops ⟨some d, .index t x y, ty, pos, af, gd⟩ F S [] [] (some j) [] :=
  OpOk.runs hd hg fun σ τ a w hA _ h => by
    subst hii
    obtain ⟨h1, h2⟩ := h.opd hA (by simp [Op.operands]) hx
    have hy2 := (h.sc hA (by simp [Op.operands]) hy).2
    obtain ⟨vs, u, e, q1, q2⟩ := h1.fld hj
    rw [e] at h2
    exact ⟨u, G.R.idxval h2 hy2 hi ht he q1 hty hag, q2⟩
end
end Go.H
