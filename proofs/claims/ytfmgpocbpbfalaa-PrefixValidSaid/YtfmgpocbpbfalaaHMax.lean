/-
  The greater of two.
-/
import Derived.Test.YtfmgpocbpbfalaaHMore
namespace Go.G
open Go Go.RowKit
variable {P : Program} {w : World} {F : Frm} {ty : TypeId}
theorem R.max2 {x y : Operand} {t t2 : TypeId} {k : IntKind} {a b : Int} (hx : ev F x = some (.int k a)) (hy : ev F y = some (.int k b)) :
    Runs P w F (.call { callee := .builtin .max, args := #[x, y], argTypes := #[t, t2] }) ty (.int k (if a < b then b else a)) := fun o ρ ho hty hρ => by
  have hmx : x ∈ (Op.call { callee := .builtin .max, args := #[x, y], argTypes := #[t, t2] }).operands := by simp [Op.operands, Call.operands]
  have hmy : y ∈ (Op.call { callee := .builtin .max, args := #[x, y], argTypes := #[t, t2] }).operands := by simp [Op.operands, Call.operands]
  simp only [execOp, ho, resolve, Sem.run_bind, Sem.run_pure, Result.andThen_ok, invoke, List.map_toArray, List.map_cons, List.map_nil, hρ x hmx _ hx, hρ y hmy _ hy]
  simp [builtin, Builtin.max_, Builtin.max2]
end Go.G
