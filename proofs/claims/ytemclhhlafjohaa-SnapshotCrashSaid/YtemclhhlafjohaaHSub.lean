/-
  The end of an array that is read only, as a slice.
-/
import Derived.Test.YtemclhhlafjohaaHFreeze
import Derived.Laws.Pointers
namespace Go.G
open Go Go.RowKit
section
variable {n : Nat} {P : Program} {F : Frm} {w : World} {ty : TypeId}
theorem R.sub_arr_lo {x y : Operand} {t e : TypeId} {len i : Nat} {k : IntKind} {ad : Addr} (hx : ev F x = some (.pointer (some ad))) (hy : ev F y = some (.int k (i : Int))) (hi : i < len) (ht : P.underlying t = some (.array len e)) (he : (P.info? e).map (·.size) = some 1) :
    Runs P w F (.slice t x (some y) none none) ty (.slice (some (ad.add i)) (len - i) (len - i)) := fun op ρ ho _ hρ => by
  obtain ⟨inf, hinf, hs⟩ := Option.map_eq_some_iff.1 he
  simp only [execOp, ho, hρ x (by simp [Op.operands]) _ hx, Option.map_none, Option.map_some, hρ y (by simp [Op.operands]) _ hy]
  have h1 : ¬ ((len : Int) < (i : Int)) := by omega
  have h2 : len ≠ i := by omega
  have h3 : len - i ≠ 0 := by omega
  simp [Instr.sliceAt, run_underlying ht, Instr.sureAddr, Instr.sliceBounds, Instr.sliceBound, asIntOf, sizeOf, typeInfo, hinf, hs, h2, show i ≤ len by omega]
theorem R.ptrnil {tx t' : TypeId} {x y : Operand} {p : Option Addr} (hx : ev F x = some (.pointer p)) (hy : ev F y = some (.pointer none)) (ht : P.underlying tx = some (.pointer (P.pointee tx))) :
    Runs P w F (.binOp .eql tx x y t') ty (.bool p.isNone) := fun o ρ ho _ hρ => by
  simp only [execOp, ho, hρ x (by simp [Op.operands]) _ hx, hρ y (by simp [Op.operands]) _ hy]
  have h1 : (eqGuard .eql tx x y (.pointer p) (.pointer none)).run P w = .ok () w := by
    unfold eqGuard; split <;> rfl
  have h2 : (Op.equal tx (.pointer p) (.pointer none)).run P w = .ok p.isNone w := run_equalIn_pointer_nil w (9998 + 1) tx p ht
  simp [Sem.run_bind, h1, binOp, h2]
theorem R.ptrnn {tx t' : TypeId} {x y : Operand} {p : Option Addr} (hx : ev F x = some (.pointer p)) (hy : ev F y = some (.pointer none)) (ht : P.underlying tx = some (.pointer (P.pointee tx))) :
    Runs P w F (.binOp .neq tx x y t') ty (.bool (!p.isNone)) := fun o ρ ho _ hρ => by
  simp only [execOp, ho, hρ x (by simp [Op.operands]) _ hx, hρ y (by simp [Op.operands]) _ hy]
  have h1 : (eqGuard .neq tx x y (.pointer p) (.pointer none)).run P w = .ok () w := by
    unfold eqGuard; split <;> rfl
  have h2 : (Op.equal tx (.pointer p) (.pointer none)).run P w = .ok p.isNone w := run_equalIn_pointer_nil w (9998 + 1) tx p ht
  simp [Sem.run_bind, h1, binOp, h2]
end
end Go.G
namespace Go.H
open Go Go.RowKit
section
variable {c : Ctx} {P : Program} {F : Frm} {S : Sto} {ops : Array Oper} {d : Nat} {ty : TypeId} {pos : String} {af : Array Edge} {gd : Option (Nat × Bool)} {w : World} {ok : Nat → Prop}
theorem ptr_sl {us : List UV} {a : Addr} (h : RepU w ok (.ptr us) (.pointer (some a))) (hne : us ≠ []) (hl : us.length ≤ maxLen) : RepU w ok (.sl 1 (us.map fun u => [u])) (.slice (some a) us.length us.length) := by
  have hf : (us.map fun u => [u]).flatten = us := by
    clear h hne hl
    induction us with
    | nil => rfl
    | cons u r ih => rw [List.map_cons, List.flatten_cons, ih]; rfl
  cases h with
  | ptr h5 hb ho hc hu =>
    have := RepU.sl (w := w) (ok := ok) (sz := 1) (rows := us.map fun u => [u]) (a := a) (c := us.length) (by simpa using hne) (by simp) hl (fun r hr => by obtain ⟨u, _, rfl⟩ := List.mem_map.1 hr; rfl) (by decide) (by rw [hf]; exact h5) hb ho (by rw [hf]; exact hc) (by rw [hf]; exact hu)
    simpa using this
theorem O.sub_ptr {x y : Operand} {t e : TypeId} {k : IntKind} {us : List UV} {len i : Nat} {ii : Int} {rows : List (List UV)} (hx : ev F x = some (.u (.ptr us))) (hy : ev F y = some (.u (.sc (.int k ii)))) (hii : ii = (i : Int)) (hlt : i < len) (hul : us.length = len) (hm : len ≤ maxLen) (hr : (us.drop i).map (fun u => [u]) = rows)
    (ht : P.underlying t = some (.array len e)) (he : (P.info? e).map (·.size) = some 1) (hd : Nat.blt d c.n = true) (hg : Taken ops F gd) : OpOk c P ops ⟨some d, .slice t x (some y) none none, ty, pos, af, gd⟩ F S [] [] (some (.u (.sl 1 rows))) [] :=
  OpOk.runs hd hg fun σ τ a w hA _ h => by
    subst hii; subst hr
    obtain ⟨h1, h2⟩ := h.opd hA (by simp [Op.operands]) hx
    have hy2 := (h.sc hA (by simp [Op.operands]) hy).2
    cases h1 with
    | u h1 =>
      generalize a.eval x = v at h1 h2
      have h0 := h1
      cases h1 with
      | ptr =>
        have hs := ptr_sl (ptr_drop h0 i) (fun e => by
          have := congrArg List.length e
          simp at this; omega) (by rw [List.length_drop]; omega)
        rw [List.length_drop, hul] at hs
        exact ⟨_, G.R.sub_arr_lo h2 hy2 hlt ht he, .u hs⟩
/-- A slot with an address. -/
def PtrOf (F : Frm) (x : Operand) : Prop := (∃ k o, ev F x = some (.ref k o)) ∨ (∃ us, ev F x = some (.u (.ptr us))) ∨ ∃ k s i o, ev F x = some (.el k s i o)
theorem PtrOf.val {x : Operand} {o : Oper} {σ : Sig} {τ : Nat → Value} {a : Act} (hx : PtrOf F x) (h : SatT c σ τ a w) (hA : AgreeF (o.looksAt ops) F σ) (hm : x ∈ o.op.operands) : ∃ ad, G.ev (actF a) x = some (.pointer (some ad)) := by
  rcases hx with ⟨k, q, hx⟩ | ⟨us, hx⟩ | ⟨k, s, i, q, hx⟩
  · obtain ⟨h1, h2⟩ := h.opd hA hm hx
    generalize a.eval x = v at h1 h2
    cases h1 with
    | ref => exact ⟨_, h2⟩
  · obtain ⟨h1, h2⟩ := h.opd hA hm hx
    generalize a.eval x = v at h1 h2
    cases h1 with
    | u h1 =>
      cases h1 with
      | ptr => exact ⟨_, h2⟩
  · obtain ⟨h1, h2⟩ := h.opd hA hm hx
    generalize a.eval x = v at h1 h2
    cases h1 with
    | el => exact ⟨_, h2⟩
theorem O.ptrnil {tx t' : TypeId} {x y : Operand} (hx : PtrOf F x) (hy : ev F y = some (.u (.sc (.pointer none)))) (ht : P.underlying tx = some (.pointer (P.pointee tx))) (hd : Nat.blt d c.n = true) (hg : Taken ops F gd) :
    OpOk c P ops ⟨some d, .binOp .eql tx x y t', ty, pos, af, gd⟩ F S [] [] (some (.u (.sc (.bool false)))) [] :=
  OpOk.runs hd hg fun σ τ a w hA _ h => by
    obtain ⟨ad, h2⟩ := hx.val h hA (by simp [Op.operands])
    exact ⟨_, G.R.ptrnil h2 (h.sc hA (by simp [Op.operands]) hy).2 ht, .u (.sc _)⟩
theorem O.ptrnn {tx t' : TypeId} {x y : Operand} (hx : PtrOf F x) (hy : ev F y = some (.u (.sc (.pointer none)))) (ht : P.underlying tx = some (.pointer (P.pointee tx))) (hd : Nat.blt d c.n = true) (hg : Taken ops F gd) :
    OpOk c P ops ⟨some d, .binOp .neq tx x y t', ty, pos, af, gd⟩ F S [] [] (some (.u (.sc (.bool true)))) [] :=
  OpOk.runs hd hg fun σ τ a w hA _ h => by
    obtain ⟨ad, h2⟩ := hx.val h hA (by simp [Op.operands])
    exact ⟨_, G.R.ptrnn h2 (h.sc hA (by simp [Op.operands]) hy).2 ht, .u (.sc _)⟩
end
end Go.H
