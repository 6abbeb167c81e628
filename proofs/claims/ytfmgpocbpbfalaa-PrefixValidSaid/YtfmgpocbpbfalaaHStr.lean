/-
  Strings, written as lists of bytes.
-/
import Derived.Test.YtfmgpocbpbfalaaHFreeze
namespace Go.G
open Go Go.RowKit
/-- The string of these bytes. -/
@[reducible] def bs (l : List UInt8) : ByteArray := ⟨⟨l⟩⟩
theorem bs_toList (l : List UInt8) : (bs l).toList = l := by
  rw [Go.ByteArray.toList_eq]
theorem bs_size (l : List UInt8) : (bs l).size = l.length := rfl
theorem bs_app (a b : List UInt8) : bs a ++ bs b = bs (a ++ b) := by
  apply ByteArray.ext
  apply Array.ext'
  simp
theorem bs_sub (l : List UInt8) (i j : Nat) : (bs l).extract i j = bs ((l.take j).drop i) := by
  apply ByteArray.ext
  apply Array.ext'
  simp [List.drop_take]
section
variable {P : Program} {F : Frm} {w : World} {ty : TypeId}
theorem R.streqL {tx t' : TypeId} {x y : Operand} {a b : List UInt8} (hx : ev F x = some (.string (bs a))) (hy : ev F y = some (.string (bs b))) : Runs P w F (.binOp .eql tx x y t') ty (.bool (decide (a = b))) := by
  have := R.streq (P := P) (w := w) (ty := ty) (tx := tx) (t' := t') hx hy
  rwa [bs_toList, bs_toList] at this
theorem R.strneL {tx t' : TypeId} {x y : Operand} {a b : List UInt8} (hx : ev F x = some (.string (bs a))) (hy : ev F y = some (.string (bs b))) : Runs P w F (.binOp .neq tx x y t') ty (.bool (decide (a ≠ b))) := by
  have := R.strne (P := P) (w := w) (ty := ty) (tx := tx) (t' := t') hx hy
  rw [bs_toList, bs_toList] at this
  rwa [show decide (a ≠ b) = !decide (a = b) by simp]
theorem R.strltL {tx t' : TypeId} {x y : Operand} {a b : List UInt8} (hx : ev F x = some (.string (bs a))) (hy : ev F y = some (.string (bs b))) : Runs P w F (.binOp .lss tx x y t') ty (.bool (Op.bytesLess a b)) := by
  have := R.strlt (P := P) (w := w) (ty := ty) (tx := tx) (t' := t') hx hy
  rwa [bs_toList, bs_toList] at this
theorem R.strgeL {tx t' : TypeId} {x y : Operand} {a b : List UInt8} (hx : ev F x = some (.string (bs a))) (hy : ev F y = some (.string (bs b))) : Runs P w F (.binOp .geq tx x y t') ty (.bool (!Op.bytesLess a b)) := by
  have : Runs P w F (.binOp .geq tx x y t') ty (.bool (!Op.bytesLess (bs a).toList (bs b).toList)) := R.str hx hy (by simp [binOp, Op.stringOp])
  rwa [bs_toList, bs_toList] at this
theorem R.strcatL {tx t' : TypeId} {x y : Operand} {a b : List UInt8} (hx : ev F x = some (.string (bs a))) (hy : ev F y = some (.string (bs b))) (h : a.length + b.length ≤ 9223372036854775807) : Runs P w F (.binOp .add tx x y t') ty (.string (bs (a ++ b))) := by
  have := R.strcat (P := P) (w := w) (ty := ty) (tx := tx) (t' := t') hx hy h
  rwa [bs_app] at this
theorem R.lenL {x : Operand} {t : TypeId} {a : List UInt8} (hx : ev F x = some (.string (bs a))) (ht : P.underlying t = some .string) : Runs P w F (.call { callee := .builtin .len, args := #[x], argTypes := #[t] }) ty (.int .i64 (a.length : Int)) := R.len_str hx ht
theorem R.stridxL {x y : Operand} {t : TypeId} {a : List UInt8} {k : IntKind} {i : Nat} (hx : ev F x = some (.string (bs a))) (hy : ev F y = some (.int k (i : Int))) (ht : P.underlying t = some .string) (hi : i < a.length) : Runs P w F (.index t x y) ty (.int .u8 (a[i]!).toNat) := R.stridx hx hy ht hi
theorem R.strsubL {x l h : Operand} {t : TypeId} {a : List UInt8} {k k' : IntKind} {i j : Nat} (hx : ev F x = some (.string (bs a))) (hl : ev F l = some (.int k (i : Int))) (hh : ev F h = some (.int k' (j : Int))) (ht : P.underlying t = some .string) (h1 : i ≤ j) (h2 : j ≤ a.length) :
    Runs P w F (.slice t x (some l) (some h) none) ty (.string (bs ((a.take j).drop i))) := by
  have := R.strsub (ty := ty) (w := w) hx hl hh ht h1 h2
  rwa [bs_sub] at this
theorem R.strfromL {x l : Operand} {t : TypeId} {a : List UInt8} {k : IntKind} {i : Nat} (hx : ev F x = some (.string (bs a))) (hl : ev F l = some (.int k (i : Int))) (ht : P.underlying t = some .string) (h1 : i ≤ a.length) :
    Runs P w F (.slice t x (some l) none none) ty (.string (bs (a.drop i))) := fun o ρ ho _ hρ => by
  have h2 : i ≤ (bs a).size := h1
  have e : (bs a).extract i (bs a).size = bs (a.drop i) := by
    rw [bs_sub, bs_size, List.take_length]
  simp only [execOp, ho, hρ x (by simp [Op.operands]) _ hx, hρ l (by simp [Op.operands]) _ hl, Option.map_some, Option.map_none]
  rw [← e]
  simp [Instr.sliceAt, Instr.slice, Instr.sliceBounds, Instr.sliceBound, asIntOf, run_underlying ht, h2]
theorem R.strtoL {x h : Operand} {t : TypeId} {a : List UInt8} {k : IntKind} {j : Nat} (hx : ev F x = some (.string (bs a))) (hh : ev F h = some (.int k (j : Int))) (ht : P.underlying t = some .string) (h1 : j ≤ a.length) :
    Runs P w F (.slice t x none (some h) none) ty (.string (bs (a.take j))) := fun o ρ ho _ hρ => by
  have h2 : j ≤ (bs a).size := h1
  have e : (bs a).extract 0 j = bs (a.take j) := by rw [bs_sub, List.drop_zero]
  simp only [execOp, ho, hρ x (by simp [Op.operands]) _ hx, hρ h (by simp [Op.operands]) _ hh, Option.map_some, Option.map_none]
  rw [← e]
  simp [Instr.sliceAt, Instr.slice, Instr.sliceBounds, Instr.sliceBound, asIntOf, run_underlying ht, h2]
end
end Go.G
namespace Go.H
open Go Go.RowKit
open Go.G (bs)
abbrev uT (s : List UInt8) : UV := .sc (.string (bs s))
abbrev vT (s : List UInt8) : IV := .u (uT s)
abbrev eStr (s : List UInt8) : List UV := [uT s]
theorem iv_t {a b : List UInt8} (h : a = b) : vT a = vT b := by rw [h]
section
variable {c : Ctx} {P : Program} {F : Frm} {S : Sto} {ops : Array Oper} {T N : List Nat}
/-- A result that is as well something else. -/
theorem Sat.rep {σ : Sig} {a : Act} {w : World} {d : Option Nat} {i i' : IV} {δ : Chg} (hr : ∀ τ w ok v, RepI τ w ok i v → RepI τ w ok i' v) (h : Sat c (σ.upd d (some i) δ) a w) : Sat c (σ.upd d (some i') δ) a w := by
  obtain ⟨τ, h⟩ := h
  refine ⟨τ, h.size, h.defers, h.gr, fun t j hl => ?_, h.sto, h.inj, h.own, h.pin⟩
  by_cases e : d = some t
  · subst e
    have hj : i' = j := by simpa [Sig.upd] using hl
    subst hj
    obtain ⟨u, h1, h2⟩ := h.slot t i (by simp [Sig.upd])
    exact ⟨u, h1, hr _ _ _ _ h2⟩
  · refine h.slot t j ?_
    simp only [Sig.upd, if_neg e] at hl ⊢
    exact hl
theorem upon_mono {P : Program} {Q Q' : Value → World → Prop} {x : Result Next} (h : upon P Q x) (hq : ∀ u w, Q u w → Q' u w) : upon P Q' x := by
  match x, h with
  | .ok (.value u) w', h => exact hq _ _ h
  | .ok .skip w', h => exact hq _ _ h
  | .ok (.enter f args) w', h => exact Calls.mono h fun _ _ ⟨v, e, hv⟩ => ⟨v, e, hq _ _ hv⟩
theorem OpOk.rep {i i' : IV} {o : Oper} {δ : Chg} (h : OpOk c P ops o F S T N (some i) δ) (hr : ∀ τ w ok v, RepI τ w ok i v → RepI τ w ok i' v) : OpOk c P ops o F S T N (some i') δ := fun σ a w h1 h2 h3 h4 => by
  have := h σ a w h1 h2 h3 h4
  split at this
  · rename_i e; rw [if_pos e]; exact upon_mono this fun u w' q => q.rep hr
  · rename_i e; rw [if_neg e]; exact this.rep hr
theorem Sat.frz {σ : Sig} {a : Act} {w : World} {d : Option Nat} {kk e sz : Nat} {rows : List (List UV)} (hn : σ.sto kk = none) (h : Sat c (σ.upd d (some (.own kk)) [(kk, some (.data e sz rows))]) a w) : Sat c (σ.upd d (some (.u (.sl sz rows))) []) a w := by
  obtain ⟨τ, h⟩ := h
  have hk : (σ.upd d (some (.own kk)) [(kk, some (.data e sz rows))]).sto kk = some (.data e sz rows) := by simp [Sig.upd, look]
  have ho : ∀ k sb, (σ.upd d (some (.u (.sl sz rows))) []).sto k = some sb → σ.sto k = some sb := fun k sb q => by simpa [Sig.upd, look] using q
  have hs : ∀ k sb, σ.sto k = some sb → k ≠ kk ∧ (σ.upd d (some (.own kk)) [(kk, some (.data e sz rows))]).sto k = some sb := fun k sb q => by
    have hne : k ≠ kk := fun e => by rw [e, hn] at q; cases q
    exact ⟨hne, by simp only [Sig.upd, look_ne (Ne.symm hne)]; exact q⟩
  have h2 : ∀ b, okOf c τ (σ.upd d (some (.own kk)) [(kk, some (.data e sz rows))]).sto b → okOf c τ (σ.upd d (some (.u (.sl sz rows))) []).sto b := fun b hb => ⟨hb.1, fun k sb q => hb.2 k sb (hs k sb (ho k sb q)).2⟩
  have hm : ∀ b, okOf c τ (σ.upd d (some (.own kk)) [(kk, some (.data e sz rows))]).sto b → b < w.heap.size → okOf c τ (σ.upd d (some (.u (.sl sz rows))) []).sto b ∧ w.heap[b]? = w.heap[b]? := fun b hb _ => ⟨h2 b hb, rfl⟩
  have h1 : ∀ b, vblk (τ kk) = some b → okOf c τ (σ.upd d (some (.u (.sl sz rows))) []).sto b := fun b hb => ⟨.inr (h.own kk _ b hk hb), fun k sb q hv => (hs k sb (ho k sb q)).1 (h.inj k kk _ _ b (hs k sb (ho k sb q)).2 hk hv hb)⟩
  refine ⟨τ, h.size, h.defers, h.gr, fun t j hl => ?_, fun k sb q => ?_, fun k k' sb sb' b q q' => ?_, fun k sb b q => ?_, h.pin⟩
  · by_cases e : d = some t
    · subst e
      have hj : IV.u (.sl sz rows) = j := by simpa [Sig.upd] using hl
      subst hj
      obtain ⟨u, q1, q2⟩ := h.slot t (.own kk) (by simp [Sig.upd])
      cases q2 with
      | own _ _ => exact ⟨_, q1, .u (own_sl (h.sto kk _ hk) h1 h2)⟩
    · obtain ⟨u, q1, q2⟩ := h.slot t j (by simp only [Sig.upd, if_neg e] at hl ⊢; exact hl)
      exact ⟨u, q1, q2.mono (Nat.le_refl _) hm (fun _ _ => rfl)⟩
  · exact (h.sto k sb (hs k sb (ho k sb q)).2).mono (Nat.le_refl _) hm (fun _ _ => rfl) rfl (fun _ _ => rfl)
  · exact h.inj k k' sb sb' b (hs k sb (ho k sb q)).2 (hs k' sb' (ho k' sb' q')).2
  · exact h.own k sb b (hs k sb (ho k sb q)).2
/-- What is made is read only from its birth. -/
theorem OpOk.frz {kk e sz : Nat} {rows : List (List UV)} {o : Oper} (h : OpOk c P ops o F S T [kk] (some (.own kk)) [(kk, some (.data e sz rows))]) : OpOk c P ops o F S T [kk] (some (.u (.sl sz rows))) [] := fun σ a w h1 h2 h3 h4 => by
  have hn := (h3 kk (by simp)).2.1
  have := h σ a w h1 h2 h3 h4
  split at this
  · rename_i e; rw [if_pos e]; exact upon_mono this fun u w' q => q.frz hn
  · rename_i e; rw [if_neg e]; exact this.frz hn
theorem rep_agg3 {τ : Nat → Value} {w : World} {ok : Nat → Prop} {a b : IV} {sz : Nat} {v : Value} (h : RepI τ w ok (.agg [a, b, .u (.sc (.slice none 0 0))]) v) : RepI τ w ok (.agg [a, b, .u (.sl sz [])]) v := by
  cases h with
  | agg hl hg =>
    refine .agg hl fun i u x h1 h2 => ?_
    match i with
    | 0 => exact hg 0 u x h1 h2
    | 1 => exact hg 1 u x h1 h2
    | 2 =>
      have hx := hg 2 _ x rfl h2
      simp at h1; subst h1
      cases hx with
      | u q => cases q; exact .u (.sl0 (Nat.zero_le _) (fun _ => rfl))
    | i + 3 => simp at h1
end
theorem ba_bs (b : ByteArray) : bs b.data.toList = b := rfl
end Go.H
