/-
  What the proof rests on: part 4 of 14.
-/
import Derived.Test.YtmekkjehkcjpdaaGreatCirculateRunP3
import Derived.Lib.ConvBytes
import Derived.Laws.IdiomStrings
section
namespace Go.G
open Go Go.RowKit

section
variable {n : Nat} {P : Program} {F : Frm} {w w' : World} {ty : TypeId} {α : Type} {E : Enc α} {lo hi : Nat}

theorem evs_parts {ρ : Operand → Value} : ∀ (l : List (Nat × Operand)) (vs : List Value), (∀ x ∈ l.map (·.2), ∀ u, ev F x = some u → ρ x = u) → evs F (l.map (·.2)) = some vs →
    l.map (fun (i, x) => (i, ρ x)) = (l.map (·.1)).zip vs
  | [], vs, _, h => by simp
  | (i, x) :: r, vs, hρ, h => by
    simp only [List.map_cons, evs] at h
    split at h
    · rename_i v vs' h1 h2
      simp only [Option.some.injEq] at h
      subst h
      simp only [List.map_cons, List.zip_cons_cons]
      rw [hρ x yE v h1, evs_parts r vs' (fun y hy => hρ y (by rw [List.map_cons]; exact List.mem_cons_of_mem _ hy)) h2]
    · cases h

theorem set_all (off : Nat) : ∀ (l : List Value) (j : Nat) (cs : Array Value), off + j + l.length ≤ cs.size →
    ((l.zipIdx j).foldl (fun (cs : Array Value) (p : Value × Nat) => cs.setIfInBounds (off + p.2) p.1) cs) = (cs.toList.take (off + j) ++ l ++ cs.toList.drop (off + j + l.length)).toArray
  | [], j, cs, _ => by simp
  | v :: l, j, cs, h => by
    simp only [List.zipIdx_cons, List.foldl_cons]
    rw [set_all off l (j + 1) (cs.setIfInBounds (off + j) v) (by simp at h ⊢; omega)]
    congr 1
    have e := list_seg_step cs.toList (off + j) v l (by simp at h ⊢; omega)
    simpa [Array.toList_setIfInBounds, Nat.add_assoc, Nat.add_comm 1] using e

theorem fill_seq (sz : Nat) : ∀ (vs : List Value) (k : Nat) (pre zs : List Value), pre.length = k * sz → (∀ v ∈ vs, v.cells.size = sz) → vs.length * sz ≤ zs.length →
    Instr.fill (fun i => some (i * sz, sz)) (pre ++ zs).toArray ((List.range' k vs.length).zip vs) = some (pre ++ vs.flatMap (fun v => v.cells.toList) ++ zs.drop (vs.length * sz)).toArray
  | [], k, pre, zs, _, _, _ => by simp [Instr.fill]
  | v :: vs, k, pre, zs, hp, hv, hz => by
    have hvs := hv v yE
    simp only [List.length_cons, Nat.add_mul, Nat.one_mul] at hz
    have hfit : ¬ (v.cells.size ≠ sz || decide (k * sz + v.cells.size > (pre ++ zs).toArray.size)) = true := by
      simp [hvs, hp]; omega
    simp only [List.length_cons, List.range'_succ, List.zip_cons_cons, Instr.fill, if_neg hfit]
    have hset : v.cells.zipIdx.foldl (fun (cs : Array Value) (p : Value × Nat) => cs.setIfInBounds (k * sz + p.2) p.1) (pre ++ zs).toArray = ((pre ++ v.cells.toList) ++ zs.drop sz).toArray := by
      have h1 := set_all (k * sz) v.cells.toList 0 (pre ++ zs).toArray (by simp [hvs, hp]; omega)
      rw [← Array.foldl_toList, Array.toList_zipIdx, h1]
      congr 1
      simp only [Nat.add_zero, Array.length_toList, hvs]
      rw [List.take_append_of_le_length xA, List.take_of_length_le xA, List.drop_append]
      rw [List.drop_eq_nil_of_le xA, List.nil_append]
      congr 2
      omega
    have ih := fill_seq sz vs (k + 1) (pre ++ v.cells.toList) (zs.drop sz) (by simp [hvs, hp, Nat.add_mul]) (fun u hu => hv u (by simp [hu])) zB
    have hb : (fun (cs : Array Value) (x : Value × Nat) => match x with | (c, j) => cs.setIfInBounds (k * sz + j) c) = (fun (cs : Array Value) (p : Value × Nat) => cs.setIfInBounds (k * sz + p.2) p.1) := rfl
    rw [hb, hset, ih]
    congr 2
    simp only [List.flatMap_cons, List.append_assoc, List.drop_drop, Nat.add_mul, Nat.one_mul]
    congr 4
    omega

theorem M.buildSlice {t e : TypeId} {len : Nat} {parts : List (Nat × Operand)} {vs : List Value} {ys : List α} {inf : TypeInfo} {z : Value} (hv : evs F (parts.map (·.2)) = some vs) (hp1 : parts.map (·.1) = List.range' 0 len) (ht : P.underlying t = some (.slice e)) (hi : P.info? e = some inf) (hz : inf.zero = some z) (hs : inf.size = E.sz)
    (hlen : ys.length = len) (hvl : vs.length = len) (hsmall : len * E.sz ≤ 16777216) (hvc : ∀ v ∈ vs, v.cells.size = E.sz) (hall : E.all ys = vs.flatMap (fun v => v.cells.toList)) :
    Makes P w F (.buildSlice t len parts.toArray) ty (fun v w' => ∃ g, v = .slice (some ⟨g, 0, none⟩) ys.length ys.length ∧ g = w.heap.size ∧ w'.heap.size = g + 1 ∧ Ext w w' ∧ Own E w' g e v ys) := fun o ρ ho _ hρ => by
  refine ⟨_, w.alloc (.cells (E.all ys).toArray e), ?_, w.heap.size, rfl, rfl, by simp, (Below.refl _ _).alloc (Nat.le_refl _) _, ?_⟩
  · have hp : parts.map (fun (i, x) => (i, ρ x)) = (parts.map (·.1)).zip vs := evs_parts parts vs (fun x hx => hρ x (by simpa [Op.operands] using hx)) hv
    rw [hp1] at hp
    simp only [execOp, ho, List.map_toArray, hp]
    have hn : ¬ (2 ^ 24 < len * E.sz) := by omega
    rw [hlen]
    have key : ∀ zz : Array Value, Instr.fill (fun i => some (i * E.sz, E.sz)) ((Array.range (len * E.sz)).map (zz[· % zz.size]!)) ((List.range' 0 len).zip vs) = some (E.all ys).toArray := by
      intro zz
      have h1 := fill_seq E.sz vs 0 [] ((Array.range (len * E.sz)).map (zz[· % zz.size]!)).toList yE hvc (by simp [hvl])
      rw [hvl] at h1
      simp only [List.nil_append, Array.toArray_toList] at h1
      rw [h1, hall, List.drop_eq_nil_of_le yE, List.append_nil]
    by_cases h0 : len * E.sz = 0
    · have key0 := key #[]
      simp only [h0] at key0
      simp only [Instr.buildSlice, Sem.run_bind, run_underlying ht, Result.andThen_ok, sizeOf, typeInfo, show (program : Sem Program).run P w = .ok P w from rfl, hi, Sem.run_pure, hs, h0, if_true]
      rw [if_neg (by decide : ¬ ((0 : Nat) > 2 ^ 24))]
      simp only [Sem.run_bind, Sem.run_pure, Result.andThen_ok, key0]
      rfl
    · simp [Instr.buildSlice, run_underlying ht, sizeOf, typeInfo, hi, hs, h0, hn, zeroValue, hz, key z.cells, newRow]
  · have h1 := World.ownsRow_lit (base := w.heap.size) (e := e) (size := E.sz) w (E.all ys).toArray ys.length (Nat.le_refl _) (by have := E.pos; have h2 : ys.length * 1 ≤ ys.length * E.sz := Nat.mul_le_mul_left _ this; rw [hlen] at *; simp only [maxLen]; omega) (by simpa using E.all_length ys)
    unfold Own
    simpa using h1

theorem R.build {t : TypeId} {parts : List (Nat × Operand)} {vs : List Value} {cs : List Value} {fs : Array Field} {places : List (Nat × Nat)} {z : Value} (hv : evs F (parts.map (·.2)) = some vs) (ht : P.underlying t = some (.struct fs)) (hz : (P.info? t).bind (·.zero) = some z)
    (hp : ∀ w : World, (fs.mapM (fun f => do pure (f.offset, ← sizeOf f.type) : Field → Sem (Nat × Nat))).run P w = .ok places.toArray w) (hfill : Instr.fill (places.toArray[·]?) z.cells ((parts.map (·.1)).zip vs) = some cs.toArray) :
    Runs P w F (.build t parts.toArray) ty (.agg cs.toArray) := fun o ρ ho _ hρ => by
  obtain ⟨i, hi, hz⟩ := Option.bind_eq_some_iff.1 hz
  have hpp : parts.map (fun (i, x) => (i, ρ x)) = (parts.map (·.1)).zip vs := evs_parts parts vs (fun x hx => hρ x (by simpa [Op.operands] using hx)) hv
  simp only [execOp, ho, List.map_toArray, hpp]
  simp only [Instr.build, Sem.run_bind, zeroValue, typeInfo, show (program : Sem Program).run P w = .ok P w from rfl, Result.andThen_ok, hi, hz, Sem.run_pure, run_underlying ht, hp w, hfill]

theorem encU8_all (l : List UInt8) : encU8.all l = l.map fun b => .int .u8 b.toNat := by
  induction l with
  | nil => rfl
  | cons b l ih =>
    have : encU8.all (b :: l) = .int .u8 b.toNat :: encU8.all l := rfl
    rw [this, ih]; rfl


theorem M.s2b {x : Operand} {s e d : TypeId} {b : ByteArray} {u : TypeDesc} (hx : ev F x = some (.string b)) (hs : P.underlying s = some u) (hd : P.underlying d = some (.slice e)) (he : P.underlying e = some (.int .u8)) (hlen : b.size ≤ 9223372036854775807) :
    Makes P w F (.convert s d x) ty (fun v w' => Ext w w' ∧ w'.heap.size = w.heap.size + 1 ∧ Sl encU8 w' w.heap.size (w.heap.size + 1) v b.data.toList) := fun o ρ ho _ hρ => by
  have h2 := Go.Lib.run_convert_string_bytes (P := P) w s d e b hs hd he
  refine ⟨.slice (some ⟨w.heap.size, 0, none⟩) b.size (grownCap w b.size 0 e), _, ?_, ?_, Go.Lib.bytesWorld_size w e b, ?_⟩
  · simp only [execOp, ho, hρ x xH _ hx, Sem.run_bind, h2, Result.andThen_ok]; rfl
  · exact ⟨rfl, rfl, rfl, by rw [Go.Lib.bytesWorld_size]; omega, fun k hk => Go.Lib.bytesWorld_at_old w e b k hk⟩
  · have hl : b.data.toList.length = b.size := by rw [Array.length_toList]; rfl
    refine ⟨some ⟨w.heap.size, 0, none⟩, grownCap w b.size 0 e, by rw [hl], by rw [hl]; exact grownCap_ge w _ _ _, grownCap_le_maxLen w _ _ _ (by simp only [maxLen]; omega), fun _ => ⟨_, rfl, Nat.le_refl _, Nat.lt_succ_self _, fun j u hu => ?_⟩⟩
    rw [encU8_all] at hu
    have hj : j < b.size := by
      have := (List.getElem?_eq_some_iff.1 hu).1
      simpa [hl] using this
    rw [Addr.add_lit, Nat.zero_add, Go.Lib.bytesWorld_cell w e b j hj]
    rw [← hu, List.getElem?_map]
    rw [List.getD_eq_getElem?_getD]
    have hj' : j < b.data.toList.length := by omega
    rw [List.getElem?_eq_getElem hj']
    simp

theorem R.stridx {x y : Operand} {t : TypeId} {b : ByteArray} {k : IntKind} {i : Nat} (hx : ev F x = some (.string b)) (hy : ev F y = some (.int k (i : Int))) (ht : P.underlying t = some .string) (hi : i < b.size) :
    Runs P w F (.index t x y) ty (.int .u8 (b.data.toList[i]!).toNat) := fun o ρ ho _ hρ => by
  simp only [execOp, ho, hρ x xH _ hx, hρ y xH _ hy]
  have h1 : b[i]? = some b[i] := by simp [getElem?_pos, hi]
  have h2 : b.data.toList[i]! = b[i] := by
    have : i < b.data.toList.length := by rw [Array.length_toList]; exact hi
    rw [getElem!_pos (b.data.toList) i this]
    rfl
  simp [Instr.index, asIntOf, run_underlying ht, h1, h2]

end
section
variable {n : Nat} {P : Program} {F : Frm} {w : World}
end
end Go.G
namespace Go.G
open Go Go.RowKit
abbrev CallsTo (P : Program) (f : FuncId) (args : List Value) (w : World) (R : Value → World → Prop) : Prop := Calls P f args.toArray w (fun e w' => ∃ v, e = .returned v ∧ R v w')

section
variable {n : Nat} {P : Program} {ops : Array Oper} {Q : Exit → Act → World → Prop} {F : Frm} {w w' : World}

def only (ks : List Nat) : Frm → Frm
  | [] => []
  | (t, i) :: r => match ks.any (Nat.beq t) with
    | true => (t, i) :: only ks r
    | false => only ks r



section
variable {ty tx t' : TypeId} {x y : Operand} {a b : Int}
theorem R.add64 (hx : ev F x = some (.int .i64 a)) (hy : ev F y = some (.int .i64 b)) (h : -9223372036854775808 ≤ a + b ∧ a + b ≤ 9223372036854775807) : Runs P w F (.binOp .add tx x y t') ty (.int .i64 (a + b)) := by
  have := R.add (P := P) (w := w) (ty := ty) (tx := tx) (t' := t') hx hy; rwa [IntWalk.i64_in _ h] at this
theorem R.sub64 (hx : ev F x = some (.int .i64 a)) (hy : ev F y = some (.int .i64 b)) (h : -9223372036854775808 ≤ a - b ∧ a - b ≤ 9223372036854775807) : Runs P w F (.binOp .sub tx x y t') ty (.int .i64 (a - b)) := by
  have := R.sub (P := P) (w := w) (ty := ty) (tx := tx) (t' := t') hx hy; rwa [IntWalk.i64_in _ h] at this
theorem R.mv {v v' : Value} {op : Go.Op} (h : Runs P w F op ty v) (e : v = v') : Runs P w F op ty v' := e ▸ h
end

end
end Go.G
end
section
namespace Go.G
open Go Go.RowKit

theorem info_of {P : Program} {t : TypeId} {z : Value} {s b : Nat} (h : (P.info? t).map (fun i => (i.zero, i.size, i.bytes)) = some (some z, s, b)) : ∃ i, P.info? t = some i ∧ i.zero = some z ∧ i.size = s ∧ i.bytes = b := by
  obtain ⟨i, hi, h⟩ := Option.map_eq_some_iff.1 h
  simp only [Prod.mk.injEq] at h
  exact ⟨i, hi, h⟩
theorem gA1 {p : Prop} [Decidable p] (h : decide p = true) : p := of_decide_eq_true h
theorem gA2 {p : Prop} [Decidable p] (h : (!decide p) = true) : ¬ p := by simpa using h
theorem gA3 {p : Prop} [Decidable p] (h : decide p = false) : ¬ p := of_decide_eq_false h
theorem gA4 {p : Prop} [Decidable p] (h : (!decide p) = false) : p := by simpa using h
theorem gA5 {p : Prop} [Decidable p] (h : decide p ≠ true) : ¬ p := by simpa using h
theorem gA6 {p : Prop} [Decidable p] (h : (!decide p) ≠ true) : p := by simpa using h
theorem gA7 {p : Prop} [Decidable p] (h : decide p ≠ false) : p := by simpa using h
theorem gA8 {p : Prop} [Decidable p] (h : (!decide p) ≠ false) : ¬ p := by simpa using h
theorem ne_t {b : Bool} (h : b ≠ true) : b = false := by cases b <;> simp_all
theorem ne_f {b : Bool} (h : b ≠ false) : b = true := by cases b <;> simp_all

section
variable {n : Nat} {P : Program} {F : Frm} {w : World} {ty : TypeId}
theorem R.conv64 {s d : TypeId} {x : Operand} {k : IntKind} {a : Int} {ds : TypeDesc} (hx : ev F x = some (.int k a)) (hs : P.underlying s = some ds) (hd : P.underlying d = some (.int .i64)) (h : -9223372036854775808 ≤ a ∧ a ≤ 9223372036854775807) :
    Runs P w F (.convert s d x) ty (.int .i64 a) := R.conv_in hx hs hd (IntWalk.i64_in _ h)

theorem R.shr_c {tx t' : TypeId} {x y : Operand} {k k' : IntKind} {a b q : Int} (hx : ev F x = some (.int k a)) (hy : ev F y = some (.int k' b)) (h0 : 0 ≤ b) (hq : 2 ^ min b.toNat k.bits = q) : Runs P w F (.binOp .shr tx x y t') ty (.int k (a / q)) := by
  subst hq; exact R.shr hx hy h0



def nilB (v : Value) : Bool := match v with | .slice none _ _ => true | _ => false
theorem R.isnil {α : Type} {E : Enc α} {lo hi : Nat} {tx t' e : TypeId} {x : Operand} {v : Value} {xs : List α} (hx : ev F x = some v) (h : Sl E w lo hi v xs) (ht : P.underlying tx = some (.slice e)) :
    Runs P w F (.binOp .eql tx x (.const (.slice none 0 0)) t') ty (.bool (nilB v)) := fun o ρ ho _ hρ => by
  obtain ⟨A, c, rfl, _⟩ := h.out
  have hy : ρ (.const (.slice none 0 0)) = .slice none 0 0 := hρ _ xH _ rfl
  simp only [execOp, ho, hρ x xH _ hx, hy]
  have h1 : (eqGuard .eql tx x (.const (.slice none 0 0)) (.slice A xs.length c) (.slice none 0 0)).run P w = .ok () w := by unfold eqGuard; rfl
  have h3 : ∀ d : Nat, (Op.equalIn (d + 1) tx (.slice A xs.length c) (.slice none 0 0)).run P w = .ok (nilB (.slice A xs.length c)) w := fun d => by
    cases A <;> simp [Op.equalIn, run_underlying ht, nilB]
  have h2 : (Op.equal tx (.slice A xs.length c) (.slice none 0 0)).run P w = .ok (nilB (.slice A xs.length c)) w := h3 9999
  simp [Sem.run_bind, h1, binOp, h2]

theorem R.min2 {x y : Operand} {t t2 : TypeId} {k : IntKind} {a b : Int} (hx : ev F x = some (.int k a)) (hy : ev F y = some (.int k b)) :
    Runs P w F (.call { callee := .builtin .min, args := #[x, y], argTypes := #[t, t2] }) ty (.int k (if b < a then b else a)) := fun o ρ ho hty hρ => by
  have hmx : x ∈ (Op.call { callee := .builtin .min, args := #[x, y], argTypes := #[t, t2] }).operands := by simp [Op.operands, Call.operands]
  have hmy : y ∈ (Op.call { callee := .builtin .min, args := #[x, y], argTypes := #[t, t2] }).operands := by simp [Op.operands, Call.operands]
  simp only [execOp, ho, resolve, Sem.run_bind, Sem.run_pure, Result.andThen_ok, invoke, List.map_toArray, List.map_cons, List.map_nil, hρ x hmx _ hx, hρ y hmy _ hy]
  simp [builtin, Builtin.min_, Builtin.min2]


end

section
variable {w : World} {g t i m : Nat} {cs : List Value}
end

section
variable {α : Type} {E : Enc α} {w : World} {lo hi : Nat} {v : Value} {xs : List α}
end

section
variable {α : Type} {E : Enc α} {n : Nat} {P : Program} {F : Frm} {w : World} {ty : TypeId}
theorem Own.form {v : Value} {xs : List α} {base t : Nat} (h : Own E w base t v xs) (h0 : xs ≠ []) : ∃ g c, v = .slice (some ⟨g, 0, none⟩) xs.length c ∧ base ≤ g ∧ g < w.heap.size := by
  have hl := h.lt
  rcases h.2 with ⟨_, h2⟩ | ⟨g, cap, cur, r1, r2, r3⟩
  · exact absurd (List.eq_nil_of_length_eq_zero h2) h0
  · have hx := hl g (by rw [r1]; simp [Value.ownBlock])
    exact ⟨g, _, r1, hx.1, hx.2⟩
end

section
variable {P : Program} {F : Frm} {w : World} {ty : TypeId}
end

def encVal : Enc Value := ⟨1, fun v => [v], fun _ => rfl, by decide⟩
structure SlL {α : Type} (E : Enc α) (w : World) (lo hi : Nat) (vs : List Value) (xs : List (List α)) : Prop where
  len : vs.length = xs.length
  get : ∀ {i : Nat}, i < xs.length → Sl E w lo hi vs[i]! xs[i]!
section
variable {α : Type} {E : Enc α} {w w' : World} {lo hi : Nat} {vs : List Value} {xs : List (List α)}
end

section
variable {n : Nat} {P : Program} {F : Frm} {w : World}
end

section
variable {n : Nat} {P : Program} {ops : Array Oper} {F : Frm} {w0 w1 : World} {r : List Oper} {Z : Frm → World → Prop} {ty : TypeId}
def GivesAll (n : Nat) (P : Program) (ops : Array Oper) (o : Oper) (F : Frm) (w1 : World) (i : Info) : Prop := ∀ a, FitsOn (o.looksAt ops) n a F w1 → Gives P ops o a w1 i
end

section
variable {n : Nat} {P : Program} {F : Frm} {w : World} {ty : TypeId}

end
end Go.G
end
