/-
  Literals of slices and structs; strings and bytes; results that lie in memory.
-/
import Derived.Test.YtfmgpocbpbfalaaGHeap
import Derived.Lib.ConvBytes
import Derived.Laws.IdiomStrings
namespace Go.G
open Go Go.RowKit

section
variable {n : Nat} {P : Program} {F : Frm} {w w' : World} {ty : TypeId} {α : Type} {E : Enc α} {lo hi : Nat}

theorem evs_parts {ρ : Operand → Value} : ∀ (l : List (Nat × Operand)) (vs : List Value), (∀ x ∈ l.map (·.2), ∀ u, ev F x = some u → ρ x = u) → evs F (l.map (·.2)) = some vs →
    l.map (fun (i, x) => (i, ρ x)) = (l.map (·.1)).zip vs
  | [], vs, _, h => by simp
  | (i, x) :: r, vs, hρ, h => by
    simp only [List.map_cons, evs] at h
    split at h
    · rename_i v vs' h1 h2
      simp only [Option.some.injEq] at h
      subst h
      simp only [List.map_cons, List.zip_cons_cons]
      rw [hρ x (by simp) v h1, evs_parts r vs' (fun y hy => hρ y (by rw [List.map_cons]; exact List.mem_cons_of_mem _ hy)) h2]
    · cases h

theorem set_all (off : Nat) : ∀ (l : List Value) (j : Nat) (cs : Array Value), off + j + l.length ≤ cs.size →
    ((l.zipIdx j).foldl (fun (cs : Array Value) (p : Value × Nat) => cs.setIfInBounds (off + p.2) p.1) cs) = (cs.toList.take (off + j) ++ l ++ cs.toList.drop (off + j + l.length)).toArray
  | [], j, cs, _ => by simp
  | v :: l, j, cs, h => by
    simp only [List.zipIdx_cons, List.foldl_cons]
    rw [set_all off l (j + 1) (cs.setIfInBounds (off + j) v) (by simp at h ⊢; omega)]
    congr 1
    have e := list_seg_step cs.toList (off + j) v l (by simp at h ⊢; omega)
    simpa [Array.toList_setIfInBounds, Nat.add_assoc, Nat.add_comm 1] using e

theorem fill_seq (sz : Nat) : ∀ (vs : List Value) (k : Nat) (pre zs : List Value), pre.length = k * sz → (∀ v ∈ vs, v.cells.size = sz) → vs.length * sz ≤ zs.length →
    Instr.fill (fun i => some (i * sz, sz)) (pre ++ zs).toArray ((List.range' k vs.length).zip vs) = some (pre ++ vs.flatMap (fun v => v.cells.toList) ++ zs.drop (vs.length * sz)).toArray
  | [], k, pre, zs, _, _, _ => by simp [Instr.fill]
  | v :: vs, k, pre, zs, hp, hv, hz => by
    have hvs := hv v (by simp)
    simp only [List.length_cons, Nat.add_mul, Nat.one_mul] at hz
    have hfit : ¬ (v.cells.size ≠ sz || decide (k * sz + v.cells.size > (pre ++ zs).toArray.size)) = true := by
      simp [hvs, hp]; omega
    simp only [List.length_cons, List.range'_succ, List.zip_cons_cons, Instr.fill, if_neg hfit]
    have hset : v.cells.zipIdx.foldl (fun (cs : Array Value) (p : Value × Nat) => cs.setIfInBounds (k * sz + p.2) p.1) (pre ++ zs).toArray = ((pre ++ v.cells.toList) ++ zs.drop sz).toArray := by
      have h1 := set_all (k * sz) v.cells.toList 0 (pre ++ zs).toArray (by simp [hvs, hp]; omega)
      rw [← Array.foldl_toList, Array.toList_zipIdx, h1]
      congr 1
      simp only [Nat.add_zero, Array.length_toList, hvs]
      rw [List.take_append_of_le_length (by omega), List.take_of_length_le (by omega), List.drop_append]
      rw [List.drop_eq_nil_of_le (by omega), List.nil_append]
      congr 2
      omega
    have ih := fill_seq sz vs (k + 1) (pre ++ v.cells.toList) (zs.drop sz) (by simp [hvs, hp, Nat.add_mul]) (fun u hu => hv u (by simp [hu])) (by simp; omega)
    have hb : (fun (cs : Array Value) (x : Value × Nat) => match x with | (c, j) => cs.setIfInBounds (k * sz + j) c) = (fun (cs : Array Value) (p : Value × Nat) => cs.setIfInBounds (k * sz + p.2) p.1) := rfl
    rw [hb, hset, ih]
    congr 2
    simp only [List.flatMap_cons, List.append_assoc, List.drop_drop, Nat.add_mul, Nat.one_mul]
    congr 4
    omega

/-- []T{a, b, ..}. -/
theorem M.buildSlice {t e : TypeId} {len : Nat} {parts : List (Nat × Operand)} {vs : List Value} {ys : List α} {inf : TypeInfo} {z : Value} (hv : evs F (parts.map (·.2)) = some vs) (hp1 : parts.map (·.1) = List.range' 0 len) (ht : P.underlying t = some (.slice e)) (hi : P.info? e = some inf) (hz : inf.zero = some z) (hs : inf.size = E.sz)
    (hlen : ys.length = len) (hvl : vs.length = len) (hsmall : len * E.sz ≤ 16777216) (hvc : ∀ v ∈ vs, v.cells.size = E.sz) (hall : E.all ys = vs.flatMap (fun v => v.cells.toList)) :
    Makes P w F (.buildSlice t len parts.toArray) ty (fun v w' => ∃ g, v = .slice (some ⟨g, 0, none⟩) ys.length ys.length ∧ g = w.heap.size ∧ w'.heap.size = g + 1 ∧ Ext w w' ∧ Own E w' g e v ys) := fun o ρ ho _ hρ => by
  refine ⟨_, w.alloc (.cells (E.all ys).toArray e), ?_, w.heap.size, rfl, rfl, by simp, (Below.refl _ _).alloc (Nat.le_refl _) _, ?_⟩
  · have hp : parts.map (fun (i, x) => (i, ρ x)) = (parts.map (·.1)).zip vs := evs_parts parts vs (fun x hx => hρ x (by simpa [Op.operands] using hx)) hv
    rw [hp1] at hp
    simp only [execOp, ho, List.map_toArray, hp]
    have hn : ¬ (2 ^ 24 < len * E.sz) := by omega
    rw [hlen]
    have key : ∀ zz : Array Value, Instr.fill (fun i => some (i * E.sz, E.sz)) ((Array.range (len * E.sz)).map (zz[· % zz.size]!)) ((List.range' 0 len).zip vs) = some (E.all ys).toArray := by
      intro zz
      have h1 := fill_seq E.sz vs 0 [] ((Array.range (len * E.sz)).map (zz[· % zz.size]!)).toList (by simp) hvc (by simp [hvl])
      rw [hvl] at h1
      simp only [List.nil_append, Array.toArray_toList] at h1
      rw [h1, hall, List.drop_eq_nil_of_le (by simp), List.append_nil]
    by_cases h0 : len * E.sz = 0
    · have key0 := key #[]
      simp only [h0] at key0
      simp only [Instr.buildSlice, Sem.run_bind, run_underlying ht, Result.andThen_ok, sizeOf, typeInfo, show (program : Sem Program).run P w = .ok P w from rfl, hi, Sem.run_pure, hs, h0, if_true]
      rw [if_neg (by decide : ¬ ((0 : Nat) > 2 ^ 24))]
      simp only [Sem.run_bind, Sem.run_pure, Result.andThen_ok, key0]
      rfl
    · simp [Instr.buildSlice, run_underlying ht, sizeOf, typeInfo, hi, hs, h0, hn, zeroValue, hz, key z.cells, newRow]
  · have h1 := World.ownsRow_lit (base := w.heap.size) (e := e) (size := E.sz) w (E.all ys).toArray ys.length (Nat.le_refl _) (by have := E.pos; have h2 : ys.length * 1 ≤ ys.length * E.sz := Nat.mul_le_mul_left _ this; rw [hlen] at *; simp only [maxLen]; omega) (by simpa using E.all_length ys)
    unfold Own
    simpa using h1

/-- T{a, b, ..}, as a value. -/
theorem R.build {t : TypeId} {parts : List (Nat × Operand)} {vs : List Value} {cs : List Value} {fs : Array Field} {places : List (Nat × Nat)} {z : Value} (hv : evs F (parts.map (·.2)) = some vs) (ht : P.underlying t = some (.struct fs)) (hz : (P.info? t).bind (·.zero) = some z)
    (hp : ∀ w : World, (fs.mapM (fun f => do pure (f.offset, ← sizeOf f.type) : Field → Sem (Nat × Nat))).run P w = .ok places.toArray w) (hfill : Instr.fill (places.toArray[·]?) z.cells ((parts.map (·.1)).zip vs) = some cs.toArray) :
    Runs P w F (.build t parts.toArray) ty (.agg cs.toArray) := fun o ρ ho _ hρ => by
  obtain ⟨i, hi, hz⟩ := Option.bind_eq_some_iff.1 hz
  have hpp : parts.map (fun (i, x) => (i, ρ x)) = (parts.map (·.1)).zip vs := evs_parts parts vs (fun x hx => hρ x (by simpa [Op.operands] using hx)) hv
  simp only [execOp, ho, List.map_toArray, hpp]
  simp only [Instr.build, Sem.run_bind, zeroValue, typeInfo, show (program : Sem Program).run P w = .ok P w from rfl, Result.andThen_ok, hi, hz, Sem.run_pure, run_underlying ht, hp w, hfill]

theorem encU8_all (l : List UInt8) : encU8.all l = l.map fun b => .int .u8 b.toNat := by
  induction l with
  | nil => rfl
  | cons b l ih =>
    have : encU8.all (b :: l) = .int .u8 b.toNat :: encU8.all l := rfl
    rw [this, ih]; rfl

/-- string(b). -/
theorem R.b2s {x : Operand} {s e d : TypeId} {v : Value} {l : List UInt8} (hx : ev F x = some v) (h : Sl encU8 w lo hi v l) (hs : P.underlying s = some (.slice e)) (he : P.underlying e = some (.int .u8)) (hd : P.underlying d = some .string) :
    Runs P w F (.convert s d x) ty (.string ⟨l.toArray⟩) := fun o ρ ho _ hρ => by
  obtain ⟨A, c, rfl, _, _, q4⟩ := h.out
  simp only [execOp, ho, hρ x (by simp [Op.operands]) _ hx]
  by_cases hne : l = []
  · subst hne
    rcases A with _ | a
    · have h2 := run_convert_bytes_nil (P := P) (w := w) (dst := d) s e hs he 0 c
      first
        | (have h3 := h2 hd; simp only [List.length_nil]; rw [Sem.run_bind, h3]; rfl)
        | (simp [convert, run_underlying hs, run_underlying hd, run_underlying he, Conv.bytesToString]; rfl)
    · have h2 := run_convert_bytes_back (P := P) w s d e a c [] hs he hd (fun j hj => by simp at hj)
      simp only [Sem.run_bind, h2, Result.andThen_ok]; rfl
  · obtain ⟨a, rfl, _, _, hat⟩ := q4 hne
    have h2 := run_convert_bytes_back (P := P) w s d e a c l hs he hd (fun j hj => hat j _ (by
      rw [encU8_all]
      simp [hj]))
    simp only [Sem.run_bind, h2, Result.andThen_ok]; rfl

/-- []byte(s). -/
theorem M.s2b {x : Operand} {s e d : TypeId} {b : ByteArray} {u : TypeDesc} (hx : ev F x = some (.string b)) (hs : P.underlying s = some u) (hd : P.underlying d = some (.slice e)) (he : P.underlying e = some (.int .u8)) (hlen : b.size ≤ 9223372036854775807) :
    Makes P w F (.convert s d x) ty (fun v w' => Ext w w' ∧ w'.heap.size = w.heap.size + 1 ∧ Sl encU8 w' w.heap.size (w.heap.size + 1) v b.data.toList) := fun o ρ ho _ hρ => by
  have h2 := Go.Lib.run_convert_string_bytes (P := P) w s d e b hs hd he
  refine ⟨.slice (some ⟨w.heap.size, 0, none⟩) b.size (grownCap w b.size 0 e), _, ?_, ?_, Go.Lib.bytesWorld_size w e b, ?_⟩
  · simp only [execOp, ho, hρ x (by simp [Op.operands]) _ hx, Sem.run_bind, h2, Result.andThen_ok]; rfl
  · exact ⟨rfl, rfl, rfl, by rw [Go.Lib.bytesWorld_size]; omega, fun k hk => Go.Lib.bytesWorld_at_old w e b k hk⟩
  · have hl : b.data.toList.length = b.size := by rw [Array.length_toList]; rfl
    refine ⟨some ⟨w.heap.size, 0, none⟩, grownCap w b.size 0 e, by rw [hl], by rw [hl]; exact grownCap_ge w _ _ _, grownCap_le_maxLen w _ _ _ (by simp only [maxLen]; omega), fun _ => ⟨_, rfl, Nat.le_refl _, Nat.lt_succ_self _, fun j u hu => ?_⟩⟩
    rw [encU8_all] at hu
    have hj : j < b.size := by
      have := (List.getElem?_eq_some_iff.1 hu).1
      simpa [hl] using this
    rw [Addr.add_lit, Nat.zero_add, Go.Lib.bytesWorld_cell w e b j hj]
    rw [← hu, List.getElem?_map]
    rw [List.getD_eq_getElem?_getD]
    have hj' : j < b.data.toList.length := by omega
    rw [List.getElem?_eq_getElem hj']
    simp

/-- s[i] of a string. -/
theorem R.stridx {x y : Operand} {t : TypeId} {b : ByteArray} {k : IntKind} {i : Nat} (hx : ev F x = some (.string b)) (hy : ev F y = some (.int k (i : Int))) (ht : P.underlying t = some .string) (hi : i < b.size) :
    Runs P w F (.index t x y) ty (.int .u8 (b.data.toList[i]!).toNat) := fun o ρ ho _ hρ => by
  simp only [execOp, ho, hρ x (by simp [Op.operands]) _ hx, hρ y (by simp [Op.operands]) _ hy]
  have h1 : b[i]? = some b[i] := by simp [getElem?_pos, hi]
  have h2 : b.data.toList[i]! = b[i] := by
    have : i < b.data.toList.length := by rw [Array.length_toList]; exact hi
    rw [getElem!_pos (b.data.toList) i this]
    rfl
  simp [Instr.index, asIntOf, run_underlying ht, h1, h2]
theorem R.strsub {x l h : Operand} {t : TypeId} {b : ByteArray} {k k' : IntKind} {i j : Nat} (hx : ev F x = some (.string b)) (hl : ev F l = some (.int k (i : Int))) (hh : ev F h = some (.int k' (j : Int))) (ht : P.underlying t = some .string) (h1 : i ≤ j) (h2 : j ≤ b.size) :
    Runs P w F (.slice t x (some l) (some h) none) ty (.string (b.extract i j)) := fun o ρ ho _ hρ => by
  simp only [execOp, ho, hρ x (by simp [Op.operands]) _ hx, hρ l (by simp [Op.operands]) _ hl, hρ h (by simp [Op.operands]) _ hh, Option.map_some, Option.map_none]
  simp [Instr.sliceAt, Instr.slice, Instr.sliceBounds, Instr.sliceBound, asIntOf, run_underlying ht, h1, h2]

end
section
variable {n : Nat} {P : Program} {F : Frm} {w : World}
/-- A result that lies in memory. -/
theorem E.finc {fn : Func} {R : Ending → World → Prop} {t : Nat} {tt : TypeId} {d : TypeDesc} {g : Nat} {tb : TypeId} {cs : List Value} {e : Exit} (he : e = .ret ∨ e = .normal) (hr : fn.results = #[.cell t tt]) (hv : ev F (.tmp t) = some (.pointer (some ⟨g, 0, none⟩)))
    (hb : Blk w g tb cs) (ht : P.underlying tt = some d) (hd : aggD d = true) {m : Nat} (hs : (P.info? tt).map (·.size) = some m) (hm : cs.length = m) (h : R (.returned (.agg cs.toArray)) w) : E n (bodyPost P fn R) e F w := fun a ha => by
  have h1 : (results fn a.tmps).run P w = .ok (.agg cs.toArray) w := by
    have := ha.ev hv
    simp only [Act.eval, Array.getD_eq_getD_getElem?] at this
    subst hm
    obtain ⟨i, hi, hs⟩ := Option.map_eq_some_iff.1 hs
    have hl := run_loadCells_list (P := P) (w := w) ⟨g, 0, none⟩ cs hb.at
    simp only [results, hr]
    simp [this, asAddr, loadVar, run_isAgg' ht, hd, sizeOf, typeInfo, hi, hs, hl]
  rcases he with rfl | rfl <;> exact ⟨ha.defers, _, h1, h⟩
end
end Go.G
namespace Go.G
open Go Go.RowKit
/-! ### What the printed walks use -/
abbrev CallsTo (P : Program) (f : FuncId) (args : List Value) (w : World) (R : Value → World → Prop) : Prop := Calls P f args.toArray w (fun e w' => ∃ v, e = .returned v ∧ R v w')

section
variable {n : Nat} {P : Program} {ops : Array Oper} {Q : Exit → Act → World → Prop} {F : Frm} {w w' : World}
theorem CallsTo.mono {f : FuncId} {args : List Value} {R R' : Value → World → Prop} (h : CallsTo P f args w R) (hr : ∀ v w', R v w' → R' v w') : CallsTo P f args w R' := Calls.mono h fun _ w' ⟨v, he, hR⟩ => ⟨v, he, hr v w' hR⟩
theorem CallsTo.val {f : FuncId} {args : List Value} {v : Value} (h : CallsTo P f args w (fun v' w' => v' = v ∧ Ext w w')) : Calls P f args.toArray w (fun e w' => e = .returned v ∧ Ext w w') :=
  Calls.mono h fun _ _ ⟨v', he, hv, hx⟩ => ⟨by rw [he, hv], hx⟩

def only (ks : List Nat) : Frm → Frm
  | [] => []
  | (t, i) :: r => match ks.any (Nat.beq t) with
    | true => (t, i) :: only ks r
    | false => only ks r
theorem look_only {ks : List Nat} {t : Nat} {i : Info} : ∀ {F : Frm}, look t (only ks F) = some i → look t F = some i
  | [], h => h
  | (s, j) :: r, h => by
    cases hk : ks.any (Nat.beq s) with
    | true =>
      simp only [only, hk] at h
      by_cases e : s = t
      · subst e; rw [look_cons_eq] at h ⊢; exact h
      · rw [look_cons_ne e] at h ⊢; exact look_only h
    | false =>
      simp only [only, hk] at h
      have h2 := look_only h
      by_cases e : s = t
      · -- the key is not kept
        subst e
        have : look s (only ks r) = none := by
          clear h h2 i
          induction r with
          | nil => rfl
          | cons x r ih =>
            obtain ⟨u, k⟩ := x
            cases hu : ks.any (Nat.beq u) with
            | true =>
              simp only [only, hu]
              have : u ≠ s := fun e => by subst e; rw [hu] at hk; cases hk
              rw [look_cons_ne this]; exact ih
            | false => simp only [only, hu]; exact ih
        rw [this] at h; cases h
      · rw [look_cons_ne e]; exact h2
theorem W.only (ks : List Nat) {c : Code} (h : W n P c Q (G.only ks F) w) : W n P c Q F w := fun a ha => h a ⟨ha.size, ha.defers, fun t i hl => ha.get t i (look_only hl)⟩
theorem E.only (ks : List Nat) {e : Exit} (h : E n Q e (G.only ks F) w) : E n Q e F w := fun a ha => h a ⟨ha.size, ha.defers, fun t i hl => ha.get t i (look_only hl)⟩
theorem Sub.nil (F : Frm) : Sub F [] := trivial
theorem Sub.cons {t : Nat} {i : Info} {r : Frm} (h : look t F = some i) (hs : Sub F r) : Sub F ((t, i) :: r) := ⟨h, hs⟩
theorem Sub.val {t : Nat} {u v : Value} {r : Frm} (h : look t F = some (.val u)) (e : u = v) (hs : Sub F r) : Sub F ((t, .val v) :: r) := ⟨by rw [h, e], hs⟩

/-- The ways meet again. -/
theorem W.cut {c : Code} {ι : Type} (Fi : ι → Frm) (Φ : ι → World → Prop)
    (h : W n P c (fun e a' w' => match e with | .normal => ∃ i, Fits n a' (Fi i) w' ∧ Φ i w' | e => Q e a' w') F w) (hk : ∀ i w', Φ i w' → E n Q .normal (Fi i) w') : W n P c Q F w :=
  fun a ha => wp_mono (h a ha) fun e a' w' q => by
    cases e with
    | normal => obtain ⟨i, h1, h2⟩ := q; exact hk i w' h2 a' h1
    | _ => exact q
theorem E.cutn {ι : Type} {Fi : ι → Frm} {Φ : ι → World → Prop} (i : ι) (hs : Sub F (Fi i)) (hp : Φ i w) :
    E n (fun e a' w' => match e with | .normal => ∃ i, Fits n a' (Fi i) w' ∧ Φ i w' | e => Q e a' w') .normal F w := fun _ ha => ⟨i, ha.sub hs, hp⟩
theorem E.cutx {ι : Type} {Fi : ι → Frm} {Φ : ι → World → Prop} {j : Nat} (h : E n Q (.exit j) F w) :
    E n (fun e a' w' => match e with | .normal => ∃ i, Fits n a' (Fi i) w' ∧ Φ i w' | e => Q e a' w') (.exit j) F w := h
theorem E.cutr {ι : Type} {Fi : ι → Frm} {Φ : ι → World → Prop} (h : E n Q .ret F w) :
    E n (fun e a' w' => match e with | .normal => ∃ i, Fits n a' (Fi i) w' ∧ Φ i w' | e => Q e a' w') .ret F w := h

theorem Ext.grown {a w w' : World} (h : Ext a w) {row : Option Nat} (hg : w.grownBy w' row) (hr : ∀ k, row = some k → a.heap.size ≤ k) : Ext a w' := Below.grown h hg h.size hr

section
variable {ty tx t' : TypeId} {x y : Operand} {a b : Int}
theorem R.add64 (hx : ev F x = some (.int .i64 a)) (hy : ev F y = some (.int .i64 b)) (h : -9223372036854775808 ≤ a + b ∧ a + b ≤ 9223372036854775807) : Runs P w F (.binOp .add tx x y t') ty (.int .i64 (a + b)) := by
  have := R.add (P := P) (w := w) (ty := ty) (tx := tx) (t' := t') hx hy; rwa [IntWalk.i64_in _ h] at this
theorem R.sub64 (hx : ev F x = some (.int .i64 a)) (hy : ev F y = some (.int .i64 b)) (h : -9223372036854775808 ≤ a - b ∧ a - b ≤ 9223372036854775807) : Runs P w F (.binOp .sub tx x y t') ty (.int .i64 (a - b)) := by
  have := R.sub (P := P) (w := w) (ty := ty) (tx := tx) (t' := t') hx hy; rwa [IntWalk.i64_in _ h] at this
theorem R.mul64 (hx : ev F x = some (.int .i64 a)) (hy : ev F y = some (.int .i64 b)) (h : -9223372036854775808 ≤ a * b ∧ a * b ≤ 9223372036854775807) : Runs P w F (.binOp .mul tx x y t') ty (.int .i64 (a * b)) := by
  have := R.mul (P := P) (w := w) (ty := ty) (tx := tx) (t' := t') hx hy; rwa [IntWalk.i64_in _ h] at this
theorem R.quo64 (hx : ev F x = some (.int .i64 a)) (hy : ev F y = some (.int .i64 b)) (h : 0 ≤ a ∧ a ≤ 9223372036854775807 ∧ 1 ≤ b) : Runs P w F (.binOp .quo tx x y t') ty (.int .i64 (a / b)) := by
  have := R.quo (P := P) (w := w) (ty := ty) (tx := tx) (t' := t') hx hy (by omega); rwa [IntWalk.i64_quo _ _ h] at this
theorem R.rem0 {k : IntKind} (hx : ev F x = some (.int k a)) (hy : ev F y = some (.int k b)) (h0 : 0 ≤ a) (h1 : 1 ≤ b) : Runs P w F (.binOp .rem tx x y t') ty (.int k (a % b)) := by
  have := R.rem (P := P) (w := w) (ty := ty) (tx := tx) (t' := t') hx hy (by omega); rwa [IntWalk.rem_in _ _ h0] at this
/-- The index, as a natural number. -/
theorem R.mv {v v' : Value} {op : Op} (h : Runs P w F op ty v) (e : v = v') : Runs P w F op ty v' := e ▸ h
end

/-- A loop over what stands in the frame: 'ks' are the slots that stay. -/
theorem W.loop2 {c : Code} {ι : Type} (ks : List Nat) (Fi : ι → Frm) (Φ : ι → World → Prop) (μ : ι → Nat) (i0 : ι) (hs : Sub F (Fi i0 ++ G.only ks F)) (h0 : Φ i0 w)
    (round : ∀ i w', Φ i w' → W n P c (Exit.then (fun a' w'' => ∃ j, Fits n a' (Fi j ++ G.only ks F) w'' ∧ Φ j w'' ∧ μ j < μ i) Q) (Fi i ++ G.only ks F) w') : W n P (.loop c) Q F w :=
  W.loop (fun i => Fi i ++ G.only ks F) Φ μ i0 hs h0 round
theorem W.loopx1 {cd : Code} {A1 : Type} (ks : List Nat) (Fi : A1 → Frm) (Φ : A1 → World → Prop) (μ : A1 → Nat) (i0 : A1) (hs : Sub F (Fi i0 ++ G.only ks F)) (h0 : Φ i0 w)
    (round : ∀ p0 w', Φ p0 w' → W n P cd (Exit.then (fun a' w'' => ∃ j0, Fits n a' (Fi j0 ++ G.only ks F) w'' ∧ Φ j0 w'' ∧ μ j0 < μ p0) Q) (Fi p0 ++ G.only ks F) w') : W n P (.loop cd) Q F w :=
  W.loop2 (ι := A1) ks (fun x => Fi x) (fun x => Φ x) (fun x => μ x) i0 hs h0 (fun x w' hp => fun a ha => wp_mono (round x w' hp a ha) fun e a' w'' q => by
    cases e with
    | normal => obtain ⟨j0, q1, q2, q3⟩ := q; exact ⟨j0, q1, q2, q3⟩
    | _ => exact q)
theorem E.againx1 {A1 : Type} {Fi : A1 → Frm} {K : Frm} {Φ : A1 → World → Prop} {μ : A1 → Nat} {m0 : Nat} (i0 : A1) (hs : Sub F (Fi i0 ++ K)) (hp : Φ i0 w) (hm : μ i0 < m0) :
    E n (Exit.then (fun a' w'' => ∃ j0, Fits n a' (Fi j0 ++ K) w'' ∧ Φ j0 w'' ∧ μ j0 < m0) Q) .normal F w := fun _ ha => ⟨i0, ha.sub hs, hp, hm⟩
theorem W.loopx2 {cd : Code} {A1 : Type} {A2 : Type} (ks : List Nat) (Fi : A1 → A2 → Frm) (Φ : A1 → A2 → World → Prop) (μ : A1 → A2 → Nat) (i0 : A1) (i1 : A2) (hs : Sub F (Fi i0 i1 ++ G.only ks F)) (h0 : Φ i0 i1 w)
    (round : ∀ p0 p1 w', Φ p0 p1 w' → W n P cd (Exit.then (fun a' w'' => ∃ j0 j1, Fits n a' (Fi j0 j1 ++ G.only ks F) w'' ∧ Φ j0 j1 w'' ∧ μ j0 j1 < μ p0 p1) Q) (Fi p0 p1 ++ G.only ks F) w') : W n P (.loop cd) Q F w :=
  W.loop2 (ι := A1 × A2) ks (fun x => Fi x.1 x.2) (fun x => Φ x.1 x.2) (fun x => μ x.1 x.2) ⟨i0, i1⟩ hs h0 (fun x w' hp => fun a ha => wp_mono (round x.1 x.2 w' hp a ha) fun e a' w'' q => by
    cases e with
    | normal => obtain ⟨j0, j1, q1, q2, q3⟩ := q; exact ⟨⟨j0, j1⟩, q1, q2, q3⟩
    | _ => exact q)
theorem E.againx2 {A1 : Type} {A2 : Type} {Fi : A1 → A2 → Frm} {K : Frm} {Φ : A1 → A2 → World → Prop} {μ : A1 → A2 → Nat} {m0 : Nat} (i0 : A1) (i1 : A2) (hs : Sub F (Fi i0 i1 ++ K)) (hp : Φ i0 i1 w) (hm : μ i0 i1 < m0) :
    E n (Exit.then (fun a' w'' => ∃ j0 j1, Fits n a' (Fi j0 j1 ++ K) w'' ∧ Φ j0 j1 w'' ∧ μ j0 j1 < m0) Q) .normal F w := fun _ ha => ⟨i0, i1, ha.sub hs, hp, hm⟩
theorem W.loopx3 {cd : Code} {A1 : Type} {A2 : Type} {A3 : Type} (ks : List Nat) (Fi : A1 → A2 → A3 → Frm) (Φ : A1 → A2 → A3 → World → Prop) (μ : A1 → A2 → A3 → Nat) (i0 : A1) (i1 : A2) (i2 : A3) (hs : Sub F (Fi i0 i1 i2 ++ G.only ks F)) (h0 : Φ i0 i1 i2 w)
    (round : ∀ p0 p1 p2 w', Φ p0 p1 p2 w' → W n P cd (Exit.then (fun a' w'' => ∃ j0 j1 j2, Fits n a' (Fi j0 j1 j2 ++ G.only ks F) w'' ∧ Φ j0 j1 j2 w'' ∧ μ j0 j1 j2 < μ p0 p1 p2) Q) (Fi p0 p1 p2 ++ G.only ks F) w') : W n P (.loop cd) Q F w :=
  W.loop2 (ι := A1 × A2 × A3) ks (fun x => Fi x.1 x.2.1 x.2.2) (fun x => Φ x.1 x.2.1 x.2.2) (fun x => μ x.1 x.2.1 x.2.2) ⟨i0, i1, i2⟩ hs h0 (fun x w' hp => fun a ha => wp_mono (round x.1 x.2.1 x.2.2 w' hp a ha) fun e a' w'' q => by
    cases e with
    | normal => obtain ⟨j0, j1, j2, q1, q2, q3⟩ := q; exact ⟨⟨j0, j1, j2⟩, q1, q2, q3⟩
    | _ => exact q)
theorem E.againx3 {A1 : Type} {A2 : Type} {A3 : Type} {Fi : A1 → A2 → A3 → Frm} {K : Frm} {Φ : A1 → A2 → A3 → World → Prop} {μ : A1 → A2 → A3 → Nat} {m0 : Nat} (i0 : A1) (i1 : A2) (i2 : A3) (hs : Sub F (Fi i0 i1 i2 ++ K)) (hp : Φ i0 i1 i2 w) (hm : μ i0 i1 i2 < m0) :
    E n (Exit.then (fun a' w'' => ∃ j0 j1 j2, Fits n a' (Fi j0 j1 j2 ++ K) w'' ∧ Φ j0 j1 j2 w'' ∧ μ j0 j1 j2 < m0) Q) .normal F w := fun _ ha => ⟨i0, i1, i2, ha.sub hs, hp, hm⟩
theorem W.loopx4 {cd : Code} {A1 : Type} {A2 : Type} {A3 : Type} {A4 : Type} (ks : List Nat) (Fi : A1 → A2 → A3 → A4 → Frm) (Φ : A1 → A2 → A3 → A4 → World → Prop) (μ : A1 → A2 → A3 → A4 → Nat) (i0 : A1) (i1 : A2) (i2 : A3) (i3 : A4) (hs : Sub F (Fi i0 i1 i2 i3 ++ G.only ks F)) (h0 : Φ i0 i1 i2 i3 w)
    (round : ∀ p0 p1 p2 p3 w', Φ p0 p1 p2 p3 w' → W n P cd (Exit.then (fun a' w'' => ∃ j0 j1 j2 j3, Fits n a' (Fi j0 j1 j2 j3 ++ G.only ks F) w'' ∧ Φ j0 j1 j2 j3 w'' ∧ μ j0 j1 j2 j3 < μ p0 p1 p2 p3) Q) (Fi p0 p1 p2 p3 ++ G.only ks F) w') : W n P (.loop cd) Q F w :=
  W.loop2 (ι := A1 × A2 × A3 × A4) ks (fun x => Fi x.1 x.2.1 x.2.2.1 x.2.2.2) (fun x => Φ x.1 x.2.1 x.2.2.1 x.2.2.2) (fun x => μ x.1 x.2.1 x.2.2.1 x.2.2.2) ⟨i0, i1, i2, i3⟩ hs h0 (fun x w' hp => fun a ha => wp_mono (round x.1 x.2.1 x.2.2.1 x.2.2.2 w' hp a ha) fun e a' w'' q => by
    cases e with
    | normal => obtain ⟨j0, j1, j2, j3, q1, q2, q3⟩ := q; exact ⟨⟨j0, j1, j2, j3⟩, q1, q2, q3⟩
    | _ => exact q)
theorem E.againx4 {A1 : Type} {A2 : Type} {A3 : Type} {A4 : Type} {Fi : A1 → A2 → A3 → A4 → Frm} {K : Frm} {Φ : A1 → A2 → A3 → A4 → World → Prop} {μ : A1 → A2 → A3 → A4 → Nat} {m0 : Nat} (i0 : A1) (i1 : A2) (i2 : A3) (i3 : A4) (hs : Sub F (Fi i0 i1 i2 i3 ++ K)) (hp : Φ i0 i1 i2 i3 w) (hm : μ i0 i1 i2 i3 < m0) :
    E n (Exit.then (fun a' w'' => ∃ j0 j1 j2 j3, Fits n a' (Fi j0 j1 j2 j3 ++ K) w'' ∧ Φ j0 j1 j2 j3 w'' ∧ μ j0 j1 j2 j3 < m0) Q) .normal F w := fun _ ha => ⟨i0, i1, i2, i3, ha.sub hs, hp, hm⟩
theorem W.loopx5 {cd : Code} {A1 : Type} {A2 : Type} {A3 : Type} {A4 : Type} {A5 : Type} (ks : List Nat) (Fi : A1 → A2 → A3 → A4 → A5 → Frm) (Φ : A1 → A2 → A3 → A4 → A5 → World → Prop) (μ : A1 → A2 → A3 → A4 → A5 → Nat) (i0 : A1) (i1 : A2) (i2 : A3) (i3 : A4) (i4 : A5) (hs : Sub F (Fi i0 i1 i2 i3 i4 ++ G.only ks F)) (h0 : Φ i0 i1 i2 i3 i4 w)
    (round : ∀ p0 p1 p2 p3 p4 w', Φ p0 p1 p2 p3 p4 w' → W n P cd (Exit.then (fun a' w'' => ∃ j0 j1 j2 j3 j4, Fits n a' (Fi j0 j1 j2 j3 j4 ++ G.only ks F) w'' ∧ Φ j0 j1 j2 j3 j4 w'' ∧ μ j0 j1 j2 j3 j4 < μ p0 p1 p2 p3 p4) Q) (Fi p0 p1 p2 p3 p4 ++ G.only ks F) w') : W n P (.loop cd) Q F w :=
  W.loop2 (ι := A1 × A2 × A3 × A4 × A5) ks (fun x => Fi x.1 x.2.1 x.2.2.1 x.2.2.2.1 x.2.2.2.2) (fun x => Φ x.1 x.2.1 x.2.2.1 x.2.2.2.1 x.2.2.2.2) (fun x => μ x.1 x.2.1 x.2.2.1 x.2.2.2.1 x.2.2.2.2) ⟨i0, i1, i2, i3, i4⟩ hs h0 (fun x w' hp => fun a ha => wp_mono (round x.1 x.2.1 x.2.2.1 x.2.2.2.1 x.2.2.2.2 w' hp a ha) fun e a' w'' q => by
    cases e with
    | normal => obtain ⟨j0, j1, j2, j3, j4, q1, q2, q3⟩ := q; exact ⟨⟨j0, j1, j2, j3, j4⟩, q1, q2, q3⟩
    | _ => exact q)
theorem E.againx5 {A1 : Type} {A2 : Type} {A3 : Type} {A4 : Type} {A5 : Type} {Fi : A1 → A2 → A3 → A4 → A5 → Frm} {K : Frm} {Φ : A1 → A2 → A3 → A4 → A5 → World → Prop} {μ : A1 → A2 → A3 → A4 → A5 → Nat} {m0 : Nat} (i0 : A1) (i1 : A2) (i2 : A3) (i3 : A4) (i4 : A5) (hs : Sub F (Fi i0 i1 i2 i3 i4 ++ K)) (hp : Φ i0 i1 i2 i3 i4 w) (hm : μ i0 i1 i2 i3 i4 < m0) :
    E n (Exit.then (fun a' w'' => ∃ j0 j1 j2 j3 j4, Fits n a' (Fi j0 j1 j2 j3 j4 ++ K) w'' ∧ Φ j0 j1 j2 j3 j4 w'' ∧ μ j0 j1 j2 j3 j4 < m0) Q) .normal F w := fun _ ha => ⟨i0, i1, i2, i3, i4, ha.sub hs, hp, hm⟩
theorem W.loopx6 {cd : Code} {A1 : Type} {A2 : Type} {A3 : Type} {A4 : Type} {A5 : Type} {A6 : Type} (ks : List Nat) (Fi : A1 → A2 → A3 → A4 → A5 → A6 → Frm) (Φ : A1 → A2 → A3 → A4 → A5 → A6 → World → Prop) (μ : A1 → A2 → A3 → A4 → A5 → A6 → Nat) (i0 : A1) (i1 : A2) (i2 : A3) (i3 : A4) (i4 : A5) (i5 : A6) (hs : Sub F (Fi i0 i1 i2 i3 i4 i5 ++ G.only ks F)) (h0 : Φ i0 i1 i2 i3 i4 i5 w)
    (round : ∀ p0 p1 p2 p3 p4 p5 w', Φ p0 p1 p2 p3 p4 p5 w' → W n P cd (Exit.then (fun a' w'' => ∃ j0 j1 j2 j3 j4 j5, Fits n a' (Fi j0 j1 j2 j3 j4 j5 ++ G.only ks F) w'' ∧ Φ j0 j1 j2 j3 j4 j5 w'' ∧ μ j0 j1 j2 j3 j4 j5 < μ p0 p1 p2 p3 p4 p5) Q) (Fi p0 p1 p2 p3 p4 p5 ++ G.only ks F) w') : W n P (.loop cd) Q F w :=
  W.loop2 (ι := A1 × A2 × A3 × A4 × A5 × A6) ks (fun x => Fi x.1 x.2.1 x.2.2.1 x.2.2.2.1 x.2.2.2.2.1 x.2.2.2.2.2) (fun x => Φ x.1 x.2.1 x.2.2.1 x.2.2.2.1 x.2.2.2.2.1 x.2.2.2.2.2) (fun x => μ x.1 x.2.1 x.2.2.1 x.2.2.2.1 x.2.2.2.2.1 x.2.2.2.2.2) ⟨i0, i1, i2, i3, i4, i5⟩ hs h0 (fun x w' hp => fun a ha => wp_mono (round x.1 x.2.1 x.2.2.1 x.2.2.2.1 x.2.2.2.2.1 x.2.2.2.2.2 w' hp a ha) fun e a' w'' q => by
    cases e with
    | normal => obtain ⟨j0, j1, j2, j3, j4, j5, q1, q2, q3⟩ := q; exact ⟨⟨j0, j1, j2, j3, j4, j5⟩, q1, q2, q3⟩
    | _ => exact q)
theorem E.againx6 {A1 : Type} {A2 : Type} {A3 : Type} {A4 : Type} {A5 : Type} {A6 : Type} {Fi : A1 → A2 → A3 → A4 → A5 → A6 → Frm} {K : Frm} {Φ : A1 → A2 → A3 → A4 → A5 → A6 → World → Prop} {μ : A1 → A2 → A3 → A4 → A5 → A6 → Nat} {m0 : Nat} (i0 : A1) (i1 : A2) (i2 : A3) (i3 : A4) (i4 : A5) (i5 : A6) (hs : Sub F (Fi i0 i1 i2 i3 i4 i5 ++ K)) (hp : Φ i0 i1 i2 i3 i4 i5 w) (hm : μ i0 i1 i2 i3 i4 i5 < m0) :
    E n (Exit.then (fun a' w'' => ∃ j0 j1 j2 j3 j4 j5, Fits n a' (Fi j0 j1 j2 j3 j4 j5 ++ K) w'' ∧ Φ j0 j1 j2 j3 j4 j5 w'' ∧ μ j0 j1 j2 j3 j4 j5 < m0) Q) .normal F w := fun _ ha => ⟨i0, i1, i2, i3, i4, i5, ha.sub hs, hp, hm⟩
theorem W.loopx7 {cd : Code} {A1 : Type} {A2 : Type} {A3 : Type} {A4 : Type} {A5 : Type} {A6 : Type} {A7 : Type} (ks : List Nat) (Fi : A1 → A2 → A3 → A4 → A5 → A6 → A7 → Frm) (Φ : A1 → A2 → A3 → A4 → A5 → A6 → A7 → World → Prop) (μ : A1 → A2 → A3 → A4 → A5 → A6 → A7 → Nat) (i0 : A1) (i1 : A2) (i2 : A3) (i3 : A4) (i4 : A5) (i5 : A6) (i6 : A7) (hs : Sub F (Fi i0 i1 i2 i3 i4 i5 i6 ++ G.only ks F)) (h0 : Φ i0 i1 i2 i3 i4 i5 i6 w)
    (round : ∀ p0 p1 p2 p3 p4 p5 p6 w', Φ p0 p1 p2 p3 p4 p5 p6 w' → W n P cd (Exit.then (fun a' w'' => ∃ j0 j1 j2 j3 j4 j5 j6, Fits n a' (Fi j0 j1 j2 j3 j4 j5 j6 ++ G.only ks F) w'' ∧ Φ j0 j1 j2 j3 j4 j5 j6 w'' ∧ μ j0 j1 j2 j3 j4 j5 j6 < μ p0 p1 p2 p3 p4 p5 p6) Q) (Fi p0 p1 p2 p3 p4 p5 p6 ++ G.only ks F) w') : W n P (.loop cd) Q F w :=
  W.loop2 (ι := A1 × A2 × A3 × A4 × A5 × A6 × A7) ks (fun x => Fi x.1 x.2.1 x.2.2.1 x.2.2.2.1 x.2.2.2.2.1 x.2.2.2.2.2.1 x.2.2.2.2.2.2) (fun x => Φ x.1 x.2.1 x.2.2.1 x.2.2.2.1 x.2.2.2.2.1 x.2.2.2.2.2.1 x.2.2.2.2.2.2) (fun x => μ x.1 x.2.1 x.2.2.1 x.2.2.2.1 x.2.2.2.2.1 x.2.2.2.2.2.1 x.2.2.2.2.2.2) ⟨i0, i1, i2, i3, i4, i5, i6⟩ hs h0 (fun x w' hp => fun a ha => wp_mono (round x.1 x.2.1 x.2.2.1 x.2.2.2.1 x.2.2.2.2.1 x.2.2.2.2.2.1 x.2.2.2.2.2.2 w' hp a ha) fun e a' w'' q => by
    cases e with
    | normal => obtain ⟨j0, j1, j2, j3, j4, j5, j6, q1, q2, q3⟩ := q; exact ⟨⟨j0, j1, j2, j3, j4, j5, j6⟩, q1, q2, q3⟩
    | _ => exact q)
theorem E.againx7 {A1 : Type} {A2 : Type} {A3 : Type} {A4 : Type} {A5 : Type} {A6 : Type} {A7 : Type} {Fi : A1 → A2 → A3 → A4 → A5 → A6 → A7 → Frm} {K : Frm} {Φ : A1 → A2 → A3 → A4 → A5 → A6 → A7 → World → Prop} {μ : A1 → A2 → A3 → A4 → A5 → A6 → A7 → Nat} {m0 : Nat} (i0 : A1) (i1 : A2) (i2 : A3) (i3 : A4) (i4 : A5) (i5 : A6) (i6 : A7) (hs : Sub F (Fi i0 i1 i2 i3 i4 i5 i6 ++ K)) (hp : Φ i0 i1 i2 i3 i4 i5 i6 w) (hm : μ i0 i1 i2 i3 i4 i5 i6 < m0) :
    E n (Exit.then (fun a' w'' => ∃ j0 j1 j2 j3 j4 j5 j6, Fits n a' (Fi j0 j1 j2 j3 j4 j5 j6 ++ K) w'' ∧ Φ j0 j1 j2 j3 j4 j5 j6 w'' ∧ μ j0 j1 j2 j3 j4 j5 j6 < m0) Q) .normal F w := fun _ ha => ⟨i0, i1, i2, i3, i4, i5, i6, ha.sub hs, hp, hm⟩
end
end Go.G
