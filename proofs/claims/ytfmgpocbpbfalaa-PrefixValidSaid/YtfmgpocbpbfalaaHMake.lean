/-
  Literals, conversions, closures; slices that are frozen.
-/
import Derived.Test.YtfmgpocbpbfalaaHCall2
namespace Go.H
open Go Go.RowKit
open Go.G (Ext Gr Blk)

def IV.toU : IV → UV
  | .u x => x
  | _ => .sc undef
def IV.isU : IV → Bool
  | .u _ => true
  | _ => false
/-- The cells of a value without memory of the call's own. -/
def IV.us (i : IV) : List UV := i.cells.map IV.toU
def usOk (sz : Nat) (i : IV) : Bool := i.cells.all IV.isU && Nat.beq i.us.length sz && i.us.all UV.one
theorem us_map {l : List IV} (h : l.all IV.isU = true) : (l.map IV.toU).map IV.u = l := by
  induction l with
  | nil => rfl
  | cons i r ih =>
    simp only [List.all_cons, Bool.and_eq_true] at h
    rw [List.map_cons, List.map_cons, ih h.2]
    cases i with
    | u x => rfl
    | _ => simp [IV.isU] at h
section
variable {c : Ctx} {P : Program} {F : Frm} {S : Sto} {ops : Array Oper} {T T2 N : List Nat} {d : Nat} {op : Op} {ty : TypeId} {pos : String} {af : Array Edge} {gd : Option (Nat × Bool)}
  {σ : Sig} {τ τ' : Nat → Value} {a : Act} {w w' : World} {δ : Chg}
theorem us_rep {ok : Nat → Prop} {i : IV} {v : Value} {sz : Nat} (h : RepI τ w ok i v) (ho : usOk sz i = true) (hp : 0 < sz) : AllU w ok i.us v.cells.toList ∧ i.us.length = sz ∧ ∀ u ∈ i.us, u.one = true := by
  simp only [usOk, Bool.and_eq_true] at ho
  have hl : i.us.length = sz := Nat.eq_of_beq_eq_true ho.1.2
  have hne : i ≠ .junk := fun e => by subst e; simp [IV.us, IV.cells] at hl; omega
  have hc := h.cells hne
  rw [← us_map ho.1.1] at hc
  exact ⟨allU_of hc, hl, fun u hu => List.all_eq_true.1 ho.2 u hu⟩
theorem O.buildSlice {t e : TypeId} {len sz : Nat} {parts : List (Nat × Operand)} {is : List IV} {rows : List (List UV)} {inf : TypeInfo} {z : Value} (kk : Nat) (hv : evs F (parts.map (·.2)) = some is) (hp1 : parts.map (·.1) = List.range' 0 len) (ht : P.underlying t = some (.slice e))
    (hi : P.info? e = some inf) (hz : inf.zero = some z) (hs : inf.size = sz) (hp : 0 < sz) (hlen : is.length = len) (hsmall : len * sz ≤ 16777216) (hus : is.all (usOk sz) = true) (hr : is.map IV.us = rows) (hd : Nat.blt d c.n = true) (hg : Taken ops F gd) :
    OpOk c P ops ⟨some d, .buildSlice t len parts.toArray, ty, pos, af, gd⟩ F S [kk] [kk] (some (.own kk)) [(kk, some (.data e sz rows))] := by
  refine OpOk.mem hd hg fun σ τ a w hA _ hN h => ?_
  subst hr
  obtain ⟨g1, g2⟩ := evs_all h hA (args := parts.map (·.2)) (fun x hx => by simpa [Op.operands] using hx) hv
  have hrows : ∀ (i : Nat) (iv : IV) (v : Value), is[i]? = some iv → ((parts.map (·.2)).map a.eval)[i]? = some v → AllU w (okOf c τ σ.sto) iv.us v.cells.toList ∧ iv.us.length = sz ∧ ∀ u ∈ iv.us, u.one = true :=
    fun i iv v h1 h2 => us_rep (g1.2 i iv v h1 h2) (List.all_eq_true.1 hus iv (List.mem_of_getElem? h1)) hp
  obtain ⟨vs, hvs⟩ : ∃ vs, vs = (parts.map (·.2)).map a.eval := ⟨_, rfl⟩
  rw [← hvs] at g1 g2 hrows
  have hvl : vs.length = len := by rw [← g1.1, hlen]
  have hcz : ∀ v ∈ vs, v.cells.toList.length = sz := fun v hv' => by
    obtain ⟨i, hi1, hi2⟩ := List.mem_iff_getElem.1 hv'
    have hi3 : i < is.length := by rw [g1.1]; exact hi1
    obtain ⟨q1, q2, _⟩ := hrows i is[i] v (List.getElem?_eq_getElem hi3) (by rw [List.getElem?_eq_getElem hi1, hi2])
    rw [← q1.1, q2]
  obtain ⟨xs, hxs⟩ : ∃ xs : List (Row sz), xs.map (·.1) = vs.map (·.cells.toList) := by
    clear hrows hvs g1 g2 hvl
    induction vs with
    | nil => exact ⟨[], rfl⟩
    | cons v r ih =>
      obtain ⟨xs, hxs⟩ := ih (fun u hu => hcz u (by simp [hu]))
      exact ⟨⟨v.cells.toList, hcz v (by simp)⟩ :: xs, by simp [hxs]⟩
  have hxl : xs.length = vs.length := by have := congrArg List.length hxs; simpa using this
  have hall : (encRow sz hp).all xs = vs.flatMap (fun v => v.cells.toList) := by
    show xs.flatMap (·.1) = _
    rw [List.flatMap_def, List.flatMap_def, hxs]
  obtain ⟨v, w', r1, g, rfl, rfl, r4, r5, r6⟩ := run_value (o := ⟨some d, .buildSlice t len parts.toArray, ty, pos, af, gd⟩) (G.M.buildSlice (P := P) (w := w) (ty := ty) (E := encRow sz hp) (ys := xs) g2 hp1 ht hi hz hs (by rw [hxl, hvl]) hvl hsmall
    (fun v hv' => by have := hcz v hv'; simpa [encRow] using this) hall) rfl rfl rfl
  have hrep : AllRows w (okOf c τ σ.sto) (is.map IV.us) xs := by
    refine ⟨by simp [hxl, ← g1.1], fun i row x q1 q2 => ?_⟩
    rw [List.getElem?_map, Option.map_eq_some_iff] at q1
    obtain ⟨iv, q1, rfl⟩ := q1
    have hi1 : i < vs.length := by rw [← hxl]; exact (List.getElem?_eq_some_iff.1 q2).1
    have e1 : (xs.map (·.1))[i]? = some x.1 := by simp [q2]
    rw [hxs, List.getElem?_map, Option.map_eq_some_iff] at e1
    obtain ⟨v, e1, e2⟩ := e1
    rw [← e2]
    exact (hrows i iv v q1 e1).1
  have hone : ∀ u ∈ (is.map IV.us).flatten, u.one = true := fun u hu => by
    obtain ⟨r, hr, hu⟩ := List.mem_flatten.1 hu
    obtain ⟨iv, hiv, rfl⟩ := List.mem_map.1 hr
    have := List.all_eq_true.1 hus iv hiv
    simp only [usOk, Bool.and_eq_true] at this
    exact List.all_eq_true.1 this.2 u hu
  have := h.new (k := kk) (sb := .data e sz (is.map IV.us)) (v := .slice (some ⟨w.heap.size, 0, none⟩) xs.length xs.length) hN r5 (fun b hb => by cases hb; exact Nat.le_refl _)
    (fun hok => RepB.of_own hp (xs := xs) (by rw [upτ_eq]; exact r6.mono (Nat.zero_le _)) (hrep.mono r5.size hok) hone)
  have e' := own_one (this.1.sto kk (.data e sz (is.map IV.us)) (by simp [Sig.upd, look]))
  have hr := RepI.own (τ := upτ τ kk (.slice (some ⟨w.heap.size, 0, none⟩) xs.length xs.length)) (w := w') (ok := okOf c (upτ τ kk (.slice (some ⟨w.heap.size, 0, none⟩) xs.length xs.length)) (σ.upd none none [(kk, some (.data e sz (is.map IV.us)))]).sto) kk e'
  rw [upτ_eq] at hr
  exact ⟨_, w', _, r1, this.1, hr⟩

/-! ### A struct's value out of parts -/
def fillI (place : Nat → Option (Nat × Nat)) (cells : List IV) : List (Nat × IV) → Option (List IV)
  | [] => some cells
  | (i, x) :: rest => match place i with
    | none => none
    | some (off, size) => if !Nat.beq x.cells.length size || !Nat.ble (off + size) cells.length then none else fillI place (cells.take off ++ x.cells ++ cells.drop (off + x.cells.length)) rest
theorem fill_rep {ok : Nat → Prop} {place : Nat → Option (Nat × Nat)} : ∀ {ps : List Nat} {is : List IV} {vs : List Value} {ci res : List IV} {cv : List Value}, AllI τ w ok ci cv → AllI τ w ok is vs → (∀ i ∈ is, i ≠ .junk) →
    fillI place ci (ps.zip is) = some res → ∃ rv : List Value, Instr.fill place cv.toArray (ps.zip vs) = some rv.toArray ∧ AllI τ w ok res rv
  | [], is, vs, ci, res, cv, hc, hi, _, hf => by simp [fillI] at hf; subst hf; exact ⟨cv, by simp [Instr.fill], hc⟩
  | p :: ps, [], [], ci, res, cv, hc, hi, _, hf => by simp [fillI] at hf; subst hf; exact ⟨cv, by simp [Instr.fill], hc⟩
  | p :: ps, [], _ :: _, ci, res, cv, hc, hi, _, hf => by have := hi.1; simp at this
  | p :: ps, _ :: _, [], ci, res, cv, hc, hi, _, hf => by have := hi.1; simp at this
  | p :: ps, i :: is, v :: vs, ci, res, cv, hc, hi, hj, hf => by
    rw [List.zip_cons_cons, fillI] at hf
    cases hpl : place p with
    | none => rw [hpl] at hf; cases hf
    | some q =>
      obtain ⟨off, size⟩ := q
      rw [hpl] at hf
      simp only at hf
      split at hf
      · cases hf
      · rename_i hcond
        simp only [Bool.or_eq_true, Bool.not_eq_true', not_or, Bool.not_eq_false] at hcond
        have e1 : i.cells.length = size := Nat.eq_of_beq_eq_true hcond.1
        have e2 : off + size ≤ ci.length := Nat.le_of_ble_eq_true hcond.2
        have hv := (hi.2 0 i v rfl rfl).cells (hj i (by simp))
        have hsz : v.cells.toList.length = size := by rw [← hv.1, e1]
        have hfit : ¬ (v.cells.size ≠ size || decide (off + v.cells.size > cv.toArray.size)) = true := by
          have : v.cells.size = size := by simpa using hsz
          simp [this, ← hc.1]; omega
        have hset : v.cells.zipIdx.foldl (fun (cs : Array Value) (p : Value × Nat) => cs.setIfInBounds (off + p.2) p.1) cv.toArray = (cv.take off ++ v.cells.toList ++ cv.drop (off + i.cells.length)).toArray := by
          have h1 := G.set_all off v.cells.toList 0 cv.toArray (by rw [hsz]; simp [← hc.1]; omega)
          rw [← Array.foldl_toList, Array.toList_zipIdx, h1]
          simp only [Nat.add_zero, hsz, e1]
        obtain ⟨rv, q1, q2⟩ := fill_rep (ps := ps) (is := is) (vs := vs) (((hc.take off).app hv).app (hc.drop (off + i.cells.length))) ⟨by simpa using hi.1, fun j u x h1 h2 => hi.2 (j + 1) u x (by simpa using h1) (by simpa using h2)⟩ (fun j hj' => hj j (by simp [hj'])) hf
        refine ⟨rv, ?_, q2⟩
        rw [List.zip_cons_cons, Instr.fill, hpl]
        simp only [if_neg hfit]
        have hb : (fun (cs : Array Value) (x : Value × Nat) => match x with | (c, j) => cs.setIfInBounds (off + j) c) = (fun (cs : Array Value) (p : Value × Nat) => cs.setIfInBounds (off + p.2) p.1) := rfl
        rw [hb, hset, q1]
def notJunk : IV → Bool
  | .junk => false
  | _ => true
theorem O.build {t : TypeId} {parts : List (Nat × Operand)} {is res : List IV} {fs : Array Field} {places : List (Nat × Nat)} {z : Value} (hv : evs F (parts.map (·.2)) = some is) (hj : is.all notJunk = true) (ht : P.underlying t = some (.struct fs)) (hz : (P.info? t).bind (·.zero) = some z)
    (hp : ∀ w : World, (fs.mapM (fun f => do pure (f.offset, ← sizeOf f.type) : Field → Sem (Nat × Nat))).run P w = .ok places.toArray w)
    (hfill : fillI (places.toArray[·]?) (z.cells.toList.map fun v => .u (.sc v)) ((parts.map (·.1)).zip is) = some res) (hd : Nat.blt d c.n = true) (hg : Taken ops F gd) :
    OpOk c P ops ⟨some d, .build t parts.toArray, ty, pos, af, gd⟩ F S [] [] (some (.agg res)) [] :=
  OpOk.runs hd hg fun σ τ a w hA hB h => by
    obtain ⟨g1, g2⟩ := evs_all h hA (args := parts.map (·.2)) (fun x hx => by simpa [Op.operands] using hx) hv
    obtain ⟨rv, q1, q2⟩ := fill_rep (ps := parts.map (·.1)) (AllI.sc z.cells.toList) g1 (fun i hi e => by have := List.all_eq_true.1 hj i hi; subst e; simp [notJunk] at this) hfill
    exact ⟨_, G.R.build g2 ht hz hp (by rw [← q1]), .agg q2.1 q2.2⟩

/-! ### Conversions, closures -/
def eB (b : UInt8) : List UV := [.sc (.int .u8 b.toNat)]
def eI (n : Int) : List UV := [.sc (.int .i64 n)]
def eS (s : ByteArray) : List UV := [.sc (.string s)]
theorem flat_eB (l : List UInt8) : (l.map eB).flatten = l.map fun b => .sc (.int .u8 b.toNat) := by
  induction l with
  | nil => rfl
  | cons b l ih => rw [List.map_cons, List.flatten_cons, ih]; rfl
theorem O.b2s {x : Operand} {s e dd : TypeId} {l : List UInt8} (hs' : SlOf F S T x 1 (l.map eB)) (hs : P.underlying s = some (.slice e)) (he : P.underlying e = some (.int .u8)) (hdd : P.underlying dd = some .string) (hd : Nat.blt d c.n = true) (hg : Taken ops F gd) :
    OpOk c P ops ⟨some d, .convert s dd x, ty, pos, af, gd⟩ F S T [] (some (.u (.sc (.string ⟨l.toArray⟩)))) [] :=
  OpOk.runs hd hg fun σ τ a w hA hB h => by
    obtain ⟨i, hx, hs'⟩ := hs'
    obtain ⟨h1, h2⟩ := h.opd hA (by simp [Op.operands]) hx
    obtain ⟨hp, xs, lo, hi, q1, q2, _⟩ := hs' c σ τ a w _ hB h h1
    refine ⟨_, G.R.b2s (l := l) (lo := lo) (hi := hi) h2 ?_ hs he hdd, .u (.sc _)⟩
    obtain ⟨A, cc, e1, e2, e3, e4⟩ := q1.out
    have hll : l.length = xs.length := by have := q2.1; simpa using this
    have hall : (encRow 1 hp).all xs = G.encU8.all l := by
      have hA' := (q2.flat (h := hp)).1
      rw [flat_eB] at hA'
      rw [G.encU8_all]
      apply List.ext_getElem?
      intro j
      by_cases hj : j < l.length
      · have hj2 : j < ((encRow 1 hp).all xs).length := by rw [← hA'.1]; simpa using hj
        have := hA'.2 j (.sc (.int .u8 (l[j]).toNat)) _ (by simp [hj]) (List.getElem?_eq_getElem hj2)
        rw [List.getElem?_eq_getElem hj2]
        generalize ((encRow 1 hp).all xs)[j] = v at this
        cases this
        simp [hj]
      · rw [List.getElem?_eq_none (by rw [← hA'.1]; simpa using hj), List.getElem?_eq_none (by simpa using hj)]
    refine ⟨A, cc, by rw [hll]; exact e1, by omega, e3, fun hne => ?_⟩
    obtain ⟨ad, z1, z2, z3, z4⟩ := e4 (fun e => by subst e; exact hne (List.eq_nil_of_length_eq_zero (by simpa using hll)))
    exact ⟨ad, z1, z2, z3, by rw [← hall]; exact z4⟩
theorem O.makeFunc {fn : Fn} {first caps : List Operand} {f c' : List IV} (hf : evs F first = some f) (hc : evs F caps = some c') (hd : Nat.blt d c.n = true) (hg : Taken ops F gd) :
    OpOk c P ops ⟨some d, .makeFunc fn first.toArray caps.toArray, ty, pos, af, gd⟩ F S [] [] (some (.clo fn f c')) [] :=
  OpOk.val hd hg fun σ τ a w hA _ h => by
    obtain ⟨g1, _⟩ := evs_all h hA (args := first) (fun x hx => by simp [Op.operands, hx]) hf
    obtain ⟨g2, _⟩ := evs_all h hA (args := caps) (fun x hx => by simp [Op.operands, hx]) hc
    refine ⟨.func fn (first.map a.eval).toArray (caps.map a.eval).toArray, ?_, .clo g1.1 g1.2 g2.1 g2.2⟩
    simp [execOp, Instr.makeFunc]
/-- A test for nil of a slice that is not empty. -/
theorem O.isnil {x : Operand} {tx t' e : TypeId} {sz : Nat} {rows : List (List UV)} (hs : SlOf F S T x sz rows) (hne : 0 < rows.length) (ht : P.underlying tx = some (.slice e)) (hd : Nat.blt d c.n = true) (hg : Taken ops F gd) :
    OpOk c P ops ⟨some d, .binOp .eql tx x (.const (.slice none 0 0)) t', ty, pos, af, gd⟩ F S T [] (some (.u (.sc (.bool false)))) [] :=
  OpOk.runs hd hg fun σ τ a w hA hB h => by
    obtain ⟨i, hx, hs⟩ := hs
    obtain ⟨h1, h2⟩ := h.opd hA (by simp [Op.operands]) hx
    obtain ⟨hp, xs, lo, hi, h3, h4, _⟩ := hs c σ τ a w _ hB h h1
    refine ⟨_, G.R.isnil h2 h3 ht, ?_⟩
    obtain ⟨A, cc, e1, _, _, e4⟩ := h3.out
    obtain ⟨ad, rfl, _⟩ := e4 (fun e => by rw [e] at h4; have := h4.1; simp at this; simp [this] at hne)
    rw [e1]; exact .u (.sc _)

/-! ### Freezing -/
mutual
def IV.fz (k : Nat) (x : UV) : IV → IV
  | .u y => .u y
  | .own j => match Nat.beq j k with | true => .u x | false => .own j
  | .ref j o => match Nat.beq j k with | true => .junk | false => .ref j o
  | .el j s i o => match Nat.beq j k with | true => .junk | false => .el j s i o
  | .osl j s i o => match Nat.beq j k with | true => .junk | false => .osl j s i o
  | .agg l => .agg (IV.fzL k x l)
  | .tup l => .tup (IV.fzL k x l)
  | .clo fn f c => .clo fn (IV.fzL k x f) (IV.fzL k x c)
  | .junk => .junk
termination_by structural i => i
def IV.fzL (k : Nat) (x : UV) : List IV → List IV
  | [] => []
  | i :: r => i.fz k x :: IV.fzL k x r
termination_by structural l => l
end
theorem IV.fzL_map (k : Nat) (x : UV) : ∀ l : List IV, IV.fzL k x l = l.map (·.fz k x)
  | [] => rfl
  | i :: r => by rw [IV.fzL, IV.fzL_map k x r]; rfl
theorem RepI.fz {ok ok' : Nat → Prop} {k : Nat} {x : UV} {i : IV} {v : Value} (h : RepI τ w ok i v) (hok : ∀ b, ok b → ok' b) (hx : RepU w ok' x (τ k)) : RepI τ w ok' (i.fz k x) v := by
  induction h with
  | u h => exact .u (h.mono (Nat.le_refl _) (fun b hb _ => ⟨hok b hb, rfl⟩))
  | own j h =>
    rw [IV.fz]
    split
    · rename_i e; rw [Nat.eq_of_beq_eq_true e]; exact .u hx
    · exact .own j h
  | ref h => rw [IV.fz]; split <;> first | exact .junk _ | exact .ref h
  | el h => rw [IV.fz]; split <;> first | exact .junk _ | exact .el h
  | osl h h1 h2 => rw [IV.fz]; split <;> first | exact .junk _ | exact .osl h h1 h2
  | agg hl _ ih =>
    rw [IV.fz, IV.fzL_map]
    refine .agg (by simpa using hl) fun i u v h1 h2 => ?_
    rw [List.getElem?_map, Option.map_eq_some_iff] at h1
    obtain ⟨y, h1, rfl⟩ := h1
    exact ih i y v h1 h2
  | tup hl _ ih =>
    rw [IV.fz, IV.fzL_map]
    refine .tup (by simpa using hl) fun i u v h1 h2 => ?_
    rw [List.getElem?_map, Option.map_eq_some_iff] at h1
    obtain ⟨y, h1, rfl⟩ := h1
    exact ih i y v h1 h2
  | clo hl _ hl' _ ih ih' =>
    rw [IV.fz, IV.fzL_map, IV.fzL_map]
    refine .clo (by simpa using hl) (fun i u v h1 h2 => ?_) (by simpa using hl') (fun i u v h1 h2 => ?_)
    · rw [List.getElem?_map, Option.map_eq_some_iff] at h1
      obtain ⟨y, h1, rfl⟩ := h1
      exact ih i y v h1 h2
    · rw [List.getElem?_map, Option.map_eq_some_iff] at h1
      obtain ⟨y, h1, rfl⟩ := h1
      exact ih' i y v h1 h2
  | junk v => exact .junk v
/-- Slots anew, where a slice is frozen. -/
def fzF (k : Nat) (x : UV) (F : Frm) : List Nat → Frm
  | [] => F
  | t :: r => (t, match look t F with | some i => i.fz k x | none => .junk) :: fzF k x F r
def FzF (k : Nat) (x : UV) (F : Frm) : Frm → Prop
  | [] => True
  | (t, j) :: r => (∃ i, look t F = some i ∧ i.fz k x = j) ∧ FzF k x F r
theorem okOf_dead {k : Nat} {F F' : Frm} {b : Nat} (hb : okOf c τ (mk F S).sto b) : okOf c τ (mk F' ((k, .dead) :: S)).sto b :=
  ⟨hb.1, fun j sb hj => by
    by_cases e : k = j
    · subst e; have : lookS k ((k, .dead) :: S) = some sb := hj; rw [lookS_dead] at this; cases this
    · have : lookS j ((k, .dead) :: S) = some sb := hj; rw [lookS_ne e] at this; exact hb.2 j sb this⟩
theorem Sat.freeze {F' : Frm} {t sz k : Nat} {rows : List (List UV)} (hS : lookS k S = some (.data t sz rows)) (hF : FzF k (.sl sz rows) F F') (h : Sat c (mk F S) a w) : Sat c (mk (F' ++ F) ((k, .dead) :: S)) a w := by
  obtain ⟨τ, h⟩ := h
  have hok : ∀ b, okOf c τ (mk F S).sto b → b < w.heap.size → okOf c τ (mk (F' ++ F) ((k, .dead) :: S)).sto b ∧ w.heap[b]? = w.heap[b]? := fun b hb _ => ⟨okOf_dead hb, rfl⟩
  have hsto : ∀ j sb, (mk (F' ++ F) ((k, .dead) :: S)).sto j = some sb → j ≠ k ∧ lookS j S = some sb := fun j sb hj => by
    have hj' : lookS j ((k, .dead) :: S) = some sb := hj
    by_cases e : k = j
    · subst e; rw [lookS_dead] at hj'; cases hj'
    · rw [lookS_ne e] at hj'; exact ⟨Ne.symm e, hj'⟩
  have hx : RepU w (okOf c τ (mk (F' ++ F) ((k, .dead) :: S)).sto) (.sl sz rows) (τ k) := by
    refine own_sl (h.sto k _ hS) (fun b hb => ⟨?_, fun j sb hj hv => ?_⟩) (fun b hb => okOf_dead hb)
    · rcases h.own k _ b hS hb with h1 | h1
      · exact .inr (.inl h1)
      · exact .inr (.inr h1)
    · obtain ⟨h1, h2⟩ := hsto j sb hj
      exact h1 (h.inj j k sb _ b h2 hS hv hb)
  refine ⟨τ, h.size, h.defers, h.gr, fun s i hl => ?_, fun j sb hj => ?_, fun j j' s s' b h1 h2 => h.inj j j' s s' b (hsto j s h1).2 (hsto j' s' h2).2, fun j sb b h1 => h.own j sb b (hsto j sb h1).2, h.pin⟩
  · have key : ∀ {F' : Frm}, FzF k (.sl sz rows) F F' → ∀ {i}, look s (F' ++ F) = some i → (∃ i0, look s F = some i0 ∧ i0.fz k (.sl sz rows) = i) ∨ look s F = some i := by
      intro F'
      induction F' with
      | nil => intro _ i hi; exact .inr hi
      | cons y r ih =>
        intro hh i hi
        obtain ⟨q, j⟩ := y
        rw [List.cons_append] at hi
        by_cases e : q = s
        · subst e; rw [look_eq] at hi; cases hi; exact .inl hh.1
        · rw [look_ne e] at hi; exact ih hh.2 hi
    rcases key hF hl with ⟨i0, h1, rfl⟩ | h1
    · obtain ⟨u, q1, q2⟩ := h.slot s i0 h1
      exact ⟨u, q1, q2.fz (fun b hb => okOf_dead hb) hx⟩
    · obtain ⟨u, q1, q2⟩ := h.slot s i h1
      exact ⟨u, q1, q2.mono (Nat.le_refl _) hok (fun _ _ => rfl)⟩
  · exact (h.sto j sb (hsto j sb hj).2).mono (Nat.le_refl _) hok (fun _ _ => rfl) rfl (fun _ _ => rfl)
/-- A nil constant as a slice that is read. -/
theorem Sat.nilsl {t : Nat} (sz : Nat) (hx : look t F = some (.u (.sc (.slice none 0 0)))) (h : Sat c (mk F S) a w) : Sat c (mk ((t, .u (.sl sz [])) :: F) S) a w := by
  obtain ⟨τ, h⟩ := h
  refine ⟨τ, h.size, h.defers, h.gr, fun s i hl => ?_, h.sto, h.inj, h.own, h.pin⟩
  by_cases e : t = s
  · subst e
    have : look t ((t, IV.u (.sl sz [])) :: F) = some i := hl
    rw [look_eq] at this; cases this
    obtain ⟨u, h1, h2⟩ := h.slot t _ hx
    cases h2 with
    | u h2 => cases h2; exact ⟨_, h1, .u (.sl0 (by simp [maxLen]) (fun _ => rfl))⟩
  · have : look s ((t, IV.u (.sl sz [])) :: F) = some i := hl
    rw [look_ne e] at this; exact h.slot s i this
/-- A contract whose result's slice is frozen. -/
theorem Con.fz {f : FuncId} {as : List IV} {r r' : IV} {t sz k : Nat} {rows : List (List UV)} {Sc Sr : Sto} (hcon : Con P f as Sc r ((k, .data t sz rows) :: Sr)) (hk : hasTag k (keysS Sc ++ keysS Sr) = false) (hr : r.fz k (.sl sz rows) = r') : Con P f as Sc r' Sr := by
  subst hr
  intro τ w vs ok hin
  refine (hcon τ w vs ok hin).mono fun e w' ⟨v, τ', he, out⟩ => ⟨v, τ', he, ?_⟩
  have hls : lookS k ((k, SB.data t sz rows) :: Sr) = some (.data t sz rows) := lookS_data
  have hne : ∀ j sb, lookS j Sr = some sb → lookS j ((k, SB.data t sz rows) :: Sr) = some sb ∧ j ≠ k := fun j sb hj => by
    have hjk : k ≠ j := fun e => by
      subst e
      have : hasTag k (keysS Sc ++ keysS Sr) = true := hasTag_iff.2 (List.mem_append_right _ (mem_keysS hj))
      rw [this] at hk; cases hk
    exact ⟨by rw [lookS_ne hjk]; exact hj, Ne.symm hjk⟩
  have hok : ∀ b, okOut τ w ok Sc τ' ((k, .data t sz rows) :: Sr) b → okOut τ w ok Sc τ' Sr b := fun b hb => ⟨hb.1, fun j sb hj => hb.2 j sb (hne j sb hj).1⟩
  refine ⟨out.gr, out.pin, out.res.fz hok ?_, fun j sb hj => ?_, fun j j' s s' b hj hj' => out.inj j j' s s' b (hne j s hj).1 (hne j' s' hj').1, fun j sb b hj => out.own j sb b (hne j sb hj).1⟩
  · refine own_sl (out.sto k _ hls) (fun b hb => ⟨?_, fun j sb hj hv => ?_⟩) hok
    · rcases out.own k _ b hls hb with h1 | h1
      · exact .inr (.inl h1)
      · exact .inr (.inr h1)
    · exact (hne j sb hj).2 (out.inj j k sb _ b (hne j sb hj).1 hls hv hb)
  · exact (out.sto j sb (hne j sb hj).1).mono (Nat.le_refl _) (fun b hb _ => ⟨hok b hb, rfl⟩) (fun _ _ => rfl) rfl (fun _ _ => rfl)
end

section
variable {c : Ctx} {P : Program} {Q : Exit → Act → World → Prop} {F F' K : Frm} {S Z : Sto} {ops : Array Oper} {l : List Oper}
theorem W.freeze {cd : Code} {t sz : Nat} {rows : List (List UV)} (k : Nat) (hS : lookS k S = some (.data t sz rows)) (hF : FzF k (.sl sz rows) F F') (h : W c P cd Q (F' ++ F) ((k, .dead) :: S)) : W c P cd Q F S := fun a w ha => h a w (ha.freeze hS hF)
theorem SL.freeze {t sz : Nat} {rows : List (List UV)} (k : Nat) (hS : lookS k S = some (.data t sz rows)) (hF : FzF k (.sl sz rows) F F') (h : SL c P ops Q l (F' ++ F) ((k, .dead) :: S)) : SL c P ops Q l F S := fun a w ha => h a w (ha.freeze hS hF)
theorem E.freeze {e : Exit} {t sz : Nat} {rows : List (List UV)} (k : Nat) (hS : lookS k S = some (.data t sz rows)) (hF : FzF k (.sl sz rows) F F') (h : E c Q e (F' ++ F) ((k, .dead) :: S)) : E c Q e F S := fun a w ha => h a w (ha.freeze hS hF)
theorem W.nilsl {cd : Code} (t sz : Nat) (hx : look t F = some (.u (.sc (.slice none 0 0)))) (h : W c P cd Q ((t, .u (.sl sz [])) :: F) S) : W c P cd Q F S := fun a w ha => h a w (ha.nilsl sz hx)
theorem SL.nilsl (t sz : Nat) (hx : look t F = some (.u (.sc (.slice none 0 0)))) (h : SL c P ops Q l ((t, .u (.sl sz [])) :: F) S) : SL c P ops Q l F S := fun a w ha => h a w (ha.nilsl sz hx)

/-! ### Fewer facts -/
def Pick {α : Type} (F : List (Nat × α)) : List (Nat × α) → Prop
  | [] => True
  | (t, i) :: r => look t F = some i ∧ Pick F r
theorem Pick.get {α : Type} {F : List (Nat × α)} : ∀ {K : List (Nat × α)}, Pick F K → ∀ {t i}, look t K = some i → look t F = some i
  | (s, j) :: r, h, t, i, hl => by
    by_cases e : s = t
    · subst e; rw [look_eq] at hl; cases hl; exact h.1
    · rw [look_ne e] at hl; exact Pick.get h.2 hl
def PickS (S : Sto) : Sto → Prop
  | [] => True
  | (t, i) :: r => lookS t S = some i ∧ PickS S r
theorem PickS.get {S : Sto} : ∀ {K : Sto}, PickS S K → ∀ {t i}, look t K = some i → lookS t S = some i
  | (s, j) :: r, h, t, i, hl => by
    by_cases e : s = t
    · subst e; rw [look_eq] at hl; cases hl; exact h.1
    · rw [look_ne e] at hl; exact PickS.get h.2 hl
theorem Sat.pick {a : Act} {w : World} (h : Sat c (mk F S) a w) (hF : Pick F K) (hS : PickS S Z) : Sat c (mk K Z) a w := by
  obtain ⟨τ, h⟩ := h
  have hst : ∀ k sb, (mk K Z).sto k = some sb → (mk F S).sto k = some sb := fun k sb hk => hS.get (lookS_look hk)
  have hok : ∀ b, okOf c τ (mk F S).sto b → b < w.heap.size → okOf c τ (mk K Z).sto b ∧ w.heap[b]? = w.heap[b]? := fun b hb _ => ⟨⟨hb.1, fun k sb hk => hb.2 k sb (hst k sb hk)⟩, rfl⟩
  refine ⟨τ, h.size, h.defers, h.gr, fun t i hl => ?_, fun k sb hk => ?_, fun j j' s s' b h1 h2 => h.inj j j' s s' b (hst _ _ h1) (hst _ _ h2), fun j sb b h1 => h.own j sb b (hst _ _ h1), h.pin⟩
  · obtain ⟨u, h1, h2⟩ := h.slot t i (Pick.get hF hl)
    exact ⟨u, h1, h2.mono (Nat.le_refl _) hok (fun _ _ => rfl)⟩
  · exact (h.sto k sb (hst k sb hk)).mono (Nat.le_refl _) hok (fun _ _ => rfl) rfl (fun _ _ => rfl)
theorem W.pick {cd : Code} (hF : Pick F K) (hS : PickS S Z) (h : W c P cd Q K Z) : W c P cd Q F S := fun a w ha => h a w (ha.pick hF hS)
theorem E.pick {e : Exit} (hF : Pick F K) (hS : PickS S Z) (h : E c Q e K Z) : E c Q e F S := fun a w ha => h a w (ha.pick hF hS)

/-! ### Short forms of the steps -/
variable {r : List Oper} {d : Nat} {op : Op} {ty : TypeId} {pos : String} {af : Array Edge} {gd : Option (Nat × Bool)} {T N : List Nat} {i : IV} {δ : Chg}
theorem SL.val (hg : OpOk c P ops ⟨some d, op, ty, pos, af, gd⟩ F S T [] (some i) []) (h : SL c P ops Q r ((d, i) :: F) S) : SL c P ops Q (⟨some d, op, ty, pos, af, gd⟩ :: r) F S := SL.go hg rfl rfl h
theorem SL.mem (hg : OpOk c P ops ⟨some d, op, ty, pos, af, gd⟩ F S T N (some i) δ) (hf : freshB N F S = true) (hp : disj N c.pk = true) (h : SL c P ops Q r ((d, i) :: F) (updS δ S)) : SL c P ops Q (⟨some d, op, ty, pos, af, gd⟩ :: r) F S := SL.go hg hf hp h
theorem SL.eff (hg : OpOk c P ops ⟨none, op, ty, pos, af, gd⟩ F S T [] none δ) (h : SL c P ops Q r F (updS δ S)) : SL c P ops Q (⟨none, op, ty, pos, af, gd⟩ :: r) F S := SL.go hg rfl rfl h
theorem SL.skip (hg : OpOk c P ops ⟨some d, op, ty, pos, af, gd⟩ F S [] [] (some (.u (.sc undef))) []) (h : SL c P ops Q r ((d, .u (.sc undef)) :: F) S) : SL c P ops Q (⟨some d, op, ty, pos, af, gd⟩ :: r) F S := SL.go hg rfl rfl h
theorem SL.skip0 (hg : OpOk c P ops ⟨none, op, ty, pos, af, gd⟩ F S [] [] (some (.u (.sc undef))) []) (h : SL c P ops Q r F S) : SL c P ops Q (⟨none, op, ty, pos, af, gd⟩ :: r) F S := SL.go hg rfl rfl h
theorem SL.case {j g : Nat} {b want : Bool} (_ : (ops[j]?).bind (·.dst) = some g) (_ : look g F = some (.u (.sc (.bool b)))) (h1 : b = want → SL c P ops Q l F S) (h2 : b ≠ want → SL c P ops Q l F S) : SL c P ops Q l F S :=
  if h : b = want then h1 h else h2 h
theorem SL.as {i' : IV} (t : Nat) (hl : look t F = some i) (he : i = i') (h : SL c P ops Q l ((t, i') :: F) S) : SL c P ops Q l F S := by
  subst he
  intro a w ha
  refine h a w ?_
  have : mk ((t, i) :: F) S = mk F S := by
    unfold mk
    congr 1
    funext s
    by_cases e : t = s
    · subst e; rw [look_eq, hl]
    · rw [look_ne e]
  rw [this]; exact ha
theorem W.as {cd : Code} {i' : IV} (t : Nat) (hl : look t F = some i) (he : i = i') (h : W c P cd Q ((t, i') :: F) S) : W c P cd Q F S := by
  subst he
  intro a w ha
  refine h a w ?_
  have : mk ((t, i) :: F) S = mk F S := by
    unfold mk
    congr 1
    funext s
    by_cases e : t = s
    · subst e; rw [look_eq, hl]
    · rw [look_ne e]
  rw [this]; exact ha
variable {pl : List Pl} {Zp : Frm → Sto → Prop} {m : Nat}
theorem WH.val (hg : OpOk c P ops ⟨some d, op, ty, pos, af, gd⟩ F S T [] (some i) []) (hT : subl T (pl.getD m default).T = true) (hi : subl i.tags (pl.getD m default).T = true) (h : WH c P ops pl Zp (m + 1) r ((d, i) :: F) S) : WH c P ops pl Zp m (⟨some d, op, ty, pos, af, gd⟩ :: r) F S :=
  WH.go hg hT rfl rfl hi rfl h
theorem WH.mem (hg : OpOk c P ops ⟨some d, op, ty, pos, af, gd⟩ F S T N (some i) δ) (hT : subl T (pl.getD m default).T = true) (hN : subl N (pl.getD m default).N = true) (hk : subl (keysC δ) (pl.getD m default).Wr = true) (hi : subl i.tags (pl.getD m default).T = true) (hd : subl (tagsC δ) (pl.getD m default).T = true)
    (h : WH c P ops pl Zp (m + 1) r ((d, i) :: F) (updS δ S)) : WH c P ops pl Zp m (⟨some d, op, ty, pos, af, gd⟩ :: r) F S := WH.go hg hT hN hk hi hd h
theorem WH.eff (hg : OpOk c P ops ⟨none, op, ty, pos, af, gd⟩ F S T [] none δ) (hT : subl T (pl.getD m default).T = true) (hk : subl (keysC δ) (pl.getD m default).Wr = true) (hd : subl (tagsC δ) (pl.getD m default).T = true)
    (h : WH c P ops pl Zp (m + 1) r F (updS δ S)) : WH c P ops pl Zp m (⟨none, op, ty, pos, af, gd⟩ :: r) F S := WH.go hg hT rfl hk rfl hd h
theorem WH.skip (hg : OpOk c P ops ⟨some d, op, ty, pos, af, gd⟩ F S [] [] (some (.u (.sc undef))) []) (h : WH c P ops pl Zp (m + 1) r ((d, .u (.sc undef)) :: F) S) : WH c P ops pl Zp m (⟨some d, op, ty, pos, af, gd⟩ :: r) F S := WH.go hg rfl rfl rfl rfl rfl h
theorem WH.skip0 (hg : OpOk c P ops ⟨none, op, ty, pos, af, gd⟩ F S [] [] (some (.u (.sc undef))) []) (h : WH c P ops pl Zp (m + 1) r F S) : WH c P ops pl Zp m (⟨none, op, ty, pos, af, gd⟩ :: r) F S := WH.go hg rfl rfl rfl rfl rfl h
theorem WH.case {j g : Nat} {b want : Bool} (_ : (ops[j]?).bind (·.dst) = some g) (_ : look g F = some (.u (.sc (.bool b)))) (h1 : b = want → WH c P ops pl Zp m l F S) (h2 : b ≠ want → WH c P ops pl Zp m l F S) : WH c P ops pl Zp m l F S :=
  if h : b = want then h1 h else h2 h
end
end Go.H
