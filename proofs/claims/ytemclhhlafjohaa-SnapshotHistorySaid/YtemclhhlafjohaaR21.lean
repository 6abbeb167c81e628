/-
  Stores, as what they stand for: a history of payloads, how many are safe, where the log begins, and snapshots.
-/
import Derived.Test.YtemclhhlafjohaaP21
namespace Go.D21
open Go Go.RowKit Go.G Go.D02 Go.D20
theorem snocB {α : Type} [Inhabited α] {l : List α} {k : Nat} (h : k < l.length) : l.take (k + 1) = l.take k ++ [l[k]!] := by
  rw [getElem!_pos l k h]; exact (List.take_append_getElem h).symm
/-! ### Files that were written -/
def wr (ps : List Bs) : Bs := ps.foldl addW []
theorem wr_snoc (ps : List Bs) (p : Bs) : wr (ps ++ [p]) = addW (wr ps) p := by rw [wr, List.foldl_append]; rfl
def smh (ps : List Bs) : Prop := (∀ p ∈ ps, p.length ≤ 100) ∧ ps.length ≤ 40
theorem smh_sub {a b : List Bs} (h : smh b) (hs : a.Sublist b) : smh a := ⟨fun p hp => h.1 p (hs.subset hp), by have := hs.length_le; have := h.2; omega⟩
theorem smh_take {a : List Bs} (h : smh a) (k : Nat) : smh (a.take k) := smh_sub h (List.take_sublist _ _)
theorem smh_drop {a : List Bs} (h : smh a) (k : Nat) : smh (a.drop k) := smh_sub h (List.drop_sublist _ _)
theorem smh_snoc {a : List Bs} {p : Bs} (h : smh a) (hl : a.length < 40) (hp : p.length ≤ 100) : smh (a ++ [p]) := ⟨fun q hq => by
  rcases List.mem_append.1 hq with q1 | q1
  · exact h.1 q q1
  · rw [List.mem_singleton.1 q1]; exact hp, by rw [List.length_append, List.length_singleton]; omega⟩
theorem wr_all {ps : List Bs} (hs : smh ps) : ∀ k, k ≤ ps.length → Full (wr (ps.take k)) ∧ (wholeL (wr (ps.take k))).1 = ps.take k ∧ (wholeL (wr (ps.take k))).2 = (List.range k).map (fun i => ((wr (ps.take (i + 1))).length : Int)) ∧ (wr (ps.take k)).length ≤ 108 * k
  | 0, _ => by
    rw [List.take_zero]
    refine ⟨full_nil, ?_, ?_, by decide⟩
    · show (wholeL []).1 = []; rw [w0]
    · show (wholeL []).2 = []; rw [w0]
  | k + 1, hk => by
    obtain ⟨i1, i2, i3, i4⟩ := wr_all hs k (by omega)
    have hp : ps[k]!.length ≤ 100 := hs.1 _ (by rw [getElem!_pos ps k (by omega)]; exact List.getElem_mem _)
    have h40 := hs.2
    have e : wr (ps.take (k + 1)) = addW (wr (ps.take k)) ps[k]! := by rw [snocB (by omega), wr_snoc]
    have hw := whole_add (p := ps[k]!) i1 (by omega) (by omega)
    have hn := addW_len (wr (ps.take k)) ps[k]!
    rw [e]
    refine ⟨full_add i1 (by omega) (by omega), ?_, ?_, by omega⟩
    · rw [hw.1, i2, snocB (by omega)]
    · rw [hw.1, i3, List.range_succ, List.map_append, List.map_cons, List.map_nil, e, hn]
theorem wr_ok {ps : List Bs} (hs : smh ps) : Full (wr ps) ∧ (wholeL (wr ps)).1 = ps ∧ (wholeL (wr ps)).2 = (List.range ps.length).map (fun i => ((wr (ps.take (i + 1))).length : Int)) ∧ (wr ps).length ≤ 108 * ps.length := by
  have := wr_all hs ps.length (Nat.le_refl _)
  rwa [List.take_length] at this
theorem wr_valid {ps : List Bs} (hs : smh ps) {m : Nat} (hm : m ≤ ps.length) : validW (wr ps) ((wr (ps.take m)).length : Int) := by
  obtain ⟨h1, h2, h3, h4⟩ := wr_ok hs
  refine ⟨?_, h1⟩
  by_cases h0 : m = 0
  · left; rw [h0]; rfl
  · right
    rw [h3]
    exact List.mem_map.2 ⟨m - 1, List.mem_range.2 (by omega), by rw [Nat.sub_add_cancel (by omega)]⟩
theorem wr_app {ps : List Bs} (hs : smh ps) {m : Nat} (hm : m ≤ ps.length) {p : Bs} (hp : p.length ≤ 100) : appE (wr ps) ((wr (ps.take m)).length : Int) p = 0 ∧ appL (wr ps) ((wr (ps.take m)).length : Int) p = wr (ps ++ [p]) ∧ appN (wr ps) ((wr (ps.take m)).length : Int) p = ((wr (ps.take m)).length : Int) := by
  have h4 := (wr_ok hs).2.2.2
  have h40 := hs.2
  obtain ⟨a, b, c⟩ := app_0 (p := p) (wr_valid hs hm) (by omega)
  exact ⟨a, by rw [wr_snoc]; exact b, c⟩
theorem wr_sync {ps : List Bs} (hs : smh ps) {m : Nat} (hm : m ≤ ps.length) : syncE (wr ps) ((wr (ps.take m)).length : Int) = 0 ∧ syncL (wr ps) ((wr (ps.take m)).length : Int) = wr ps := by
  have h := wr_valid hs hm
  exact ⟨if_pos h, if_pos h⟩
theorem wr_mono {ps : List Bs} (_ : smh ps) : ∀ {j k : Nat}, j ≤ k → k ≤ ps.length → (wr (ps.take j)).length ≤ (wr (ps.take k)).length := by
  intro j k h
  induction h with
  | refl => intro _; exact Nat.le_refl _
  | @step k h ih =>
    intro hk
    have := ih (by omega)
    rw [snocB (l := ps) (k := k) (by omega), wr_snoc, addW_len]; omega
/-! ### What a store stands for -/
structure AS where
  base : Nat
  hist : List Bs
  syn : Nat
  sn : List (Nat × Bs)
namespace AS
def lg (a : AS) : List Bs := a.hist.drop a.base
def file (a : AS) : Bs := wr a.lg
def sy (a : AS) : Int := ((wr (a.lg.take (a.syn - a.base))).length : Int)
def snaps (a : AS) : List Bs := a.sn.map fun x => Go.D21.mk (x.1 : Int) x.2
structure Ok (a : AS) : Prop where
  sm : smh a.hist
  bs : a.base ≤ a.syn
  sh : a.syn ≤ a.hist.length
  two : a.sn.length ≤ 2
  ne : 0 < a.base → a.sn ≠ []
  asc : a.sn.Pairwise fun x y => x.1 < y.1
  rng : ∀ x ∈ a.sn, a.base ≤ x.1 ∧ x.1 ≤ a.syn ∧ x.2.length ≤ 100
end AS
theorem AS.lg_len (a : AS) : a.lg.length = a.hist.length - a.base := List.length_drop
theorem AS.lg_sm {a : AS} (h : a.Ok) : smh a.lg := smh_drop h.sm _
theorem AS.valid {a : AS} (h : a.Ok) : validW a.file a.sy := wr_valid (AS.lg_sm h) (by rw [a.lg_len]; have := h.sh; omega)
theorem AS.pays {a : AS} (h : a.Ok) : (wholeL a.file).1 = a.lg := (wr_ok (AS.lg_sm h)).2.1
theorem AS.flen {a : AS} (h : a.Ok) : a.file.length ≤ 4320 := by
  have h1 := (wr_ok (AS.lg_sm h)).2.2.2
  have h2 := h.sm.2
  have h3 := a.lg_len
  unfold AS.file; omega
theorem AS.sn_len (a : AS) : a.snaps.length = a.sn.length := List.length_map _
theorem AS.sn_get {a : AS} {k : Nat} (hk : k < a.sn.length) : a.snaps[k]! = Go.D21.mk ((a.sn[k]!).1 : Int) (a.sn[k]!).2 := by
  rw [AS.snaps, getElem!_pos _ _ (by rw [List.length_map]; exact hk), List.getElem_map, getElem!_pos a.sn k hk]
theorem AS.sn_mem {a : AS} {k : Nat} (hk : k < a.sn.length) : a.sn[k]! ∈ a.sn := by rw [getElem!_pos a.sn k hk]; exact List.getElem_mem _
theorem AS.sn_at {a : AS} (h : a.Ok) {k : Nat} (hk : k < a.sn.length) : rdOk a.snaps[k]! ∧ readE a.snaps[k]! = 0 ∧ readN a.snaps[k]! = ((a.sn[k]!).1 : Int) ∧ readD a.snaps[k]! = (a.sn[k]!).2 ∧ (a.snaps[k]!).length ≤ 200 ∧ a.base ≤ (a.sn[k]!).1 ∧ (a.sn[k]!).1 ≤ a.syn := by
  have h1 := h.rng _ (AS.sn_mem hk)
  have h2 := h.sm.2
  have h3 := h.sh
  rw [AS.sn_get hk]
  obtain ⟨r1, r2, r3⟩ := read_mk (n := ((a.sn[k]!).1 : Int)) (d := (a.sn[k]!).2) (by omega) (by omega)
  have hl := (mk_len (n := ((a.sn[k]!).1 : Int)) (d := (a.sn[k]!).2) (by omega)).1
  exact ⟨r1, readE_0.2 r1, r2, r3, by omega, h1.1, h1.2.1⟩
theorem AS.sn_asc {a : AS} (h : a.Ok) {i j : Nat} (hij : i < j) (hj : j < a.sn.length) : (a.sn[i]!).1 < (a.sn[j]!).1 := by
  rw [getElem!_pos a.sn i (by omega), getElem!_pos a.sn j hj]
  exact List.pairwise_iff_getElem.1 h.asc i j (by omega) hj hij
theorem AS.sn_sm {a : AS} (h : a.Ok) : ∀ b ∈ a.snaps, b.length ≤ 1000000 := fun b hb => by
  obtain ⟨i, hi, rfl⟩ := List.getElem_of_mem hb
  have hi' : i < a.sn.length := by rw [← a.sn_len]; exact hi
  have := (AS.sn_at h hi').2.2.2.2.1
  rw [getElem!_pos a.snaps i hi] at this
  omega
/-! ### What is done to it -/
def AS.app (a : AS) (p : Bs) : AS := { a with hist := a.hist ++ [p] }
theorem AS.app_ok {a : AS} (h : a.Ok) {p : Bs} (hl : a.hist.length < 40) (hp : p.length ≤ 100) : (a.app p).Ok := ⟨smh_snoc h.sm hl hp, h.bs, by show a.syn ≤ (a.hist ++ [p]).length; have := h.sh; rw [List.length_append]; omega, h.two, h.ne, h.asc, h.rng⟩
theorem AS.app_lg {a : AS} (h : a.Ok) (p : Bs) : (a.app p).lg = a.lg ++ [p] := by
  have h1 := h.bs
  have h2 := h.sh
  show (a.hist ++ [p]).drop a.base = _
  rw [List.drop_append_of_le_length (by omega)]; rfl
theorem AS.app_facts {a : AS} (h : a.Ok) {p : Bs} (hp : p.length ≤ 100) : appE a.file a.sy p = 0 ∧ appL a.file a.sy p = (a.app p).file ∧ appN a.file a.sy p = (a.app p).sy := by
  have hm : a.syn - a.base ≤ a.lg.length := by rw [a.lg_len]; have := h.sh; omega
  obtain ⟨e1, e2, e3⟩ := wr_app (AS.lg_sm h) hm hp
  refine ⟨e1, ?_, ?_⟩
  · rw [AS.file, AS.sy, e2, AS.file, AS.app_lg h]
  · rw [AS.file, AS.sy, e3, AS.sy, AS.app_lg h]
    show _ = (((wr ((a.lg ++ [p]).take (a.syn - a.base))).length : Nat) : Int)
    rw [List.take_append_of_le_length hm]
def AS.sync (a : AS) : AS := { a with syn := a.hist.length }
theorem AS.sync_ok {a : AS} (h : a.Ok) : a.sync.Ok := ⟨h.sm, by have := h.bs; have := h.sh; show a.base ≤ a.hist.length; omega, Nat.le_refl _, h.two, h.ne, h.asc, fun x hx => by
  have := h.rng x hx
  have := h.sh
  exact ⟨this |> fun _ => (h.rng x hx).1, by show x.1 ≤ a.hist.length; omega, (h.rng x hx).2.2⟩⟩
theorem AS.sync_facts {a : AS} (h : a.Ok) : syncE a.file a.sy = 0 ∧ syncL a.file a.sy = a.sync.file ∧ a.sync.sy = (a.file.length : Int) ∧ a.sync.file = a.file := by
  have hm : a.syn - a.base ≤ a.lg.length := by rw [a.lg_len]; have := h.sh; omega
  obtain ⟨e1, e2⟩ := wr_sync (AS.lg_sm h) hm
  refine ⟨e1, e2, ?_, rfl⟩
  show (((wr (a.lg.take (a.hist.length - a.base))).length : Nat) : Int) = _
  rw [List.take_of_length_le (by rw [a.lg_len]; exact Nat.le_refl _)]; rfl
def tk (l : List (Nat × Bs)) (n : Nat) (d : Bs) : List (Nat × Bs) :=
  let m := (if 0 < l.length ∧ (l[l.length - 1]!).1 = n then l.take (l.length - 1) else l) ++ [(n, d)]
  m.drop (m.length - 2)
def AS.take (a : AS) (d : Bs) : AS := { a with syn := a.hist.length, sn := tk a.sn a.hist.length d }
theorem tk_cases {l : List (Nat × Bs)} (n : Nat) (d : Bs) (h : l.length ≤ 2) : ∃ q, q.Sublist l ∧ q.length ≤ 1 ∧ tk l n d = q ++ [(n, d)] ∧ ((∀ x ∈ l, x.1 ≤ n) → l.Pairwise (fun x y => x.1 < y.1) → ∀ x ∈ q, x.1 < n) := by
  match l, h with
  | [], _ => exact ⟨[], .slnil, by simp, rfl, fun _ _ x hx => by cases hx⟩
  | [x], _ =>
    by_cases e : x.1 = n
    · refine ⟨[], by simp, by simp, ?_, fun _ _ y hy => by cases hy⟩
      have : (0 < [x].length ∧ ([x][[x].length - 1]!).1 = n) := ⟨by simp, e⟩
      simp only [tk, if_pos this]; rfl
    · refine ⟨[x], .refl _, by simp, ?_, fun h1 _ y hy => by
        rw [List.mem_singleton.1 hy]; have := h1 x (by simp); omega⟩
      have : ¬ (0 < [x].length ∧ ([x][[x].length - 1]!).1 = n) := fun q => e q.2
      simp only [tk, if_neg this]; rfl
  | [x, y], _ =>
    by_cases e : y.1 = n
    · refine ⟨[x], by simp, by simp, ?_, fun _ h2 z hz => by
        rw [List.mem_singleton.1 hz]
        have := (List.pairwise_cons.1 h2).1 y (by simp); omega⟩
      have : (0 < [x, y].length ∧ ([x, y][[x, y].length - 1]!).1 = n) := ⟨by simp, e⟩
      simp only [tk, if_pos this]; rfl
    · refine ⟨[y], by simp, by simp, ?_, fun h1 _ z hz => by
        rw [List.mem_singleton.1 hz]; have := h1 y (by simp); omega⟩
      have : ¬ (0 < [x, y].length ∧ ([x, y][[x, y].length - 1]!).1 = n) := fun q => e q.2
      simp only [tk, if_neg this]; rfl
theorem AS.take_ok {a : AS} (h : a.Ok) {d : Bs} (hd : d.length ≤ 100) : (a.take d).Ok := by
  obtain ⟨q, q1, q2, q3, q4⟩ := tk_cases a.hist.length d h.two
  have h1 := h.sh
  have h2 := h.bs
  have h5 := q4 (fun x hx => by have := (h.rng x hx).2.1; omega) h.asc
  have e : (a.take d).sn = q ++ [(a.hist.length, d)] := q3
  refine ⟨h.sm, by show a.base ≤ a.hist.length; omega, Nat.le_refl _, ?_, fun _ => ?_, ?_, fun x hx => ?_⟩
  · rw [e, List.length_append, List.length_singleton]; omega
  · rw [e]; simp
  · rw [e, List.pairwise_append]
    exact ⟨h.asc.sublist q1, by simp, fun x hx y hy => by rw [List.mem_singleton.1 hy]; exact h5 x hx⟩
  · rw [e] at hx
    show a.base ≤ x.1 ∧ x.1 ≤ a.hist.length ∧ _
    rcases List.mem_append.1 hx with hx | hx
    · have := h.rng x (q1.subset hx)
      exact ⟨this.1, by omega, this.2.2⟩
    · rw [List.mem_singleton.1 hx]
      exact ⟨by show a.base ≤ a.hist.length; omega, Nat.le_refl _, hd⟩
def AS.trim (a : AS) : AS := if a.sn.length = 0 then a.sync else { base := (a.sn[0]!).1, hist := a.hist, syn := a.hist.length, sn := a.sn }
theorem AS.trim_ok {a : AS} (h : a.Ok) : a.trim.Ok := by
  unfold AS.trim
  split
  · exact AS.sync_ok h
  · rename_i hne
    have h0 := h.rng _ (AS.sn_mem (a := a) (k := 0) (by omega))
    have h1 := h.sh
    refine ⟨h.sm, by show (a.sn[0]!).1 ≤ a.hist.length; omega, Nat.le_refl _, h.two, fun _ q => hne (by rw [show a.sn = [] from q]; rfl), h.asc, fun x hx => ?_⟩
    have hx' : x ∈ a.sn := hx
    have h2 := h.rng x hx'
    refine ⟨?_, by show x.1 ≤ a.hist.length; omega, h2.2.2⟩
    show (a.sn[0]!).1 ≤ x.1
    obtain ⟨i, hi, rfl⟩ := List.getElem_of_mem hx'
    rw [← getElem!_pos a.sn i hi]
    rcases Nat.eq_zero_or_pos i with q | q
    · rw [q]; exact Nat.le_refl _
    · have := AS.sn_asc h q hi; omega
/-! ### What is recovered from it -/
def AS.newN (a : AS) : Nat := if a.sn.length = 0 then 0 else (a.sn[a.sn.length - 1]!).1
def AS.newD (a : AS) : Bs := if a.sn.length = 0 then [] else (a.sn[a.sn.length - 1]!).2
theorem AS.rec_take {a : AS} (h : a.Ok) {m : Nat} (hm : a.syn ≤ a.base + m) : ∀ k, k ≤ a.sn.length → recS (a.base : Int) (m : Int) (a.snaps.take k) = if k = 0 then none else some (((a.sn[k - 1]!).1 : Int), (a.sn[k - 1]!).2)
  | 0, _ => rfl
  | k + 1, hk => by
    obtain ⟨s1, s2, s3, s4, _, s5, s6⟩ := AS.sn_at h (k := k) (by omega)
    have ih := AS.rec_take h hm k (by omega)
    rw [if_neg (show ¬ k + 1 = 0 by omega), Nat.add_sub_cancel, recS_s (by rw [a.sn_len]; omega), ih, step_y, s3, s4]
    refine ⟨s2, by rw [s3]; omega, by rw [s3]; omega, ?_⟩
    by_cases h0 : k = 0
    · left; rw [if_pos h0]
    · right
      rw [if_neg h0, s3]
      have := AS.sn_asc h (i := k - 1) (j := k) (by omega) (by omega)
      show ((a.sn[k - 1]!).1 : Int) ≤ _
      omega
theorem AS.rec_all {a : AS} (h : a.Ok) {m : Nat} (hm : a.syn ≤ a.base + m) : acN (recS (a.base : Int) (m : Int) a.snaps) = (a.newN : Int) ∧ acD (recS (a.base : Int) (m : Int) a.snaps) = a.newD ∧ (recS (a.base : Int) (m : Int) a.snaps = none → a.sn.length = 0) := by
  have := AS.rec_take h hm a.sn.length (Nat.le_refl _)
  rw [← a.sn_len, List.take_length, a.sn_len] at this
  rw [this, AS.newN, AS.newD]
  split
  · exact ⟨rfl, rfl, fun _ => by assumption⟩
  · exact ⟨rfl, rfl, fun q => by cases q⟩
theorem AS.new_rng {a : AS} (h : a.Ok) : a.base ≤ a.newN ∧ a.newN ≤ a.syn := by
  unfold AS.newN
  have h1 := h.bs
  split
  · rename_i h0
    have : ¬ 0 < a.base := fun q => h.ne q (List.eq_nil_of_length_eq_zero h0)
    omega
  · exact ⟨(AS.sn_at h (by omega)).2.2.2.2.2.1, (AS.sn_at h (by omega)).2.2.2.2.2.2⟩
/-- From a file that holds the first payloads of the log, all that were safe among them. -/
theorem AS.recover {a : AS} (h : a.Ok) {f : Bs} {c : Nat} (hf : (wholeL f).1 = a.lg.take c) (hc : c ≤ a.lg.length) (hs : a.syn ≤ a.base + c) :
    recE a.base f a.snaps = 0 ∧ acN (recA a.base f a.snaps) = (a.newN : Int) ∧ acD (recA a.base f a.snaps) = a.newD ∧ recL a.base f a.snaps = (a.hist.take (a.base + c)).drop a.newN := by
  have hlen : ((wholeL f).1.length : Int) = ((c : Nat) : Int) := by rw [hf, List.length_take, Nat.min_eq_left hc]
  have hb : ¬ ((a.base : Int) < 0 ∨ 1000000000 < (a.base : Int)) := by
    have h1 := h.bs
    have h2 := h.sh
    have h3 := h.sm.2
    omega
  obtain ⟨r1, r2, r3⟩ := AS.rec_all h hs
  have hk : ¬ (recS (a.base : Int) ((wholeL f).1.length : Int) a.snaps = none ∧ 0 < (a.base : Int)) := fun q => by
    rw [hlen] at q
    have h0 := r3 q.1
    exact h.ne (by omega) (List.eq_nil_of_length_eq_zero h0)
  obtain ⟨e1, e2, e3⟩ := rec_0 hb hk
  have hn := AS.new_rng h
  rw [hlen] at e2 e3
  refine ⟨e1, by rw [e2]; exact r1, by rw [e2]; exact r2, ?_⟩
  rw [e3, r1, hf]
  have e4 : ((a.newN : Int) - (a.base : Int)).toNat = a.newN - a.base := by omega
  rw [e4, AS.lg, List.take_drop, List.drop_drop]
  congr 1
  omega
theorem AS.recover_all {a : AS} (h : a.Ok) : recE a.base a.file a.snaps = 0 ∧ acN (recA a.base a.file a.snaps) = (a.newN : Int) ∧ acD (recA a.base a.file a.snaps) = a.newD ∧ recL a.base a.file a.snaps = a.hist.drop a.newN := by
  have h1 := h.bs
  have h2 := h.sh
  have hl := a.lg_len
  have := AS.recover h (f := a.file) (c := a.lg.length) (by rw [AS.pays h, List.take_length]) (Nat.le_refl _) (by omega)
  rwa [show a.base + a.lg.length = a.hist.length by omega, List.take_length] at this
/-! ### As the program goes -/
def AS.last (a : AS) (k : Nat) : Int := if k = 0 then (a.base : Int) - 1 else ((a.sn[k - 1]!).1 : Int)
theorem AS.last_0 (a : AS) : a.last 0 = (a.base : Int) - 1 := rfl
theorem AS.last_s (a : AS) (k : Nat) : a.last (k + 1) = ((a.sn[k]!).1 : Int) := rfl
theorem AS.last_lt {a : AS} (h : a.Ok) {k : Nat} (hk : k < a.sn.length) : a.last k < ((a.sn[k]!).1 : Int) := by
  cases k with
  | zero =>
    have := (AS.sn_at h hk).2.2.2.2.2.1
    rw [AS.last_0]; omega
  | succ k =>
    have := AS.sn_asc h (Nat.lt_succ_self k) hk
    rw [AS.last_s]; exact Int.ofNat_lt.2 this
theorem AS.snaps_take (a : AS) (d : Bs) : (a.take d).snaps = (tk a.sn a.hist.length d).map fun x => Go.D21.mk (x.1 : Int) x.2 := rfl
theorem AS.take_y {a : AS} {d : Bs} (h : 0 < a.sn.length ∧ (a.sn[a.sn.length - 1]!).1 = a.hist.length) : (a.take d).snaps = (a.snaps.take (a.sn.length - 1) ++ [Go.D21.mk (a.hist.length : Int) d]).drop (a.sn.length - 1 + 1 - 2) := by
  rw [AS.snaps_take, tk, if_pos h, List.map_drop, List.map_append, List.map_take]
  congr 1
  rw [List.length_append, List.length_take, List.length_singleton, Nat.min_eq_left (by omega)]
theorem AS.take_n {a : AS} {d : Bs} (h : ¬ (0 < a.sn.length ∧ (a.sn[a.sn.length - 1]!).1 = a.hist.length)) : (a.take d).snaps = (a.snaps ++ [Go.D21.mk (a.hist.length : Int) d]).drop (a.sn.length + 1 - 2) := by
  rw [AS.snaps_take, tk, if_neg h, List.map_drop, List.map_append]
  congr 1
  rw [List.length_append, List.length_singleton]
def AS.rl (a : AS) : List Bs := a.lg.drop ((a.sn[0]!).1 - a.base)
theorem AS.rl_sm {a : AS} (h : a.Ok) : smh a.rl := smh_drop (AS.lg_sm h) _
theorem AS.trim_facts {a : AS} (h : a.Ok) (hne : ¬ a.sn.length = 0) : a.trim.base = (a.sn[0]!).1 ∧ a.trim.file = wr a.rl ∧ a.trim.sy = ((wr a.rl).length : Int) ∧ a.trim.snaps = a.snaps := by
  have h0 := (AS.sn_at h (k := 0) (by omega)).2.2.2.2.2.1
  have e : a.trim = { base := (a.sn[0]!).1, hist := a.hist, syn := a.hist.length, sn := a.sn } := if_neg hne
  have el : a.hist.drop (a.sn[0]!).1 = a.rl := by
    rw [AS.rl, AS.lg, List.drop_drop]
    congr 1; omega
  rw [e]
  refine ⟨rfl, ?_, ?_, rfl⟩
  · show wr (a.hist.drop (a.sn[0]!).1) = _
    rw [el]
  · show (((wr ((a.hist.drop (a.sn[0]!).1).take (a.hist.length - (a.sn[0]!).1))).length : Nat) : Int) = _
    rw [el, List.take_of_length_le]
    rw [← el, List.length_drop]; exact Nat.le_refl _
theorem wr_app0 {ps : List Bs} (hs : smh ps) {k : Nat} (hk : k < ps.length) : appE (wr (ps.take k)) 0 ps[k]! = 0 ∧ appL (wr (ps.take k)) 0 ps[k]! = wr (ps.take (k + 1)) ∧ appN (wr (ps.take k)) 0 ps[k]! = 0 := by
  have hp : ps[k]!.length ≤ 100 := hs.1 _ (by rw [getElem!_pos ps k hk]; exact List.getElem_mem _)
  have := wr_app (smh_take hs k) (Nat.zero_le _) hp
  rw [List.take_zero] at this
  rw [snocB hk]; exact this
theorem wr_sync0 {ps : List Bs} (hs : smh ps) : syncE (wr ps) 0 = 0 ∧ syncL (wr ps) 0 = wr ps := by
  have := wr_sync hs (Nat.zero_le _)
  rw [List.take_zero] at this
  exact this
theorem wr_len {ps : List Bs} (hs : smh ps) (k : Nat) : (wr (ps.take k)).length ≤ 4320 := by
  have h1 := (wr_ok (smh_take hs k)).2.2.2
  have h2 := (smh_take hs k).2
  omega
end Go.D21
