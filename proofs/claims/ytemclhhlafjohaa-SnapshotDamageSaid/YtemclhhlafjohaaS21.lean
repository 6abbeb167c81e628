/-
  Steps, one behind the other: what the store stands for, and what was taken.
-/
import Derived.Test.YtemclhhlafjohaaR21
namespace Go.D21
open Go Go.RowKit Go.G Go.D02 Go.D20
structure Stp where
  k : UInt8
  d : Bs
instance : Inhabited Stp := ⟨⟨0, []⟩⟩
structure Tk where
  th : List Bool
  td : List Bs
def zeroA : AS := ⟨0, [], 0, []⟩
def zeroK : Tk := ⟨List.replicate 13 false, List.replicate 13 []⟩
def stepP (s : AS × Tk) (x : Stp) : AS × Tk :=
  if x.k.toNat % 4 = 0 then (s.1.app x.d, s.2)
  else if x.k.toNat % 4 = 1 then (s.1.sync, s.2)
  else if x.k.toNat % 4 = 2 then (s.1.take x.d, ⟨s.2.th.set s.1.hist.length true, s.2.td.set s.1.hist.length x.d⟩)
  else (s.1.trim, s.2)
def runS (l : List Stp) : AS × Tk := l.foldl stepP (zeroA, zeroK)
def rA (l : List Stp) (k : Nat) : AS := (runS (l.take k)).1
def rT (l : List Stp) (k : Nat) : Tk := (runS (l.take k)).2
theorem run_s {l : List Stp} {k : Nat} (h : k < l.length) : runS (l.take (k + 1)) = stepP (rA l k, rT l k) l[k]! := by
  rw [runS, snocB h, List.foldl_append]; rfl
section
variable {l : List Stp} {k : Nat} (h : k < l.length)
include h
theorem run_0 (e : l[k]!.k.toNat % 4 = 0) : rA l (k + 1) = (rA l k).app l[k]!.d ∧ rT l (k + 1) = rT l k := by
  rw [rA, rT, run_s h, stepP, if_pos e]; exact ⟨rfl, rfl⟩
theorem run_1 (e : l[k]!.k.toNat % 4 = 1) : rA l (k + 1) = (rA l k).sync ∧ rT l (k + 1) = rT l k := by
  rw [rA, rT, run_s h, stepP, if_neg (by omega), if_pos e]; exact ⟨rfl, rfl⟩
theorem run_2 (e : l[k]!.k.toNat % 4 = 2) : rA l (k + 1) = (rA l k).take l[k]!.d ∧ rT l (k + 1) = ⟨(rT l k).th.set (rA l k).hist.length true, (rT l k).td.set (rA l k).hist.length l[k]!.d⟩ := by
  rw [rA, rT, run_s h, stepP, if_neg (by omega), if_neg (by omega), if_pos e]; exact ⟨rfl, rfl⟩
theorem run_3 (e : l[k]!.k.toNat % 4 = 3) : rA l (k + 1) = (rA l k).trim ∧ rT l (k + 1) = rT l k := by
  rw [rA, rT, run_s h, stepP, if_neg (by omega), if_neg (by omega), if_neg (by omega)]; exact ⟨rfl, rfl⟩
end
def fewL (l : List Stp) : Prop := l.length ≤ 12 ∧ ∀ i, i < l.length → l[i]!.d.length ≤ 20
instance (l : List Stp) : Decidable (fewL l) := by unfold fewL; infer_instance
/-- What holds behind so many steps. -/
structure RI (n : Nat) (a : AS) (t : Tk) : Prop where
  ok : a.Ok
  hl : a.hist.length ≤ n
  h1 : t.th.length = 13
  h2 : t.td.length = 13
  sn : ∀ x ∈ a.sn, t.td[x.1]! = x.2
  no : a.sn = [] → t.td[0]! = []
  th : ∀ i, i < 13 → t.th[i]! = true → i ≤ a.newN
theorem zero_ok : zeroA.Ok := ⟨⟨fun p hp => (by cases hp), by decide⟩, Nat.le_refl _, Nat.le_refl _, by decide, fun h => absurd h (by decide), List.Pairwise.nil, fun x hx => (by cases hx)⟩
theorem RI_0 : RI 0 zeroA zeroK := ⟨zero_ok, by decide, by decide, by decide, fun x hx => (by cases hx), fun _ => by decide, fun i hi h => by
  have : zeroK.th[i]! = false := by
    show (List.replicate 13 false)[i]! = false
    rw [getElem!_pos _ _ (by simpa using hi), List.getElem_replicate]
  rw [this] at h; cases h⟩
theorem setB {α : Type} [Inhabited α] {l : List α} {i j : Nat} {x : α} (h : j < l.length) : (l.set i x)[j]! = if i = j then x else l[j]! := by
  rw [getElem!_pos _ _ (by rw [List.length_set]; exact h), List.getElem_set, getElem!_pos l j h]
theorem RI_s {n : Nat} {a : AS} {t : Tk} (h : RI n a t) (hn : n < 12) {x : Stp} (hx : x.d.length ≤ 20) : RI (n + 1) (stepP (a, t) x).1 (stepP (a, t) x).2 := by
  have hl := h.hl
  unfold stepP
  split
  · refine ⟨AS.app_ok h.ok (by omega) (by omega), ?_, h.h1, h.h2, h.sn, h.no, h.th⟩
    show (a.hist ++ [x.d]).length ≤ n + 1
    rw [List.length_append, List.length_singleton]; omega
  · split
    · exact ⟨AS.sync_ok h.ok, by show a.hist.length ≤ n + 1; omega, h.h1, h.h2, h.sn, h.no, h.th⟩
    · split
      · obtain ⟨q, q1, q2, q3, q4⟩ := tk_cases a.hist.length x.d h.ok.two
        have hsh := h.ok.sh
        have h5 := q4 (fun y hy => by have := (h.ok.rng y hy).2.1; omega) h.ok.asc
        have e : (a.take x.d).sn = q ++ [(a.hist.length, x.d)] := q3
        have en : (a.take x.d).newN = a.hist.length := by
          unfold AS.newN
          rw [e, if_neg (by simp), getElem!_pos _ _ (by simp)]
          simp
        refine ⟨AS.take_ok h.ok (by omega), by show a.hist.length ≤ n + 1; omega, by show (t.th.set _ _).length = 13; rw [List.length_set]; exact h.h1, by show (t.td.set _ _).length = 13; rw [List.length_set]; exact h.h2, fun y hy => ?_, fun hno => ?_, fun i hi hti => ?_⟩
        · show (t.td.set a.hist.length x.d)[y.1]! = y.2
          have hy' : y ∈ q ++ [(a.hist.length, x.d)] := by rw [← e]; exact hy
          rcases List.mem_append.1 hy' with hq | hq
          · have h6 := h5 y hq
            rw [setB (by rw [h.h2]; omega), if_neg (by omega)]
            exact h.sn y (q1.subset hq)
          · rw [List.mem_singleton.1 hq, setB (by rw [h.h2]; show a.hist.length < 13; omega), if_pos rfl]
        · have hno' : (a.take x.d).sn = [] := hno
          rw [e] at hno'; simp at hno'
        · show i ≤ (a.take x.d).newN
          rw [en]
          have hti' : (t.th.set a.hist.length true)[i]! = true := hti
          rw [setB (by rw [h.h1]; exact hi)] at hti'
          split at hti'
          · omega
          · have := h.th i hi hti'
            have := (AS.new_rng h.ok).2
            omega
      · have e : a.trim.sn = a.sn := by unfold AS.trim; split <;> rfl
        have e2 : a.trim.hist = a.hist := by unfold AS.trim; split <;> rfl
        have e3 : a.trim.newN = a.newN := by unfold AS.newN; rw [e]
        exact ⟨AS.trim_ok h.ok, by show a.trim.hist.length ≤ n + 1; rw [e2]; omega, h.h1, h.h2, fun y hy => h.sn y (by rw [← e]; exact hy), fun hno => h.no (by rw [← e]; exact hno), fun i hi hti => by show i ≤ a.trim.newN; rw [e3]; exact h.th i hi hti⟩
theorem RI_k {l : List Stp} (hf : fewL l) : ∀ k, k ≤ l.length → RI k (rA l k) (rT l k)
  | 0, _ => by
    have e : runS (l.take 0) = (zeroA, zeroK) := by rw [List.take_zero]; rfl
    rw [rA, rT, e]; exact RI_0
  | k + 1, hk => by
    have ih := RI_k hf k (by omega)
    have h := RI_s ih (by have := hf.1; omega) (x := l[k]!) (hf.2 k (by omega))
    rw [rA, rT, run_s (by omega)]; exact h
theorem trim_hist (a : AS) : a.trim.hist = a.hist ∧ a.trim.sn = a.sn := by unfold AS.trim; split <;> exact ⟨rfl, rfl⟩
theorem trim_new (a : AS) : a.trim.newN = a.newN ∧ a.trim.newD = a.newD := by
  unfold AS.newN AS.newD
  rw [(trim_hist a).2]; exact ⟨rfl, rfl⟩
/-- Thirteen, one by one. -/
theorem exp13 {α : Type} [Inhabited α] {l : List α} (h : l.length = 13) : l = [l[0]!, l[1]!, l[2]!, l[3]!, l[4]!, l[5]!, l[6]!, l[7]!, l[8]!, l[9]!, l[10]!, l[11]!, l[12]!] := by
  match l, h with
  | [a0, a1, a2, a3, a4, a5, a6, a7, a8, a9, a10, a11, a12], _ => rfl
theorem has_new {n : Nat} {a : AS} {t : Tk} (h : RI n a t) (hn : n ≤ 12) : 0 ≤ (a.newN : Int) ∧ (a.newN : Int) ≤ 12 ∧ t.td[((a.newN : Int)).toNat]! = a.newD := by
  have h1 := (AS.new_rng h.ok).2
  have h2 := h.ok.sh
  have h3 := h.hl
  refine ⟨by omega, by omega, ?_⟩
  rw [Int.toNat_natCast]
  unfold AS.newN AS.newD
  split
  · rename_i h0
    exact h.no (List.eq_nil_of_length_eq_zero h0)
  · exact h.sn _ (AS.sn_mem (by omega))
theorem trim_le {a : AS} (h : a.Ok) : a.trim.file.length ≤ a.file.length := by
  by_cases h0 : a.sn.length = 0
  · have e : a.trim = a.sync := if_pos h0
    rw [e]; exact Nat.le_refl _
  · rw [(AS.trim_facts h h0).2.1, AS.rl]
    have hs := AS.lg_sm h
    have hlen : ∀ (ps : List Bs), (wr ps).length = (ps.map fun p => p.length + 8).sum := by
      intro ps
      have key : ∀ (ps : List Bs) (l : Bs), (ps.foldl addW l).length = l.length + (ps.map fun p => p.length + 8).sum := by
        intro ps
        induction ps with
        | nil => intro l; simp
        | cons p ps ih =>
          intro l
          rw [List.foldl_cons, ih, addW_len, List.map_cons, List.sum_cons]; omega
      have := key ps []
      simpa [wr] using this
    rw [AS.file, hlen, hlen]
    have := List.take_append_drop ((a.sn[0]!).1 - a.base) a.lg
    conv => rhs; rw [← this]
    rw [List.map_append, List.sum_append]; omega
/-- What a crash leaves. -/
theorem crash_rec {a : AS} (h : a.Ok) {m : Nat} (hm : a.sy.toNat + m ≤ a.file.length) : ∃ c, c ≤ a.lg.length ∧ (wholeL (a.file.take (a.sy + m).toNat)).1 = a.lg.take c ∧ a.syn ≤ a.base + c := by
  have hs := AS.lg_sm h
  obtain ⟨w1, w2, w3, w4⟩ := wr_ok hs
  have h0 : 0 ≤ a.sy := by unfold AS.sy; omega
  obtain ⟨c, c1, c2, c3⟩ := whole_take a.file (m := (a.sy + m).toNat) (by omega)
  have hl : (wholeL a.file).2.length = a.lg.length := by
    rw [AS.file, w3]; simp
  rw [hl] at c1 c3
  have hb := h.bs
  have hsh := h.sh
  refine ⟨c, c1, by rw [c2, AS.pays h], ?_⟩
  by_cases hz : a.syn - a.base = 0
  · omega
  · have hle := a.lg_len
    have h1 := (c3 (a.syn - a.base - 1) (by omega)).2
    rw [AS.file, w3, map_range_get (by omega), Nat.sub_add_cancel (by omega)] at h1
    have h2 : (((wr (a.lg.take (a.syn - a.base))).length : Nat) : Int) = a.sy := rfl
    rw [h2] at h1
    have := h1 (by omega)
    omega
/-- The newer of two snapshots is damaged. -/
theorem damage_rec {a : AS} (h : a.Ok) (h2 : a.sn.length = 2) {bad : Bs} (hb : ¬ rdOk bad) :
    recE a.base a.file [a.snaps[0]!, bad] = 0 ∧ acN (recA a.base a.file [a.snaps[0]!, bad]) = ((a.sn[0]!).1 : Int) ∧ acD (recA a.base a.file [a.snaps[0]!, bad]) = (a.sn[0]!).2 ∧ recL a.base a.file [a.snaps[0]!, bad] = a.hist.drop (a.sn[0]!).1 := by
  obtain ⟨s1, s2, s3, s4, _, s5, s6⟩ := AS.sn_at h (k := 0) (by omega)
  have hbs := h.bs
  have hsh := h.sh
  have hsm := h.sm.2
  have hll := a.lg_len
  have hlen : ((wholeL a.file).1.length : Int) = ((a.hist.length - a.base : Nat) : Int) := by rw [AS.pays h, hll]
  have hr : recS (a.base : Int) ((wholeL a.file).1.length : Int) [a.snaps[0]!, bad] = some (((a.sn[0]!).1 : Int), (a.sn[0]!).2) := by
    show stepR _ _ (stepR _ _ none _) _ = _
    rw [step_y (acc := none) (b := a.snaps[0]!) ⟨s2, by rw [s3]; omega, by rw [s3, hlen]; omega, .inl rfl⟩, step_n (fun q => by
      rw [(read_no hb).1] at q
      exact absurd q.1 (by decide)), s3, s4]
  have hb0 : ¬ ((a.base : Int) < 0 ∨ 1000000000 < (a.base : Int)) := by omega
  obtain ⟨e1, e2, e3⟩ := rec_0 (f := a.file) (l := [a.snaps[0]!, bad]) hb0 (fun q => by rw [hr] at q; cases q.1)
  rw [hr] at e2 e3
  refine ⟨e1, by rw [e2]; rfl, by rw [e2]; rfl, ?_⟩
  rw [e3, AS.pays h]
  show a.lg.drop ((((a.sn[0]!).1 : Int)) - (a.base : Int)).toNat = _
  rw [AS.lg, List.drop_drop]
  congr 1
  omega
theorem take_new (a : AS) (d : Bs) (h : a.Ok) : (a.take d).newN = a.hist.length ∧ (a.take d).newD = d := by
  obtain ⟨q, q1, q2, q3, q4⟩ := tk_cases a.hist.length d h.two
  have e : (a.take d).sn = q ++ [(a.hist.length, d)] := q3
  unfold AS.newN AS.newD
  rw [e, if_neg (by simp), if_neg (by simp), getElem!_pos _ _ (by simp)]
  simp
/-! ### The example -/
def e1 : AS := zeroA.app [97]
def e2 : AS := e1.app [98]
def e3 : AS := e2.take [97, 98]
def e4 : AS := e3.app [99]
theorem e1_ok : e1.Ok := AS.app_ok zero_ok (by decide) (by decide)
theorem e2_ok : e2.Ok := AS.app_ok e1_ok (by decide) (by decide)
theorem e3_ok : e3.Ok := AS.take_ok e2_ok (by decide)
theorem e4_ok : e4.Ok := AS.app_ok e3_ok (by decide) (by decide)
theorem e4_rec : recE e4.base e4.file e4.snaps = 0 ∧ acN (recA e4.base e4.file e4.snaps) = 2 ∧ acD (recA e4.base e4.file e4.snaps) = [97, 98] ∧ recL e4.base e4.file e4.snaps = [[99]] := by
  obtain ⟨h1, h2, h3, h4⟩ := AS.recover_all e4_ok
  refine ⟨h1, by rw [h2]; rfl, by rw [h3]; rfl, by rw [h4]; rfl⟩
theorem e4_file : e4.file.length ≤ 1000000 := by have := AS.flen e4_ok; omega
theorem e4_trim : (e4.trim.base : Int) = 2 := rfl
/-- The file and the snapshots of a store that steps made are small. -/
theorem RI.few {n : Nat} {a : AS} {t : Tk} (h : RI n a t) : a.file.length ≤ 4320 ∧ ∀ b ∈ a.snaps, b.length ≤ 1000000 := ⟨AS.flen h.ok, AS.sn_sm h.ok⟩
theorem trim_syn {a : AS} : a.trim.syn = a.hist.length := by unfold AS.trim; split <;> rfl
end Go.D21
