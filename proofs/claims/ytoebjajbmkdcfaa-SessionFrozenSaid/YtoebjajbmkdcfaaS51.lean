/-
  What steps leave of a session that is used.
-/
import Derived.Test.YtoebjajbmkdcfaaQ51
namespace Go.D51
open Go Go.RowKit Go.H
theorem later_time (st : Store) (now : Int) : (later st now).time = now ∧ (later st now).next = st.next := ⟨rfl, rfl⟩
theorem opn_time {st : Store} {s : Sess} {now : Int} (h : opnE st s now ≠ 1) : (opnS st s now).time = now ∧ st.next ≤ (opnS st s now).next ∧ (opnE st s now = 0 → opnN st s now = st.next ∧ (opnS st s now).next = st.next + 1) := by
  have hr := opn_ok h
  by_cases k : (laterQ st now).length = 50 ∨ st.next = 1000000000
  · have := opn_20 hr k
    rw [this.2.2, this.1]
    exact ⟨rfl, Int.le_refl _, fun e => absurd e (by decide)⟩
  · have := opn_0 hr k
    rw [this.2.2, this.2.1]
    exact ⟨rfl, by show st.next ≤ st.next + 1; omega, fun _ => ⟨rfl, rfl⟩⟩
theorem get_time {st : Store} {num now : Int} (hr : right st now) : (getS st num now).time = now ∧ (getS st num now).next = st.next := by
  by_cases k : atO st num now < 0
  · rw [getS, if_neg (fun n => n hr), if_pos k]; exact ⟨rfl, rfl⟩
  · rw [getS, if_neg (fun n => n hr), if_neg k]; exact ⟨rfl, rfl⟩
theorem cls_time {st : Store} {num now : Int} (hr : right st now) : (clsS st num now).time = now ∧ (clsS st num now).next = st.next := by
  by_cases k : atO st num now < 0
  · rw [(cls_9 hr k).2]; exact ⟨rfl, rfl⟩
  · rw [(cls_0 hr k).2]; exact ⟨rfl, rfl⟩
theorem do_time {st : Store} {o : Opr} (h : doE st o ≠ 1) : (doS st o).time = nowD st o ∧ st.next ≤ (doS st o).next ∧ (o.kind = 0 → doE st o = 0 → doN st o = st.next ∧ (doS st o).next = st.next + 1) := by
  have hr := (do_valid h).1
  by_cases k0 : o.kind = 0
  · have e := do_0 (st := st) k0
    rw [e.2.2.2] at h
    rw [e.1, e.2.1, e.2.2.2]
    obtain ⟨a, b, c⟩ := opn_time h
    exact ⟨a, b, fun _ => c⟩
  · by_cases k1 : o.kind = 1
    · rw [(do_1 k1).1]
      obtain ⟨a, b⟩ := get_time (num := o.num) hr
      exact ⟨a, by omega, fun e => absurd e k0⟩
    · rw [(do_2 k0 k1).1]
      obtain ⟨a, b⟩ := cls_time (num := o.num) hr
      exact ⟨a, by omega, fun e => absurd e k0⟩
theorem do_len {st : Store} {o : Opr} (h : st.opn.length ≤ 50) : (doS st o).opn.length ≤ 1000 := by
  have h1 := opnS_len st o.s (nowD st o)
  have h2 := getS_len st o.num (nowD st o)
  have h3 := clsS_len st o.num (nowD st o)
  unfold doS
  split
  · omega
  · split <;> omega
theorem doQ_1 {st : Store} {o : Opr} (h : o.kind = 1) : doQ st o = getQ st o.num o.pg (nowD st o) := (do_1 h).2.2.1
/-! ### Frozen -/
def clampO (o : Opr) : Opr := ⟨o.kind, o.num, o.pg, min (max o.by_ 0) 30, o.s⟩
def hasU (st : Store) (n : Int) (s : Sess) : Prop := ∃ o ∈ st.opn, o.num = n ∧ o.s = s ∧ st.time ≤ o.used
theorem hasU_has {st : Store} {n : Int} {s : Sess} (h : hasU st n s) : has st n s := by
  obtain ⟨o, a, b, c, _⟩ := h
  exact ⟨o, a, b, c⟩
theorem frozen_do {st : Store} {o : Opr} {n : Int} {s : Sess} (hu : hasU st n s) (hk : o.kind = 0 ∨ o.kind = 1 ∨ o.num ≠ n) (he : doE st (clampO o) ≠ 1) : validSt (doS st (clampO o)) ∧ has (doS st (clampO o)) n s := by
  obtain ⟨hr, hv⟩ := do_valid he
  refine ⟨hv, ?_⟩
  have hh : has (later st (nowD st (clampO o))) n s := has_later hr (by
    obtain ⟨x, a, b, c, d⟩ := hu
    refine ⟨x, a, b, c, ?_⟩
    have e : nowD st (clampO o) = st.time + min (max (min (max o.by_ 0) 30) (-1)) 1000000 := rfl
    omega)
  by_cases k0 : o.kind = 0
  · have e := do_0 (st := st) (o := clampO o) k0
    rw [e.2.2.2] at he
    rw [e.1]
    exact has_opn he hh
  · by_cases k1 : o.kind = 1
    · rw [(do_1 (st := st) (o := clampO o) k1).1]
      exact has_get hr hh
    · rw [(do_2 (st := st) (o := clampO o) k0 k1).1]
      exact has_cls hr (show o.num ≠ n by omega) hh
theorem frozen_get {st : Store} {n p : Int} {s : Sess} (hv : validSt st) (hh : has st n s) : getE st n p st.time = pageE s p ∧ getQ st n p st.time = pageQ s p ∧ validSt (getS st n st.time) ∧ hasU (getS st n st.time) n s := by
  obtain ⟨hr, hl⟩ := has_self hv hh
  obtain ⟨a, b, _⟩ := at_has hr hl
  refine ⟨by rw [(get_0 hr a).1, b], by rw [(get_0 hr a).2.1, b], get_valid hr, ?_⟩
  obtain ⟨o, q1, q2, q3, q4⟩ := used_get hr a
  exact ⟨o, q1, q2, q3.trans b, by rw [(get_time hr).1, q4]; exact Int.le_refl _⟩
end Go.D51
