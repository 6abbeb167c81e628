/-
  The reference's loops: sorting, the tree of sorted words.
-/
import Derived.Test.YtfmgpocbpbfalaaU41
namespace Go.D41
theorem srt_y {l : List Str} {k a : Nat} (hk : k < l.length) (ha : a ≤ (sortS (l.take k)).length) (h1 : ∀ j, j < a → lt (sortS (l.take k))[j]! l[k]!) (h2 : a < (sortS (l.take k)).length → ¬ lt (sortS (l.take k))[a]! l[k]!)
    (h3 : ¬ (a < (sortS (l.take k)).length ∧ (sortS (l.take k))[a]! = l[k]!)) : sortS (l.take (k + 1)) = (sortS (l.take k)).take a ++ l[k]! :: (sortS (l.take k)).drop a := by
  rw [sortS_snoc hk, insS_at ha h1 h2, if_neg h3]
theorem srt_n {l : List Str} {k a : Nat} (hk : k < l.length) (ha : a ≤ (sortS (l.take k)).length) (h1 : ∀ j, j < a → lt (sortS (l.take k))[j]! l[k]!) (h2 : a < (sortS (l.take k)).length → ¬ lt (sortS (l.take k))[a]! l[k]!)
    (h3 : a < (sortS (l.take k)).length ∧ (sortS (l.take k))[a]! = l[k]!) : sortS (l.take (k + 1)) = sortS (l.take k) := by
  rw [sortS_snoc hk, insS_at ha h1 h2, if_pos h3]
theorem tw_at {p : Str → Bool} : ∀ {r : List Str} {m : Nat}, m ≤ r.length → (∀ j, j < m → p r[j]! = true) → (m < r.length → p r[m]! = false) → r.takeWhile p = r.take m ∧ r.dropWhile p = r.drop m
  | [], m, h, _, _ => by
    obtain rfl : m = 0 := by simpa using h
    exact ⟨rfl, rfl⟩
  | x :: r, 0, _, _, h2 => by
    have h2 : p x = false := h2 (by simp)
    rw [List.takeWhile_cons, List.dropWhile_cons, h2]; exact ⟨rfl, rfl⟩
  | x :: r, m + 1, h, h1, h2 => by
    have h0 : p x = true := h1 0 (by omega)
    obtain ⟨a, b⟩ := tw_at (p := p) (r := r) (m := m) (by simpa using h) (fun j hj => h1 (j + 1) (by omega)) (fun hl => h2 (by simpa using hl))
    rw [List.takeWhile_cons, List.dropWhile_cons, h0]
    simp only [if_true, a, b]
    exact ⟨rfl, rfl⟩
theorem hd0_at {w : Str} (h : w ≠ []) : hd0 w = w[0]! := by
  cases w with
  | nil => exact absurd rfl h
  | cons c x => rfl
theorem drop_get {l : List Str} {i j : Nat} (h : i + j < l.length) : (l.drop i)[j]! = l[i + j]! := by
  rw [getElem!_pos _ j (by rw [List.length_drop]; omega), getElem!_pos l _ h, List.getElem_drop]
theorem drop_c {l : List Str} {i : Nat} (h : i < l.length) : l.drop i = l[i]! :: l.drop (i + 1) := by rw [getElem!_pos l i h]; exact List.drop_eq_getElem_cons h
theorem lastD_ne (x : List Str) (h : x ≠ []) (d : Str) : x.getLastD d = x.getLast h := by
  cases x with
  | nil => exact absurd rfl h
  | cons a b => simp [List.getLastD]
section
variable {l : List Str} {i e : Nat} (hi : i < e) (he : e ≤ l.length) (h : ∀ j, i ≤ j → j < e → hd0 l[j]! = hd0 l[i]!) (hx : e < l.length → ¬ hd0 l[e]! = hd0 l[i]!)
include hi he h hx
theorem grp_e : (l.take e).drop i = l[i]! :: grp l[i]! (l.drop (i + 1)) ∧ l.drop e = rst l[i]! (l.drop (i + 1)) := by
  obtain ⟨a, b⟩ := tw_at (p := fun v => hd0 v == hd0 l[i]!) (r := l.drop (i + 1)) (m := e - (i + 1)) (by rw [List.length_drop]; omega)
    (fun j hj => by rw [drop_get (by omega)]; exact beq_iff_eq.2 (h _ (by omega) (by omega)))
    (fun hl => by
      rw [List.length_drop] at hl
      rw [drop_get (by omega), show i + 1 + (e - (i + 1)) = e by omega]
      exact beq_eq_false_iff_ne.2 (hx (by omega)))
  constructor
  · rw [grp, a, List.drop_take, drop_c (show i < l.length by omega), show e - i = (e - (i + 1)) + 1 by omega]; rfl
  · rw [rst, b, List.drop_drop, show i + 1 + (e - (i + 1)) = e by omega]
theorem last_e : (l[i]! :: grp l[i]! (l.drop (i + 1))).getLastD l[i]! = l[e - 1]! := by
  rw [← (grp_e hi he h hx).1]
  have hl : ((l.take e).drop i).length = e - i := by rw [List.length_drop, List.length_take]; omega
  have hne : (l.take e).drop i ≠ [] := fun q => by rw [q, List.length_nil] at hl; omega
  have e1 : ((l.take e).drop i).getLastD l[i]! = ((l.take e).drop i).getLast hne := lastD_ne _ hne _
  rw [e1, List.getLast_eq_getElem, getElem!_pos l (e - 1) (by omega), List.getElem_drop, List.getElem_take]
  congr 1; omega
end
theorem take_comm {a b : Str} {n : Nat} (h : n ≤ a.length) : a.take n <+: b ↔ n ≤ comm a b := by
  constructor
  · intro hp
    have := comm_pre (a := a.take n) (b := b) (y := b) hp (List.prefix_refl _)
    have h2 : comm (a.take n) b ≤ comm a b := by
      clear hp this
      induction a generalizing b n with
      | nil => simp [comm]
      | cons c a ih =>
        cases n with
        | zero => simp [comm]
        | succ n =>
          cases b with
          | nil => simp [comm]
          | cons d b =>
            rw [List.take_succ_cons, comm, comm]
            split
            · have := ih (b := b) (n := n) (by simpa using h); omega
            · omega
    have h3 := hp.length_le
    rw [List.length_take] at this h3; omega
  · intro hn
    obtain ⟨t1, t2, t3⟩ := comm_take a b
    have : a.take n = b.take n := by
      have e1 : a.take n = (a.take (comm a b)).take n := by rw [List.take_take, Nat.min_eq_left hn]
      have e2 : b.take n = (b.take (comm a b)).take n := by rw [List.take_take, Nat.min_eq_left hn]
      rw [e1, e2, t1]
    rw [this]; exact List.take_prefix _ _
theorem cut_y {n : Nat} {l : List Str} {i k : Nat} (hik : i ≤ k) (hk : k < l.length) (h : n < l[k]!.length) : cut n ((l.take (k + 1)).drop i) = cut n ((l.take k).drop i) ++ [l[k]!.drop n] := by
  have e : (l.take (k + 1)).drop i = (l.take k).drop i ++ [l[k]!] := by
    rw [snocT hk, List.drop_append_of_le_length (by rw [List.length_take]; omega)]
  rw [e, cut, List.filter_append, List.map_append, show [l[k]!].filter (fun v => decide (n < v.length)) = [l[k]!] by rw [List.filter_cons, decide_eq_true h]; rfl]; rfl
theorem cut_n {n : Nat} {l : List Str} {i k : Nat} (hik : i ≤ k) (hk : k < l.length) (h : ¬ n < l[k]!.length) : cut n ((l.take (k + 1)).drop i) = cut n ((l.take k).drop i) := by
  have e : (l.take (k + 1)).drop i = (l.take k).drop i ++ [l[k]!] := by
    rw [snocT hk, List.drop_append_of_le_length (by rw [List.length_take]; omega)]
  rw [e, cut, List.filter_append, List.map_append, show [l[k]!].filter (fun v => decide (n < v.length)) = [] by rw [List.filter_cons, decide_eq_false h]; rfl, List.map_nil, List.append_nil]; rfl
theorem cut_0 (n : Nat) (l : List Str) (i : Nat) : cut n ((l.take i).drop i) = [] := by
  rw [List.drop_eq_nil_of_le (by rw [List.length_take]; omega)]; rfl
theorem cut_len (n : Nat) (l : List Str) : (cut n l).length ≤ l.length := by
  rw [cut, List.length_map]; exact List.length_filter_le _ _
theorem asc_drop {l : List Str} (h : Asc l) (i : Nat) : Asc (l.drop i) := h.sublist (List.drop_sublist _ _)
theorem ne_drop {l : List Str} (h : [] ∉ l) (i : Nat) : [] ∉ l.drop i := fun q => h (List.mem_of_mem_drop q)
theorem ne_at {l : List Str} (h : [] ∉ l) {i : Nat} (hi : i < l.length) : l[i]! ≠ [] := fun e => h (by rw [← e, getElem!_pos l i hi]; exact List.getElem_mem _)
section
variable {l : List Str} (ha : Asc l) (hn : [] ∉ l) {i e : Nat} (hi : i < e) (he : e ≤ l.length)
include ha hn hi he
theorem kid_facts : 0 < comN l[i]! (l.drop (i + 1)) ∧ comN l[i]! (l.drop (i + 1)) ≤ l[i]!.length ∧ Asc (cut (comN l[i]! (l.drop (i + 1))) (l[i]! :: grp l[i]! (l.drop (i + 1)))) ∧ [] ∉ cut (comN l[i]! (l.drop (i + 1))) (l[i]! :: grp l[i]! (l.drop (i + 1))) ∧
    msr (cut (comN l[i]! (l.drop (i + 1))) (l[i]! :: grp l[i]! (l.drop (i + 1)))) < msr l := by
  have hd := drop_c (show i < l.length by omega)
  obtain ⟨g1, g2, g3, g4, _⟩ := group (w := l[i]!) (r := l.drop (i + 1)) (by rw [← hd]; exact asc_drop ha i) (by rw [← hd]; exact ne_drop hn i)
  have hlen : (l[i]!.take (comN l[i]! (l.drop (i + 1)))).length = comN l[i]! (l.drop (i + 1)) := by rw [List.length_take]; omega
  refine ⟨g1, g2, by have := cut_asc g4 g3; rwa [hlen] at this, fun q => ?_, ?_⟩
  · obtain ⟨v, _, h1, h2⟩ := cut_mem.1 q
    have := congrArg List.length h2
    rw [List.length_drop, List.length_nil] at this; omega
  · have hm2 := msr_cut1 g1 l[i]! (grp l[i]! (l.drop (i + 1)))
    have e1 : msr (l.drop i) = msr (l[i]! :: grp l[i]! (l.drop (i + 1))) + msr (rst l[i]! (l.drop (i + 1))) := by
      rw [hd, msr_cons, msr_cons]
      have : msr (l.drop (i + 1)) = msr (grp l[i]! (l.drop (i + 1))) + msr (rst l[i]! (l.drop (i + 1))) := by rw [← msr_app, grp_rst]
      omega
    have e2 : msr l = msr (l.take i) + msr (l.drop i) := by rw [← msr_app, List.take_append_drop]
    omega
theorem kids_at (h : ∀ j, i ≤ j → j < e → hd0 l[j]! = hd0 l[i]!) (hx : e < l.length → ¬ hd0 l[e]! = hd0 l[i]!) :
    kidsR (l.drop i) = .nd (l[i]!.take (comN l[i]! (l.drop (i + 1)))) (l[i]!.length == comN l[i]! (l.drop (i + 1))) (kidsR (cut (comN l[i]! (l.drop (i + 1))) ((l.take e).drop i))) :: kidsR (l.drop e) := by
  have hd := drop_c (show i < l.length by omega)
  obtain ⟨q1, q2⟩ := grp_e hi he h hx
  rw [q1, q2, hd]
  exact kidsR_cons (by rw [← hd]; exact asc_drop ha i) (by rw [← hd]; exact ne_drop hn i)
end
theorem bq (a b : Nat) : (a == b) = decide ((a : Int) = (b : Int)) := by
  rw [Bool.eq_iff_iff, decide_eq_true_eq, beq_iff_eq]; omega
theorem cut_w {n : Nat} {l : List Str} (h : ∀ w ∈ l, w.length ≤ 1000) {k i : Nat} : ∀ w ∈ cut n ((l.take k).drop i), w.length ≤ 1000 := fun w hw => by
  obtain ⟨v, hv, _, rfl⟩ := cut_mem.1 hw
  have := h v (List.mem_of_mem_take (List.mem_of_mem_drop hv))
  rw [List.length_drop]; omega
theorem wrd_sort {l : List Str} (h : wrds l) : ∀ w ∈ sortS l, w.length ≤ 1000 := fun w hw => by
  have := (h w (sortS_mem.1 hw)).2
  omega
theorem hd_eq {a b : Str} (ha : a ≠ []) (hb : b ≠ []) (h : ((a[0]!).toNat : Int) = ((b[0]!).toNat : Int)) : hd0 a = hd0 b := by
  rw [hd0_at ha, hd0_at hb]; exact u8_eq.1 h
theorem hd_eq2 {a b : Str} (ha : a ≠ []) (hb : b ≠ []) (h : hd0 a = hd0 b) : ((a[0]!).toNat : Int) = ((b[0]!).toNat : Int) := by
  rw [hd0_at ha, hd0_at hb] at h; exact u8_eq.2 h
theorem mkT_sort {l : List Str} (h : wrds l) : mkT [] (sortS l) = .nd [] false (kidsR (sortS l)) := by
  have hn := sort_ne h
  rw [mkT, decide_eq_false hn]
  congr 2
  rw [List.filter_eq_self]
  intro x hx
  exact decide_eq_true fun e => hn (e ▸ hx)
end Go.D41
