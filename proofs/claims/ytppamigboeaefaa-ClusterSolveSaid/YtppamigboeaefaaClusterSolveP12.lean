/-
  What the proof rests on: part 12 of 13.
-/
import Derived.Test.YtppamigboeaefaaClusterSolveP11
section
namespace Go.D33
open Go Go.RowKit Go.H
/-! ### Problems of some units -/
def atF (us : List Int) (x : Int) : Int := idxF (fun y => decide (y = x)) us
def pl (us : List Int) : Nat → List (Int × Int)
  | 0 => []
  | k + 1 => mset (pl us k) us[k]! k
def ascU (us : List Int) : Prop := ∀ i, i < us.length → 0 < i → us[i - 1]! < us[i]!
instance (us : List Int) : Decidable (ascU us) := by unfold ascU; infer_instance
def rngU (N : Int) (us : List Int) : Prop := ∀ i, i < us.length → 0 ≤ us[i]! ∧ us[i]! < N
instance (N : Int) (us : List Int) : Decidable (rngU N us) := by unfold rngU; infer_instance
def okU (N : Int) (us : List Int) : Prop := ascU us ∧ rngU N us
instance (N : Int) (us : List Int) : Decidable (okU N us) := by unfold okU; infer_instance
def subE (N : Int) (us : List Int) : Int := if ¬ ascU us then 19 else if ¬ rngU N us then 2 else 0
theorem subE_19 {N : Int} {us : List Int} (h : ¬ ascU us) : subE N us = 19 := if_pos h
theorem subE_2 {N : Int} {us : List Int} (h : ascU us) (h2 : ¬ rngU N us) : subE N us = 2 := by rw [subE, if_neg (fun q => q h), if_pos h2]
theorem subE_0 {N : Int} {us : List Int} (h : okU N us) : subE N us = 0 := by rw [subE, if_neg (fun q => q h.1), if_neg (fun q => q h.2)]
def subPr (us : List Int) (x : Pr) : Option Pr := if 0 ≤ atF us x.a ∧ 0 ≤ atF us x.b then some ⟨atF us x.a, atF us x.b, x.w⟩ else none
def subRu (us : List Int) (x : Ru) : Option Ru := if 0 ≤ atF us x.a ∧ 0 ≤ atF us x.b then some ⟨x.k, atF us x.a, atF us x.b⟩ else none
def subP (us : List Int) (ps : List Pr) : List Pr := ps.filterMap (subPr us)
def subR (us : List Int) (rs : List Ru) : List Ru := rs.filterMap (subRu us)
theorem fm_s {α β : Type} [Inhabited α] (f : α → Option β) {l : List α} {k : Nat} (h : k < l.length) : (l.take (k + 1)).filterMap f = (l.take k).filterMap f ++ (f l[k]!).toList := by
  rw [snocP h, List.filterMap_append]
  cases e : f l[k]! with
  | none => rw [List.filterMap_cons_none e]; rfl
  | some b => rw [List.filterMap_cons_some e]; rfl
theorem fm_y {α β : Type} [Inhabited α] (f : α → Option β) {l : List α} {k : Nat} {b : β} (h : k < l.length) (e : f l[k]! = some b) : (l.take (k + 1)).filterMap f = (l.take k).filterMap f ++ [b] := by rw [fm_s f h, e]; rfl
theorem fm_n {α β : Type} [Inhabited α] (f : α → Option β) {l : List α} {k : Nat} (h : k < l.length) (e : f l[k]! = none) : (l.take (k + 1)).filterMap f = (l.take k).filterMap f := by rw [fm_s f h, e]; exact List.append_nil _
theorem fm_len {α β : Type} (f : α → Option β) (l : List α) (k : Nat) : ((l.take k).filterMap f).length ≤ l.length := by
  have h1 := List.length_filterMap_le f (l.take k)
  rw [List.length_take] at h1; omega
theorem asc_ltU {us : List Int} (h : ascU us) : ∀ {i j : Nat}, i < j → j < us.length → us[i]! < us[j]! := by
  intro i j hij hj
  induction j with
  | zero => omega
  | succ j ih =>
    have h1 := h (j + 1) hj (by omega)
    rw [Nat.add_sub_cancel] at h1
    rcases Nat.lt_succ_iff_lt_or_eq.1 hij with q | q
    · have := ih q (by omega); omega
    · rw [q]; exact h1
theorem pl_spec {us : List Int} (h : ascU us) (x : Int) : ∀ k, k ≤ us.length → (∀ j, j < k → us[j]! = x → mhas (pl us k) x = true ∧ mget (pl us k) x 0 = (j : Int)) ∧ ((∀ j, j < k → us[j]! ≠ x) → mhas (pl us k) x = false ∧ mget (pl us k) x 0 = 0)
  | 0, _ => ⟨fun j hj => absurd hj (Nat.not_lt_zero _), fun _ => ⟨rfl, rfl⟩⟩
  | k + 1, hk => by
    obtain ⟨h1, h2⟩ := pl_spec h x k (by omega)
    rw [pl, mhas_mset, mget_mset]
    refine ⟨fun j hj e => ?_, fun hn => ?_⟩
    · by_cases q : j = k
      · subst q
        rw [if_pos e.symm, decide_eq_true e.symm]; exact ⟨rfl, rfl⟩
      · have h3 := h1 j (by omega) e
        have h4 := asc_ltU h (show j < k by omega) (by omega)
        rw [if_neg (by omega), decide_eq_false (by omega), h3.1, h3.2]; exact ⟨rfl, rfl⟩
    · have h3 := h2 fun j hj => hn j (by omega)
      have h4 := hn k (by omega)
      rw [if_neg (Ne.symm h4), decide_eq_false (Ne.symm h4), h3.1, h3.2]; exact ⟨rfl, rfl⟩
theorem atF_spec (us : List Int) (x : Int) : (∃ j, j < us.length ∧ us[j]! = x ∧ (∀ i, i < j → us[i]! ≠ x) ∧ atF us x = (j : Int)) ∨ ((∀ j, j < us.length → us[j]! ≠ x) ∧ atF us x = -1) := by
  by_cases h : ∃ j, j < us.length ∧ us[j]! = x
  · obtain ⟨j, hj, hm⟩ : ∃ j, (j < us.length ∧ us[j]! = x) ∧ ∀ i, i < j → ¬ (i < us.length ∧ us[i]! = x) := by
      obtain ⟨j, hj⟩ := h
      induction j using Nat.strongRecOn with
      | _ j ih =>
        by_cases q : ∃ i, i < j ∧ i < us.length ∧ us[i]! = x
        · obtain ⟨i, hi, h2⟩ := q
          exact ih i hi h2
        · exact ⟨j, hj, fun i hi h2 => q ⟨i, hi, h2⟩⟩
    have hm' : ∀ i, i < j → us[i]! ≠ x := fun i hi e => hm i hi ⟨by omega, e⟩
    exact .inl ⟨j, hj.1, hj.2, hm', idxF_here hj.1 (fun i hi => decide_eq_false (hm' i hi)) (decide_eq_true hj.2)⟩
  · have hn : ∀ j, j < us.length → us[j]! ≠ x := fun j hj e => h ⟨j, hj, e⟩
    exact .inr ⟨hn, idxF_none (Nat.le_refl _) fun j hj => decide_eq_false (hn j hj)⟩
theorem pl_at {us : List Int} (h : ascU us) (x : Int) : mhas (pl us us.length) x = decide (0 ≤ atF us x) ∧ (0 ≤ atF us x → mget (pl us us.length) x 0 = atF us x) := by
  obtain ⟨h1, h2⟩ := pl_spec h x us.length (Nat.le_refl _)
  rcases atF_spec us x with ⟨j, hj, hx, _, e⟩ | ⟨hn, e⟩
  · have := h1 j hj hx
    exact ⟨by rw [this.1, e, decide_eq_true (by omega)], fun _ => by rw [this.2, e]⟩
  · have := h2 hn
    exact ⟨by rw [this.1, e, decide_eq_false (by omega)], fun q => by omega⟩
theorem sp_y {us : List Int} {x : Pr} (h1 : 0 ≤ atF us x.a) (h2 : 0 ≤ atF us x.b) : subPr us x = some ⟨atF us x.a, atF us x.b, x.w⟩ := if_pos ⟨h1, h2⟩
theorem sp_n {us : List Int} {x : Pr} (h : ¬ (0 ≤ atF us x.a ∧ 0 ≤ atF us x.b)) : subPr us x = none := if_neg h
theorem sr_y {us : List Int} {x : Ru} (h1 : 0 ≤ atF us x.a) (h2 : 0 ≤ atF us x.b) : subRu us x = some ⟨x.k, atF us x.a, atF us x.b⟩ := if_pos ⟨h1, h2⟩
theorem sr_n {us : List Int} {x : Ru} (h : ¬ (0 ≤ atF us x.a ∧ 0 ≤ atF us x.b)) : subRu us x = none := if_neg h
theorem subP_y {us : List Int} {ps : List Pr} {k : Nat} (h : k < ps.length) (h1 : 0 ≤ atF us ps[k]!.a) (h2 : 0 ≤ atF us ps[k]!.b) : subP us (ps.take (k + 1)) = subP us (ps.take k) ++ [⟨atF us ps[k]!.a, atF us ps[k]!.b, ps[k]!.w⟩] := fm_y _ h (sp_y h1 h2)
theorem subP_n {us : List Int} {ps : List Pr} {k : Nat} (h : k < ps.length) (hn : ¬ (0 ≤ atF us ps[k]!.a ∧ 0 ≤ atF us ps[k]!.b)) : subP us (ps.take (k + 1)) = subP us (ps.take k) := fm_n _ h (sp_n hn)
theorem subR_y {us : List Int} {rs : List Ru} {k : Nat} (h : k < rs.length) (h1 : 0 ≤ atF us rs[k]!.a) (h2 : 0 ≤ atF us rs[k]!.b) : subR us (rs.take (k + 1)) = subR us (rs.take k) ++ [⟨rs[k]!.k, atF us rs[k]!.a, atF us rs[k]!.b⟩] := fm_y _ h (sr_y h1 h2)
theorem subR_n {us : List Int} {rs : List Ru} {k : Nat} (h : k < rs.length) (hn : ¬ (0 ≤ atF us rs[k]!.a ∧ 0 ≤ atF us rs[k]!.b)) : subR us (rs.take (k + 1)) = subR us (rs.take k) := fm_n _ h (sr_n hn)
theorem subP_len (us : List Int) (ps : List Pr) (k : Nat) : (subP us (ps.take k)).length ≤ ps.length := fm_len _ _ k
theorem subR_len (us : List Int) (rs : List Ru) (k : Nat) : (subR us (rs.take k)).length ≤ rs.length := fm_len _ _ k
def sbN (N : Int) (us : List Int) : Int := if okU N us then us.length else 0
def sbP (N : Int) (us : List Int) (ps : List Pr) : List Pr := if okU N us then subP us ps else []
def sbR (N : Int) (us : List Int) (rs : List Ru) : List Ru := if okU N us then subR us rs else []
theorem sb_y {N : Int} {us : List Int} (h : okU N us) (ps : List Pr) (rs : List Ru) : sbN N us = us.length ∧ sbP N us ps = subP us ps ∧ sbR N us rs = subR us rs ∧ subE N us = 0 := ⟨if_pos h, if_pos h, if_pos h, subE_0 h⟩
theorem sb_n {N : Int} {us : List Int} (h : ¬ okU N us) (ps : List Pr) (rs : List Ru) : sbN N us = 0 ∧ sbP N us ps = [] ∧ sbR N us rs = [] := ⟨if_neg h, if_neg h, if_neg h⟩
/-! ### Names of labels -/
def nmK (l : List Nat) (i j : Nat) : Nat := if (List.range i).any (fun k => decide (j ≤ k ∧ l[k]! = l[i]!)) = true then l.idxOf l[i]! else i
theorem nmK_i (l : List Nat) (i : Nat) : nmK l i i = i := by
  rw [nmK, if_neg]
  rw [Bool.not_eq_true, List.any_eq_false]
  intro k hk e
  have := List.mem_range.1 hk
  have := (of_decide_eq_true e).1
  omega
theorem nmK_y {l : List Nat} {i j : Nat} (h : j < i) (e : l[j]! = l[i]!) : nmK l i j = l.idxOf l[i]! := if_pos (List.any_eq_true.2 ⟨j, List.mem_range.2 h, decide_eq_true ⟨Nat.le_refl _, e⟩⟩)
theorem nmK_n {l : List Nat} {i j : Nat} (e : ¬ l[j]! = l[i]!) : nmK l i j = nmK l i (j + 1) := by
  unfold nmK
  have : (List.range i).any (fun k => decide (j ≤ k ∧ l[k]! = l[i]!)) = (List.range i).any (fun k => decide (j + 1 ≤ k ∧ l[k]! = l[i]!)) := by
    congr 1
    funext k
    exact dec_iff ⟨fun q => ⟨by have h1 := q.1; have h2 : k ≠ j := fun z => e (z ▸ q.2); omega, q.2⟩, fun q => ⟨by omega, q.2⟩⟩
  rw [this]
theorem idx_min {l : List Nat} {i : Nat} (h : i < l.length) : l.idxOf l[i]! ≤ i ∧ l[l.idxOf l[i]!]! = l[i]! := by
  have hlt : l.idxOf l[i]! < l.length := List.idxOf_lt_length_of_mem (mem_at h)
  refine ⟨?_, by rw [getElem!_pos l _ hlt, List.getElem_idxOf hlt]⟩
  rcases Nat.lt_or_ge i (l.idxOf l[i]!) with q | q
  · have := List.not_of_lt_findIdx (p := fun x => x == l[i]!) (xs := l) (i := i) q
    have e : (l[i] == l[i]!) = true := by rw [getElem!_pos l i h]; exact beq_self_eq_true _
    have t2 : (l[i] == l[i]!) = false := this
    rw [e] at t2; cases t2
  · exact q
theorem nmK_0 {l : List Nat} {i : Nat} (h : i < l.length) : nmK l i 0 = l.idxOf l[i]! := by
  obtain ⟨h1, h2⟩ := idx_min h
  unfold nmK
  split
  · rfl
  · rename_i q
    rw [Bool.not_eq_true, List.any_eq_false] at q
    rcases Nat.lt_or_ge (l.idxOf l[i]!) i with z | z
    · exact absurd (decide_eq_true ⟨Nat.zero_le _, h2⟩) (q _ (List.mem_range.2 z))
    · omega
theorem nmL_get {l : List Nat} {i : Nat} (h : i < l.length) : (nmL l)[i]! = l.idxOf l[i]! := by rw [nmL, get_map (by rw [List.length_range]; exact h), range_get h]
theorem nmL_len (l : List Nat) : (nmL l).length = l.length := by rw [nmL, List.length_map, List.length_range]
def nmX (l : List Nat) (i : Nat) : List Nat := (nmL l).take i ++ List.replicate (l.length - i) 0
theorem nmX_len {l : List Nat} {i : Nat} (h : i ≤ l.length) : (nmX l i).length = l.length := by
  rw [nmX, List.length_append, List.length_take, List.length_replicate, nmL_len]; omega
theorem nmX_s {l : List Nat} {i : Nat} (h : i < l.length) : nmX l (i + 1) = (nmX l i).set i (l.idxOf l[i]!) := by
  have hl : ((nmL l).take i).length = i := by rw [List.length_take, nmL_len]; omega
  unfold nmX
  rw [snocP (by rw [nmL_len]; exact h), nmL_get h, List.set_append_right _ _ (by omega), hl, Nat.sub_self, show l.length - i = (l.length - (i + 1)) + 1 by omega, List.replicate_succ, List.set_cons_zero]
  simp
theorem nmX_get {l : List Nat} {i k c : Nat} (h : k < i) (hi : i ≤ l.length) : ((nmX l i).set i c)[k]! = (nmL l)[k]! := by
  rw [set_get (by rw [nmX_len hi]; omega), if_neg (by omega)]
  unfold nmX
  rw [getElem!_pos _ _ (by rw [List.length_append, List.length_take, List.length_replicate, nmL_len]; omega), List.getElem_append_left (by rw [List.length_take, nmL_len]; omega), List.getElem_take, getElem!_pos _ _ (by rw [nmL_len]; omega)]
/-! ### Labels behind a move, place by place -/
def mvK (n k : Nat) (atm m : List Nat) (s : Stp) : List Nat := (List.range n).map fun i => if i < k ∧ atm[i]! = s.f.toNat then (if s.t < 0 then n else s.t.toNat) else m[i]!
theorem mvK_len {n k : Nat} {atm m : List Nat} {s : Stp} : (mvK n k atm m s).length = n := by rw [mvK, List.length_map, List.length_range]
theorem mvK_0 {n : Nat} {atm m : List Nat} {s : Stp} (hm : m.length = n) : mvK n 0 atm m s = m := by
  apply ext_g (by rw [mvK_len, hm])
  intro i hi
  rw [mvK_len] at hi
  rw [mvK, get_map (by rw [List.length_range]; exact hi), range_get hi, if_neg (fun q => by omega)]
theorem mvK_n {n : Nat} {atm m : List Nat} {s : Stp} : mvK n n atm m s = mvL n atm m s := by
  unfold mvK mvL
  apply List.map_congr_left
  intro i hi
  have := List.mem_range.1 hi
  by_cases e : atm[i]! = s.f.toNat
  · rw [if_pos ⟨this, e⟩, if_pos e]
  · rw [if_neg (fun q => e q.2), if_neg e]
theorem mvK_get {n k i : Nat} {atm m : List Nat} {s : Stp} (hi : i < n) : (mvK n k atm m s)[i]! = if i < k ∧ atm[i]! = s.f.toNat then (if s.t < 0 then n else s.t.toNat) else m[i]! := by
  rw [mvK, get_map (by rw [List.length_range]; exact hi), range_get hi]
theorem mvK_y {n k : Nat} {atm m : List Nat} {s : Stp} (_ : k < n) (e : atm[k]! = s.f.toNat) : mvK n (k + 1) atm m s = (mvK n k atm m s).set k (if s.t < 0 then n else s.t.toNat) := by
  apply ext_g (by rw [List.length_set, mvK_len, mvK_len])
  intro i hi
  rw [mvK_len] at hi
  rw [set_get (by rw [mvK_len]; exact hi), mvK_get hi, mvK_get hi]
  by_cases q : k = i
  · subst q
    rw [if_pos ⟨by omega, e⟩, if_pos rfl]
  · rw [if_neg q]
    by_cases z : i < k ∧ atm[i]! = s.f.toNat
    · rw [if_pos z, if_pos ⟨by omega, z.2⟩]
    · rw [if_neg z, if_neg (fun w => z ⟨by omega, w.2⟩)]
theorem mvK_no {n k : Nat} {atm m : List Nat} {s : Stp} (_ : k < n) (e : ¬ atm[k]! = s.f.toNat) : mvK n (k + 1) atm m s = mvK n k atm m s := by
  unfold mvK
  apply List.map_congr_left
  intro i hi
  by_cases z : i < k ∧ atm[i]! = s.f.toNat
  · rw [if_pos z, if_pos ⟨by omega, z.2⟩]
  · rw [if_neg z, if_neg (fun w => z ⟨by have h1 := w.1; have h2 : i ≠ k := fun q => e (q ▸ w.2); omega, w.2⟩)]
theorem oth_s (k : Nat) (atm m : List Nat) (f : Nat) : othR (k + 1) atm m f = (othR k atm m f || decide (m[k]! = m[f]! ∧ ¬ atm[k]! = f)) := by
  rw [othR, List.range_succ, List.any_append]; simp [othR]
def apRL (n : Nat) (ps : List Pr) (rs : List Ru) (m : List Nat) (s : Stp) : List Nat := if posR n (barL rs) (atomsL n rs) m s then resR n ps rs m s else []
def apRV (n : Nat) (ps : List Pr) (rs : List Ru) (m : List Nat) (s : Stp) : Int := if posR n (barL rs) (atomsL n rs) m s then gnR n ps rs m s else 0
theorem apR_y {n : Nat} {ps : List Pr} {rs : List Ru} {m : List Nat} {s : Stp} (h : posR n (barL rs) (atomsL n rs) m s) : apRL n ps rs m s = resR n ps rs m s ∧ apRV n ps rs m s = gnR n ps rs m s := ⟨if_pos h, if_pos h⟩
theorem apR_n {n : Nat} {ps : List Pr} {rs : List Ru} {m : List Nat} {s : Stp} (h : ¬ posR n (barL rs) (atomsL n rs) m s) : apRL n ps rs m s = [] ∧ apRV n ps rs m s = 0 := ⟨if_neg h, if_neg h⟩
theorem preR_iff {n : Nat} {atm m : List Nat} {u : Bool} {f t : Int} : preR n atm m ⟨u, f, t⟩ ↔ (0 ≤ f ∧ f < (n : Int) ∧ t < (n : Int) ∧ -1 ≤ t ∧ (t < 0 → u = false)) ∧ (0 ≤ t → m[t.toNat]! = t.toNat) ∧
  (u = true → m[f.toNat]! = f.toNat ∧ f < t) ∧ (u = false → atm[f.toNat]! = f.toNat ∧ (0 ≤ t → m[f.toNat]! ≠ t.toNat) ∧ (t < 0 → othR n atm m f.toNat = true)) := Iff.rfl
theorem labL_len {n : Nat} {atm m : List Nat} {s : Stp} (hm : m.length = n) : (labL n atm m s).length = n := by
  unfold labL
  split
  · rw [join_len, hm]
  · rw [nmL_len, mvL, List.length_map, List.length_range]
end Go.D33
end
section
namespace Go.Proofs.Ytppamigboeaefaa
open Go Go.RowKit Go.H Go.D33

theorem hcallOk23 : G.callOk Try.prog 23 = true := by kernel_rfl
theorem hcallOk53 : G.callOk Try.prog 53 = true := by kernel_rfl
theorem hcallOk54 : G.callOk Try.prog 54 = true := by kernel_rfl

set_option maxRecDepth 8000 in
/-- bookplate/cluster.Sub$1. -/
theorem sub1_h {N : Int} {ps : List Pr} {rs : List Ru} {x : Int} :
    Con Try.prog 54 [vI x, .u (.ptr [uI N, .sl 3 (ps.map ePr), .sl 3 (rs.map eRu)])] [] (vB (decide (x < 0 ∨ N ≤ x))) [] := by
 refine Con.enterL (n := 12) Try.func54 rfl rfl rfl (fun τ w ok vs hin => ?_)
 clear hin
 refine W.rg (SL.an rfl rfl (E.fo (W.rg (SL.mv rfl rfl ?_))))
 refine SL.val (O.det (fun _ => G.R.lss rfl rfl) rfl Taken.no) ?_
 refine SL.mv rfl rfl ?_
 refine SL.case (j := 2) (g := 6) (want := false) rfl rfl (fun hg1 => ?_) (fun hg1 => ?_)
 ·skip
  first | have hg1p := G.gA3 hg1 | have hg1p := G.gA4 hg1 | have hg1p := hg1
  refine SL.val (O.move rfl rfl (Taken.yes rfl rfl hg1)) ?_
  refine SL.val (O.fld_fz rfl Try.underlying32 rfl (m := 0) (by kernel_rfl) rfl rfl (Taken.yes rfl rfl hg1)) ?_
  refine SL.val (O.ld1 (PtI.ofU (PtU.fz rfl)) rfl Try.underlying3 rfl rfl (Taken.yes rfl rfl hg1)) ?_
  refine SL.val (O.det (fun _ => G.R.geq rfl rfl) rfl (Taken.yes rfl rfl hg1)) ?_
  refine SL.val (O.pick_f rfl hg1 rfl rfl Taken.no) ?_
  refine SL.an rfl rfl (E.fo (W.ret ?_))
  refine E.fin (rs := [_]) (rn []) (.inl rfl) rfl (.cons (ResOne.tmp rfl) .nil) ?_ ?_ rfl (fixL_spec rfl)
  ·skip
   first | exact iv_bool (dec_iff (by omega)) | exact iv_bool (dec_t (by omega)) | exact iv_bool (dec_f (by omega))
  · exact SubS.nil
 ·skip
  first | have hg1p := G.gA7 hg1 | have hg1p := G.gA8 hg1 | have hg1p := hg1
  refine SL.sk rfl rfl rfl hg1 (SL.sk rfl rfl rfl hg1 (SL.sk rfl rfl rfl hg1 (SL.sk rfl rfl rfl hg1 ?_)))
  refine SL.val (O.pick_t rfl (G.ne_f hg1) rfl rfl Taken.no) ?_
  refine SL.an rfl rfl (E.fo (W.ret ?_))
  refine E.fin (rs := [_]) (rn []) (.inl rfl) rfl (.cons (ResOne.tmp rfl) .nil) ?_ ?_ rfl (fixL_spec rfl)
  ·skip
   first | exact iv_bool (dec_iff (by omega)) | exact iv_bool (dec_t (by omega)) | exact iv_bool (dec_f (by omega))
  · exact SubS.nil

set_option maxRecDepth 8000 in
set_option maxHeartbeats 1600000 in
/-- bookplate/cluster.Sub. -/
theorem sub_ok {N : Int} {ps : List Pr} {rs : List Ru} {us : List Int} (hok : (Prob.mk N ps rs).ok) (hp_ : ps.length ≤ 1000000) (hr_ : rs.length ≤ 1000000) (hu_ : us.length ≤ 1000000) :
    Con Try.prog 31 [vA [uI N, .sl 3 (ps.map ePr), .sl 3 (rs.map eRu)], vL 1 (us.map eI)] [] (.tup [.agg [vI (sbN N us), vL 3 ((sbP N us ps).map ePr), vL 3 ((sbR N us rs).map eRu)], vI (subE N us)]) [] := by
 obtain ⟨i3, hi3, hz3, hs3, hb3⟩ := hinf3
 obtain ⟨i36, hi36, hz36, hs36, hb36⟩ := hinf36
 obtain ⟨i38, hi38, hz38, hs38, hb38⟩ := hinf38
 refine Con.enterL (n := 133) Try.func31 rfl rfl rfl (fun τ w ok vs hin => ?_)
 have hl0_1 := hin.lenA (i := 0) (j := 1) rfl rfl
 try rw [List.length_map] at hl0_1
 have hl0_2 := hin.lenA (i := 0) (j := 2) rfl rfl
 try rw [List.length_map] at hl0_2
 have hl1 := hin.len (i := 1) rfl
 try rw [List.length_map] at hl1
 clear hin
 refine W.rg ?_
 refine SL.memS (O.box (is := [_, _, _]) 101 rfl rfl (by simp) rfl rfl Taken.no) rfl rfl (S' := (101, _) :: _) rfl ?_
 refine SL.memS (O.alloc (z := .agg #[.int .i64 0, .slice none 0 0, .slice none 0 0]) (is := [.u (.sc (.int .i64 0)), .u (.sc (.slice none 0 0)), .u (.sc (.slice none 0 0))]) 102 (by kernel_rfl) rfl rfl rfl Taken.no) rfl rfl (S' := (102, _) :: _) rfl ?_
 refine SL.an rfl rfl (E.fo (W.seq (W.rg ?_)))
 refine SL.val (O.ldN (m := 3) (PtI.ref rfl rfl) (js := [_, _, _]) rfl (Nat.le_of_ble_eq_true rfl) Try.underlying32 rfl (by kernel_rfl) rfl Taken.no) ?_
 refine SL.val (O.callp rfl rfl rfl (valid_h (N := N) (ps := ps) (rs := rs)) (.cons (ArgOk.aggU (.cons (ArgOk.same rfl) (.cons (ArgOk.same rfl) (.cons (ArgOk.same rfl) .nil)))) .nil) hcallOk23 rfl Taken.no) ?_
 refine SL.as (i' := vI 0) 24 rfl (by rw [Prob.err_0 hok]) ?_
 refine SL.an rfl rfl (E.fo (W.rg (SL.mv rfl rfl ?_)))
 refine SL.val (O.det (fun _ => G.R.mv (G.R.neq rfl rfl) (congrArg Value.bool (decide_eq_false (by decide)))) rfl Taken.no) ?_
 refine E.fo ?_
 refine W.cond_f rfl ?_
 refine W.skip (E.to (W.rg ?_))
 refine SL.memS (O.makeMap 103 rfl Taken.no) rfl rfl (S' := (103, .mp []) :: _) rfl ?_
 refine SL.an rfl rfl (E.fo (W.seq (W.rg (SL.mv rfl rfl ?_))))
 refine SL.val (O.lenE (SlOf.fz rfl (by decide)) (by first | exact List.length_map _ | rfl) Try.underlying39 rfl Taken.no) ?_
 refine SL.mv rfl rfl (E.fo (W.block ?_))
 refine W.loopx1 (fun (k : Nat) => [(32, vI (k : Int)), (7, .own 104)]) (fun (k : Nat) => [(104, .mp (mpE (fun a : Int => Value.int .i64 a) (fun a : Int => Value.int .i64 a) (pl us k)))]) (fun (k : Nat) => k ≤ us.length ∧ ∀ i, i < k → 0 < i → us[i - 1]! < us[i]!) (fun (k : Nat) => us.length - k) (0) (rn [(104, 103)]) (.cons (t := 1) rfl (.cons (t := 2) rfl (.cons (t := 4) rfl (.cons (t := 30) rfl (.cons (t := 31) rfl .nil))))) (.cons (t := 101) rfl (.cons (t := 102) rfl .nil)) rfl ?_ ?_ rfl rfl ?_ ?_
 · exact (SubF.cons rfl (SubF.cons rfl SubF.nil))
 · exact (SubS.cons rfl SubS.nil)
 ·skip
  exact ⟨by omega, fun i h => by omega⟩
 intro k hinv
 obtain ⟨hk, hp⟩ := hinv
 refine W.rg ?_
 refine SL.val (O.det (fun _ => G.R.lss rfl rfl) rfl Taken.no) ?_
 refine E.fo (W.seq ?_)
 first | refine W.cond_d rfl (fun hc1 => ?_) (fun hc1 => ?_) | refine W.cond_nd rfl (fun hc1 => ?_) (fun hc1 => ?_) | refine W.cond rfl (fun hc1 => ?_) (fun hc1 => ?_)
 ·skip
  refine W.skip (E.to (W.seq (W.block (W.rg (SL.mv rfl rfl ?_)))))
  refine SL.val (O.idx_fz rfl rfl (rfl) (row_get (by omega)) Try.underlying39 hi3 hs3 rfl Taken.no) ?_
  refine SL.val (O.ld1 (PtI.ofU (PtU.fz rfl)) rfl Try.underlying3 rfl rfl Taken.no) ?_
  refine SL.an rfl rfl (SL.an rfl rfl (E.fo (W.seq (W.rg (SL.mv rfl rfl ?_)))))
  refine SL.val (O.det (fun _ => G.R.gtr rfl rfl) rfl Taken.no) ?_
  refine SL.mv rfl rfl ?_
  refine SL.case (j := 2) (g := 39) (want := true) rfl rfl (fun hg2 => ?_) (fun hg2 => ?_)
  ·skip
   first | have hg2p := G.gA1 hg2 | have hg2p := G.gA2 hg2 | have hg2p := hg2
   refine SL.val (O.move rfl rfl (Taken.yes rfl rfl hg2)) ?_
   refine SL.val (O.move rfl rfl (Taken.yes rfl rfl hg2)) ?_
   refine SL.val (O.move rfl rfl (Taken.yes rfl rfl hg2)) ?_
   refine SL.val (O.det (fun _ => by first | exact G.R.sub64 rfl rfl (by omega) | exact G.R.sub rfl rfl) rfl (Taken.yes rfl rfl hg2)) ?_
   refine SL.val (O.idx_fz (i := (k - 1)) rfl rfl (by omega) (row_get (by omega)) Try.underlying39 hi3 hs3 rfl (Taken.yes rfl rfl hg2)) ?_
   refine SL.val (O.ld1 (PtI.ofU (PtU.fz rfl)) rfl Try.underlying3 rfl rfl (Taken.yes rfl rfl hg2)) ?_
   refine SL.val (O.det (fun _ => G.R.leq rfl rfl) rfl (Taken.yes rfl rfl hg2)) ?_
   refine SL.val (O.pick_t rfl hg2 rfl rfl Taken.no) ?_
   refine E.fo ?_
   first | refine W.cond_d rfl (fun hc3 => ?_) (fun hc3 => ?_) | refine W.cond_nd rfl (fun hc3 => ?_) (fun hc3 => ?_) | refine W.cond rfl (fun hc3 => ?_) (fun hc3 => ?_)
   ·skip
    refine W.rg ?_
    refine SL.val (O.build (res := [_, _, _]) (z := .agg #[.int .i64 0, .slice none 0 0, .slice none 0 0]) (places := [(0, 1), (1, 1), (2, 1)]) rfl rfl Try.underlying32 (by kernel_rfl) (fun _ => by kernel_rfl) rfl rfl Taken.no) ?_
    refine SL.effS (O.st_ref (m := 3) rfl rfl rfl (js := [_, _, _]) rfl rfl (by kernel_rfl) (by simp) (Nat.le_of_ble_eq_true rfl) rfl (is' := [_, _, _]) rfl Taken.no) (S' := (102, _) :: _) rfl ?_
    refine SL.an rfl rfl (E.fo ?_)
    refine W.pick (K:=[(1,_),(2,_),(4,_),(5,_),(7,_),(8,_),(9,_),(30,_),(31,_),(32,_)]) (Z:=[(101,_),(102,_),(104,_)]) ⟨rfl,rfl,rfl,rfl,rfl,rfl,rfl,rfl,rfl,rfl,trivial⟩ ⟨rfl,rfl,rfl,trivial⟩ ?_
    refine W.ret (E.thr ?_)
    refine E.inr ?_
    refine E.thr (E.thr ?_)
    refine E.inr ?_
    refine E.thr ?_
    refine E.nilslC 102 1 3 (is' := [_, _, _]) rfl rfl rfl ?_
    refine E.nilslC 102 2 3 (is' := [_, _, _]) rfl rfl rfl ?_
    refine E.fin (rs := [_, _]) (rn []) (.inl rfl) rfl (.cons (ResOne.cellN (m := 3) (PtI.ref rfl rfl) (js := [_, _, _]) rfl (Nat.le_of_ble_eq_true rfl) Try.underlying32 rfl (by kernel_rfl)) (.cons (ResOne.tmp rfl) .nil)) ?_ ?_ rfl (fixL_spec rfl)
    ·skip
     have hna : ¬ ascU us := fun q => by have := q k (by omega) (by omega); omega
     rw [(sb_n (fun q => hna q.1) ps rs).1, (sb_n (N := N) (fun q => hna q.1) ps rs).2.1, (sb_n (N := N) (fun q => hna q.1) ps rs).2.2, subE_19 hna]; rfl
    · exact SubS.nil
   ·skip
    refine W.skip (E.to (W.region (SL.mv rfl rfl (SL.mv rfl rfl (SL.mv rfl rfl ?_)))))
    refine SL.effS (O.mapUpdate (kf := (fun a : Int => Value.int .i64 a)) (vf := (fun a : Int => Value.int .i64 a)) (l := pl us k) (b := us[k]!) (u := (k : Int)) rfl rfl rfl rfl Try.underlying94 (KeyOk.int Try.underlying3) Taken.no) (S' := (104, _) :: _) rfl ?_
    refine SL.nil (E.inn (E.to ?_))
    refine W.pick (K:=[(1,_),(2,_),(4,_),(7,_),(30,_),(31,_),(32,_)]) (Z:=[(101,_),(102,_),(104,_)]) ⟨rfl,rfl,rfl,rfl,rfl,rfl,rfl,trivial⟩ ⟨rfl,rfl,rfl,trivial⟩ ?_
    refine W.region ?_
    refine SL.val (O.det (fun _ => by first | exact G.R.add64 rfl rfl (by omega) | exact G.R.add rfl rfl) rfl Taken.no) ?_
    refine SL.mv rfl rfl (SL.nil ?_)
    refine E.again ((k + 1)) (rn []) ?_ ?_ rfl (fixL_spec rfl) ?_ ?_
    · exact (SubF.cons rfl (SubF.cons rfl (SubF.cons rfl (SubF.cons rfl (SubF.cons rfl (SubF.cons rfl (SubF.cons rfl SubF.nil)))))))
    · exact (SubS.cons rfl (SubS.cons rfl (SubS.cons rfl SubS.nil)))
    ·try dsimp only
     exact ⟨by omega, fun j hj h0 => by rcases Nat.lt_succ_iff_lt_or_eq.1 hj with h | h; exact hp j h h0; subst h; omega⟩
    · (try dsimp only); omega
  ·skip
   first | have hg2p := G.gA5 hg2 | have hg2p := G.gA6 hg2 | have hg2p := hg2
   refine SL.sk rfl rfl rfl hg2 (SL.sk rfl rfl rfl hg2 (SL.sk rfl rfl rfl hg2 (SL.sk rfl rfl rfl hg2 (SL.sk rfl rfl rfl hg2 (SL.sk rfl rfl rfl hg2 (SL.sk rfl rfl rfl hg2 ?_))))))
   refine SL.val (O.pick_f rfl (G.ne_t hg2) rfl rfl Taken.no) ?_
   refine E.fo ?_
   refine W.cond_f rfl ?_
   refine W.skip (E.to (W.region (SL.mv rfl rfl (SL.mv rfl rfl (SL.mv rfl rfl ?_)))))
   refine SL.effS (O.mapUpdate (kf := (fun a : Int => Value.int .i64 a)) (vf := (fun a : Int => Value.int .i64 a)) (l := pl us k) (b := us[k]!) (u := (k : Int)) rfl rfl rfl rfl Try.underlying94 (KeyOk.int Try.underlying3) Taken.no) (S' := (104, _) :: _) rfl ?_
   refine SL.nil (E.inn (E.to ?_))
   refine W.pick (K:=[(1,_),(2,_),(4,_),(7,_),(30,_),(31,_),(32,_)]) (Z:=[(101,_),(102,_),(104,_)]) ⟨rfl,rfl,rfl,rfl,rfl,rfl,rfl,trivial⟩ ⟨rfl,rfl,rfl,trivial⟩ ?_
   refine W.region ?_
   refine SL.val (O.det (fun _ => by first | exact G.R.add64 rfl rfl (by omega) | exact G.R.add rfl rfl) rfl Taken.no) ?_
   refine SL.mv rfl rfl (SL.nil ?_)
   refine E.again ((k + 1)) (rn []) ?_ ?_ rfl (fixL_spec rfl) ?_ ?_
   · exact (SubF.cons rfl (SubF.cons rfl (SubF.cons rfl (SubF.cons rfl (SubF.cons rfl (SubF.cons rfl (SubF.cons rfl SubF.nil)))))))
   · exact (SubS.cons rfl (SubS.cons rfl (SubS.cons rfl SubS.nil)))
   ·try dsimp only
    exact ⟨by omega, fun j hj h0 => by rcases Nat.lt_succ_iff_lt_or_eq.1 hj with h | h; exact hp j h h0; subst h; omega⟩
   · (try dsimp only); omega
 ·skip
  refine W.exit (E.th (E.th (E.hit (E.to (W.seq (W.seq ?_))))))
  have hku : k = us.length := by omega
  have hasc : ascU us := fun i hi => hp i (by omega)
  rw [hku]
  refine W.region (SL.mv rfl rfl ?_)
  refine SL.val (O.makeFunc rfl rfl rfl Taken.no) ?_
  refine SL.memS (O.call (rn []) [101] rfl rfl rfl (containsFuncI (q := us) (f := 54) (caps := [.ptr [uI N, .sl 3 (ps.map ePr), .sl 3 (rs.map eRu)]]) (pr := fun x => decide (x < 0 ∨ N ≤ x)) hcallOk54 (fun x hx => sub1_h)) (.cons (ArgOk.same rfl) (.cons (ArgOk.cloU .nil (.cons (ArgOk.ref rfl rfl rfl) .nil)) .nil)) SubS.nil rfl rfl rfl rfl rfl (.inr ⟨rfl, fun x hx => by simp at hx⟩) hcallOk53 (r' := .u _) rfl rfl Taken.no) rfl rfl (S' := _) rfl ?_
  refine E.fo ?_
  first | refine W.cond_d rfl (fun hc4 => ?_) (fun hc4 => ?_) | refine W.cond_nd rfl (fun hc4 => ?_) (fun hc4 => ?_) | refine W.cond rfl (fun hc4 => ?_) (fun hc4 => ?_)
  ·skip
   refine W.rg ?_
   refine SL.val (O.build (res := [_, _, _]) (z := .agg #[.int .i64 0, .slice none 0 0, .slice none 0 0]) (places := [(0, 1), (1, 1), (2, 1)]) rfl rfl Try.underlying32 (by kernel_rfl) (fun _ => by kernel_rfl) rfl rfl Taken.no) ?_
   refine SL.effS (O.st_ref (m := 3) rfl rfl rfl (js := [_, _, _]) rfl rfl (by kernel_rfl) (by simp) (Nat.le_of_ble_eq_true rfl) rfl (is' := [_, _, _]) rfl Taken.no) (S' := (102, _) :: _) rfl ?_
   refine SL.an rfl rfl (E.fo (W.ret (E.thr ?_)))
   refine E.nilslC 102 1 3 (is' := [_, _, _]) rfl rfl rfl ?_
   refine E.nilslC 102 2 3 (is' := [_, _, _]) rfl rfl rfl ?_
   refine E.fin (rs := [_, _]) (rn []) (.inl rfl) rfl (.cons (ResOne.cellN (m := 3) (PtI.ref rfl rfl) (js := [_, _, _]) rfl (Nat.le_of_ble_eq_true rfl) Try.underlying32 rfl (by kernel_rfl)) (.cons (ResOne.tmp rfl) .nil)) ?_ ?_ rfl (fixL_spec rfl)
   ·skip
    have hnr : ¬ rngU N us := fun q => by obtain ⟨x, hx, e⟩ := any_iff.2 (show 0 ≤ idxF (fun x => decide (x < 0 ∨ N ≤ x)) us by assumption); obtain ⟨i, hi, rfl⟩ := List.getElem_of_mem hx; have := q i hi; rw [getElem!_pos us i hi] at this; have e2 := of_decide_eq_true e; omega
    rw [(sb_n (fun q => hnr q.2) ps rs).1, (sb_n (fun q => hnr q.2) ps rs).2.1, (sb_n (fun q => hnr q.2) ps rs).2.2, subE_2 hasc hnr]; rfl
   · exact SubS.nil
  ·skip
   have h0n : ¬ 0 ≤ idxF (fun x => decide (x < 0 ∨ N ≤ x)) us := by assumption
   have hrng : rngU N us := fun i hi => by (have h1 : ¬ (us[i]! < 0 ∨ N ≤ us[i]!) := fun q => h0n (any_iff.1 ⟨us[i]!, mem_at hi, decide_eq_true q⟩)); omega
   have hoku : okU N us := ⟨hasc, hrng⟩
   refine W.skip (E.to (W.rg (SL.mv rfl rfl ?_)))
   refine SL.val (O.lenE (SlOf.fz rfl (by decide)) (by first | exact List.length_map _ | rfl) Try.underlying39 rfl Taken.no) ?_
   refine SL.val (O.build (res := [_, _, _]) (z := .agg #[.int .i64 0, .slice none 0 0, .slice none 0 0]) (places := [(0, 1), (1, 1), (2, 1)]) rfl rfl Try.underlying32 (by kernel_rfl) (fun _ => by kernel_rfl) rfl rfl Taken.no) ?_
   refine SL.memS (O.alloc (z := .agg #[.int .i64 0, .slice none 0 0, .slice none 0 0]) (is := [.u (.sc (.int .i64 0)), .u (.sc (.slice none 0 0)), .u (.sc (.slice none 0 0))]) 105 (by kernel_rfl) rfl rfl rfl Taken.no) rfl rfl (S' := (105, _) :: _) rfl ?_
   refine SL.effS (O.st_ref (m := 3) rfl rfl rfl (js := [_, _, _]) rfl rfl (by kernel_rfl) (by simp) (Nat.le_of_ble_eq_true rfl) rfl (is' := [_, _, _]) rfl Taken.no) (S' := (105, _) :: _) rfl ?_
   refine E.fo (W.seq (W.rg ?_))
   refine SL.val (O.fld_ref (o' := 1) rfl Try.underlying32 rfl (m := 0) (by kernel_rfl) rfl rfl Taken.no) ?_
   refine SL.val (O.ld1 (PtI.ref rfl rfl) rfl Try.underlying30 rfl rfl Taken.no) ?_
   refine SL.val (O.lenE (SlOf.fz rfl (by decide)) (by first | exact List.length_map _ | rfl) Try.underlying30 rfl Taken.no) ?_
   refine SL.mv rfl rfl (E.fo (W.block ?_))
   refine W.adoptC 105 1 107 36 3 (is' := [_, _, _]) (by decide) rfl rfl rfl rfl rfl ?_
   refine W.loopx1 (fun (k : Nat) => [(63, vI (k : Int))]) (fun (k : Nat) => [(106, .data 36 3 ((subP us (ps.take k)).map ePr)), (105, .cells 32 [vI (us.length : Int), .own 106, .u (.sc (.slice none 0 0))])]) (fun (k : Nat) => k ≤ ps.length) (fun (k : Nat) => ps.length - k) (0) (rn [(106, 107)]) (.cons (t := 2) rfl (.cons (t := 4) rfl (.cons (t := 7) rfl (.cons (t := 10) rfl (.cons (t := 61) rfl (.cons (t := 62) rfl .nil)))))) (.cons (t := 101) rfl (.cons (t := 102) rfl (.cons (t := 104) rfl .nil))) rfl ?_ ?_ rfl rfl ?_ ?_
   · exact (SubF.cons rfl SubF.nil)
   · exact (SubS.cons rfl (SubS.cons rfl SubS.nil))
   ·skip
    omega
   intro k hinv
   have hk := hinv
   have hfl := subP_len us ps k
   refine W.rg ?_
   refine SL.val (O.det (fun _ => G.R.lss rfl rfl) rfl Taken.no) ?_
   refine E.fo (W.seq ?_)
   first | refine W.cond_d rfl (fun hc5 => ?_) (fun hc5 => ?_) | refine W.cond_nd rfl (fun hc5 => ?_) (fun hc5 => ?_) | refine W.cond rfl (fun hc5 => ?_) (fun hc5 => ?_)
   ·skip
    have hpa := pl_at hasc ps[k]!.a
    have hpb := pl_at hasc ps[k]!.b
    refine W.skip (E.to (W.seq (W.block (W.rg ?_))))
    refine SL.val (O.idx_fz (i := k) rfl rfl (rfl) (row_get (by omega)) Try.underlying30 hi36 hs36 rfl Taken.no) ?_
    refine SL.val (O.ldU (m := 3) (PtU.fz rfl) rfl Try.underlying36 rfl (by kernel_rfl) rfl Taken.no) ?_
    refine SL.memS (O.alloc (z := .agg #[.int .i64 0, .int .i64 0, .int .i64 0]) (is := [.u (.sc (.int .i64 0)), .u (.sc (.int .i64 0)), .u (.sc (.int .i64 0))]) 108 (by kernel_rfl) rfl rfl rfl Taken.no) rfl rfl (S' := (108, _) :: _) rfl ?_
    refine SL.effS (O.st_ref (m := 3) rfl rfl rfl (js := [_, _, _]) rfl rfl (by kernel_rfl) (by simp) (Nat.le_of_ble_eq_true rfl) rfl (is' := [_, _, _]) rfl Taken.no) (S' := (108, _) :: _) rfl ?_
    refine E.fo (W.rg (SL.mv rfl rfl ?_))
    refine SL.val (O.fld_ref (o' := 0) rfl Try.underlying36 rfl (m := 0) (by kernel_rfl) rfl rfl Taken.no) ?_
    refine SL.val (O.ld1 (PtI.ref rfl rfl) rfl Try.underlying3 rfl rfl Taken.no) ?_
    refine SL.val (O.lookup2 (kf := (fun a : Int => Value.int .i64 a)) (vf := (fun a : Int => Value.int .i64 a)) (l := (pl us us.length)) (b := ps[k]!.a) (z := 0) rfl rfl rfl Try.underlying94 (KeyOk.int Try.underlying3) (by kernel_rfl) rfl Taken.no) ?_
    refine SL.mv rfl rfl ?_
    refine SL.val (O.extract rfl rfl rfl Taken.no) ?_
    refine SL.val (O.extract rfl rfl rfl Taken.no) ?_
    refine SL.an rfl rfl (SL.an rfl rfl (E.fo (W.rg (SL.mv rfl rfl ?_))))
    refine SL.val (O.fld_ref (o' := 1) rfl Try.underlying36 rfl (m := 0) (by kernel_rfl) rfl rfl Taken.no) ?_
    refine SL.val (O.ld1 (PtI.ref rfl rfl) rfl Try.underlying3 rfl rfl Taken.no) ?_
    refine SL.val (O.lookup2 (kf := (fun a : Int => Value.int .i64 a)) (vf := (fun a : Int => Value.int .i64 a)) (l := (pl us us.length)) (b := ps[k]!.b) (z := 0) rfl rfl rfl Try.underlying94 (KeyOk.int Try.underlying3) (by kernel_rfl) rfl Taken.no) ?_
    refine SL.mv rfl rfl ?_
    refine SL.val (O.extract rfl rfl rfl Taken.no) ?_
    refine SL.val (O.extract rfl rfl rfl Taken.no) ?_
    refine SL.an rfl rfl (SL.an rfl rfl (E.fo ?_))
    refine W.pick (K:=[(2,_),(4,_),(7,_),(10,_),(12,_),(13,_),(14,_),(15,_),(16,_),(61,_),(62,_),(63,_)]) (Z:=[(101,_),(102,_),(104,_),(105,_),(106,_),(108,_)]) ⟨rfl,rfl,rfl,rfl,rfl,rfl,rfl,rfl,rfl,rfl,rfl,rfl,trivial⟩ ⟨rfl,rfl,rfl,rfl,rfl,rfl,trivial⟩ ?_
    refine W.rg (SL.mv rfl rfl (SL.mv rfl rfl ?_))
    refine SL.case (j := 1) (g := 82) (want := true) rfl rfl (fun hg6 => ?_) (fun hg6 => ?_)
    ·skip
     first | have hg6p := G.gA1 hg6 | have hg6p := G.gA2 hg6 | have hg6p := hg6
     refine SL.val (O.move rfl rfl (Taken.yes rfl rfl hg6)) ?_
     refine SL.val (O.pick_t rfl hg6 rfl rfl Taken.no) ?_
     refine E.fo ?_
     first | refine W.cond_d rfl (fun hc7 => ?_) (fun hc7 => ?_) | refine W.cond_nd rfl (fun hc7 => ?_) (fun hc7 => ?_) | refine W.cond rfl (fun hc7 => ?_) (fun hc7 => ?_)
     ·skip
      have h1 : 0 ≤ atF us ps[k]!.a := of_decide_eq_true (hpa.1.symm.trans (by assumption))
      have h2 : 0 ≤ atF us ps[k]!.b := of_decide_eq_true (hpb.1.symm.trans (by assumption))
      refine W.region ?_
      refine SL.val (O.fld_ref (o' := 1) rfl Try.underlying32 rfl (m := 0) (by kernel_rfl) rfl rfl Taken.no) ?_
      refine SL.val (O.ld1 (PtI.ref rfl rfl) rfl Try.underlying30 rfl rfl Taken.no) ?_
      refine SL.mv rfl rfl (SL.mv rfl rfl ?_)
      refine SL.val (O.fld_ref (o' := 2) rfl Try.underlying36 rfl (m := 0) (by kernel_rfl) rfl rfl Taken.no) ?_
      refine SL.val (O.ld1 (PtI.ref rfl rfl) rfl Try.underlying3 rfl rfl Taken.no) ?_
      refine SL.val (O.build (res := [_, _, _]) (z := .agg #[.int .i64 0, .int .i64 0, .int .i64 0]) (places := [(0, 1), (1, 1), (2, 1)]) rfl rfl Try.underlying36 (by kernel_rfl) (fun _ => by kernel_rfl) rfl rfl Taken.no) ?_
      refine SL.memS (O.buildSlice 109 (rows := [Pr.mk (atF us ps[k]!.a) (atF us ps[k]!.b) ps[k]!.w].map ePr) rfl rfl Try.underlying30 hi36 hz36 hs36 (by decide) rfl (by decide) rfl (by show _ = [[uI (atF us ps[k]!.a), uI (atF us ps[k]!.b), uI ps[k]!.w]]; rw [← hpa.2 h1, ← hpb.2 h2]; rfl) rfl Taken.no) rfl rfl (S' := (109, .data 36 3 ([Pr.mk (atF us ps[k]!.a) (atF us ps[k]!.b) ps[k]!.w].map ePr)) :: _) rfl ?_
      refine SL.memS (O.app (k' := 110) rfl rfl (SlOf.own rfl rfl) Try.underlying30 hi36 hz36 hs36 rfl rfl (by exact app_map) (by rw [hb36]; (simp only [List.length_map, List.length_singleton]; omega)) (by (simp only [List.length_map, List.length_singleton]; omega)) rfl Taken.no) rfl rfl (S' := (110, _) :: (106, .dead) :: _) rfl ?_
      refine SL.val (O.fld_ref (o' := 1) rfl Try.underlying32 rfl (m := 0) (by kernel_rfl) rfl rfl Taken.no) ?_
      refine SL.effS (O.st_ref (m := 1) rfl rfl rfl (js := [_]) rfl rfl (by kernel_rfl) (by simp) (Nat.le_of_ble_eq_true rfl) rfl (is' := [_, _, _]) rfl Taken.no) (S' := (105, _) :: _) rfl ?_
      refine SL.nil (E.inn (E.to ?_))
      refine W.pick (K:=[(2,_),(4,_),(7,_),(10,_),(61,_),(62,_),(63,_)]) (Z:=[(101,_),(102,_),(104,_),(105,_),(108,_),(109,_),(110,_)]) ⟨rfl,rfl,rfl,rfl,rfl,rfl,rfl,trivial⟩ ⟨rfl,rfl,rfl,rfl,rfl,rfl,rfl,trivial⟩ ?_
      refine W.region ?_
      refine SL.val (O.det (fun _ => by first | exact G.R.add64 rfl rfl (by omega) | exact G.R.add rfl rfl) rfl Taken.no) ?_
      refine SL.mv rfl rfl (SL.nil ?_)
      refine E.again ((k + 1)) (rn [(106, 110)]) ?_ ?_ rfl (fixL_spec rfl) ?_ ?_
      · exact (SubF.cons rfl (SubF.cons rfl (SubF.cons rfl (SubF.cons rfl (SubF.cons rfl (SubF.cons rfl (SubF.cons rfl SubF.nil)))))))
      · exact (SubS.val rfl (by (try dsimp only); first | exact sb_data (by rw [subP_y (by omega) h1 h2]) | exact sb_data (by rw [subP_n (by omega) hno])) (SubS.cons rfl (SubS.cons rfl (SubS.cons rfl (SubS.cons rfl SubS.nil)))))
      ·try dsimp only
       omega
      · (try dsimp only); omega
     ·skip
      have hno : ¬ (0 ≤ atF us ps[k]!.a ∧ 0 ≤ atF us ps[k]!.b) := fun q => by have q1 := hpa.1.trans (decide_eq_true q.1); have q2 := hpb.1.trans (decide_eq_true q.2); (simp_all <;> omega)
      refine W.skip (E.inn (E.to (W.region ?_)))
      refine SL.val (O.det (fun _ => by first | exact G.R.add64 rfl rfl (by omega) | exact G.R.add rfl rfl) rfl Taken.no) ?_
      refine SL.mv rfl rfl (SL.nil ?_)
      refine E.again ((k + 1)) (rn []) ?_ ?_ rfl (fixL_spec rfl) ?_ ?_
      · exact (SubF.cons rfl (SubF.cons rfl (SubF.cons rfl (SubF.cons rfl (SubF.cons rfl (SubF.cons rfl (SubF.cons rfl SubF.nil)))))))
      · exact (SubS.val rfl (by (try dsimp only); first | exact sb_data (by rw [subP_y (by omega) h1 h2]) | exact sb_data (by rw [subP_n (by omega) hno])) (SubS.cons rfl (SubS.cons rfl (SubS.cons rfl (SubS.cons rfl SubS.nil)))))
      ·try dsimp only
       omega
      · (try dsimp only); omega
    ·skip
     first | have hg6p := G.gA5 hg6 | have hg6p := G.gA6 hg6 | have hg6p := hg6
     have hno : ¬ (0 ≤ atF us ps[k]!.a ∧ 0 ≤ atF us ps[k]!.b) := fun q => by have q1 := hpa.1.trans (decide_eq_true q.1); (simp_all <;> omega)
     refine SL.sk rfl rfl rfl hg6 ?_
     refine SL.val (O.pick_f rfl (G.ne_t hg6) rfl rfl Taken.no) ?_
     refine E.fo ?_
     refine W.cond_f rfl ?_
     refine W.skip (E.inn (E.to (W.region ?_)))
     refine SL.val (O.det (fun _ => by first | exact G.R.add64 rfl rfl (by omega) | exact G.R.add rfl rfl) rfl Taken.no) ?_
     refine SL.mv rfl rfl (SL.nil ?_)
     refine E.again ((k + 1)) (rn []) ?_ ?_ rfl (fixL_spec rfl) ?_ ?_
     · exact (SubF.cons rfl (SubF.cons rfl (SubF.cons rfl (SubF.cons rfl (SubF.cons rfl (SubF.cons rfl (SubF.cons rfl SubF.nil)))))))
     · exact (SubS.val rfl (by (try dsimp only); first | exact sb_data (by rw [subP_y (by omega) h1 h2]) | exact sb_data (by rw [subP_n (by omega) hno])) (SubS.cons rfl (SubS.cons rfl (SubS.cons rfl (SubS.cons rfl SubS.nil)))))
     ·try dsimp only
      omega
     · (try dsimp only); omega
   ·skip
    refine W.exit (E.th (E.th (E.hit (E.to (W.seq (W.seq ?_))))))
    have hkp : k = ps.length := by omega
    rw [hkp, List.take_length]
    refine W.region ?_
    refine SL.val (O.fld_ref (o' := 2) rfl Try.underlying32 rfl (m := 0) (by kernel_rfl) rfl rfl Taken.no) ?_
    refine SL.val (O.ld1 (PtI.ref rfl rfl) rfl Try.underlying23 rfl rfl Taken.no) ?_
    refine SL.val (O.lenE (SlOf.fz rfl (by decide)) (by first | exact List.length_map _ | rfl) Try.underlying23 rfl Taken.no) ?_
    refine SL.mv rfl rfl (E.fo (W.block ?_))
    refine W.adoptC 105 2 113 38 3 (is' := [_, _, _]) (by decide) rfl rfl rfl rfl rfl ?_
    refine W.loopx1 (fun (k : Nat) => [(99, vI (k : Int))]) (fun (k : Nat) => [(111, .data 36 3 ((subP us ps).map ePr)), (112, .data 38 3 ((subR us (rs.take k)).map eRu)), (105, .cells 32 [vI (us.length : Int), .own 111, .own 112])]) (fun (k : Nat) => k ≤ rs.length) (fun (k : Nat) => rs.length - k) (0) (rn [(111, 106), (112, 113)]) (.cons (t := 4) rfl (.cons (t := 7) rfl (.cons (t := 10) rfl (.cons (t := 97) rfl (.cons (t := 98) rfl .nil))))) (.cons (t := 101) rfl (.cons (t := 102) rfl (.cons (t := 104) rfl .nil))) rfl ?_ ?_ rfl rfl ?_ ?_
    · exact (SubF.cons rfl SubF.nil)
    · exact (SubS.cons rfl (SubS.cons rfl (SubS.cons rfl SubS.nil)))
    ·skip
     omega
    intro k hinv
    have hk := hinv
    have hfl := subR_len us rs k
    refine W.rg ?_
    refine SL.val (O.det (fun _ => G.R.lss rfl rfl) rfl Taken.no) ?_
    refine E.fo (W.seq ?_)
    first | refine W.cond_d rfl (fun hc8 => ?_) (fun hc8 => ?_) | refine W.cond_nd rfl (fun hc8 => ?_) (fun hc8 => ?_) | refine W.cond rfl (fun hc8 => ?_) (fun hc8 => ?_)
    ·skip
     have hpa := pl_at hasc rs[k]!.a
     have hpb := pl_at hasc rs[k]!.b
     refine W.skip (E.to (W.seq (W.block (W.rg ?_))))
     refine SL.val (O.idx_fz (i := k) rfl rfl (rfl) (row_get (by omega)) Try.underlying23 hi38 hs38 rfl Taken.no) ?_
     refine SL.val (O.ldU (m := 3) (PtU.fz rfl) rfl Try.underlying38 rfl (by kernel_rfl) rfl Taken.no) ?_
     refine SL.memS (O.alloc (z := .agg #[.int .i64 0, .int .i64 0, .int .i64 0]) (is := [.u (.sc (.int .i64 0)), .u (.sc (.int .i64 0)), .u (.sc (.int .i64 0))]) 114 (by kernel_rfl) rfl rfl rfl Taken.no) rfl rfl (S' := (114, _) :: _) rfl ?_
     refine SL.effS (O.st_ref (m := 3) rfl rfl rfl (js := [_, _, _]) rfl rfl (by kernel_rfl) (by simp) (Nat.le_of_ble_eq_true rfl) rfl (is' := [_, _, _]) rfl Taken.no) (S' := (114, _) :: _) rfl ?_
     refine E.fo (W.rg (SL.mv rfl rfl ?_))
     refine SL.val (O.fld_ref (o' := 1) rfl Try.underlying38 rfl (m := 0) (by kernel_rfl) rfl rfl Taken.no) ?_
     refine SL.val (O.ld1 (PtI.ref rfl rfl) rfl Try.underlying3 rfl rfl Taken.no) ?_
     refine SL.val (O.lookup2 (kf := (fun a : Int => Value.int .i64 a)) (vf := (fun a : Int => Value.int .i64 a)) (l := (pl us us.length)) (b := rs[k]!.a) (z := 0) rfl rfl rfl Try.underlying94 (KeyOk.int Try.underlying3) (by kernel_rfl) rfl Taken.no) ?_
     refine SL.mv rfl rfl ?_
     refine SL.val (O.extract rfl rfl rfl Taken.no) ?_
     refine SL.val (O.extract rfl rfl rfl Taken.no) ?_
     refine SL.an rfl rfl (SL.an rfl rfl (E.fo (W.rg (SL.mv rfl rfl ?_))))
     refine SL.val (O.fld_ref (o' := 2) rfl Try.underlying38 rfl (m := 0) (by kernel_rfl) rfl rfl Taken.no) ?_
     refine SL.val (O.ld1 (PtI.ref rfl rfl) rfl Try.underlying3 rfl rfl Taken.no) ?_
     refine SL.val (O.lookup2 (kf := (fun a : Int => Value.int .i64 a)) (vf := (fun a : Int => Value.int .i64 a)) (l := (pl us us.length)) (b := rs[k]!.b) (z := 0) rfl rfl rfl Try.underlying94 (KeyOk.int Try.underlying3) (by kernel_rfl) rfl Taken.no) ?_
     refine SL.mv rfl rfl ?_
     refine SL.val (O.extract rfl rfl rfl Taken.no) ?_
     refine SL.val (O.extract rfl rfl rfl Taken.no) ?_
     refine SL.an rfl rfl (SL.an rfl rfl (E.fo ?_))
     refine W.pick (K:=[(4,_),(7,_),(10,_),(18,_),(19,_),(20,_),(21,_),(22,_),(97,_),(98,_),(99,_)]) (Z:=[(101,_),(102,_),(104,_),(105,_),(111,_),(112,_),(114,_)]) ⟨rfl,rfl,rfl,rfl,rfl,rfl,rfl,rfl,rfl,rfl,rfl,trivial⟩ ⟨rfl,rfl,rfl,rfl,rfl,rfl,rfl,trivial⟩ ?_
     refine W.rg (SL.mv rfl rfl (SL.mv rfl rfl ?_))
     refine SL.case (j := 1) (g := 118) (want := true) rfl rfl (fun hg9 => ?_) (fun hg9 => ?_)
     ·skip
      first | have hg9p := G.gA1 hg9 | have hg9p := G.gA2 hg9 | have hg9p := hg9
      refine SL.val (O.move rfl rfl (Taken.yes rfl rfl hg9)) ?_
      refine SL.val (O.pick_t rfl hg9 rfl rfl Taken.no) ?_
      refine E.fo ?_
      first | refine W.cond_d rfl (fun hc10 => ?_) (fun hc10 => ?_) | refine W.cond_nd rfl (fun hc10 => ?_) (fun hc10 => ?_) | refine W.cond rfl (fun hc10 => ?_) (fun hc10 => ?_)
      ·skip
       have h1 : 0 ≤ atF us rs[k]!.a := of_decide_eq_true (hpa.1.symm.trans (by assumption))
       have h2 : 0 ≤ atF us rs[k]!.b := of_decide_eq_true (hpb.1.symm.trans (by assumption))
       refine W.region ?_
       refine SL.val (O.fld_ref (o' := 2) rfl Try.underlying32 rfl (m := 0) (by kernel_rfl) rfl rfl Taken.no) ?_
       refine SL.val (O.ld1 (PtI.ref rfl rfl) rfl Try.underlying23 rfl rfl Taken.no) ?_
       refine SL.val (O.fld_ref (o' := 0) rfl Try.underlying38 rfl (m := 0) (by kernel_rfl) rfl rfl Taken.no) ?_
       refine SL.val (O.ld1 (PtI.ref rfl rfl) rfl Try.underlying3 rfl rfl Taken.no) ?_
       refine SL.mv rfl rfl (SL.mv rfl rfl ?_)
       refine SL.val (O.build (res := [_, _, _]) (z := .agg #[.int .i64 0, .int .i64 0, .int .i64 0]) (places := [(0, 1), (1, 1), (2, 1)]) rfl rfl Try.underlying38 (by kernel_rfl) (fun _ => by kernel_rfl) rfl rfl Taken.no) ?_
       refine SL.memS (O.buildSlice 115 (rows := [Ru.mk rs[k]!.k (atF us rs[k]!.a) (atF us rs[k]!.b)].map eRu) rfl rfl Try.underlying23 hi38 hz38 hs38 (by decide) rfl (by decide) rfl (by show _ = [[uI rs[k]!.k, uI (atF us rs[k]!.a), uI (atF us rs[k]!.b)]]; rw [← hpa.2 h1, ← hpb.2 h2]; rfl) rfl Taken.no) rfl rfl (S' := (115, .data 38 3 ([Ru.mk rs[k]!.k (atF us rs[k]!.a) (atF us rs[k]!.b)].map eRu)) :: _) rfl ?_
       refine SL.memS (O.app (k' := 116) rfl rfl (SlOf.own rfl rfl) Try.underlying23 hi38 hz38 hs38 rfl rfl (by exact app_map) (by rw [hb38]; (simp only [List.length_map, List.length_singleton]; omega)) (by (simp only [List.length_map, List.length_singleton]; omega)) rfl Taken.no) rfl rfl (S' := (116, _) :: (112, .dead) :: _) rfl ?_
       refine SL.val (O.fld_ref (o' := 2) rfl Try.underlying32 rfl (m := 0) (by kernel_rfl) rfl rfl Taken.no) ?_
       refine SL.effS (O.st_ref (m := 1) rfl rfl rfl (js := [_]) rfl rfl (by kernel_rfl) (by simp) (Nat.le_of_ble_eq_true rfl) rfl (is' := [_, _, _]) rfl Taken.no) (S' := (105, _) :: _) rfl ?_
       refine SL.nil (E.inn (E.to ?_))
       refine W.pick (K:=[(4,_),(7,_),(10,_),(97,_),(98,_),(99,_)]) (Z:=[(101,_),(102,_),(104,_),(105,_),(111,_),(114,_),(115,_),(116,_)]) ⟨rfl,rfl,rfl,rfl,rfl,rfl,trivial⟩ ⟨rfl,rfl,rfl,rfl,rfl,rfl,rfl,rfl,trivial⟩ ?_
       refine W.region ?_
       refine SL.val (O.det (fun _ => by first | exact G.R.add64 rfl rfl (by omega) | exact G.R.add rfl rfl) rfl Taken.no) ?_
       refine SL.mv rfl rfl (SL.nil ?_)
       refine E.again ((k + 1)) (rn [(112, 116)]) ?_ ?_ rfl (fixL_spec rfl) ?_ ?_
       · exact (SubF.cons rfl (SubF.cons rfl (SubF.cons rfl (SubF.cons rfl (SubF.cons rfl (SubF.cons rfl SubF.nil))))))
       · exact (SubS.cons rfl (SubS.val rfl (by (try dsimp only); first | exact sb_data (by rw [subR_y (by omega) h1 h2]) | exact sb_data (by rw [subR_n (by omega) hno])) (SubS.cons rfl (SubS.cons rfl (SubS.cons rfl (SubS.cons rfl SubS.nil))))))
       ·try dsimp only
        omega
       · (try dsimp only); omega
      ·skip
       have hno : ¬ (0 ≤ atF us rs[k]!.a ∧ 0 ≤ atF us rs[k]!.b) := fun q => by have q1 := hpa.1.trans (decide_eq_true q.1); have q2 := hpb.1.trans (decide_eq_true q.2); (simp_all <;> omega)
       refine W.skip (E.inn (E.to (W.region ?_)))
       refine SL.val (O.det (fun _ => by first | exact G.R.add64 rfl rfl (by omega) | exact G.R.add rfl rfl) rfl Taken.no) ?_
       refine SL.mv rfl rfl (SL.nil ?_)
       refine E.again ((k + 1)) (rn []) ?_ ?_ rfl (fixL_spec rfl) ?_ ?_
       · exact (SubF.cons rfl (SubF.cons rfl (SubF.cons rfl (SubF.cons rfl (SubF.cons rfl (SubF.cons rfl SubF.nil))))))
       · exact (SubS.cons rfl (SubS.val rfl (by (try dsimp only); first | exact sb_data (by rw [subR_y (by omega) h1 h2]) | exact sb_data (by rw [subR_n (by omega) hno])) (SubS.cons rfl (SubS.cons rfl (SubS.cons rfl (SubS.cons rfl SubS.nil))))))
       ·try dsimp only
        omega
       · (try dsimp only); omega
     ·skip
      first | have hg9p := G.gA5 hg9 | have hg9p := G.gA6 hg9 | have hg9p := hg9
      have hno : ¬ (0 ≤ atF us rs[k]!.a ∧ 0 ≤ atF us rs[k]!.b) := fun q => by have q1 := hpa.1.trans (decide_eq_true q.1); (simp_all <;> omega)
      refine SL.sk rfl rfl rfl hg9 ?_
      refine SL.val (O.pick_f rfl (G.ne_t hg9) rfl rfl Taken.no) ?_
      refine E.fo ?_
      refine W.cond_f rfl ?_
      refine W.skip (E.inn (E.to (W.region ?_)))
      refine SL.val (O.det (fun _ => by first | exact G.R.add64 rfl rfl (by omega) | exact G.R.add rfl rfl) rfl Taken.no) ?_
      refine SL.mv rfl rfl (SL.nil ?_)
      refine E.again ((k + 1)) (rn []) ?_ ?_ rfl (fixL_spec rfl) ?_ ?_
      · exact (SubF.cons rfl (SubF.cons rfl (SubF.cons rfl (SubF.cons rfl (SubF.cons rfl (SubF.cons rfl SubF.nil))))))
      · exact (SubS.cons rfl (SubS.val rfl (by (try dsimp only); first | exact sb_data (by rw [subR_y (by omega) h1 h2]) | exact sb_data (by rw [subR_n (by omega) hno])) (SubS.cons rfl (SubS.cons rfl (SubS.cons rfl (SubS.cons rfl SubS.nil))))))
      ·try dsimp only
       omega
      · (try dsimp only); omega
    ·skip
     refine W.exit (E.th (E.th (E.hit (E.to (W.rg ?_)))))
     refine SL.val (O.ldN (m := 3) (PtI.ref rfl rfl) (js := [_, _, _]) rfl (Nat.le_of_ble_eq_true rfl) Try.underlying32 rfl (by kernel_rfl) rfl Taken.no) ?_
     refine SL.effS (O.st_ref (m := 3) rfl rfl rfl (js := [_, _, _]) rfl rfl (by kernel_rfl) (by simp) (Nat.le_of_ble_eq_true rfl) rfl (is' := [_, _, _]) rfl Taken.no) (S' := (102, _) :: _) rfl ?_
     refine SL.an rfl rfl (E.fo (W.ret ?_))
     refine E.freezeC 102 1 111 (is' := [_, _, _]) rfl rfl rfl rfl ?_
     refine E.freezeC 102 2 112 (is' := [_, _, _]) rfl rfl rfl rfl ?_
     refine E.fin (rs := [_, _]) (rn []) (.inl rfl) rfl (.cons (ResOne.cellN (m := 3) (PtI.ref rfl rfl) (js := [_, _, _]) rfl (Nat.le_of_ble_eq_true rfl) Try.underlying32 rfl (by kernel_rfl)) (.cons (ResOne.tmp rfl) .nil)) ?_ ?_ rfl (fixL_spec rfl)
     ·skip
      (rw [show k = rs.length by omega, List.take_length, (sb_y hoku ps rs).1, (sb_y hoku ps rs).2.1, (sb_y hoku ps rs).2.2.1, (sb_y hoku ps rs).2.2.2]; rfl)
     · exact SubS.nil

set_option maxRecDepth 8000 in
/-- bookplate/cluster.Sub. -/
theorem sub_bad {N : Int} {ps : List Pr} {rs : List Ru} {us : List Int} (hok : ¬ (Prob.mk N ps rs).ok) :
    Con Try.prog 31 [vA [uI N, .sl 3 (ps.map ePr), .sl 3 (rs.map eRu)], vL 1 (us.map eI)] [] (.tup [.agg [vI 0, vL 3 ([] : List (List UV)), vL 3 ([] : List (List UV))], vI (Prob.mk N ps rs).err]) [] := by
 have he : (Prob.mk N ps rs).err ≠ 0 := fun q => hok (Prob.err_iff.1 q)
 refine Con.enterL (n := 133) Try.func31 rfl rfl rfl (fun τ w ok vs hin => ?_)
 have hl0_1 := hin.lenA (i := 0) (j := 1) rfl rfl
 try rw [List.length_map] at hl0_1
 have hl0_2 := hin.lenA (i := 0) (j := 2) rfl rfl
 try rw [List.length_map] at hl0_2
 have hl1 := hin.len (i := 1) rfl
 try rw [List.length_map] at hl1
 clear hin
 refine W.rg ?_
 refine SL.memS (O.box (is := [_, _, _]) 101 rfl rfl (by simp) rfl rfl Taken.no) rfl rfl (S' := (101, _) :: _) rfl ?_
 refine SL.memS (O.alloc (z := .agg #[.int .i64 0, .slice none 0 0, .slice none 0 0]) (is := [.u (.sc (.int .i64 0)), .u (.sc (.slice none 0 0)), .u (.sc (.slice none 0 0))]) 102 (by kernel_rfl) rfl rfl rfl Taken.no) rfl rfl (S' := (102, _) :: _) rfl ?_
 refine SL.an rfl rfl (E.fo (W.seq (W.rg ?_)))
 refine SL.val (O.ldN (m := 3) (PtI.ref rfl rfl) (js := [_, _, _]) rfl (Nat.le_of_ble_eq_true rfl) Try.underlying32 rfl (by kernel_rfl) rfl Taken.no) ?_
 refine SL.val (O.callp rfl rfl rfl (valid_h (N := N) (ps := ps) (rs := rs)) (.cons (ArgOk.aggU (.cons (ArgOk.same rfl) (.cons (ArgOk.same rfl) (.cons (ArgOk.same rfl) .nil)))) .nil) hcallOk23 rfl Taken.no) ?_
 refine SL.an rfl rfl (E.fo (W.rg (SL.mv rfl rfl ?_)))
 refine SL.val (O.det (fun _ => G.R.mv (G.R.neq rfl rfl) (congrArg Value.bool (decide_eq_true (by exact he)))) rfl Taken.no) ?_
 refine E.fo ?_
 refine W.cond_t rfl ?_
 refine W.rg ?_
 refine SL.val (O.build (res := [_, _, _]) (z := .agg #[.int .i64 0, .slice none 0 0, .slice none 0 0]) (places := [(0, 1), (1, 1), (2, 1)]) rfl rfl Try.underlying32 (by kernel_rfl) (fun _ => by kernel_rfl) rfl rfl Taken.no) ?_
 refine SL.mv rfl rfl ?_
 refine SL.effS (O.st_ref (m := 3) rfl rfl rfl (js := [_, _, _]) rfl rfl (by kernel_rfl) (by simp) (Nat.le_of_ble_eq_true rfl) rfl (is' := [_, _, _]) rfl Taken.no) (S' := (102, _) :: _) rfl ?_
 refine SL.an rfl rfl (E.fo (W.ret (E.thr ?_)))
 refine E.nilslC 102 1 3 (is' := [_, _, _]) rfl rfl rfl ?_
 refine E.nilslC 102 2 3 (is' := [_, _, _]) rfl rfl rfl ?_
 refine E.fin (rs := [_, _]) (rn []) (.inl rfl) rfl (.cons (ResOne.cellN (m := 3) (PtI.ref rfl rfl) (js := [_, _, _]) rfl (Nat.le_of_ble_eq_true rfl) Try.underlying32 rfl (by kernel_rfl)) (.cons (ResOne.tmp rfl) .nil)) ?_ ?_ rfl (fixL_spec rfl)
 ·skip
  rfl
 · exact SubS.nil

end Go.Proofs.Ytppamigboeaefaa
end
section
namespace Go.Proofs.Ytppamigboeaefaa
open Go Go.RowKit Go.H Go.D33

theorem hcallOk65 : G.callOk Try.prog 65 = true := by kernel_rfl

set_option maxRecDepth 8000 in
/-- bookplate/bookplateref33.at. -/
theorem at_h {us : List Int} {x : Int} :
    Con Try.prog 55 [vL 1 (us.map eI), vI x] [] (vI (atF us x)) [] := by
 obtain ⟨i3, hi3, hz3, hs3, hb3⟩ := hinf3
 refine Con.enterL (n := 19) Try.func55 rfl rfl rfl (fun τ w ok vs hin => ?_)
 have hl0 := hin.len (i := 0) rfl
 try rw [List.length_map] at hl0
 clear hin
 refine W.rg (SL.an rfl rfl (E.fo (W.seq (W.rg (SL.an rfl rfl (E.fo (W.block ?_)))))))
 refine W.loopx1 (fun (k : Nat) => [(5, vI (k : Int))]) (fun (k : Nat) => []) (fun (k : Nat) => k ≤ us.length ∧ ∀ j, j < k → (decide (us[j]! = x)) = false) (fun (k : Nat) => us.length - k) (0) (rn []) (.cons (t := 0) rfl (.cons (t := 1) rfl .nil)) .nil rfl ?_ ?_ rfl rfl ?_ ?_
 · exact (SubF.cons rfl SubF.nil)
 · exact SubS.nil
 ·skip
  exact ⟨by omega, fun j h => by omega⟩
 intro k hinv
 obtain ⟨hk, hp⟩ := hinv
 refine W.seq (W.rg (SL.mv rfl rfl (SL.mv rfl rfl ?_)))
 refine SL.val (O.lenE (SlOf.fz rfl (by decide)) (by first | exact List.length_map _ | rfl) Try.underlying39 rfl Taken.no) ?_
 refine SL.val (O.det (fun _ => G.R.lss rfl rfl) rfl Taken.no) ?_
 refine E.fo ?_
 first | refine W.cond_d rfl (fun hc1 => ?_) (fun hc1 => ?_) | refine W.cond_nd rfl (fun hc1 => ?_) (fun hc1 => ?_) | refine W.cond rfl (fun hc1 => ?_) (fun hc1 => ?_)
 ·skip
  refine W.skip (E.to (W.seq (W.block (W.rg (SL.mv rfl rfl (SL.mv rfl rfl ?_))))))
  refine SL.val (O.idx_fz rfl rfl (rfl) (row_get (by omega)) Try.underlying39 hi3 hs3 rfl Taken.no) ?_
  refine SL.val (O.ld1 (PtI.ofU (PtU.fz rfl)) rfl Try.underlying3 rfl rfl Taken.no) ?_
  refine SL.mv rfl rfl ?_
  refine SL.val (O.det (fun _ => G.R.eql rfl rfl) rfl Taken.no) ?_
  refine E.fo ?_
  first | refine W.cond_d rfl (fun hc2 => ?_) (fun hc2 => ?_) | refine W.cond_nd rfl (fun hc2 => ?_) (fun hc2 => ?_) | refine W.cond rfl (fun hc2 => ?_) (fun hc2 => ?_)
  ·skip
   refine W.rg (SL.mv rfl rfl (SL.an rfl rfl (E.fo (W.ret ?_))))
   refine E.inr ?_
   refine E.thr (E.thr ?_)
   refine E.inr ?_
   refine E.thr ?_
   refine E.fin (rs := [_]) (rn []) (.inl rfl) rfl (.cons (ResOne.tmp rfl) .nil) ?_ ?_ rfl (fixL_spec rfl)
   ·skip
    exact iv_int (idxF_here (p := fun y => decide (y = x)) (by omega) hp (decide_eq_true (by assumption)))
   · exact SubS.nil
  ·skip
   refine W.skip (E.inn (E.to (W.region (SL.mv rfl rfl ?_))))
   refine SL.val (O.det (fun _ => by first | exact G.R.add64 rfl rfl (by omega) | exact G.R.add rfl rfl) rfl Taken.no) ?_
   refine SL.an rfl rfl (SL.nil ?_)
   refine E.again ((k + 1)) (rn []) ?_ ?_ rfl (fixL_spec rfl) ?_ ?_
   · exact (SubF.cons rfl (SubF.cons rfl (SubF.cons rfl SubF.nil)))
   · exact SubS.nil
   ·try dsimp only
    exact ⟨by omega, fun j hj => by rcases Nat.lt_succ_iff_lt_or_eq.1 hj with h | h; exact hp j h; subst h; exact decide_eq_false (by assumption)⟩
   · (try dsimp only); omega
 ·skip
  refine W.exit (E.th (E.th (E.hit (E.to (W.rg (SL.an rfl rfl (E.fo (W.ret ?_))))))))
  refine E.fin (rs := [_]) (rn []) (.inl rfl) rfl (.cons (ResOne.tmp rfl) .nil) ?_ ?_ rfl (fixL_spec rfl)
  ·skip
   exact iv_int (idxF_none (p := fun y => decide (y = x)) (by omega) hp)
  · exact SubS.nil

set_option maxRecDepth 8000 in
/-- bookplate/bookplateref33.named. -/
theorem refnamed_h {l : List Nat} (hl : l.length ≤ 1000) :
    Con Try.prog 65 [vL 1 (l.map eN)] [] (.own 0) [(0, .data 3 1 ((nmL l).map eN))] := by
 obtain ⟨i3, hi3, hz3, hs3, hb3⟩ := hinf3
 refine Con.enterL (n := 42) Try.func65 rfl rfl rfl (fun τ w ok vs hin => ?_)
 have hl0 := hin.len (i := 0) rfl
 try rw [List.length_map] at hl0
 clear hin
 refine W.rg (SL.an rfl rfl (E.fo (W.rg (SL.mv rfl rfl ?_))))
 refine SL.val (O.lenE (SlOf.fz rfl (by decide)) (by first | exact List.length_map _ | rfl) Try.underlying39 rfl Taken.no) ?_
 refine SL.memS (O.make (m := l.length) (kk := 101) rfl rfl (by rfl) (by rfl) Try.underlying39 hi3 hz3 hs3 rfl rfl (by decide) rfl (by rw [hb3]; omega) (by omega) rfl Taken.no) rfl rfl (S' := (101, _) :: _) rfl ?_
 refine SL.an rfl rfl (E.fo (W.seq (W.rg (SL.an rfl rfl (E.fo (W.block ?_))))))
 refine W.loopx1 (fun (i : Nat) => [(4, vI (i : Int)), (3, .own 102)]) (fun (i : Nat) => [(102, .data 3 1 ((nmX l i).map eN))]) (fun (i : Nat) => i ≤ l.length) (fun (i : Nat) => l.length - i) (0) (rn [(102, 101)]) (.cons (t := 0) rfl (.cons (t := 2) rfl .nil)) .nil rfl ?_ ?_ rfl rfl ?_ ?_
 · exact (SubF.cons rfl (SubF.cons rfl SubF.nil))
 · exact (SubS.val rfl (by exact sb_data (by show _ = List.map eN (List.replicate l.length 0); rw [List.map_replicate]; rfl)) SubS.nil)
 ·skip
  omega
 intro i hinv
 have hi := hinv
 have hxl := nmX_len hi
 refine W.seq (W.rg (SL.mv rfl rfl (SL.mv rfl rfl ?_)))
 refine SL.val (O.lenE (SlOf.fz rfl (by decide)) (by first | exact List.length_map _ | rfl) Try.underlying39 rfl Taken.no) ?_
 refine SL.val (O.det (fun _ => G.R.lss rfl rfl) rfl Taken.no) ?_
 refine E.fo ?_
 first | refine W.cond_d rfl (fun hc1 => ?_) (fun hc1 => ?_) | refine W.cond_nd rfl (fun hc1 => ?_) (fun hc1 => ?_) | refine W.cond rfl (fun hc1 => ?_) (fun hc1 => ?_)
 ·skip
  refine W.skip (E.to (W.seq (W.block (W.rg (SL.mv rfl rfl (SL.mv rfl rfl (SL.mv rfl rfl ?_)))))))
  refine SL.val (O.idx_own (i := i) rfl rfl rfl (rfl) (by rw [List.length_map]; omega) Try.underlying39 hi3 hs3 rfl Taken.no) ?_
  refine SL.effS (O.st_els (m := 1) rfl rfl rfl (us := [_]) rfl rfl (by kernel_rfl) (by simp) (row_get (by omega)) (by exact Nat.le_of_ble_eq_true rfl) rfl rfl (rows' := ((nmX l i).set i i).map eN) (by exact set_map rfl) Taken.no) (S' := (102, _) :: _) rfl ?_
  refine E.fo (W.rg (SL.mv rfl rfl ?_))
  refine SL.val (O.det (fun _ => by first | exact G.R.sub64 rfl rfl (by omega) | exact G.R.sub rfl rfl) rfl Taken.no) ?_
  refine SL.an rfl rfl (E.fo (W.block ?_))
  refine W.loopx1 (fun (j : Nat) => [(5, vI ((j : Int) - 1)), (3, .own 103)]) (fun (j : Nat) => [(103, .data 3 1 (((nmX l i).set i (nmK l i j)).map eN))]) (fun (j : Nat) => j ≤ i) (fun (j : Nat) => j) (i) (rn [(103, 102)]) (.cons (t := 0) rfl (.cons (t := 2) rfl (.cons (t := 4) rfl .nil))) .nil rfl ?_ ?_ rfl rfl ?_ ?_
  · exact (SubF.cons rfl (SubF.cons rfl SubF.nil))
  · exact (SubS.val rfl (by exact sb_data (by rw [nmK_i])) SubS.nil)
  ·skip
   omega
  intro j hinv
  have hj := hinv
  have hxs : ((nmX l i).set i (nmK l i j)).length = l.length := by rw [List.length_set]; exact hxl
  refine W.seq (W.rg (SL.mv rfl rfl ?_))
  refine SL.val (O.det (fun _ => G.R.geq rfl rfl) rfl Taken.no) ?_
  refine E.fo ?_
  first | refine W.cond_d rfl (fun hc2 => ?_) (fun hc2 => ?_) | refine W.cond_nd rfl (fun hc2 => ?_) (fun hc2 => ?_) | refine W.cond rfl (fun hc2 => ?_) (fun hc2 => ?_)
  ·skip
   refine W.skip (E.to (W.seq (W.block (W.seq ?_))))
   refine W.draw [⟨[], [], [], []⟩, ⟨[], [], [], []⟩, ⟨[], [], [], []⟩, ⟨[], [], [], []⟩, ⟨[], [], [], []⟩, ⟨[], [], [], []⟩, ⟨[], [], [], []⟩, ⟨[], [], [], []⟩, ⟨[], [], [], []⟩] rfl (by kernel_rfl) (by kernel_rfl) rfl rfl ?_
   refine WH.mv rfl rfl rfl (WH.mv rfl rfl rfl ?_)
   refine WH.val (O.idx_fz (i := (j - 1)) rfl rfl (by omega) (row_get (by omega)) Try.underlying39 hi3 hs3 rfl Taken.no) rfl rfl ?_
   refine WH.val (O.ld1 (PtI.ofU (PtU.fz rfl)) rfl Try.underlying3 rfl rfl Taken.no) rfl rfl ?_
   refine WH.mv rfl rfl rfl (WH.mv rfl rfl rfl ?_)
   refine WH.val (O.idx_fz (i := i) rfl rfl (rfl) (row_get (by omega)) Try.underlying39 hi3 hs3 rfl Taken.no) rfl rfl ?_
   refine WH.val (O.ld1 (PtI.ofU (PtU.fz rfl)) rfl Try.underlying3 rfl rfl Taken.no) rfl rfl ?_
   refine WH.val (O.det (fun _ => G.R.eql rfl rfl) rfl Taken.no) rfl rfl ?_
   refine WH.nil (E.to ?_)
   first | refine W.cond_d rfl (fun hc3 => ?_) (fun hc3 => ?_) | refine W.cond_nd rfl (fun hc3 => ?_) (fun hc3 => ?_) | refine W.cond rfl (fun hc3 => ?_) (fun hc3 => ?_)
   ·skip
    have hE : l[j - 1]! = l[i]! := by omega
    refine W.region (SL.mv rfl rfl (SL.mv rfl rfl (SL.mv rfl rfl (SL.mv rfl rfl ?_))))
    refine SL.val (O.idx_own (i := (j - 1)) rfl rfl rfl (by omega) (by rw [List.length_map]; omega) Try.underlying39 hi3 hs3 rfl Taken.no) ?_
    refine SL.val (O.ld1 (PtI.ofU (PtU.el rfl rfl (row_get (by omega)))) rfl Try.underlying3 rfl rfl Taken.no) ?_
    refine SL.val (O.idx_own (i := i) rfl rfl rfl (rfl) (by rw [List.length_map]; omega) Try.underlying39 hi3 hs3 rfl Taken.no) ?_
    refine SL.effS (O.st_els (m := 1) rfl rfl rfl (us := [_]) rfl rfl (by kernel_rfl) (by simp) (row_get (by omega)) (by exact Nat.le_of_ble_eq_true rfl) rfl rfl (rows' := (((nmX l i).set i (nmK l i j)).set i (((nmX l i).set i (nmK l i j))[j - 1]!)).map eN) (by exact set_map rfl) Taken.no) (S' := (103, _) :: _) rfl ?_
    refine SL.nil (E.inn (E.to (W.region (SL.mv rfl rfl ?_))))
    refine SL.val (O.det (fun _ => by first | exact G.R.sub64 rfl rfl (by omega) | exact G.R.sub rfl rfl) rfl Taken.no) ?_
    refine SL.an rfl rfl (SL.nil ?_)
    refine E.again ((j - 1)) (rn []) ?_ ?_ rfl (fixL_spec rfl) ?_ ?_
    · exact (SubF.val rfl (by (try dsimp only); exact iv_int (by omega)) (SubF.cons rfl (SubF.cons rfl (SubF.cons rfl (SubF.cons rfl SubF.nil)))))
    · exact (SubS.val rfl (by (try dsimp only); first | exact sb_data (by rw [List.set_set, nmX_get (by omega) (by omega), nmL_get (by omega), hE, nmK_y (by omega) hE]) | exact sb_data (by rw [nmK_n hE, Nat.sub_add_cancel (by omega)])) SubS.nil)
    ·try dsimp only
     omega
    · (try dsimp only); omega
   ·skip
    have hE : ¬ l[j - 1]! = l[i]! := by omega
    refine W.skip (E.inn (E.to (W.region (SL.mv rfl rfl ?_))))
    refine SL.val (O.det (fun _ => by first | exact G.R.sub64 rfl rfl (by omega) | exact G.R.sub rfl rfl) rfl Taken.no) ?_
    refine SL.an rfl rfl (SL.nil ?_)
    refine E.again ((j - 1)) (rn []) ?_ ?_ rfl (fixL_spec rfl) ?_ ?_
    · exact (SubF.val rfl (by (try dsimp only); exact iv_int (by omega)) (SubF.cons rfl (SubF.cons rfl (SubF.cons rfl (SubF.cons rfl SubF.nil)))))
    · exact (SubS.val rfl (by (try dsimp only); first | exact sb_data (by rw [List.set_set, nmX_get (by omega) (by omega), nmL_get (by omega), hE, nmK_y (by omega) hE]) | exact sb_data (by rw [nmK_n hE, Nat.sub_add_cancel (by omega)])) SubS.nil)
    ·try dsimp only
     omega
    · (try dsimp only); omega
  ·skip
   refine W.exit (E.th (E.th (E.hit (E.inn (E.to (W.region (SL.mv rfl rfl ?_)))))))
   refine SL.val (O.det (fun _ => by first | exact G.R.add64 rfl rfl (by omega) | exact G.R.add rfl rfl) rfl Taken.no) ?_
   refine SL.an rfl rfl (SL.nil ?_)
   refine E.again ((i + 1)) (rn [(102, 103)]) ?_ ?_ rfl (fixL_spec rfl) ?_ ?_
   · exact (SubF.cons rfl (SubF.cons rfl (SubF.cons rfl (SubF.cons rfl SubF.nil))))
   · exact (SubS.val rfl (by (try dsimp only); exact sb_data (by rw [nmX_s (by omega), show j = 0 by omega, nmK_0 (by omega)])) SubS.nil)
   ·try dsimp only
    omega
   · (try dsimp only); omega
 ·skip
  refine W.exit (E.th (E.th (E.hit (E.to (W.rg (SL.mv rfl rfl (SL.an rfl rfl (E.fo (W.ret ?_)))))))))
  refine E.fin (rs := [_]) (rn [(0, 102)]) (.inl rfl) rfl (.cons (ResOne.tmp rfl) .nil) ?_ ?_ rfl (fixL_spec rfl)
  ·skip
   rfl
  · exact (SubS.val rfl (by exact sb_data (by rw [nmX, show i = l.length by omega, Nat.sub_self, ← nmL_len l, List.take_length]; simp)) SubS.nil)

theorem set2 {l : List Nat} {k n : Nat} {a : List UV} : ((l.map eN).set k a).set k [uI (n : Int)] = (l.set k n).map eN := by
  rw [List.set_set]
  exact (List.map_set (f := eN) (l := l) (i := k) (a := n)).symm

set_option maxRecDepth 8000 in
set_option maxHeartbeats 6400000 in
/-- bookplate/bookplateref33.apply. -/
theorem refapply_h {n : Nat} {ps : List Pr} {rs : List Ru} {m : List Nat} {u : Bool} {f t : Int} (hf : (Prob.mk (n : Int) ps rs).formed) (hml : m.length = n) (hpl : ps.length ≤ 1000000) :
    Con Try.prog 51 [vA [uI (n : Int), .sl 3 (ps.map ePr), .sl 3 (rs.map eRu)], vL 1 (m.map eN), vA [uB u, uI f, uI t]] [] (.tup [vL 1 ((apRL n ps rs m ⟨u, f, t⟩).map eN), vI (apRV n ps rs m ⟨u, f, t⟩), vB (decide (posR n (barL rs) (atomsL n rs) m ⟨u, f, t⟩))]) [] := by
 have hn2 : (n : Int) ≤ 200 := hf.2.1
 have hr4 : rs.length ≤ 400 := hf.2.2.1
 have hal : (atomsL n rs).length = n := by rw [atomsL, joins_len, List.length_range]
 obtain ⟨i3, hi3, hz3, hs3, hb3⟩ := hinf3
 refine Con.enterL (n := 179) Try.func51 rfl rfl rfl (fun τ w ok vs hin => ?_)
 have hl0_1 := hin.lenA (i := 0) (j := 1) rfl rfl
 try rw [List.length_map] at hl0_1
 have hl0_2 := hin.lenA (i := 0) (j := 2) rfl rfl
 try rw [List.length_map] at hl0_2
 have hl1 := hin.len (i := 1) rfl
 try rw [List.length_map] at hl1
 clear hin
 refine W.rg ?_
 refine SL.memS (O.box (is := [_, _, _]) 101 rfl rfl (by simp) rfl rfl Taken.no) rfl rfl (S' := (101, _) :: _) rfl ?_
 refine SL.memS (O.box (is := [_, _, _]) 102 rfl rfl (by simp) rfl rfl Taken.no) rfl rfl (S' := (102, _) :: _) rfl ?_
 refine SL.an rfl rfl (SL.an rfl rfl (SL.an rfl rfl (E.fo (W.seq (W.seq ?_)))))
 refine W.draw [⟨[], [], [], [102]⟩, ⟨[102], [], [], []⟩, ⟨[], [], [], []⟩, ⟨[], [], [], []⟩, ⟨[], [], [], [102]⟩, ⟨[102], [], [], []⟩, ⟨[], [], [], [101]⟩, ⟨[101], [], [], []⟩, ⟨[], [], [], []⟩, ⟨[], [], [], []⟩, ⟨[], [], [], []⟩, ⟨[], [], [], [102]⟩, ⟨[102], [], [], []⟩, ⟨[], [], [], []⟩, ⟨[], [], [], []⟩, ⟨[], [], [], []⟩, ⟨[], [], [], [102]⟩, ⟨[102], [], [], []⟩, ⟨[], [], [], [101]⟩, ⟨[101], [], [], []⟩, ⟨[], [], [], []⟩, ⟨[], [], [], []⟩, ⟨[], [], [], []⟩, ⟨[], [], [], [102]⟩, ⟨[102], [], [], []⟩, ⟨[], [], [], []⟩, ⟨[], [], [], []⟩, ⟨[], [], [], [102]⟩, ⟨[102], [], [], []⟩, ⟨[], [], [], []⟩, ⟨[], [], [], []⟩, ⟨[], [], [], []⟩, ⟨[], [], [], [102]⟩, ⟨[102], [], [], []⟩, ⟨[], [], [], []⟩, ⟨[], [], [], []⟩, ⟨[], [], [], []⟩, ⟨[], [], [], [102]⟩, ⟨[102], [], [], []⟩, ⟨[], [], [], []⟩, ⟨[], [], [], []⟩, ⟨[], [], [], [102]⟩, ⟨[102], [], [], []⟩, ⟨[], [], [], []⟩, ⟨[], [], [], []⟩, ⟨[], [], [], []⟩] rfl (by kernel_rfl) (by kernel_rfl) rfl rfl ?_
 refine WH.val (O.fld_ref (o' := 1) rfl Try.underlying57 rfl (m := 0) (by kernel_rfl) rfl rfl Taken.no) rfl rfl ?_
 refine WH.val (O.ld1 (PtI.ref rfl rfl) rfl Try.underlying3 rfl rfl Taken.no) rfl rfl ?_
 refine WH.val (O.det (fun _ => G.R.lss rfl rfl) rfl Taken.no) rfl rfl ?_
 refine WH.mv rfl rfl rfl ?_
 refine WH.case (j := 3) (g := 16) (want := false) rfl rfl (fun hg1 => ?_) (fun hg1 => ?_)
 ·skip
  first | have hg1p := G.gA3 hg1 | have hg1p := G.gA4 hg1 | have hg1p := hg1
  refine WH.val (O.fld_ref (o' := 1) rfl Try.underlying57 rfl (m := 0) (by kernel_rfl) rfl rfl (Taken.yes rfl rfl hg1)) rfl rfl ?_
  refine WH.val (O.ld1 (PtI.ref rfl rfl) rfl Try.underlying3 rfl rfl (Taken.yes rfl rfl hg1)) rfl rfl ?_
  refine WH.val (O.fld_ref (o' := 0) rfl Try.underlying25 rfl (m := 0) (by kernel_rfl) rfl rfl (Taken.yes rfl rfl hg1)) rfl rfl ?_
  refine WH.val (O.ld1 (PtI.ref rfl rfl) rfl Try.underlying3 rfl rfl (Taken.yes rfl rfl hg1)) rfl rfl ?_
  refine WH.val (O.det (fun _ => G.R.geq rfl rfl) rfl (Taken.yes rfl rfl hg1)) rfl rfl ?_
  refine WH.val (O.pick_f rfl hg1 rfl rfl Taken.no) rfl rfl ?_
  refine WH.mv rfl rfl rfl ?_
  refine WH.case (j := 10) (g := 23) (want := false) rfl rfl (fun hg2 => ?_) (fun hg2 => ?_)
  ·skip
   first | have hg2p := G.gA3 hg2 | have hg2p := G.gA4 hg2 | have hg2p := hg2
   refine WH.val (O.fld_ref (o' := 2) rfl Try.underlying57 rfl (m := 0) (by kernel_rfl) rfl rfl (Taken.yes rfl rfl hg2)) rfl rfl ?_
   refine WH.val (O.ld1 (PtI.ref rfl rfl) rfl Try.underlying3 rfl rfl (Taken.yes rfl rfl hg2)) rfl rfl ?_
   refine WH.val (O.det (fun _ => G.R.lss rfl rfl) rfl (Taken.yes rfl rfl hg2)) rfl rfl ?_
   refine WH.val (O.pick_f rfl hg2 rfl rfl Taken.no) rfl rfl ?_
   refine WH.mv rfl rfl rfl ?_
   refine WH.case (j := 15) (g := 28) (want := false) rfl rfl (fun hg3 => ?_) (fun hg3 => ?_)
   ·skip
    first | have hg3p := G.gA3 hg3 | have hg3p := G.gA4 hg3 | have hg3p := hg3
    refine WH.val (O.fld_ref (o' := 2) rfl Try.underlying57 rfl (m := 0) (by kernel_rfl) rfl rfl (Taken.yes rfl rfl hg3)) rfl rfl ?_
    refine WH.val (O.ld1 (PtI.ref rfl rfl) rfl Try.underlying3 rfl rfl (Taken.yes rfl rfl hg3)) rfl rfl ?_
    refine WH.val (O.fld_ref (o' := 0) rfl Try.underlying25 rfl (m := 0) (by kernel_rfl) rfl rfl (Taken.yes rfl rfl hg3)) rfl rfl ?_
    refine WH.val (O.ld1 (PtI.ref rfl rfl) rfl Try.underlying3 rfl rfl (Taken.yes rfl rfl hg3)) rfl rfl ?_
    refine WH.val (O.det (fun _ => G.R.geq rfl rfl) rfl (Taken.yes rfl rfl hg3)) rfl rfl ?_
    refine WH.val (O.pick_f rfl hg3 rfl rfl Taken.no) rfl rfl ?_
    refine WH.mv rfl rfl rfl ?_
    refine WH.case (j := 22) (g := 35) (want := false) rfl rfl (fun hg4 => ?_) (fun hg4 => ?_)
    ·skip
     first | have hg4p := G.gA3 hg4 | have hg4p := G.gA4 hg4 | have hg4p := hg4
     refine WH.val (O.fld_ref (o' := 2) rfl Try.underlying57 rfl (m := 0) (by kernel_rfl) rfl rfl (Taken.yes rfl rfl hg4)) rfl rfl ?_
     refine WH.val (O.ld1 (PtI.ref rfl rfl) rfl Try.underlying3 rfl rfl (Taken.yes rfl rfl hg4)) rfl rfl ?_
     refine WH.val (O.det (fun _ => G.R.eql rfl rfl) rfl (Taken.yes rfl rfl hg4)) rfl rfl ?_
     refine WH.val (O.move rfl rfl (Taken.yes rfl rfl hg4)) rfl rfl ?_
     refine WH.case (j := 26) (g := 39) (want := true) rfl rfl (fun hg5 => ?_) (fun hg5 => ?_)
     ·skip
      first | have hg5p := G.gA1 hg5 | have hg5p := G.gA2 hg5 | have hg5p := hg5
      refine WH.val (O.fld_ref (o' := 0) rfl Try.underlying57 rfl (m := 0) (by kernel_rfl) rfl rfl (Taken.yes rfl rfl hg5)) rfl rfl ?_
      refine WH.val (O.ld1 (PtI.ref rfl rfl) rfl Try.underlying4 rfl rfl (Taken.yes rfl rfl hg5)) rfl rfl ?_
      refine WH.val (O.pick_t rfl hg5 rfl rfl (Taken.yes rfl rfl hg4)) rfl rfl ?_
      refine WH.val (O.pick_f rfl hg4 rfl rfl Taken.no) rfl rfl ?_
      refine WH.mv rfl rfl rfl ?_
      refine WH.case (j := 31) (g := 44) (want := false) rfl rfl (fun hg6 => ?_) (fun hg6 => ?_)
      ·skip
       first | have hg6p := G.gA3 hg6 | have hg6p := G.gA4 hg6 | have hg6p := hg6
       refine WH.val (O.fld_ref (o' := 2) rfl Try.underlying57 rfl (m := 0) (by kernel_rfl) rfl rfl (Taken.yes rfl rfl hg6)) rfl rfl ?_
       refine WH.val (O.ld1 (PtI.ref rfl rfl) rfl Try.underlying3 rfl rfl (Taken.yes rfl rfl hg6)) rfl rfl ?_
       refine WH.val (O.det (fun _ => G.R.mv (G.R.geq rfl rfl) (congrArg Value.bool (decide_eq_false (by omega)))) rfl (Taken.yes rfl rfl hg6)) rfl rfl ?_
       refine WH.val (O.move rfl rfl (Taken.yes rfl rfl hg6)) rfl rfl ?_
       have hg7 : false ≠ true := by decide
       refine WH.sk rfl rfl rfl hg7 (WH.sk rfl rfl rfl hg7 (WH.sk rfl rfl rfl hg7 (WH.sk rfl rfl rfl hg7 (WH.sk rfl rfl rfl hg7 (WH.sk rfl rfl rfl hg7 (WH.sk rfl rfl rfl hg7 (WH.sk rfl rfl rfl hg7 ?_)))))))
       refine WH.val (O.pick_f rfl rfl rfl rfl (Taken.yes rfl rfl hg6)) rfl rfl ?_
       refine WH.val (O.pick_f rfl hg6 rfl rfl Taken.no) rfl rfl ?_
       refine WH.nil (E.to ?_)
       refine W.pick (K:=[(1,_),(3,_),(5,_),(6,_),(7,_),(8,_),(58,_)]) (Z:=[(101,_),(102,_)]) ⟨rfl,rfl,rfl,rfl,rfl,rfl,rfl,trivial⟩ ⟨rfl,rfl,trivial⟩ ?_
       refine W.cond_f rfl ?_
       refine W.skip (E.to (W.rg ?_))
       obtain rfl : t = -1 := by omega
       obtain rfl : u = false := by simp_all
       obtain ⟨f, rfl⟩ : ∃ k : Nat, f = (k : Int) := ⟨f.toNat, by omega⟩
       refine SL.val (O.ldN (m := 3) (PtI.ref rfl rfl) (js := [_, _, _]) rfl (Nat.le_of_ble_eq_true rfl) Try.underlying25 rfl (by kernel_rfl) rfl Taken.no) ?_
       obtain ⟨s, hs⟩ : ∃ s : Stp, s = ⟨false, (f : Int), -1⟩ := ⟨_, rfl⟩
       have hfe : s.f.toNat = f := by rw [hs]; rfl
       have hue : s.u = false := by rw [hs]
       have hte : (if s.t < 0 then n else s.t.toNat) = n := by rw [hs]; exact if_pos (by show (-1 : Int) < 0; decide)
       refine SL.memS (O.call (rn [(0, 103)]) [] rfl rfl rfl (refatoms_h hf) (.cons (ArgOk.aggU (.cons (ArgOk.same rfl) (.cons (ArgOk.same rfl) (.cons (ArgOk.same rfl) .nil)))) .nil) SubS.nil rfl rfl rfl rfl rfl (.inl rfl) hcallOk37 (r' := .own 103) rfl rfl Taken.no) rfl rfl (S' := (103, .data _ _ _) :: _) rfl ?_
       refine SL.an rfl rfl (E.fo (W.rg ?_))
       refine SL.memS (O.buildSlice 104 (rows := ([] : List Nat).map eN) rfl rfl Try.underlying39 hi3 hz3 hs3 (by decide) rfl (by decide) rfl rfl rfl Taken.no) rfl rfl (S' := (104, .data 3 1 (([] : List Nat).map eN)) :: _) rfl ?_
       refine SL.mv rfl rfl ?_
       refine SL.memS (O.app (k' := 105) rfl rfl (SlOf.fz rfl (by decide)) Try.underlying39 hi3 hz3 hs3 rfl rfl (by exact List.nil_append _) (by rw [hb3]; (simp only [List.length_map, List.length_nil]; omega)) (by (simp only [List.length_map, List.length_nil]; omega)) rfl Taken.no) rfl rfl (S' := (105, _) :: (104, .dead) :: _) rfl ?_
       refine SL.an rfl rfl (E.fo (W.seq (W.rg ?_)))
       refine SL.val (O.fld_ref (o' := 0) rfl Try.underlying57 rfl (m := 0) (by kernel_rfl) rfl rfl Taken.no) ?_
       refine SL.val (O.ld1 (PtI.ref rfl rfl) rfl Try.underlying4 rfl rfl Taken.no) ?_
       refine E.fo ?_
       refine W.cond_f rfl ?_
       refine W.rg (SL.an rfl rfl (E.fo (W.seq (W.rg (SL.an rfl rfl (E.fo (W.block ?_)))))))
       refine W.loopx1 (fun (k : Nat) => [(12, vI (k : Int)), (11, vB (othR k (atomsL n rs) m f)), (10, .own 106)]) (fun (k : Nat) => [(106, .data 3 1 ((mvK n k (atomsL n rs) m s).map eN))]) (fun (k : Nat) => k ≤ n) (fun (k : Nat) => n - k) (0) (rn [(106, 105)]) (.cons (t := 1) rfl (.cons (t := 3) rfl (.cons (t := 5) rfl (.cons (t := 6) rfl (.cons (t := 7) rfl (.cons (t := 8) rfl (.cons (t := 9) rfl .nil))))))) (.cons (t := 101) rfl (.cons (t := 102) rfl (.cons (t := 103) rfl .nil))) rfl ?_ ?_ rfl rfl ?_ ?_
       · exact (SubF.cons rfl (SubF.cons rfl (SubF.cons rfl SubF.nil)))
       · exact (SubS.val rfl (by exact sb_data (by rw [mvK_0 hml])) SubS.nil)
       ·skip
        omega
       intro k hinv
       have hk := hinv
       have hmkl : (mvK n k (atomsL n rs) m s).length = n := mvK_len
       refine W.seq (W.rg (SL.mv rfl rfl ?_))
       refine SL.val (O.fld_ref (o' := 0) rfl Try.underlying25 rfl (m := 0) (by kernel_rfl) rfl rfl Taken.no) ?_
       refine SL.val (O.ld1 (PtI.ref rfl rfl) rfl Try.underlying3 rfl rfl Taken.no) ?_
       refine SL.val (O.det (fun _ => G.R.lss rfl rfl) rfl Taken.no) ?_
       refine E.fo ?_
       first | refine W.cond_d rfl (fun hc8 => ?_) (fun hc8 => ?_) | refine W.cond_nd rfl (fun hc8 => ?_) (fun hc8 => ?_) | refine W.cond rfl (fun hc8 => ?_) (fun hc8 => ?_)
       ·skip
        refine W.skip (E.to (W.seq (W.block (W.seq ?_))))
        refine W.draw [⟨[], [], [], []⟩, ⟨[], [], [], []⟩, ⟨[], [], [], []⟩, ⟨[], [], [], []⟩, ⟨[], [], [], []⟩, ⟨[], [], [], []⟩, ⟨[], [], [], []⟩, ⟨[], [], [], [102]⟩, ⟨[102], [], [], []⟩, ⟨[], [], [], []⟩, ⟨[], [], [], []⟩, ⟨[], [], [], []⟩, ⟨[], [], [], []⟩, ⟨[], [], [], [103]⟩, ⟨[], [], [], []⟩, ⟨[103], [], [], []⟩, ⟨[103], [], [], []⟩, ⟨[], [], [], [102]⟩, ⟨[102], [], [], []⟩, ⟨[], [], [], []⟩, ⟨[], [], [], []⟩, ⟨[], [], [], []⟩, ⟨[], [], [], []⟩] rfl (by kernel_rfl) (by kernel_rfl) rfl rfl ?_
        refine WH.mv rfl rfl rfl (WH.mv rfl rfl rfl ?_)
        refine WH.case (j := 1) (g := 94) (want := false) rfl rfl (fun hg9 => ?_) (fun hg9 => ?_)
        ·skip
         first | have hg9p := G.gA3 hg9 | have hg9p := G.gA4 hg9 | have hg9p := hg9
         refine WH.val (O.move rfl rfl (Taken.yes rfl rfl hg9)) rfl rfl ?_
         refine WH.val (O.move rfl rfl (Taken.yes rfl rfl hg9)) rfl rfl ?_
         refine WH.val (O.idx_fz (i := k) rfl rfl (rfl) (row_get (by omega)) Try.underlying39 hi3 hs3 rfl (Taken.yes rfl rfl hg9)) rfl rfl ?_
         refine WH.val (O.ld1 (PtI.ofU (PtU.fz rfl)) rfl Try.underlying3 rfl rfl (Taken.yes rfl rfl hg9)) rfl rfl ?_
         refine WH.val (O.move rfl rfl (Taken.yes rfl rfl hg9)) rfl rfl ?_
         refine WH.val (O.fld_ref (o' := 1) rfl Try.underlying57 rfl (m := 0) (by kernel_rfl) rfl rfl (Taken.yes rfl rfl hg9)) rfl rfl ?_
         refine WH.val (O.ld1 (PtI.ref rfl rfl) rfl Try.underlying3 rfl rfl (Taken.yes rfl rfl hg9)) rfl rfl ?_
         refine WH.val (O.idx_fz (i := f) rfl rfl (rfl) (row_get (by omega)) Try.underlying39 hi3 hs3 rfl (Taken.yes rfl rfl hg9)) rfl rfl ?_
         refine WH.val (O.ld1 (PtI.ofU (PtU.fz rfl)) rfl Try.underlying3 rfl rfl (Taken.yes rfl rfl hg9)) rfl rfl ?_
         refine WH.val (O.det (fun _ => G.R.eql rfl rfl) rfl (Taken.yes rfl rfl hg9)) rfl rfl ?_
         refine WH.val (O.move rfl rfl (Taken.yes rfl rfl hg9)) rfl rfl ?_
         refine WH.case (j := 12) (g := 105) (want := true) rfl rfl (fun hg10 => ?_) (fun hg10 => ?_)
         ·skip
          first | have hg10p := G.gA1 hg10 | have hg10p := G.gA2 hg10 | have hg10p := hg10
          refine WH.val (O.move rfl rfl (Taken.yes rfl rfl hg10)) rfl rfl ?_
          refine WH.val (O.move rfl rfl (Taken.yes rfl rfl hg10)) rfl rfl ?_
          refine WH.val (O.idx_own (i := k) rfl rfl rfl (rfl) (by rw [List.length_map]; omega) Try.underlying39 hi3 hs3 rfl (Taken.yes rfl rfl hg10)) rfl rfl ?_
          refine WH.val (O.ld1 (PtI.ofU (PtU.el rfl rfl (row_get (by omega)))) rfl Try.underlying3 rfl rfl (Taken.yes rfl rfl hg10)) rfl rfl ?_
          refine WH.val (O.fld_ref (o' := 1) rfl Try.underlying57 rfl (m := 0) (by kernel_rfl) rfl rfl (Taken.yes rfl rfl hg10)) rfl rfl ?_
          refine WH.val (O.ld1 (PtI.ref rfl rfl) rfl Try.underlying3 rfl rfl (Taken.yes rfl rfl hg10)) rfl rfl ?_
          refine WH.val (O.det (fun _ => G.R.neq rfl rfl) rfl (Taken.yes rfl rfl hg10)) rfl rfl ?_
          refine WH.val (O.pick_t rfl hg10 rfl rfl (Taken.yes rfl rfl hg9)) rfl rfl ?_
          refine WH.val (O.pick_f rfl hg9 rfl rfl Taken.no) rfl rfl ?_
          refine WH.val (O.assign rfl rfl Taken.no) rfl rfl ?_
          refine WH.nil (E.to ?_)
          refine W.pick (K:=[(1,_),(3,_),(5,_),(6,_),(7,_),(8,_),(9,_),(10,_),(11,_),(12,_)]) (Z:=[(101,_),(102,_),(103,_),(106,_)]) ⟨rfl,rfl,rfl,rfl,rfl,rfl,rfl,rfl,rfl,rfl,trivial⟩ ⟨rfl,rfl,rfl,rfl,trivial⟩ ?_
          refine W.seq ?_
          refine W.draw [⟨[], [], [], [103]⟩, ⟨[], [], [], []⟩, ⟨[103], [], [], []⟩, ⟨[103], [], [], []⟩, ⟨[], [], [], [102]⟩, ⟨[102], [], [], []⟩, ⟨[], [], [], []⟩] rfl (by kernel_rfl) (by kernel_rfl) rfl rfl ?_
          refine WH.mv rfl rfl rfl (WH.mv rfl rfl rfl ?_)
          refine WH.val (O.idx_own (i := k) rfl rfl rfl (rfl) (by rw [List.length_map]; omega) Try.underlying39 hi3 hs3 rfl Taken.no) rfl rfl ?_
          refine WH.val (O.ld1 (PtI.ofU (PtU.el rfl rfl (row_get (by omega)))) rfl Try.underlying3 rfl rfl Taken.no) rfl rfl ?_
          refine WH.val (O.fld_ref (o' := 1) rfl Try.underlying57 rfl (m := 0) (by kernel_rfl) rfl rfl Taken.no) rfl rfl ?_
          refine WH.val (O.ld1 (PtI.ref rfl rfl) rfl Try.underlying3 rfl rfl Taken.no) rfl rfl ?_
          refine WH.val (O.det (fun _ => G.R.eql rfl rfl) rfl Taken.no) rfl rfl ?_
          refine WH.nil (E.to ?_)
          first | refine W.cond_d rfl (fun hc11 => ?_) (fun hc11 => ?_) | refine W.cond_nd rfl (fun hc11 => ?_) (fun hc11 => ?_) | refine W.cond rfl (fun hc11 => ?_) (fun hc11 => ?_)
          ·skip
           refine W.rg (SL.mv rfl rfl (SL.mv rfl rfl ?_))
           refine SL.val (O.fld_ref (o' := 2) rfl Try.underlying57 rfl (m := 0) (by kernel_rfl) rfl rfl Taken.no) ?_
           refine SL.val (O.ld1 (PtI.ref rfl rfl) rfl Try.underlying3 rfl rfl Taken.no) ?_
           refine SL.val (O.idx_own (i := k) rfl rfl rfl (rfl) (by rw [List.length_map]; omega) Try.underlying39 hi3 hs3 rfl Taken.no) ?_
           refine SL.effS (O.st_els (m := 1) rfl rfl rfl (us := [_]) rfl rfl (by kernel_rfl) (by simp) (row_get (by omega)) (by exact Nat.le_of_ble_eq_true rfl) rfl rfl (rows' := ((mvK n k (atomsL n rs) m s).map eN).set k [uI (-1)]) (by rfl) Taken.no) (S' := (106, _) :: _) rfl ?_
           refine E.fo (W.rg ?_)
           refine SL.val (O.fld_ref (o' := 2) rfl Try.underlying57 rfl (m := 0) (by kernel_rfl) rfl rfl Taken.no) ?_
           refine SL.val (O.ld1 (PtI.ref rfl rfl) rfl Try.underlying3 rfl rfl Taken.no) ?_
           refine SL.val (O.det (fun _ => G.R.mv (G.R.eql rfl rfl) (congrArg Value.bool (decide_eq_true (by rfl)))) rfl Taken.no) ?_
           refine E.fo ?_
           refine W.pick (K:=[(1,_),(3,_),(5,_),(6,_),(7,_),(8,_),(9,_),(10,_),(11,_),(12,_),(129,_)]) (Z:=[(101,_),(102,_),(103,_),(106,_)]) ⟨rfl,rfl,rfl,rfl,rfl,rfl,rfl,rfl,rfl,rfl,rfl,trivial⟩ ⟨rfl,rfl,rfl,rfl,trivial⟩ ?_
           refine W.cond_t rfl ?_
           refine W.region (SL.mv rfl rfl (SL.mv rfl rfl ?_))
           refine SL.val (O.fld_ref (o' := 0) rfl Try.underlying25 rfl (m := 0) (by kernel_rfl) rfl rfl Taken.no) ?_
           refine SL.val (O.ld1 (PtI.ref rfl rfl) rfl Try.underlying3 rfl rfl Taken.no) ?_
           refine SL.val (O.idx_own (i := k) rfl rfl rfl (rfl) (by rw [List.length_set, List.length_map]; omega) Try.underlying39 hi3 hs3 rfl Taken.no) ?_
           refine SL.effS (O.st_els (m := 1) rfl rfl rfl (us := [_]) rfl rfl (by kernel_rfl) (by simp) (by rw [List.getElem?_set_self (by rw [List.length_map]; omega)]) (by exact Nat.le_of_ble_eq_true rfl) rfl rfl (rows' := (((mvK n k (atomsL n rs) m s).map eN).set k [uI (-1)]).set k [uI (n : Int)]) (by rfl) Taken.no) (S' := (106, _) :: _) rfl ?_
           refine SL.nil (E.inn (E.to (W.region (SL.mv rfl rfl ?_))))
           refine SL.val (O.det (fun _ => by first | exact G.R.add64 rfl rfl (by omega) | exact G.R.add rfl rfl) rfl Taken.no) ?_
           refine SL.an rfl rfl (SL.nil ?_)
           refine E.again ((k + 1)) (rn []) ?_ ?_ rfl (fixL_spec rfl) ?_ ?_
           · exact (SubF.cons rfl (SubF.val rfl (by (try dsimp only); exact iv_bool (by rw [oth_s]; (first | (simp_all; done) | (simp_all <;> omega)))) (SubF.cons rfl (SubF.cons rfl (SubF.cons rfl (SubF.cons rfl (SubF.cons rfl (SubF.cons rfl (SubF.cons rfl (SubF.cons rfl SubF.nil))))))))))
           · exact (SubS.val rfl (by (try dsimp only); first | exact sb_data (by rw [mvK_no (by omega) (by rw [hfe]; omega)]) | exact sb_data (by rw [mvK_y (by omega) (by rw [hfe]; omega), hte]; exact set2) | exact sb_data (by rw [mvK_y (by omega) (by rw [hfe]; omega), hte])) (SubS.cons rfl (SubS.cons rfl (SubS.cons rfl SubS.nil))))
           ·try dsimp only
            omega
           · (try dsimp only); omega
          ·skip
           refine W.skip (E.inn (E.to (W.region (SL.mv rfl rfl ?_))))
           refine SL.val (O.det (fun _ => by first | exact G.R.add64 rfl rfl (by omega) | exact G.R.add rfl rfl) rfl Taken.no) ?_
           refine SL.an rfl rfl (SL.nil ?_)
           refine E.again ((k + 1)) (rn []) ?_ ?_ rfl (fixL_spec rfl) ?_ ?_
           · exact (SubF.cons rfl (SubF.val rfl (by (try dsimp only); exact iv_bool (by rw [oth_s]; (first | (simp_all; done) | (simp_all <;> omega)))) (SubF.cons rfl (SubF.cons rfl (SubF.cons rfl (SubF.cons rfl (SubF.cons rfl (SubF.cons rfl (SubF.cons rfl (SubF.cons rfl SubF.nil))))))))))
           · exact (SubS.val rfl (by (try dsimp only); first | exact sb_data (by rw [mvK_no (by omega) (by rw [hfe]; omega)]) | exact sb_data (by rw [mvK_y (by omega) (by rw [hfe]; omega), hte]; exact set2) | exact sb_data (by rw [mvK_y (by omega) (by rw [hfe]; omega), hte])) (SubS.cons rfl (SubS.cons rfl (SubS.cons rfl SubS.nil))))
           ·try dsimp only
            omega
           · (try dsimp only); omega
         ·skip
          first | have hg10p := G.gA5 hg10 | have hg10p := G.gA6 hg10 | have hg10p := hg10
          refine WH.sk rfl rfl rfl hg10 (WH.sk rfl rfl rfl hg10 (WH.sk rfl rfl rfl hg10 (WH.sk rfl rfl rfl hg10 (WH.sk rfl rfl rfl hg10 (WH.sk rfl rfl rfl hg10 (WH.sk rfl rfl rfl hg10 ?_))))))
          refine WH.val (O.pick_f rfl (G.ne_t hg10) rfl rfl (Taken.yes rfl rfl hg9)) rfl rfl ?_
          refine WH.val (O.pick_f rfl hg9 rfl rfl Taken.no) rfl rfl ?_
          refine WH.val (O.assign rfl rfl Taken.no) rfl rfl ?_
          refine WH.nil (E.to ?_)
          refine W.pick (K:=[(1,_),(3,_),(5,_),(6,_),(7,_),(8,_),(9,_),(10,_),(11,_),(12,_)]) (Z:=[(101,_),(102,_),(103,_),(106,_)]) ⟨rfl,rfl,rfl,rfl,rfl,rfl,rfl,rfl,rfl,rfl,trivial⟩ ⟨rfl,rfl,rfl,rfl,trivial⟩ ?_
          refine W.seq ?_
          refine W.draw [⟨[], [], [], [103]⟩, ⟨[], [], [], []⟩, ⟨[103], [], [], []⟩, ⟨[103], [], [], []⟩, ⟨[], [], [], [102]⟩, ⟨[102], [], [], []⟩, ⟨[], [], [], []⟩] rfl (by kernel_rfl) (by kernel_rfl) rfl rfl ?_
          refine WH.mv rfl rfl rfl (WH.mv rfl rfl rfl ?_)
          refine WH.val (O.idx_own (i := k) rfl rfl rfl (rfl) (by rw [List.length_map]; omega) Try.underlying39 hi3 hs3 rfl Taken.no) rfl rfl ?_
          refine WH.val (O.ld1 (PtI.ofU (PtU.el rfl rfl (row_get (by omega)))) rfl Try.underlying3 rfl rfl Taken.no) rfl rfl ?_
          refine WH.val (O.fld_ref (o' := 1) rfl Try.underlying57 rfl (m := 0) (by kernel_rfl) rfl rfl Taken.no) rfl rfl ?_
          refine WH.val (O.ld1 (PtI.ref rfl rfl) rfl Try.underlying3 rfl rfl Taken.no) rfl rfl ?_
          refine WH.val (O.det (fun _ => G.R.eql rfl rfl) rfl Taken.no) rfl rfl ?_
          refine WH.nil (E.to ?_)
          first | refine W.cond_d rfl (fun hc12 => ?_) (fun hc12 => ?_) | refine W.cond_nd rfl (fun hc12 => ?_) (fun hc12 => ?_) | refine W.cond rfl (fun hc12 => ?_) (fun hc12 => ?_)
          ·skip
           refine W.rg (SL.mv rfl rfl (SL.mv rfl rfl ?_))
           refine SL.val (O.fld_ref (o' := 2) rfl Try.underlying57 rfl (m := 0) (by kernel_rfl) rfl rfl Taken.no) ?_
           refine SL.val (O.ld1 (PtI.ref rfl rfl) rfl Try.underlying3 rfl rfl Taken.no) ?_
           refine SL.val (O.idx_own (i := k) rfl rfl rfl (rfl) (by rw [List.length_map]; omega) Try.underlying39 hi3 hs3 rfl Taken.no) ?_
           refine SL.effS (O.st_els (m := 1) rfl rfl rfl (us := [_]) rfl rfl (by kernel_rfl) (by simp) (row_get (by omega)) (by exact Nat.le_of_ble_eq_true rfl) rfl rfl (rows' := ((mvK n k (atomsL n rs) m s).map eN).set k [uI (-1)]) (by rfl) Taken.no) (S' := (106, _) :: _) rfl ?_
           refine E.fo (W.rg ?_)
           refine SL.val (O.fld_ref (o' := 2) rfl Try.underlying57 rfl (m := 0) (by kernel_rfl) rfl rfl Taken.no) ?_
           refine SL.val (O.ld1 (PtI.ref rfl rfl) rfl Try.underlying3 rfl rfl Taken.no) ?_
           refine SL.val (O.det (fun _ => G.R.mv (G.R.eql rfl rfl) (congrArg Value.bool (decide_eq_true (by rfl)))) rfl Taken.no) ?_
           refine E.fo ?_
           refine W.pick (K:=[(1,_),(3,_),(5,_),(6,_),(7,_),(8,_),(9,_),(10,_),(11,_),(12,_),(129,_)]) (Z:=[(101,_),(102,_),(103,_),(106,_)]) ⟨rfl,rfl,rfl,rfl,rfl,rfl,rfl,rfl,rfl,rfl,rfl,trivial⟩ ⟨rfl,rfl,rfl,rfl,trivial⟩ ?_
           refine W.cond_t rfl ?_
           refine W.region (SL.mv rfl rfl (SL.mv rfl rfl ?_))
           refine SL.val (O.fld_ref (o' := 0) rfl Try.underlying25 rfl (m := 0) (by kernel_rfl) rfl rfl Taken.no) ?_
           refine SL.val (O.ld1 (PtI.ref rfl rfl) rfl Try.underlying3 rfl rfl Taken.no) ?_
           refine SL.val (O.idx_own (i := k) rfl rfl rfl (rfl) (by rw [List.length_set, List.length_map]; omega) Try.underlying39 hi3 hs3 rfl Taken.no) ?_
           refine SL.effS (O.st_els (m := 1) rfl rfl rfl (us := [_]) rfl rfl (by kernel_rfl) (by simp) (by rw [List.getElem?_set_self (by rw [List.length_map]; omega)]) (by exact Nat.le_of_ble_eq_true rfl) rfl rfl (rows' := (((mvK n k (atomsL n rs) m s).map eN).set k [uI (-1)]).set k [uI (n : Int)]) (by rfl) Taken.no) (S' := (106, _) :: _) rfl ?_
           refine SL.nil (E.inn (E.to (W.region (SL.mv rfl rfl ?_))))
           refine SL.val (O.det (fun _ => by first | exact G.R.add64 rfl rfl (by omega) | exact G.R.add rfl rfl) rfl Taken.no) ?_
           refine SL.an rfl rfl (SL.nil ?_)
           refine E.again ((k + 1)) (rn []) ?_ ?_ rfl (fixL_spec rfl) ?_ ?_
           · exact (SubF.cons rfl (SubF.val rfl (by (try dsimp only); exact iv_bool (by rw [oth_s]; (first | (simp_all; done) | (simp_all <;> omega)))) (SubF.cons rfl (SubF.cons rfl (SubF.cons rfl (SubF.cons rfl (SubF.cons rfl (SubF.cons rfl (SubF.cons rfl (SubF.cons rfl SubF.nil))))))))))
           · exact (SubS.val rfl (by (try dsimp only); first | exact sb_data (by rw [mvK_no (by omega) (by rw [hfe]; omega)]) | exact sb_data (by rw [mvK_y (by omega) (by rw [hfe]; omega), hte]; exact set2) | exact sb_data (by rw [mvK_y (by omega) (by rw [hfe]; omega), hte])) (SubS.cons rfl (SubS.cons rfl (SubS.cons rfl SubS.nil))))
           ·try dsimp only
            omega
           · (try dsimp only); omega
          ·skip
           refine W.skip (E.inn (E.to (W.region (SL.mv rfl rfl ?_))))
           refine SL.val (O.det (fun _ => by first | exact G.R.add64 rfl rfl (by omega) | exact G.R.add rfl rfl) rfl Taken.no) ?_
           refine SL.an rfl rfl (SL.nil ?_)
           refine E.again ((k + 1)) (rn []) ?_ ?_ rfl (fixL_spec rfl) ?_ ?_
           · exact (SubF.cons rfl (SubF.val rfl (by (try dsimp only); exact iv_bool (by rw [oth_s]; (first | (simp_all; done) | (simp_all <;> omega)))) (SubF.cons rfl (SubF.cons rfl (SubF.cons rfl (SubF.cons rfl (SubF.cons rfl (SubF.cons rfl (SubF.cons rfl (SubF.cons rfl SubF.nil))))))))))
           · exact (SubS.val rfl (by (try dsimp only); first | exact sb_data (by rw [mvK_no (by omega) (by rw [hfe]; omega)]) | exact sb_data (by rw [mvK_y (by omega) (by rw [hfe]; omega), hte]; exact set2) | exact sb_data (by rw [mvK_y (by omega) (by rw [hfe]; omega), hte])) (SubS.cons rfl (SubS.cons rfl (SubS.cons rfl SubS.nil))))
           ·try dsimp only
            omega
           · (try dsimp only); omega
        ·skip
         first | have hg9p := G.gA7 hg9 | have hg9p := G.gA8 hg9 | have hg9p := hg9
         refine WH.sk rfl rfl rfl hg9 (WH.sk rfl rfl rfl hg9 (WH.sk rfl rfl rfl hg9 (WH.sk rfl rfl rfl hg9 (WH.sk rfl rfl rfl hg9 (WH.sk rfl rfl rfl hg9 (WH.sk rfl rfl rfl hg9 (WH.sk rfl rfl rfl hg9 (WH.sk rfl rfl rfl hg9 (WH.sk rfl rfl rfl hg9 (WH.sk rfl rfl rfl hg9 ?_))))))))))
         refine WH.skip (OpOk.not2 rfl rfl rfl) ?_
         refine WH.skip (OpOk.not2 rfl rfl rfl) ?_
         refine WH.skip (OpOk.not2 rfl rfl rfl) ?_
         refine WH.skip (OpOk.not2 rfl rfl rfl) ?_
         refine WH.skip (OpOk.not2 rfl rfl rfl) ?_
         refine WH.skip (OpOk.not2 rfl rfl rfl) ?_
         refine WH.skip (OpOk.not2 rfl rfl rfl) ?_
         refine WH.sk rfl rfl rfl hg9 ?_
         refine WH.val (O.pick_t rfl (G.ne_f hg9) rfl rfl Taken.no) rfl rfl ?_
         refine WH.val (O.assign rfl rfl Taken.no) rfl rfl ?_
         refine WH.nil (E.to ?_)
         refine W.pick (K:=[(1,_),(3,_),(5,_),(6,_),(7,_),(8,_),(9,_),(10,_),(11,_),(12,_)]) (Z:=[(101,_),(102,_),(103,_),(106,_)]) ⟨rfl,rfl,rfl,rfl,rfl,rfl,rfl,rfl,rfl,rfl,trivial⟩ ⟨rfl,rfl,rfl,rfl,trivial⟩ ?_
         refine W.seq ?_
         refine W.draw [⟨[], [], [], [103]⟩, ⟨[], [], [], []⟩, ⟨[103], [], [], []⟩, ⟨[103], [], [], []⟩, ⟨[], [], [], [102]⟩, ⟨[102], [], [], []⟩, ⟨[], [], [], []⟩] rfl (by kernel_rfl) (by kernel_rfl) rfl rfl ?_
         refine WH.mv rfl rfl rfl (WH.mv rfl rfl rfl ?_)
         refine WH.val (O.idx_own (i := k) rfl rfl rfl (rfl) (by rw [List.length_map]; omega) Try.underlying39 hi3 hs3 rfl Taken.no) rfl rfl ?_
         refine WH.val (O.ld1 (PtI.ofU (PtU.el rfl rfl (row_get (by omega)))) rfl Try.underlying3 rfl rfl Taken.no) rfl rfl ?_
         refine WH.val (O.fld_ref (o' := 1) rfl Try.underlying57 rfl (m := 0) (by kernel_rfl) rfl rfl Taken.no) rfl rfl ?_
         refine WH.val (O.ld1 (PtI.ref rfl rfl) rfl Try.underlying3 rfl rfl Taken.no) rfl rfl ?_
         refine WH.val (O.det (fun _ => G.R.eql rfl rfl) rfl Taken.no) rfl rfl ?_
         refine WH.nil (E.to ?_)
         first | refine W.cond_d rfl (fun hc13 => ?_) (fun hc13 => ?_) | refine W.cond_nd rfl (fun hc13 => ?_) (fun hc13 => ?_) | refine W.cond rfl (fun hc13 => ?_) (fun hc13 => ?_)
         ·skip
          refine W.rg (SL.mv rfl rfl (SL.mv rfl rfl ?_))
          refine SL.val (O.fld_ref (o' := 2) rfl Try.underlying57 rfl (m := 0) (by kernel_rfl) rfl rfl Taken.no) ?_
          refine SL.val (O.ld1 (PtI.ref rfl rfl) rfl Try.underlying3 rfl rfl Taken.no) ?_
          refine SL.val (O.idx_own (i := k) rfl rfl rfl (rfl) (by rw [List.length_map]; omega) Try.underlying39 hi3 hs3 rfl Taken.no) ?_
          refine SL.effS (O.st_els (m := 1) rfl rfl rfl (us := [_]) rfl rfl (by kernel_rfl) (by simp) (row_get (by omega)) (by exact Nat.le_of_ble_eq_true rfl) rfl rfl (rows' := ((mvK n k (atomsL n rs) m s).map eN).set k [uI (-1)]) (by rfl) Taken.no) (S' := (106, _) :: _) rfl ?_
          refine E.fo (W.rg ?_)
          refine SL.val (O.fld_ref (o' := 2) rfl Try.underlying57 rfl (m := 0) (by kernel_rfl) rfl rfl Taken.no) ?_
          refine SL.val (O.ld1 (PtI.ref rfl rfl) rfl Try.underlying3 rfl rfl Taken.no) ?_
          refine SL.val (O.det (fun _ => G.R.mv (G.R.eql rfl rfl) (congrArg Value.bool (decide_eq_true (by rfl)))) rfl Taken.no) ?_
          refine E.fo ?_
          refine W.pick (K:=[(1,_),(3,_),(5,_),(6,_),(7,_),(8,_),(9,_),(10,_),(11,_),(12,_),(129,_)]) (Z:=[(101,_),(102,_),(103,_),(106,_)]) ⟨rfl,rfl,rfl,rfl,rfl,rfl,rfl,rfl,rfl,rfl,rfl,trivial⟩ ⟨rfl,rfl,rfl,rfl,trivial⟩ ?_
          refine W.cond_t rfl ?_
          refine W.region (SL.mv rfl rfl (SL.mv rfl rfl ?_))
          refine SL.val (O.fld_ref (o' := 0) rfl Try.underlying25 rfl (m := 0) (by kernel_rfl) rfl rfl Taken.no) ?_
          refine SL.val (O.ld1 (PtI.ref rfl rfl) rfl Try.underlying3 rfl rfl Taken.no) ?_
          refine SL.val (O.idx_own (i := k) rfl rfl rfl (rfl) (by rw [List.length_set, List.length_map]; omega) Try.underlying39 hi3 hs3 rfl Taken.no) ?_
          refine SL.effS (O.st_els (m := 1) rfl rfl rfl (us := [_]) rfl rfl (by kernel_rfl) (by simp) (by rw [List.getElem?_set_self (by rw [List.length_map]; omega)]) (by exact Nat.le_of_ble_eq_true rfl) rfl rfl (rows' := (((mvK n k (atomsL n rs) m s).map eN).set k [uI (-1)]).set k [uI (n : Int)]) (by rfl) Taken.no) (S' := (106, _) :: _) rfl ?_
          refine SL.nil (E.inn (E.to (W.region (SL.mv rfl rfl ?_))))
          refine SL.val (O.det (fun _ => by first | exact G.R.add64 rfl rfl (by omega) | exact G.R.add rfl rfl) rfl Taken.no) ?_
          refine SL.an rfl rfl (SL.nil ?_)
          refine E.again ((k + 1)) (rn []) ?_ ?_ rfl (fixL_spec rfl) ?_ ?_
          · exact (SubF.cons rfl (SubF.val rfl (by (try dsimp only); exact iv_bool (by rw [oth_s]; (first | (simp_all; done) | (simp_all <;> omega)))) (SubF.cons rfl (SubF.cons rfl (SubF.cons rfl (SubF.cons rfl (SubF.cons rfl (SubF.cons rfl (SubF.cons rfl (SubF.cons rfl SubF.nil))))))))))
          · exact (SubS.val rfl (by (try dsimp only); first | exact sb_data (by rw [mvK_no (by omega) (by rw [hfe]; omega)]) | exact sb_data (by rw [mvK_y (by omega) (by rw [hfe]; omega), hte]; exact set2) | exact sb_data (by rw [mvK_y (by omega) (by rw [hfe]; omega), hte])) (SubS.cons rfl (SubS.cons rfl (SubS.cons rfl SubS.nil))))
          ·try dsimp only
           omega
          · (try dsimp only); omega
         ·skip
          refine W.skip (E.inn (E.to (W.region (SL.mv rfl rfl ?_))))
          refine SL.val (O.det (fun _ => by first | exact G.R.add64 rfl rfl (by omega) | exact G.R.add rfl rfl) rfl Taken.no) ?_
          refine SL.an rfl rfl (SL.nil ?_)
          refine E.again ((k + 1)) (rn []) ?_ ?_ rfl (fixL_spec rfl) ?_ ?_
          · exact (SubF.cons rfl (SubF.val rfl (by (try dsimp only); exact iv_bool (by rw [oth_s]; (first | (simp_all; done) | (simp_all <;> omega)))) (SubF.cons rfl (SubF.cons rfl (SubF.cons rfl (SubF.cons rfl (SubF.cons rfl (SubF.cons rfl (SubF.cons rfl (SubF.cons rfl SubF.nil))))))))))
          · exact (SubS.val rfl (by (try dsimp only); first | exact sb_data (by rw [mvK_no (by omega) (by rw [hfe]; omega)]) | exact sb_data (by rw [mvK_y (by omega) (by rw [hfe]; omega), hte]; exact set2) | exact sb_data (by rw [mvK_y (by omega) (by rw [hfe]; omega), hte])) (SubS.cons rfl (SubS.cons rfl (SubS.cons rfl SubS.nil))))
          ·try dsimp only
           omega
          · (try dsimp only); omega
       ·skip
        refine W.exit (E.th (E.th (E.hit (E.to (W.seq (W.seq ?_))))))
        refine W.draw [⟨[], [], [], [103]⟩, ⟨[], [], [], [102]⟩, ⟨[102], [], [], []⟩, ⟨[103], [], [], []⟩, ⟨[103], [], [], []⟩, ⟨[], [], [], [102]⟩, ⟨[102], [], [], []⟩, ⟨[], [], [], []⟩, ⟨[], [], [], []⟩, ⟨[], [], [], [102]⟩, ⟨[102], [], [], []⟩, ⟨[], [], [], []⟩, ⟨[], [], [], [102]⟩, ⟨[102], [], [], []⟩, ⟨[], [], [], []⟩, ⟨[], [], [], []⟩, ⟨[], [], [], []⟩, ⟨[], [], [], []⟩, ⟨[], [], [], []⟩, ⟨[], [], [], [102]⟩, ⟨[102], [], [], []⟩, ⟨[], [], [], []⟩, ⟨[], [], [], []⟩, ⟨[], [], [], []⟩, ⟨[], [], [], []⟩, ⟨[], [], [], []⟩, ⟨[], [], [], []⟩] rfl (by kernel_rfl) (by kernel_rfl) rfl rfl ?_
        have hkn : k = n := by omega
        rw [hkn, mvK_n]
        refine WH.mv rfl rfl rfl ?_
        refine WH.val (O.fld_ref (o' := 1) rfl Try.underlying57 rfl (m := 0) (by kernel_rfl) rfl rfl Taken.no) rfl rfl ?_
        refine WH.val (O.ld1 (PtI.ref rfl rfl) rfl Try.underlying3 rfl rfl Taken.no) rfl rfl ?_
        refine WH.val (O.idx_own (i := f) rfl rfl rfl (rfl) (by rw [List.length_map]; omega) Try.underlying39 hi3 hs3 rfl Taken.no) rfl rfl ?_
        refine WH.val (O.ld1 (PtI.ofU (PtU.el rfl rfl (row_get (by omega)))) rfl Try.underlying3 rfl rfl Taken.no) rfl rfl ?_
        refine WH.val (O.fld_ref (o' := 1) rfl Try.underlying57 rfl (m := 0) (by kernel_rfl) rfl rfl Taken.no) rfl rfl ?_
        refine WH.val (O.ld1 (PtI.ref rfl rfl) rfl Try.underlying3 rfl rfl Taken.no) rfl rfl ?_
        refine WH.val (O.det (fun _ => G.R.neq rfl rfl) rfl Taken.no) rfl rfl ?_
        refine WH.mv rfl rfl rfl ?_
        refine WH.case (j := 8) (g := 143) (want := false) rfl rfl (fun hg14 => ?_) (fun hg14 => ?_)
        ·skip
         first | have hg14p := G.gA3 hg14 | have hg14p := G.gA4 hg14 | have hg14p := hg14
         refine WH.val (O.fld_ref (o' := 2) rfl Try.underlying57 rfl (m := 0) (by kernel_rfl) rfl rfl (Taken.yes rfl rfl hg14)) rfl rfl ?_
         refine WH.val (O.ld1 (PtI.ref rfl rfl) rfl Try.underlying3 rfl rfl (Taken.yes rfl rfl hg14)) rfl rfl ?_
         refine WH.val (O.move rfl rfl (Taken.yes rfl rfl hg14)) rfl rfl ?_
         refine WH.val (O.fld_ref (o' := 1) rfl Try.underlying57 rfl (m := 0) (by kernel_rfl) rfl rfl (Taken.yes rfl rfl hg14)) rfl rfl ?_
         refine WH.val (O.ld1 (PtI.ref rfl rfl) rfl Try.underlying3 rfl rfl (Taken.yes rfl rfl hg14)) rfl rfl ?_
         refine WH.val (O.idx_fz (i := f) rfl rfl (rfl) (row_get (by omega)) Try.underlying39 hi3 hs3 rfl (Taken.yes rfl rfl hg14)) rfl rfl ?_
         refine WH.val (O.ld1 (PtI.ofU (PtU.fz rfl)) rfl Try.underlying3 rfl rfl (Taken.yes rfl rfl hg14)) rfl rfl ?_
         refine WH.val (O.det (fun _ => G.R.mv (G.R.eql rfl rfl) (congrArg Value.bool (decide_eq_false (by omega)))) rfl (Taken.yes rfl rfl hg14)) rfl rfl ?_
         refine WH.val (O.pick_f rfl hg14 rfl rfl Taken.no) rfl rfl ?_
         refine WH.mv rfl rfl rfl ?_
         have hg15 : false = false := by decide
         refine WH.val (O.fld_ref (o' := 2) rfl Try.underlying57 rfl (m := 0) (by kernel_rfl) rfl rfl (Taken.yes rfl rfl hg15)) rfl rfl ?_
         refine WH.val (O.ld1 (PtI.ref rfl rfl) rfl Try.underlying3 rfl rfl (Taken.yes rfl rfl hg15)) rfl rfl ?_
         refine WH.val (O.det (fun _ => G.R.mv (G.R.eql rfl rfl) (congrArg Value.bool (decide_eq_true (by rfl)))) rfl (Taken.yes rfl rfl hg15)) rfl rfl ?_
         refine WH.val (O.move rfl rfl (Taken.yes rfl rfl hg15)) rfl rfl ?_
         have hg16 : true = true := by decide
         refine WH.val (O.move rfl rfl (Taken.yes rfl rfl hg16)) rfl rfl ?_
         refine WH.val (O.det (fun _ => G.R.not rfl) rfl (Taken.yes rfl rfl hg16)) rfl rfl ?_
         refine WH.val (O.pick_t rfl rfl rfl rfl (Taken.yes rfl rfl hg15)) rfl rfl ?_
         refine WH.val (O.pick_f rfl rfl rfl rfl Taken.no) rfl rfl ?_
         refine WH.nil (E.to ?_)
         refine W.pick (K:=[(1,_),(3,_),(6,_),(7,_),(8,_),(10,_),(161,_)]) (Z:=[(101,_),(102,_),(103,_),(106,_)]) ⟨rfl,rfl,rfl,rfl,rfl,rfl,rfl,trivial⟩ ⟨rfl,rfl,rfl,rfl,trivial⟩ ?_
         first | refine W.cond_d rfl (fun hc17 => ?_) (fun hc17 => ?_) | refine W.cond_nd rfl (fun hc17 => ?_) (fun hc17 => ?_) | refine W.cond rfl (fun hc17 => ?_) (fun hc17 => ?_)
         ·skip
          refine W.rg (SL.an rfl rfl (SL.an rfl rfl (SL.an rfl rfl (E.fo (W.ret (E.thr (E.thr ?_)))))))
          refine E.nilsl 6 1 rfl ?_
          refine E.fin (rs := [_, _, _]) (rn []) (.inl rfl) rfl (.cons (ResOne.tmp rfl) (.cons (ResOne.tmp rfl) (.cons (ResOne.tmp rfl) .nil))) ?_ ?_ rfl (fixL_spec rfl)
          ·skip
           subst hs
           first | ((have hno : ¬ posR n (barL rs) (atomsL n rs) m ⟨false, (f : Int), (t : Int)⟩ := fun q => by ((obtain ⟨⟨q1, q2, q3, q4, q5⟩, q6, q7, q8⟩ := preR_iff.1 q.1); (try simp only [Int.toNat_natCast] at q6 q7 q8); (first | (have q8 := (q8 (by trivial)).1; omega) | (have q8 := (q8 (by trivial)).2.1 (by omega); omega) | (have q8 := (q8 (by trivial)).2.2 (by omega); simp_all)))); rw [(apR_n hno).1, (apR_n hno).2, dec_f hno]; rfl) | ((have hno : ¬ posR n (barL rs) (atomsL n rs) m ⟨false, (f : Int), -1⟩ := fun q => by ((obtain ⟨⟨q1, q2, q3, q4, q5⟩, q6, q7, q8⟩ := preR_iff.1 q.1); (try simp only [Int.toNat_natCast] at q6 q7 q8); (first | (have q8 := (q8 (by trivial)).1; omega) | (have q8 := (q8 (by trivial)).2.1 (by omega); omega) | (have q8 := (q8 (by trivial)).2.2 (by omega); simp_all)))); rw [(apR_n hno).1, (apR_n hno).2, dec_f hno]; rfl)
          · exact SubS.nil
         ·skip
          refine W.skip (E.to (W.region (SL.mv rfl rfl ?_)))
          refine SL.memS (O.call (rn [(0, 107)]) [106] rfl rfl rfl (refnamed_h (l := mvL n (atomsL n rs) m s) (by rw [mvL, List.length_map, List.length_range]; omega)) (.cons (ArgOk.own rfl rfl) .nil) SubS.nil rfl rfl rfl rfl rfl (.inr ⟨rfl, fun x hx => by rw [List.mem_singleton] at hx; subst hx; exact flat_N _⟩) hcallOk65 (r' := .own 107) rfl rfl Taken.no) rfl rfl (S' := (107, .data _ _ _) :: _) rfl ?_
          refine SL.an rfl rfl (E.fo (W.seq (W.rg ?_)))
          have hX : nmL (mvL n (atomsL n rs) m s) = (labL n (atomsL n rs) m s) := by rw [labL, if_neg (by rw [hue]; decide)]
          have hpre : preR n (atomsL n rs) m s := by rw [hs]; exact preR_iff.2 ⟨⟨by omega, by omega, by omega, by omega, fun _ => rfl⟩, fun h => by exfalso; omega, fun h => (by cases h), fun _ => ⟨by show (atomsL n rs)[f]! = f; omega, fun h => by exfalso; omega, fun _ => by show othR n (atomsL n rs) m f = true; simp_all⟩⟩
          rw [hX]
          have hll : (labL n (atomsL n rs) m s).length = n := labL_len hml
          refine SL.val (O.ldN (m := 3) (PtI.ref rfl rfl) (js := [_, _, _]) rfl (Nat.le_of_ble_eq_true rfl) Try.underlying25 rfl (by kernel_rfl) rfl Taken.no) ?_
          refine SL.mv rfl rfl ?_
          refine SL.memS (O.call (rn []) [107] rfl rfl rfl (refapart_h hf (m := (labL n (atomsL n rs) m s)) hll) (.cons (ArgOk.aggU (.cons (ArgOk.same rfl) (.cons (ArgOk.same rfl) (.cons (ArgOk.same rfl) .nil)))) (.cons (ArgOk.own rfl rfl) .nil)) SubS.nil rfl rfl rfl rfl rfl (.inr ⟨rfl, fun x hx => by simp at hx⟩) hcallOk36 (r' := .u _) rfl rfl Taken.no) rfl rfl (S' := _) rfl ?_
          refine SL.val (O.det (fun _ => G.R.not rfl) rfl Taken.no) ?_
          refine E.fo ?_
          first | refine W.cond_d rfl (fun hc18 => ?_) (fun hc18 => ?_) | refine W.cond_nd rfl (fun hc18 => ?_) (fun hc18 => ?_) | refine W.cond rfl (fun hc18 => ?_) (fun hc18 => ?_)
          ·skip
           refine W.rg (SL.an rfl rfl (SL.an rfl rfl (SL.an rfl rfl (E.fo (W.ret (E.thr ?_))))))
           refine E.nilsl 6 1 rfl ?_
           refine E.fin (rs := [_, _, _]) (rn []) (.inl rfl) rfl (.cons (ResOne.tmp rfl) (.cons (ResOne.tmp rfl) (.cons (ResOne.tmp rfl) .nil))) ?_ ?_ rfl (fixL_spec rfl)
           ·skip
            have hno : ¬ posR n (barL rs) (atomsL n rs) m s := fun q => by have q2 := q.2; simp_all
            rw [← hs, (apR_n hno).1, (apR_n hno).2, dec_f hno]; rfl
           · exact SubS.nil
          ·skip
           refine W.skip (E.to (W.rg ?_))
           refine SL.val (O.ldN (m := 3) (PtI.ref rfl rfl) (js := [_, _, _]) rfl (Nat.le_of_ble_eq_true rfl) Try.underlying25 rfl (by kernel_rfl) rfl Taken.no) ?_
           refine SL.mv rfl rfl ?_
           refine SL.memS (O.call (rn [(0, 108)]) [107] rfl rfl rfl (refconn_h hf (m := (labL n (atomsL n rs) m s)) hll) (.cons (ArgOk.aggU (.cons (ArgOk.same rfl) (.cons (ArgOk.same rfl) (.cons (ArgOk.same rfl) .nil)))) (.cons (ArgOk.own rfl rfl) .nil)) SubS.nil rfl rfl rfl rfl rfl (.inr ⟨rfl, fun x hx => by rw [List.mem_singleton] at hx; subst hx; exact flat_N _⟩) hcallOk43 (r' := .own 108) rfl rfl Taken.no) rfl rfl (S' := (108, .data _ _ _) :: _) rfl ?_
           refine SL.an rfl rfl (E.fo (W.seq ?_))
           refine W.freeze 108 rfl (F' := [(10, _)]) (⟨⟨_, rfl, rfl⟩, trivial⟩) ?_
           refine W.draw [⟨[], [], [], []⟩, ⟨[101], [], [], []⟩, ⟨[], [], [], []⟩, ⟨[], [], [], []⟩, ⟨[101], [], [], []⟩, ⟨[], [], [], []⟩, ⟨[], [], [], []⟩, ⟨[], [], [], []⟩, ⟨[], [], [], []⟩, ⟨[], [], [], []⟩, ⟨[], [], [], []⟩] rfl (by kernel_rfl) (by kernel_rfl) rfl rfl ?_
           refine WH.mv rfl rfl rfl ?_
           refine WH.val (O.ldN (m := 3) (PtI.ref rfl rfl) (js := [_, _, _]) rfl (Nat.le_of_ble_eq_true rfl) Try.underlying25 rfl (by kernel_rfl) rfl Taken.no) rfl rfl ?_
           refine WH.mv rfl rfl rfl ?_
           refine WH.val (O.callp rfl rfl rfl (refvalue_h hf (m := resR n ps rs m s) (res_comp hf m s).len hpl) (.cons (ArgOk.aggU (.cons (ArgOk.same rfl) (.cons (ArgOk.same rfl) (.cons (ArgOk.same rfl) .nil)))) (.cons (ArgOk.same rfl) .nil)) hcallOk48 rfl Taken.no) rfl rfl ?_
           refine WH.val (O.ldN (m := 3) (PtI.ref rfl rfl) (js := [_, _, _]) rfl (Nat.le_of_ble_eq_true rfl) Try.underlying25 rfl (by kernel_rfl) rfl Taken.no) rfl rfl ?_
           refine WH.mv rfl rfl rfl ?_
           refine WH.val (O.callp rfl rfl rfl (refvalue_h hf (m := m) hml hpl) (.cons (ArgOk.aggU (.cons (ArgOk.same rfl) (.cons (ArgOk.same rfl) (.cons (ArgOk.same rfl) .nil)))) (.cons (ArgOk.same rfl) .nil)) hcallOk48 rfl Taken.no) rfl rfl ?_
           have hv1 := valR_le hf (resR n ps rs m s)
           have hv2 := valR_le hf m
           refine WH.val (O.det (fun _ => by first | exact G.R.sub64 rfl rfl (by omega) | exact G.R.sub rfl rfl) rfl Taken.no) rfl rfl ?_
           refine WH.val (O.assign rfl rfl Taken.no) rfl rfl ?_
           refine WH.val (O.assign rfl rfl Taken.no) rfl rfl ?_
           refine WH.val (O.assign rfl rfl Taken.no) rfl rfl ?_
           refine WH.nil (E.to ?_)
           refine W.pick (K:=[(6,_),(7,_),(8,_)]) (Z:=[(101,_),(102,_),(103,_),(106,_),(107,_)]) ⟨rfl,rfl,rfl,trivial⟩ ⟨rfl,rfl,rfl,rfl,rfl,trivial⟩ ?_
           refine W.ret ?_
           refine E.fin (rs := [_, _, _]) (rn []) (.inl rfl) rfl (.cons (ResOne.tmp rfl) (.cons (ResOne.tmp rfl) (.cons (ResOne.tmp rfl) .nil))) ?_ ?_ rfl (fixL_spec rfl)
           ·skip
            have hyes : posR n (barL rs) (atomsL n rs) m s := ⟨hpre, by simp_all⟩
            rw [← hs, (apR_y hyes).1, (apR_y hyes).2, dec_t hyes]; rfl
           · exact SubS.nil
        ·skip
         first | have hg14p := G.gA7 hg14 | have hg14p := G.gA8 hg14 | have hg14p := hg14
         refine WH.sk rfl rfl rfl hg14 (WH.sk rfl rfl rfl hg14 (WH.sk rfl rfl rfl hg14 (WH.sk rfl rfl rfl hg14 (WH.sk rfl rfl rfl hg14 (WH.sk rfl rfl rfl hg14 (WH.sk rfl rfl rfl hg14 (WH.sk rfl rfl rfl hg14 ?_)))))))
         refine WH.val (O.pick_t rfl (G.ne_f hg14) rfl rfl Taken.no) rfl rfl ?_
         refine WH.mv rfl rfl rfl ?_
         have hg19 : true ≠ false := by decide
         refine WH.sk rfl rfl rfl hg19 (WH.sk rfl rfl rfl hg19 (WH.sk rfl rfl rfl hg19 (WH.sk rfl rfl rfl hg19 ?_)))
         refine WH.skip (OpOk.not2 rfl rfl rfl) ?_
         refine WH.skip (OpOk.not2 rfl rfl rfl) ?_
         refine WH.sk rfl rfl rfl hg19 ?_
         refine WH.val (O.pick_t rfl rfl rfl rfl Taken.no) rfl rfl ?_
         refine WH.nil (E.to ?_)
         refine W.pick (K:=[(1,_),(3,_),(6,_),(7,_),(8,_),(10,_),(161,_)]) (Z:=[(101,_),(102,_),(103,_),(106,_)]) ⟨rfl,rfl,rfl,rfl,rfl,rfl,rfl,trivial⟩ ⟨rfl,rfl,rfl,rfl,trivial⟩ ?_
         refine W.cond_t rfl ?_
         refine W.rg (SL.an rfl rfl (SL.an rfl rfl (SL.an rfl rfl (E.fo (W.ret (E.thr (E.thr ?_)))))))
         refine E.nilsl 6 1 rfl ?_
         refine E.fin (rs := [_, _, _]) (rn []) (.inl rfl) rfl (.cons (ResOne.tmp rfl) (.cons (ResOne.tmp rfl) (.cons (ResOne.tmp rfl) .nil))) ?_ ?_ rfl (fixL_spec rfl)
         ·skip
          subst hs
          first | ((have hno : ¬ posR n (barL rs) (atomsL n rs) m ⟨false, (f : Int), (t : Int)⟩ := fun q => by ((obtain ⟨⟨q1, q2, q3, q4, q5⟩, q6, q7, q8⟩ := preR_iff.1 q.1); (try simp only [Int.toNat_natCast] at q6 q7 q8); (first | (have q8 := (q8 (by trivial)).1; omega) | (have q8 := (q8 (by trivial)).2.1 (by omega); omega) | (have q8 := (q8 (by trivial)).2.2 (by omega); simp_all)))); rw [(apR_n hno).1, (apR_n hno).2, dec_f hno]; rfl) | ((have hno : ¬ posR n (barL rs) (atomsL n rs) m ⟨false, (f : Int), -1⟩ := fun q => by ((obtain ⟨⟨q1, q2, q3, q4, q5⟩, q6, q7, q8⟩ := preR_iff.1 q.1); (try simp only [Int.toNat_natCast] at q6 q7 q8); (first | (have q8 := (q8 (by trivial)).1; omega) | (have q8 := (q8 (by trivial)).2.1 (by omega); omega) | (have q8 := (q8 (by trivial)).2.2 (by omega); simp_all)))); rw [(apR_n hno).1, (apR_n hno).2, dec_f hno]; rfl)
         · exact SubS.nil
      ·skip
       first | have hg6p := G.gA7 hg6 | have hg6p := G.gA8 hg6 | have hg6p := hg6
       refine WH.sk rfl rfl rfl hg6 (WH.sk rfl rfl rfl hg6 (WH.sk rfl rfl rfl hg6 (WH.sk rfl rfl rfl hg6 ?_)))
       refine WH.skip (OpOk.not2 rfl rfl rfl) ?_
       refine WH.skip (OpOk.not2 rfl rfl rfl) ?_
       refine WH.skip (OpOk.not2 rfl rfl rfl) ?_
       refine WH.skip (OpOk.not2 rfl rfl rfl) ?_
       refine WH.skip (OpOk.not2 rfl rfl rfl) ?_
       refine WH.skip (OpOk.not2 rfl rfl rfl) ?_
       refine WH.skip (OpOk.not2 rfl rfl rfl) ?_
       refine WH.skip (OpOk.not2 rfl rfl rfl) ?_
       refine WH.sk rfl rfl rfl hg6 ?_
       refine WH.val (O.pick_t rfl (G.ne_f hg6) rfl rfl Taken.no) rfl rfl ?_
       refine WH.nil (E.to ?_)
       refine W.pick (K:=[(1,_),(3,_),(5,_),(6,_),(7,_),(8,_),(58,_)]) (Z:=[(101,_),(102,_)]) ⟨rfl,rfl,rfl,rfl,rfl,rfl,rfl,trivial⟩ ⟨rfl,rfl,trivial⟩ ?_
       refine W.cond_t rfl ?_
       refine W.rg (SL.an rfl rfl (SL.an rfl rfl (SL.an rfl rfl (E.fo (W.ret (E.thr ?_))))))
       refine E.nilsl 6 1 rfl ?_
       refine E.fin (rs := [_, _, _]) (rn []) (.inl rfl) rfl (.cons (ResOne.tmp rfl) (.cons (ResOne.tmp rfl) (.cons (ResOne.tmp rfl) .nil))) ?_ ?_ rfl (fixL_spec rfl)
       ·skip
        first | ((have hno : ¬ posR n (barL rs) (atomsL n rs) m ⟨u, f, t⟩ := fun q => by ((obtain ⟨⟨q1, q2, q3, q4, q5⟩, q6, q7, q8⟩ := preR_iff.1 q.1); (try simp only [Int.toNat_natCast] at q6 q7 q8); (first | omega | (have q5 := q5 (by omega); simp_all) | (have q6 := q6 (by omega); omega)))); rw [(apR_n hno).1, (apR_n hno).2, dec_f hno]; rfl)
       · exact SubS.nil
     ·skip
      first | have hg5p := G.gA5 hg5 | have hg5p := G.gA6 hg5 | have hg5p := hg5
      refine WH.sk rfl rfl rfl hg5 (WH.sk rfl rfl rfl hg5 ?_)
      refine WH.val (O.pick_f rfl (G.ne_t hg5) rfl rfl (Taken.yes rfl rfl hg4)) rfl rfl ?_
      refine WH.val (O.pick_f rfl hg4 rfl rfl Taken.no) rfl rfl ?_
      refine WH.mv rfl rfl rfl ?_
      have hg20 : false = false := by decide
      refine WH.val (O.fld_ref (o' := 2) rfl Try.underlying57 rfl (m := 0) (by kernel_rfl) rfl rfl (Taken.yes rfl rfl hg20)) rfl rfl ?_
      refine WH.val (O.ld1 (PtI.ref rfl rfl) rfl Try.underlying3 rfl rfl (Taken.yes rfl rfl hg20)) rfl rfl ?_
      refine WH.val (O.det (fun _ => G.R.mv (G.R.geq rfl rfl) (congrArg Value.bool (decide_eq_true (by omega)))) rfl (Taken.yes rfl rfl hg20)) rfl rfl ?_
      refine WH.val (O.move rfl rfl (Taken.yes rfl rfl hg20)) rfl rfl ?_
      have hg21 : true = true := by decide
      refine WH.val (O.move rfl rfl (Taken.yes rfl rfl hg21)) rfl rfl ?_
      refine WH.val (O.fld_ref (o' := 2) rfl Try.underlying57 rfl (m := 0) (by kernel_rfl) rfl rfl (Taken.yes rfl rfl hg21)) rfl rfl ?_
      refine WH.val (O.ld1 (PtI.ref rfl rfl) rfl Try.underlying3 rfl rfl (Taken.yes rfl rfl hg21)) rfl rfl ?_
      refine WH.val (O.idx_fz (i := t.toNat) rfl rfl (by omega) (row_get (by omega)) Try.underlying39 hi3 hs3 rfl (Taken.yes rfl rfl hg21)) rfl rfl ?_
      refine WH.val (O.ld1 (PtI.ofU (PtU.fz rfl)) rfl Try.underlying3 rfl rfl (Taken.yes rfl rfl hg21)) rfl rfl ?_
      refine WH.val (O.fld_ref (o' := 2) rfl Try.underlying57 rfl (m := 0) (by kernel_rfl) rfl rfl (Taken.yes rfl rfl hg21)) rfl rfl ?_
      refine WH.val (O.ld1 (PtI.ref rfl rfl) rfl Try.underlying3 rfl rfl (Taken.yes rfl rfl hg21)) rfl rfl ?_
      refine WH.val (O.det (fun _ => G.R.neq rfl rfl) rfl (Taken.yes rfl rfl hg21)) rfl rfl ?_
      refine WH.val (O.pick_t rfl rfl rfl rfl (Taken.yes rfl rfl hg20)) rfl rfl ?_
      refine WH.val (O.pick_f rfl rfl rfl rfl Taken.no) rfl rfl ?_
      refine WH.nil (E.to ?_)
      refine W.pick (K:=[(1,_),(3,_),(5,_),(6,_),(7,_),(8,_),(58,_)]) (Z:=[(101,_),(102,_)]) ⟨rfl,rfl,rfl,rfl,rfl,rfl,rfl,trivial⟩ ⟨rfl,rfl,trivial⟩ ?_
      first | refine W.cond_d rfl (fun hc22 => ?_) (fun hc22 => ?_) | refine W.cond_nd rfl (fun hc22 => ?_) (fun hc22 => ?_) | refine W.cond rfl (fun hc22 => ?_) (fun hc22 => ?_)
      ·skip
       refine W.rg (SL.an rfl rfl (SL.an rfl rfl (SL.an rfl rfl (E.fo (W.ret (E.thr ?_))))))
       refine E.nilsl 6 1 rfl ?_
       refine E.fin (rs := [_, _, _]) (rn []) (.inl rfl) rfl (.cons (ResOne.tmp rfl) (.cons (ResOne.tmp rfl) (.cons (ResOne.tmp rfl) .nil))) ?_ ?_ rfl (fixL_spec rfl)
       ·skip
        first | ((have hno : ¬ posR n (barL rs) (atomsL n rs) m ⟨u, f, t⟩ := fun q => by ((obtain ⟨⟨q1, q2, q3, q4, q5⟩, q6, q7, q8⟩ := preR_iff.1 q.1); (try simp only [Int.toNat_natCast] at q6 q7 q8); (first | omega | (have q5 := q5 (by omega); simp_all) | (have q6 := q6 (by omega); omega)))); rw [(apR_n hno).1, (apR_n hno).2, dec_f hno]; rfl)
       · exact SubS.nil
      ·skip
       refine W.skip (E.to (W.rg ?_))
       obtain ⟨t, rfl⟩ : ∃ k : Nat, t = (k : Int) := ⟨t.toNat, by omega⟩
       have hmt : m[t]! = t := by first | omega | (simp only [Int.toNat_natCast] at *; omega)
       obtain ⟨f, rfl⟩ : ∃ k : Nat, f = (k : Int) := ⟨f.toNat, by omega⟩
       refine SL.val (O.ldN (m := 3) (PtI.ref rfl rfl) (js := [_, _, _]) rfl (Nat.le_of_ble_eq_true rfl) Try.underlying25 rfl (by kernel_rfl) rfl Taken.no) ?_
       refine SL.memS (O.call (rn [(0, 109)]) [] rfl rfl rfl (refatoms_h hf) (.cons (ArgOk.aggU (.cons (ArgOk.same rfl) (.cons (ArgOk.same rfl) (.cons (ArgOk.same rfl) .nil)))) .nil) SubS.nil rfl rfl rfl rfl rfl (.inl rfl) hcallOk37 (r' := .own 109) rfl rfl Taken.no) rfl rfl (S' := (109, .data _ _ _) :: _) rfl ?_
       refine SL.an rfl rfl (E.fo (W.rg ?_))
       refine SL.memS (O.buildSlice 110 (rows := ([] : List Nat).map eN) rfl rfl Try.underlying39 hi3 hz3 hs3 (by decide) rfl (by decide) rfl rfl rfl Taken.no) rfl rfl (S' := (110, .data 3 1 (([] : List Nat).map eN)) :: _) rfl ?_
       refine SL.mv rfl rfl ?_
       refine SL.memS (O.app (k' := 111) rfl rfl (SlOf.fz rfl (by decide)) Try.underlying39 hi3 hz3 hs3 rfl rfl (by exact List.nil_append _) (by rw [hb3]; (simp only [List.length_map, List.length_nil]; omega)) (by (simp only [List.length_map, List.length_nil]; omega)) rfl Taken.no) rfl rfl (S' := (111, _) :: (110, .dead) :: _) rfl ?_
       refine SL.an rfl rfl (E.fo (W.seq (W.rg ?_)))
       refine SL.val (O.fld_ref (o' := 0) rfl Try.underlying57 rfl (m := 0) (by kernel_rfl) rfl rfl Taken.no) ?_
       refine SL.val (O.ld1 (PtI.ref rfl rfl) rfl Try.underlying4 rfl rfl Taken.no) ?_
       refine E.fo ?_
       first | refine W.cond_d rfl (fun hc23 => ?_) (fun hc23 => ?_) | refine W.cond_nd rfl (fun hc23 => ?_) (fun hc23 => ?_) | refine W.cond rfl (fun hc23 => ?_) (fun hc23 => ?_)
       ·skip
        obtain rfl : u = true := by simp_all
        refine W.seq (W.seq ?_)
        refine W.draw [⟨[], [], [], []⟩, ⟨[], [], [], [102]⟩, ⟨[102], [], [], []⟩, ⟨[], [], [], []⟩, ⟨[], [], [], []⟩, ⟨[], [], [], [102]⟩, ⟨[102], [], [], []⟩, ⟨[], [], [], []⟩, ⟨[], [], [], []⟩, ⟨[], [], [], [102]⟩, ⟨[102], [], [], []⟩, ⟨[], [], [], [102]⟩, ⟨[102], [], [], []⟩, ⟨[], [], [], []⟩, ⟨[], [], [], []⟩] rfl (by kernel_rfl) (by kernel_rfl) rfl rfl ?_
        refine WH.mv rfl rfl rfl ?_
        refine WH.val (O.fld_ref (o' := 1) rfl Try.underlying57 rfl (m := 0) (by kernel_rfl) rfl rfl Taken.no) rfl rfl ?_
        refine WH.val (O.ld1 (PtI.ref rfl rfl) rfl Try.underlying3 rfl rfl Taken.no) rfl rfl ?_
        refine WH.val (O.idx_fz (i := f) rfl rfl (rfl) (row_get (by omega)) Try.underlying39 hi3 hs3 rfl Taken.no) rfl rfl ?_
        refine WH.val (O.ld1 (PtI.ofU (PtU.fz rfl)) rfl Try.underlying3 rfl rfl Taken.no) rfl rfl ?_
        refine WH.val (O.fld_ref (o' := 1) rfl Try.underlying57 rfl (m := 0) (by kernel_rfl) rfl rfl Taken.no) rfl rfl ?_
        refine WH.val (O.ld1 (PtI.ref rfl rfl) rfl Try.underlying3 rfl rfl Taken.no) rfl rfl ?_
        refine WH.val (O.det (fun _ => G.R.neq rfl rfl) rfl Taken.no) rfl rfl ?_
        refine WH.mv rfl rfl rfl ?_
        refine WH.case (j := 8) (g := 74) (want := false) rfl rfl (fun hg24 => ?_) (fun hg24 => ?_)
        ·skip
         first | have hg24p := G.gA3 hg24 | have hg24p := G.gA4 hg24 | have hg24p := hg24
         refine WH.val (O.fld_ref (o' := 1) rfl Try.underlying57 rfl (m := 0) (by kernel_rfl) rfl rfl (Taken.yes rfl rfl hg24)) rfl rfl ?_
         refine WH.val (O.ld1 (PtI.ref rfl rfl) rfl Try.underlying3 rfl rfl (Taken.yes rfl rfl hg24)) rfl rfl ?_
         refine WH.val (O.fld_ref (o' := 2) rfl Try.underlying57 rfl (m := 0) (by kernel_rfl) rfl rfl (Taken.yes rfl rfl hg24)) rfl rfl ?_
         refine WH.val (O.ld1 (PtI.ref rfl rfl) rfl Try.underlying3 rfl rfl (Taken.yes rfl rfl hg24)) rfl rfl ?_
         refine WH.val (O.det (fun _ => G.R.geq rfl rfl) rfl (Taken.yes rfl rfl hg24)) rfl rfl ?_
         refine WH.val (O.pick_f rfl hg24 rfl rfl Taken.no) rfl rfl ?_
         refine WH.nil (E.to ?_)
         refine W.pick (K:=[(1,_),(3,_),(5,_),(6,_),(7,_),(8,_),(10,_),(80,_)]) (Z:=[(101,_),(102,_),(109,_),(111,_)]) ⟨rfl,rfl,rfl,rfl,rfl,rfl,rfl,rfl,trivial⟩ ⟨rfl,rfl,rfl,rfl,trivial⟩ ?_
         first | refine W.cond_d rfl (fun hc25 => ?_) (fun hc25 => ?_) | refine W.cond_nd rfl (fun hc25 => ?_) (fun hc25 => ?_) | refine W.cond rfl (fun hc25 => ?_) (fun hc25 => ?_)
         ·skip
          refine W.rg (SL.an rfl rfl (SL.an rfl rfl (SL.an rfl rfl (E.fo (W.ret (E.thr (E.thr ?_)))))))
          refine E.nilsl 6 1 rfl ?_
          refine E.fin (rs := [_, _, _]) (rn []) (.inl rfl) rfl (.cons (ResOne.tmp rfl) (.cons (ResOne.tmp rfl) (.cons (ResOne.tmp rfl) .nil))) ?_ ?_ rfl (fixL_spec rfl)
          ·skip
           first | ((have hno : ¬ posR n (barL rs) (atomsL n rs) m ⟨true, (f : Int), (t : Int)⟩ := fun q => by ((obtain ⟨⟨q1, q2, q3, q4, q5⟩, q6, q7, q8⟩ := preR_iff.1 q.1); (try simp only [Int.toNat_natCast] at q6 q7 q8); (have q7 := q7 (by trivial); omega))); rw [(apR_n hno).1, (apR_n hno).2, dec_f hno]; rfl)
          · exact SubS.nil
         ·skip
          refine W.skip (E.to (W.region (SL.mv rfl rfl ?_)))
          refine SL.val (O.fld_ref (o' := 1) rfl Try.underlying57 rfl (m := 0) (by kernel_rfl) rfl rfl Taken.no) ?_
          refine SL.val (O.ld1 (PtI.ref rfl rfl) rfl Try.underlying3 rfl rfl Taken.no) ?_
          refine SL.val (O.fld_ref (o' := 2) rfl Try.underlying57 rfl (m := 0) (by kernel_rfl) rfl rfl Taken.no) ?_
          refine SL.val (O.ld1 (PtI.ref rfl rfl) rfl Try.underlying3 rfl rfl Taken.no) ?_
          refine SL.memS (O.call (rn [(0, 111)]) [] rfl rfl rfl (join_h (l := m) (f : Int) (t : Int) (by omega) (by omega) (by omega)) (.cons (ArgOk.same rfl) (.cons (ArgOk.same rfl) (.cons (ArgOk.same rfl) .nil))) (SubS.cons rfl SubS.nil) rfl rfl rfl rfl rfl (.inl rfl) hcallOk57 (r' := .tup []) rfl rfl Taken.no) rfl rfl (S' := (111, .data _ _ _) :: _) rfl ?_
          refine E.fo (W.seq (W.rg ?_))
          obtain ⟨s, hs⟩ : ∃ s : Stp, s = ⟨true, (f : Int), (t : Int)⟩ := ⟨_, rfl⟩
          have hX : joinL m f t = (labL n (atomsL n rs) m s) := by rw [hs]; rfl
          have hpre : preR n (atomsL n rs) m s := by rw [hs]; exact preR_iff.2 ⟨⟨by omega, by omega, by omega, by omega, fun h => by exfalso; omega⟩, fun _ => by show m[t]! = t; omega, fun _ => ⟨by show m[f]! = f; omega, by omega⟩, fun h => (by cases h)⟩
          rw [show joinL m ((f : Int)).toNat ((t : Int)).toNat = joinL m f t from rfl, hX]
          have hll : (labL n (atomsL n rs) m s).length = n := labL_len hml
          refine SL.val (O.ldN (m := 3) (PtI.ref rfl rfl) (js := [_, _, _]) rfl (Nat.le_of_ble_eq_true rfl) Try.underlying25 rfl (by kernel_rfl) rfl Taken.no) ?_
          refine SL.mv rfl rfl ?_
          refine SL.memS (O.call (rn []) [111] rfl rfl rfl (refapart_h hf (m := (labL n (atomsL n rs) m s)) hll) (.cons (ArgOk.aggU (.cons (ArgOk.same rfl) (.cons (ArgOk.same rfl) (.cons (ArgOk.same rfl) .nil)))) (.cons (ArgOk.own rfl rfl) .nil)) SubS.nil rfl rfl rfl rfl rfl (.inr ⟨rfl, fun x hx => by simp at hx⟩) hcallOk36 (r' := .u _) rfl rfl Taken.no) rfl rfl (S' := _) rfl ?_
          refine SL.val (O.det (fun _ => G.R.not rfl) rfl Taken.no) ?_
          refine E.fo ?_
          first | refine W.cond_d rfl (fun hc26 => ?_) (fun hc26 => ?_) | refine W.cond_nd rfl (fun hc26 => ?_) (fun hc26 => ?_) | refine W.cond rfl (fun hc26 => ?_) (fun hc26 => ?_)
          ·skip
           refine W.rg (SL.an rfl rfl (SL.an rfl rfl (SL.an rfl rfl (E.fo (W.ret (E.thr ?_))))))
           refine E.nilsl 6 1 rfl ?_
           refine E.fin (rs := [_, _, _]) (rn []) (.inl rfl) rfl (.cons (ResOne.tmp rfl) (.cons (ResOne.tmp rfl) (.cons (ResOne.tmp rfl) .nil))) ?_ ?_ rfl (fixL_spec rfl)
           ·skip
            have hno : ¬ posR n (barL rs) (atomsL n rs) m s := fun q => by have q2 := q.2; simp_all
            rw [← hs, (apR_n hno).1, (apR_n hno).2, dec_f hno]; rfl
           · exact SubS.nil
          ·skip
           refine W.skip (E.to (W.rg ?_))
           refine SL.val (O.ldN (m := 3) (PtI.ref rfl rfl) (js := [_, _, _]) rfl (Nat.le_of_ble_eq_true rfl) Try.underlying25 rfl (by kernel_rfl) rfl Taken.no) ?_
           refine SL.mv rfl rfl ?_
           refine SL.memS (O.call (rn [(0, 112)]) [111] rfl rfl rfl (refconn_h hf (m := (labL n (atomsL n rs) m s)) hll) (.cons (ArgOk.aggU (.cons (ArgOk.same rfl) (.cons (ArgOk.same rfl) (.cons (ArgOk.same rfl) .nil)))) (.cons (ArgOk.own rfl rfl) .nil)) SubS.nil rfl rfl rfl rfl rfl (.inr ⟨rfl, fun x hx => by rw [List.mem_singleton] at hx; subst hx; exact flat_N _⟩) hcallOk43 (r' := .own 112) rfl rfl Taken.no) rfl rfl (S' := (112, .data _ _ _) :: _) rfl ?_
           refine SL.an rfl rfl (E.fo (W.seq ?_))
           refine W.freeze 112 rfl (F' := [(10, _)]) (⟨⟨_, rfl, rfl⟩, trivial⟩) ?_
           refine W.draw [⟨[], [], [], []⟩, ⟨[101], [], [], []⟩, ⟨[], [], [], []⟩, ⟨[], [], [], []⟩, ⟨[101], [], [], []⟩, ⟨[], [], [], []⟩, ⟨[], [], [], []⟩, ⟨[], [], [], []⟩, ⟨[], [], [], []⟩, ⟨[], [], [], []⟩, ⟨[], [], [], []⟩] rfl (by kernel_rfl) (by kernel_rfl) rfl rfl ?_
           refine WH.mv rfl rfl rfl ?_
           refine WH.val (O.ldN (m := 3) (PtI.ref rfl rfl) (js := [_, _, _]) rfl (Nat.le_of_ble_eq_true rfl) Try.underlying25 rfl (by kernel_rfl) rfl Taken.no) rfl rfl ?_
           refine WH.mv rfl rfl rfl ?_
           refine WH.val (O.callp rfl rfl rfl (refvalue_h hf (m := resR n ps rs m s) (res_comp hf m s).len hpl) (.cons (ArgOk.aggU (.cons (ArgOk.same rfl) (.cons (ArgOk.same rfl) (.cons (ArgOk.same rfl) .nil)))) (.cons (ArgOk.same rfl) .nil)) hcallOk48 rfl Taken.no) rfl rfl ?_
           refine WH.val (O.ldN (m := 3) (PtI.ref rfl rfl) (js := [_, _, _]) rfl (Nat.le_of_ble_eq_true rfl) Try.underlying25 rfl (by kernel_rfl) rfl Taken.no) rfl rfl ?_
           refine WH.mv rfl rfl rfl ?_
           refine WH.val (O.callp rfl rfl rfl (refvalue_h hf (m := m) hml hpl) (.cons (ArgOk.aggU (.cons (ArgOk.same rfl) (.cons (ArgOk.same rfl) (.cons (ArgOk.same rfl) .nil)))) (.cons (ArgOk.same rfl) .nil)) hcallOk48 rfl Taken.no) rfl rfl ?_
           have hv1 := valR_le hf (resR n ps rs m s)
           have hv2 := valR_le hf m
           refine WH.val (O.det (fun _ => by first | exact G.R.sub64 rfl rfl (by omega) | exact G.R.sub rfl rfl) rfl Taken.no) rfl rfl ?_
           refine WH.val (O.assign rfl rfl Taken.no) rfl rfl ?_
           refine WH.val (O.assign rfl rfl Taken.no) rfl rfl ?_
           refine WH.val (O.assign rfl rfl Taken.no) rfl rfl ?_
           refine WH.nil (E.to ?_)
           refine W.pick (K:=[(6,_),(7,_),(8,_)]) (Z:=[(101,_),(102,_),(109,_),(111,_)]) ⟨rfl,rfl,rfl,trivial⟩ ⟨rfl,rfl,rfl,rfl,trivial⟩ ?_
           refine W.ret ?_
           refine E.fin (rs := [_, _, _]) (rn []) (.inl rfl) rfl (.cons (ResOne.tmp rfl) (.cons (ResOne.tmp rfl) (.cons (ResOne.tmp rfl) .nil))) ?_ ?_ rfl (fixL_spec rfl)
           ·skip
            have hyes : posR n (barL rs) (atomsL n rs) m s := ⟨hpre, by simp_all⟩
            rw [← hs, (apR_y hyes).1, (apR_y hyes).2, dec_t hyes]; rfl
           · exact SubS.nil
        ·skip
         first | have hg24p := G.gA7 hg24 | have hg24p := G.gA8 hg24 | have hg24p := hg24
         refine WH.sk rfl rfl rfl hg24 (WH.sk rfl rfl rfl hg24 (WH.sk rfl rfl rfl hg24 (WH.sk rfl rfl rfl hg24 (WH.sk rfl rfl rfl hg24 ?_))))
         refine WH.val (O.pick_t rfl (G.ne_f hg24) rfl rfl Taken.no) rfl rfl ?_
         refine WH.nil (E.to ?_)
         refine W.pick (K:=[(1,_),(3,_),(5,_),(6,_),(7,_),(8,_),(10,_),(80,_)]) (Z:=[(101,_),(102,_),(109,_),(111,_)]) ⟨rfl,rfl,rfl,rfl,rfl,rfl,rfl,rfl,trivial⟩ ⟨rfl,rfl,rfl,rfl,trivial⟩ ?_
         refine W.cond_t rfl ?_
         refine W.rg (SL.an rfl rfl (SL.an rfl rfl (SL.an rfl rfl (E.fo (W.ret (E.thr (E.thr ?_)))))))
         refine E.nilsl 6 1 rfl ?_
         refine E.fin (rs := [_, _, _]) (rn []) (.inl rfl) rfl (.cons (ResOne.tmp rfl) (.cons (ResOne.tmp rfl) (.cons (ResOne.tmp rfl) .nil))) ?_ ?_ rfl (fixL_spec rfl)
         ·skip
          first | ((have hno : ¬ posR n (barL rs) (atomsL n rs) m ⟨true, (f : Int), (t : Int)⟩ := fun q => by ((obtain ⟨⟨q1, q2, q3, q4, q5⟩, q6, q7, q8⟩ := preR_iff.1 q.1); (try simp only [Int.toNat_natCast] at q6 q7 q8); (have q7 := q7 (by trivial); omega))); rw [(apR_n hno).1, (apR_n hno).2, dec_f hno]; rfl)
         · exact SubS.nil
       ·skip
        obtain rfl : u = false := by simp_all
        obtain ⟨s, hs⟩ : ∃ s : Stp, s = ⟨false, (f : Int), (t : Int)⟩ := ⟨_, rfl⟩
        have hfe : s.f.toNat = f := by rw [hs]; rfl
        have hue : s.u = false := by rw [hs]
        have hte : (if s.t < 0 then n else s.t.toNat) = t := by rw [hs]; exact if_neg (by show ¬ ((t : Int) < 0); omega)
        refine W.rg (SL.an rfl rfl (E.fo (W.seq (W.rg (SL.an rfl rfl (E.fo (W.block ?_)))))))
        refine W.loopx1 (fun (k : Nat) => [(12, vI (k : Int)), (11, vB (othR k (atomsL n rs) m f)), (10, .own 113)]) (fun (k : Nat) => [(113, .data 3 1 ((mvK n k (atomsL n rs) m s).map eN))]) (fun (k : Nat) => k ≤ n) (fun (k : Nat) => n - k) (0) (rn [(113, 111)]) (.cons (t := 1) rfl (.cons (t := 3) rfl (.cons (t := 5) rfl (.cons (t := 6) rfl (.cons (t := 7) rfl (.cons (t := 8) rfl (.cons (t := 9) rfl .nil))))))) (.cons (t := 101) rfl (.cons (t := 102) rfl (.cons (t := 109) rfl .nil))) rfl ?_ ?_ rfl rfl ?_ ?_
        · exact (SubF.cons rfl (SubF.cons rfl (SubF.cons rfl SubF.nil)))
        · exact (SubS.val rfl (by exact sb_data (by rw [mvK_0 hml])) SubS.nil)
        ·skip
         omega
        intro k hinv
        have hk := hinv
        have hmkl : (mvK n k (atomsL n rs) m s).length = n := mvK_len
        refine W.seq (W.rg (SL.mv rfl rfl ?_))
        refine SL.val (O.fld_ref (o' := 0) rfl Try.underlying25 rfl (m := 0) (by kernel_rfl) rfl rfl Taken.no) ?_
        refine SL.val (O.ld1 (PtI.ref rfl rfl) rfl Try.underlying3 rfl rfl Taken.no) ?_
        refine SL.val (O.det (fun _ => G.R.lss rfl rfl) rfl Taken.no) ?_
        refine E.fo ?_
        first | refine W.cond_d rfl (fun hc27 => ?_) (fun hc27 => ?_) | refine W.cond_nd rfl (fun hc27 => ?_) (fun hc27 => ?_) | refine W.cond rfl (fun hc27 => ?_) (fun hc27 => ?_)
        ·skip
         refine W.skip (E.to (W.seq (W.block (W.seq ?_))))
         refine W.draw [⟨[], [], [], []⟩, ⟨[], [], [], []⟩, ⟨[], [], [], []⟩, ⟨[], [], [], []⟩, ⟨[], [], [], []⟩, ⟨[], [], [], []⟩, ⟨[], [], [], []⟩, ⟨[], [], [], [102]⟩, ⟨[102], [], [], []⟩, ⟨[], [], [], []⟩, ⟨[], [], [], []⟩, ⟨[], [], [], []⟩, ⟨[], [], [], []⟩, ⟨[], [], [], [109]⟩, ⟨[], [], [], []⟩, ⟨[109], [], [], []⟩, ⟨[109], [], [], []⟩, ⟨[], [], [], [102]⟩, ⟨[102], [], [], []⟩, ⟨[], [], [], []⟩, ⟨[], [], [], []⟩, ⟨[], [], [], []⟩, ⟨[], [], [], []⟩] rfl (by kernel_rfl) (by kernel_rfl) rfl rfl ?_
         refine WH.mv rfl rfl rfl (WH.mv rfl rfl rfl ?_)
         refine WH.case (j := 1) (g := 94) (want := false) rfl rfl (fun hg28 => ?_) (fun hg28 => ?_)
         ·skip
          first | have hg28p := G.gA3 hg28 | have hg28p := G.gA4 hg28 | have hg28p := hg28
          refine WH.val (O.move rfl rfl (Taken.yes rfl rfl hg28)) rfl rfl ?_
          refine WH.val (O.move rfl rfl (Taken.yes rfl rfl hg28)) rfl rfl ?_
          refine WH.val (O.idx_fz (i := k) rfl rfl (rfl) (row_get (by omega)) Try.underlying39 hi3 hs3 rfl (Taken.yes rfl rfl hg28)) rfl rfl ?_
          refine WH.val (O.ld1 (PtI.ofU (PtU.fz rfl)) rfl Try.underlying3 rfl rfl (Taken.yes rfl rfl hg28)) rfl rfl ?_
          refine WH.val (O.move rfl rfl (Taken.yes rfl rfl hg28)) rfl rfl ?_
          refine WH.val (O.fld_ref (o' := 1) rfl Try.underlying57 rfl (m := 0) (by kernel_rfl) rfl rfl (Taken.yes rfl rfl hg28)) rfl rfl ?_
          refine WH.val (O.ld1 (PtI.ref rfl rfl) rfl Try.underlying3 rfl rfl (Taken.yes rfl rfl hg28)) rfl rfl ?_
          refine WH.val (O.idx_fz (i := f) rfl rfl (rfl) (row_get (by omega)) Try.underlying39 hi3 hs3 rfl (Taken.yes rfl rfl hg28)) rfl rfl ?_
          refine WH.val (O.ld1 (PtI.ofU (PtU.fz rfl)) rfl Try.underlying3 rfl rfl (Taken.yes rfl rfl hg28)) rfl rfl ?_
          refine WH.val (O.det (fun _ => G.R.eql rfl rfl) rfl (Taken.yes rfl rfl hg28)) rfl rfl ?_
          refine WH.val (O.move rfl rfl (Taken.yes rfl rfl hg28)) rfl rfl ?_
          refine WH.case (j := 12) (g := 105) (want := true) rfl rfl (fun hg29 => ?_) (fun hg29 => ?_)
          ·skip
           first | have hg29p := G.gA1 hg29 | have hg29p := G.gA2 hg29 | have hg29p := hg29
           refine WH.val (O.move rfl rfl (Taken.yes rfl rfl hg29)) rfl rfl ?_
           refine WH.val (O.move rfl rfl (Taken.yes rfl rfl hg29)) rfl rfl ?_
           refine WH.val (O.idx_own (i := k) rfl rfl rfl (rfl) (by rw [List.length_map]; omega) Try.underlying39 hi3 hs3 rfl (Taken.yes rfl rfl hg29)) rfl rfl ?_
           refine WH.val (O.ld1 (PtI.ofU (PtU.el rfl rfl (row_get (by omega)))) rfl Try.underlying3 rfl rfl (Taken.yes rfl rfl hg29)) rfl rfl ?_
           refine WH.val (O.fld_ref (o' := 1) rfl Try.underlying57 rfl (m := 0) (by kernel_rfl) rfl rfl (Taken.yes rfl rfl hg29)) rfl rfl ?_
           refine WH.val (O.ld1 (PtI.ref rfl rfl) rfl Try.underlying3 rfl rfl (Taken.yes rfl rfl hg29)) rfl rfl ?_
           refine WH.val (O.det (fun _ => G.R.neq rfl rfl) rfl (Taken.yes rfl rfl hg29)) rfl rfl ?_
           refine WH.val (O.pick_t rfl hg29 rfl rfl (Taken.yes rfl rfl hg28)) rfl rfl ?_
           refine WH.val (O.pick_f rfl hg28 rfl rfl Taken.no) rfl rfl ?_
           refine WH.val (O.assign rfl rfl Taken.no) rfl rfl ?_
           refine WH.nil (E.to ?_)
           refine W.pick (K:=[(1,_),(3,_),(5,_),(6,_),(7,_),(8,_),(9,_),(10,_),(11,_),(12,_)]) (Z:=[(101,_),(102,_),(109,_),(113,_)]) ⟨rfl,rfl,rfl,rfl,rfl,rfl,rfl,rfl,rfl,rfl,trivial⟩ ⟨rfl,rfl,rfl,rfl,trivial⟩ ?_
           refine W.seq ?_
           refine W.draw [⟨[], [], [], [109]⟩, ⟨[], [], [], []⟩, ⟨[109], [], [], []⟩, ⟨[109], [], [], []⟩, ⟨[], [], [], [102]⟩, ⟨[102], [], [], []⟩, ⟨[], [], [], []⟩] rfl (by kernel_rfl) (by kernel_rfl) rfl rfl ?_
           refine WH.mv rfl rfl rfl (WH.mv rfl rfl rfl ?_)
           refine WH.val (O.idx_own (i := k) rfl rfl rfl (rfl) (by rw [List.length_map]; omega) Try.underlying39 hi3 hs3 rfl Taken.no) rfl rfl ?_
           refine WH.val (O.ld1 (PtI.ofU (PtU.el rfl rfl (row_get (by omega)))) rfl Try.underlying3 rfl rfl Taken.no) rfl rfl ?_
           refine WH.val (O.fld_ref (o' := 1) rfl Try.underlying57 rfl (m := 0) (by kernel_rfl) rfl rfl Taken.no) rfl rfl ?_
           refine WH.val (O.ld1 (PtI.ref rfl rfl) rfl Try.underlying3 rfl rfl Taken.no) rfl rfl ?_
           refine WH.val (O.det (fun _ => G.R.eql rfl rfl) rfl Taken.no) rfl rfl ?_
           refine WH.nil (E.to ?_)
           first | refine W.cond_d rfl (fun hc30 => ?_) (fun hc30 => ?_) | refine W.cond_nd rfl (fun hc30 => ?_) (fun hc30 => ?_) | refine W.cond rfl (fun hc30 => ?_) (fun hc30 => ?_)
           ·skip
            refine W.rg (SL.mv rfl rfl (SL.mv rfl rfl ?_))
            refine SL.val (O.fld_ref (o' := 2) rfl Try.underlying57 rfl (m := 0) (by kernel_rfl) rfl rfl Taken.no) ?_
            refine SL.val (O.ld1 (PtI.ref rfl rfl) rfl Try.underlying3 rfl rfl Taken.no) ?_
            refine SL.val (O.idx_own (i := k) rfl rfl rfl (rfl) (by rw [List.length_map]; omega) Try.underlying39 hi3 hs3 rfl Taken.no) ?_
            refine SL.effS (O.st_els (m := 1) rfl rfl rfl (us := [_]) rfl rfl (by kernel_rfl) (by simp) (row_get (by omega)) (by exact Nat.le_of_ble_eq_true rfl) rfl rfl (rows' := ((mvK n k (atomsL n rs) m s).set k t).map eN) (by exact set_map rfl) Taken.no) (S' := (113, _) :: _) rfl ?_
            refine E.fo (W.rg ?_)
            refine SL.val (O.fld_ref (o' := 2) rfl Try.underlying57 rfl (m := 0) (by kernel_rfl) rfl rfl Taken.no) ?_
            refine SL.val (O.ld1 (PtI.ref rfl rfl) rfl Try.underlying3 rfl rfl Taken.no) ?_
            refine SL.val (O.det (fun _ => G.R.mv (G.R.eql rfl rfl) (congrArg Value.bool (decide_eq_false (by omega)))) rfl Taken.no) ?_
            refine E.fo ?_
            refine W.pick (K:=[(1,_),(3,_),(5,_),(6,_),(7,_),(8,_),(9,_),(10,_),(11,_),(12,_),(129,_)]) (Z:=[(101,_),(102,_),(109,_),(113,_)]) ⟨rfl,rfl,rfl,rfl,rfl,rfl,rfl,rfl,rfl,rfl,rfl,trivial⟩ ⟨rfl,rfl,rfl,rfl,trivial⟩ ?_
            refine W.cond_f rfl ?_
            refine W.skip (E.inn (E.to (W.region (SL.mv rfl rfl ?_))))
            refine SL.val (O.det (fun _ => by first | exact G.R.add64 rfl rfl (by omega) | exact G.R.add rfl rfl) rfl Taken.no) ?_
            refine SL.an rfl rfl (SL.nil ?_)
            refine E.again ((k + 1)) (rn []) ?_ ?_ rfl (fixL_spec rfl) ?_ ?_
            · exact (SubF.cons rfl (SubF.val rfl (by (try dsimp only); exact iv_bool (by rw [oth_s]; (first | (simp_all; done) | (simp_all <;> omega)))) (SubF.cons rfl (SubF.cons rfl (SubF.cons rfl (SubF.cons rfl (SubF.cons rfl (SubF.cons rfl (SubF.cons rfl (SubF.cons rfl SubF.nil))))))))))
            · exact (SubS.val rfl (by (try dsimp only); first | exact sb_data (by rw [mvK_no (by omega) (by rw [hfe]; omega)]) | exact sb_data (by rw [mvK_y (by omega) (by rw [hfe]; omega), hte]; exact set2) | exact sb_data (by rw [mvK_y (by omega) (by rw [hfe]; omega), hte])) (SubS.cons rfl (SubS.cons rfl (SubS.cons rfl SubS.nil))))
            ·try dsimp only
             omega
            · (try dsimp only); omega
           ·skip
            refine W.skip (E.inn (E.to (W.region (SL.mv rfl rfl ?_))))
            refine SL.val (O.det (fun _ => by first | exact G.R.add64 rfl rfl (by omega) | exact G.R.add rfl rfl) rfl Taken.no) ?_
            refine SL.an rfl rfl (SL.nil ?_)
            refine E.again ((k + 1)) (rn []) ?_ ?_ rfl (fixL_spec rfl) ?_ ?_
            · exact (SubF.cons rfl (SubF.val rfl (by (try dsimp only); exact iv_bool (by rw [oth_s]; (first | (simp_all; done) | (simp_all <;> omega)))) (SubF.cons rfl (SubF.cons rfl (SubF.cons rfl (SubF.cons rfl (SubF.cons rfl (SubF.cons rfl (SubF.cons rfl (SubF.cons rfl SubF.nil))))))))))
            · exact (SubS.val rfl (by (try dsimp only); first | exact sb_data (by rw [mvK_no (by omega) (by rw [hfe]; omega)]) | exact sb_data (by rw [mvK_y (by omega) (by rw [hfe]; omega), hte]; exact set2) | exact sb_data (by rw [mvK_y (by omega) (by rw [hfe]; omega), hte])) (SubS.cons rfl (SubS.cons rfl (SubS.cons rfl SubS.nil))))
            ·try dsimp only
             omega
            · (try dsimp only); omega
          ·skip
           first | have hg29p := G.gA5 hg29 | have hg29p := G.gA6 hg29 | have hg29p := hg29
           refine WH.sk rfl rfl rfl hg29 (WH.sk rfl rfl rfl hg29 (WH.sk rfl rfl rfl hg29 (WH.sk rfl rfl rfl hg29 (WH.sk rfl rfl rfl hg29 (WH.sk rfl rfl rfl hg29 (WH.sk rfl rfl rfl hg29 ?_))))))
           refine WH.val (O.pick_f rfl (G.ne_t hg29) rfl rfl (Taken.yes rfl rfl hg28)) rfl rfl ?_
           refine WH.val (O.pick_f rfl hg28 rfl rfl Taken.no) rfl rfl ?_
           refine WH.val (O.assign rfl rfl Taken.no) rfl rfl ?_
           refine WH.nil (E.to ?_)
           refine W.pick (K:=[(1,_),(3,_),(5,_),(6,_),(7,_),(8,_),(9,_),(10,_),(11,_),(12,_)]) (Z:=[(101,_),(102,_),(109,_),(113,_)]) ⟨rfl,rfl,rfl,rfl,rfl,rfl,rfl,rfl,rfl,rfl,trivial⟩ ⟨rfl,rfl,rfl,rfl,trivial⟩ ?_
           refine W.seq ?_
           refine W.draw [⟨[], [], [], [109]⟩, ⟨[], [], [], []⟩, ⟨[109], [], [], []⟩, ⟨[109], [], [], []⟩, ⟨[], [], [], [102]⟩, ⟨[102], [], [], []⟩, ⟨[], [], [], []⟩] rfl (by kernel_rfl) (by kernel_rfl) rfl rfl ?_
           refine WH.mv rfl rfl rfl (WH.mv rfl rfl rfl ?_)
           refine WH.val (O.idx_own (i := k) rfl rfl rfl (rfl) (by rw [List.length_map]; omega) Try.underlying39 hi3 hs3 rfl Taken.no) rfl rfl ?_
           refine WH.val (O.ld1 (PtI.ofU (PtU.el rfl rfl (row_get (by omega)))) rfl Try.underlying3 rfl rfl Taken.no) rfl rfl ?_
           refine WH.val (O.fld_ref (o' := 1) rfl Try.underlying57 rfl (m := 0) (by kernel_rfl) rfl rfl Taken.no) rfl rfl ?_
           refine WH.val (O.ld1 (PtI.ref rfl rfl) rfl Try.underlying3 rfl rfl Taken.no) rfl rfl ?_
           refine WH.val (O.det (fun _ => G.R.eql rfl rfl) rfl Taken.no) rfl rfl ?_
           refine WH.nil (E.to ?_)
           first | refine W.cond_d rfl (fun hc31 => ?_) (fun hc31 => ?_) | refine W.cond_nd rfl (fun hc31 => ?_) (fun hc31 => ?_) | refine W.cond rfl (fun hc31 => ?_) (fun hc31 => ?_)
           ·skip
            refine W.rg (SL.mv rfl rfl (SL.mv rfl rfl ?_))
            refine SL.val (O.fld_ref (o' := 2) rfl Try.underlying57 rfl (m := 0) (by kernel_rfl) rfl rfl Taken.no) ?_
            refine SL.val (O.ld1 (PtI.ref rfl rfl) rfl Try.underlying3 rfl rfl Taken.no) ?_
            refine SL.val (O.idx_own (i := k) rfl rfl rfl (rfl) (by rw [List.length_map]; omega) Try.underlying39 hi3 hs3 rfl Taken.no) ?_
            refine SL.effS (O.st_els (m := 1) rfl rfl rfl (us := [_]) rfl rfl (by kernel_rfl) (by simp) (row_get (by omega)) (by exact Nat.le_of_ble_eq_true rfl) rfl rfl (rows' := ((mvK n k (atomsL n rs) m s).set k t).map eN) (by exact set_map rfl) Taken.no) (S' := (113, _) :: _) rfl ?_
            refine E.fo (W.rg ?_)
            refine SL.val (O.fld_ref (o' := 2) rfl Try.underlying57 rfl (m := 0) (by kernel_rfl) rfl rfl Taken.no) ?_
            refine SL.val (O.ld1 (PtI.ref rfl rfl) rfl Try.underlying3 rfl rfl Taken.no) ?_
            refine SL.val (O.det (fun _ => G.R.mv (G.R.eql rfl rfl) (congrArg Value.bool (decide_eq_false (by omega)))) rfl Taken.no) ?_
            refine E.fo ?_
            refine W.pick (K:=[(1,_),(3,_),(5,_),(6,_),(7,_),(8,_),(9,_),(10,_),(11,_),(12,_),(129,_)]) (Z:=[(101,_),(102,_),(109,_),(113,_)]) ⟨rfl,rfl,rfl,rfl,rfl,rfl,rfl,rfl,rfl,rfl,rfl,trivial⟩ ⟨rfl,rfl,rfl,rfl,trivial⟩ ?_
            refine W.cond_f rfl ?_
            refine W.skip (E.inn (E.to (W.region (SL.mv rfl rfl ?_))))
            refine SL.val (O.det (fun _ => by first | exact G.R.add64 rfl rfl (by omega) | exact G.R.add rfl rfl) rfl Taken.no) ?_
            refine SL.an rfl rfl (SL.nil ?_)
            refine E.again ((k + 1)) (rn []) ?_ ?_ rfl (fixL_spec rfl) ?_ ?_
            · exact (SubF.cons rfl (SubF.val rfl (by (try dsimp only); exact iv_bool (by rw [oth_s]; (first | (simp_all; done) | (simp_all <;> omega)))) (SubF.cons rfl (SubF.cons rfl (SubF.cons rfl (SubF.cons rfl (SubF.cons rfl (SubF.cons rfl (SubF.cons rfl (SubF.cons rfl SubF.nil))))))))))
            · exact (SubS.val rfl (by (try dsimp only); first | exact sb_data (by rw [mvK_no (by omega) (by rw [hfe]; omega)]) | exact sb_data (by rw [mvK_y (by omega) (by rw [hfe]; omega), hte]; exact set2) | exact sb_data (by rw [mvK_y (by omega) (by rw [hfe]; omega), hte])) (SubS.cons rfl (SubS.cons rfl (SubS.cons rfl SubS.nil))))
            ·try dsimp only
             omega
            · (try dsimp only); omega
           ·skip
            refine W.skip (E.inn (E.to (W.region (SL.mv rfl rfl ?_))))
            refine SL.val (O.det (fun _ => by first | exact G.R.add64 rfl rfl (by omega) | exact G.R.add rfl rfl) rfl Taken.no) ?_
            refine SL.an rfl rfl (SL.nil ?_)
            refine E.again ((k + 1)) (rn []) ?_ ?_ rfl (fixL_spec rfl) ?_ ?_
            · exact (SubF.cons rfl (SubF.val rfl (by (try dsimp only); exact iv_bool (by rw [oth_s]; (first | (simp_all; done) | (simp_all <;> omega)))) (SubF.cons rfl (SubF.cons rfl (SubF.cons rfl (SubF.cons rfl (SubF.cons rfl (SubF.cons rfl (SubF.cons rfl (SubF.cons rfl SubF.nil))))))))))
            · exact (SubS.val rfl (by (try dsimp only); first | exact sb_data (by rw [mvK_no (by omega) (by rw [hfe]; omega)]) | exact sb_data (by rw [mvK_y (by omega) (by rw [hfe]; omega), hte]; exact set2) | exact sb_data (by rw [mvK_y (by omega) (by rw [hfe]; omega), hte])) (SubS.cons rfl (SubS.cons rfl (SubS.cons rfl SubS.nil))))
            ·try dsimp only
             omega
            · (try dsimp only); omega
         ·skip
          first | have hg28p := G.gA7 hg28 | have hg28p := G.gA8 hg28 | have hg28p := hg28
          refine WH.sk rfl rfl rfl hg28 (WH.sk rfl rfl rfl hg28 (WH.sk rfl rfl rfl hg28 (WH.sk rfl rfl rfl hg28 (WH.sk rfl rfl rfl hg28 (WH.sk rfl rfl rfl hg28 (WH.sk rfl rfl rfl hg28 (WH.sk rfl rfl rfl hg28 (WH.sk rfl rfl rfl hg28 (WH.sk rfl rfl rfl hg28 (WH.sk rfl rfl rfl hg28 ?_))))))))))
          refine WH.skip (OpOk.not2 rfl rfl rfl) ?_
          refine WH.skip (OpOk.not2 rfl rfl rfl) ?_
          refine WH.skip (OpOk.not2 rfl rfl rfl) ?_
          refine WH.skip (OpOk.not2 rfl rfl rfl) ?_
          refine WH.skip (OpOk.not2 rfl rfl rfl) ?_
          refine WH.skip (OpOk.not2 rfl rfl rfl) ?_
          refine WH.skip (OpOk.not2 rfl rfl rfl) ?_
          refine WH.sk rfl rfl rfl hg28 ?_
          refine WH.val (O.pick_t rfl (G.ne_f hg28) rfl rfl Taken.no) rfl rfl ?_
          refine WH.val (O.assign rfl rfl Taken.no) rfl rfl ?_
          refine WH.nil (E.to ?_)
          refine W.pick (K:=[(1,_),(3,_),(5,_),(6,_),(7,_),(8,_),(9,_),(10,_),(11,_),(12,_)]) (Z:=[(101,_),(102,_),(109,_),(113,_)]) ⟨rfl,rfl,rfl,rfl,rfl,rfl,rfl,rfl,rfl,rfl,trivial⟩ ⟨rfl,rfl,rfl,rfl,trivial⟩ ?_
          refine W.seq ?_
          refine W.draw [⟨[], [], [], [109]⟩, ⟨[], [], [], []⟩, ⟨[109], [], [], []⟩, ⟨[109], [], [], []⟩, ⟨[], [], [], [102]⟩, ⟨[102], [], [], []⟩, ⟨[], [], [], []⟩] rfl (by kernel_rfl) (by kernel_rfl) rfl rfl ?_
          refine WH.mv rfl rfl rfl (WH.mv rfl rfl rfl ?_)
          refine WH.val (O.idx_own (i := k) rfl rfl rfl (rfl) (by rw [List.length_map]; omega) Try.underlying39 hi3 hs3 rfl Taken.no) rfl rfl ?_
          refine WH.val (O.ld1 (PtI.ofU (PtU.el rfl rfl (row_get (by omega)))) rfl Try.underlying3 rfl rfl Taken.no) rfl rfl ?_
          refine WH.val (O.fld_ref (o' := 1) rfl Try.underlying57 rfl (m := 0) (by kernel_rfl) rfl rfl Taken.no) rfl rfl ?_
          refine WH.val (O.ld1 (PtI.ref rfl rfl) rfl Try.underlying3 rfl rfl Taken.no) rfl rfl ?_
          refine WH.val (O.det (fun _ => G.R.eql rfl rfl) rfl Taken.no) rfl rfl ?_
          refine WH.nil (E.to ?_)
          first | refine W.cond_d rfl (fun hc32 => ?_) (fun hc32 => ?_) | refine W.cond_nd rfl (fun hc32 => ?_) (fun hc32 => ?_) | refine W.cond rfl (fun hc32 => ?_) (fun hc32 => ?_)
          ·skip
           refine W.rg (SL.mv rfl rfl (SL.mv rfl rfl ?_))
           refine SL.val (O.fld_ref (o' := 2) rfl Try.underlying57 rfl (m := 0) (by kernel_rfl) rfl rfl Taken.no) ?_
           refine SL.val (O.ld1 (PtI.ref rfl rfl) rfl Try.underlying3 rfl rfl Taken.no) ?_
           refine SL.val (O.idx_own (i := k) rfl rfl rfl (rfl) (by rw [List.length_map]; omega) Try.underlying39 hi3 hs3 rfl Taken.no) ?_
           refine SL.effS (O.st_els (m := 1) rfl rfl rfl (us := [_]) rfl rfl (by kernel_rfl) (by simp) (row_get (by omega)) (by exact Nat.le_of_ble_eq_true rfl) rfl rfl (rows' := ((mvK n k (atomsL n rs) m s).set k t).map eN) (by exact set_map rfl) Taken.no) (S' := (113, _) :: _) rfl ?_
           refine E.fo (W.rg ?_)
           refine SL.val (O.fld_ref (o' := 2) rfl Try.underlying57 rfl (m := 0) (by kernel_rfl) rfl rfl Taken.no) ?_
           refine SL.val (O.ld1 (PtI.ref rfl rfl) rfl Try.underlying3 rfl rfl Taken.no) ?_
           refine SL.val (O.det (fun _ => G.R.mv (G.R.eql rfl rfl) (congrArg Value.bool (decide_eq_false (by omega)))) rfl Taken.no) ?_
           refine E.fo ?_
           refine W.pick (K:=[(1,_),(3,_),(5,_),(6,_),(7,_),(8,_),(9,_),(10,_),(11,_),(12,_),(129,_)]) (Z:=[(101,_),(102,_),(109,_),(113,_)]) ⟨rfl,rfl,rfl,rfl,rfl,rfl,rfl,rfl,rfl,rfl,rfl,trivial⟩ ⟨rfl,rfl,rfl,rfl,trivial⟩ ?_
           refine W.cond_f rfl ?_
           refine W.skip (E.inn (E.to (W.region (SL.mv rfl rfl ?_))))
           refine SL.val (O.det (fun _ => by first | exact G.R.add64 rfl rfl (by omega) | exact G.R.add rfl rfl) rfl Taken.no) ?_
           refine SL.an rfl rfl (SL.nil ?_)
           refine E.again ((k + 1)) (rn []) ?_ ?_ rfl (fixL_spec rfl) ?_ ?_
           · exact (SubF.cons rfl (SubF.val rfl (by (try dsimp only); exact iv_bool (by rw [oth_s]; (first | (simp_all; done) | (simp_all <;> omega)))) (SubF.cons rfl (SubF.cons rfl (SubF.cons rfl (SubF.cons rfl (SubF.cons rfl (SubF.cons rfl (SubF.cons rfl (SubF.cons rfl SubF.nil))))))))))
           · exact (SubS.val rfl (by (try dsimp only); first | exact sb_data (by rw [mvK_no (by omega) (by rw [hfe]; omega)]) | exact sb_data (by rw [mvK_y (by omega) (by rw [hfe]; omega), hte]; exact set2) | exact sb_data (by rw [mvK_y (by omega) (by rw [hfe]; omega), hte])) (SubS.cons rfl (SubS.cons rfl (SubS.cons rfl SubS.nil))))
           ·try dsimp only
            omega
           · (try dsimp only); omega
          ·skip
           refine W.skip (E.inn (E.to (W.region (SL.mv rfl rfl ?_))))
           refine SL.val (O.det (fun _ => by first | exact G.R.add64 rfl rfl (by omega) | exact G.R.add rfl rfl) rfl Taken.no) ?_
           refine SL.an rfl rfl (SL.nil ?_)
           refine E.again ((k + 1)) (rn []) ?_ ?_ rfl (fixL_spec rfl) ?_ ?_
           · exact (SubF.cons rfl (SubF.val rfl (by (try dsimp only); exact iv_bool (by rw [oth_s]; (first | (simp_all; done) | (simp_all <;> omega)))) (SubF.cons rfl (SubF.cons rfl (SubF.cons rfl (SubF.cons rfl (SubF.cons rfl (SubF.cons rfl (SubF.cons rfl (SubF.cons rfl SubF.nil))))))))))
           · exact (SubS.val rfl (by (try dsimp only); first | exact sb_data (by rw [mvK_no (by omega) (by rw [hfe]; omega)]) | exact sb_data (by rw [mvK_y (by omega) (by rw [hfe]; omega), hte]; exact set2) | exact sb_data (by rw [mvK_y (by omega) (by rw [hfe]; omega), hte])) (SubS.cons rfl (SubS.cons rfl (SubS.cons rfl SubS.nil))))
           ·try dsimp only
            omega
           · (try dsimp only); omega
        ·skip
         refine W.exit (E.th (E.th (E.hit (E.to (W.seq (W.seq ?_))))))
         refine W.draw [⟨[], [], [], [109]⟩, ⟨[], [], [], [102]⟩, ⟨[102], [], [], []⟩, ⟨[109], [], [], []⟩, ⟨[109], [], [], []⟩, ⟨[], [], [], [102]⟩, ⟨[102], [], [], []⟩, ⟨[], [], [], []⟩, ⟨[], [], [], []⟩, ⟨[], [], [], [102]⟩, ⟨[102], [], [], []⟩, ⟨[], [], [], []⟩, ⟨[], [], [], [102]⟩, ⟨[102], [], [], []⟩, ⟨[], [], [], []⟩, ⟨[], [], [], []⟩, ⟨[], [], [], []⟩, ⟨[], [], [], []⟩, ⟨[], [], [], []⟩, ⟨[], [], [], [102]⟩, ⟨[102], [], [], []⟩, ⟨[], [], [], []⟩, ⟨[], [], [], []⟩, ⟨[], [], [], []⟩, ⟨[], [], [], []⟩, ⟨[], [], [], []⟩, ⟨[], [], [], []⟩] rfl (by kernel_rfl) (by kernel_rfl) rfl rfl ?_
         have hkn : k = n := by omega
         rw [hkn, mvK_n]
         refine WH.mv rfl rfl rfl ?_
         refine WH.val (O.fld_ref (o' := 1) rfl Try.underlying57 rfl (m := 0) (by kernel_rfl) rfl rfl Taken.no) rfl rfl ?_
         refine WH.val (O.ld1 (PtI.ref rfl rfl) rfl Try.underlying3 rfl rfl Taken.no) rfl rfl ?_
         refine WH.val (O.idx_own (i := f) rfl rfl rfl (rfl) (by rw [List.length_map]; omega) Try.underlying39 hi3 hs3 rfl Taken.no) rfl rfl ?_
         refine WH.val (O.ld1 (PtI.ofU (PtU.el rfl rfl (row_get (by omega)))) rfl Try.underlying3 rfl rfl Taken.no) rfl rfl ?_
         refine WH.val (O.fld_ref (o' := 1) rfl Try.underlying57 rfl (m := 0) (by kernel_rfl) rfl rfl Taken.no) rfl rfl ?_
         refine WH.val (O.ld1 (PtI.ref rfl rfl) rfl Try.underlying3 rfl rfl Taken.no) rfl rfl ?_
         refine WH.val (O.det (fun _ => G.R.neq rfl rfl) rfl Taken.no) rfl rfl ?_
         refine WH.mv rfl rfl rfl ?_
         refine WH.case (j := 8) (g := 143) (want := false) rfl rfl (fun hg33 => ?_) (fun hg33 => ?_)
         ·skip
          first | have hg33p := G.gA3 hg33 | have hg33p := G.gA4 hg33 | have hg33p := hg33
          refine WH.val (O.fld_ref (o' := 2) rfl Try.underlying57 rfl (m := 0) (by kernel_rfl) rfl rfl (Taken.yes rfl rfl hg33)) rfl rfl ?_
          refine WH.val (O.ld1 (PtI.ref rfl rfl) rfl Try.underlying3 rfl rfl (Taken.yes rfl rfl hg33)) rfl rfl ?_
          refine WH.val (O.move rfl rfl (Taken.yes rfl rfl hg33)) rfl rfl ?_
          refine WH.val (O.fld_ref (o' := 1) rfl Try.underlying57 rfl (m := 0) (by kernel_rfl) rfl rfl (Taken.yes rfl rfl hg33)) rfl rfl ?_
          refine WH.val (O.ld1 (PtI.ref rfl rfl) rfl Try.underlying3 rfl rfl (Taken.yes rfl rfl hg33)) rfl rfl ?_
          refine WH.val (O.idx_fz (i := f) rfl rfl (rfl) (row_get (by omega)) Try.underlying39 hi3 hs3 rfl (Taken.yes rfl rfl hg33)) rfl rfl ?_
          refine WH.val (O.ld1 (PtI.ofU (PtU.fz rfl)) rfl Try.underlying3 rfl rfl (Taken.yes rfl rfl hg33)) rfl rfl ?_
          refine WH.val (O.det (fun _ => G.R.eql rfl rfl) rfl (Taken.yes rfl rfl hg33)) rfl rfl ?_
          refine WH.val (O.pick_f rfl hg33 rfl rfl Taken.no) rfl rfl ?_
          refine WH.mv rfl rfl rfl ?_
          refine WH.case (j := 18) (g := 153) (want := false) rfl rfl (fun hg34 => ?_) (fun hg34 => ?_)
          ·skip
           first | have hg34p := G.gA3 hg34 | have hg34p := G.gA4 hg34 | have hg34p := hg34
           refine WH.val (O.fld_ref (o' := 2) rfl Try.underlying57 rfl (m := 0) (by kernel_rfl) rfl rfl (Taken.yes rfl rfl hg34)) rfl rfl ?_
           refine WH.val (O.ld1 (PtI.ref rfl rfl) rfl Try.underlying3 rfl rfl (Taken.yes rfl rfl hg34)) rfl rfl ?_
           refine WH.val (O.det (fun _ => G.R.mv (G.R.eql rfl rfl) (congrArg Value.bool (decide_eq_false (by omega)))) rfl (Taken.yes rfl rfl hg34)) rfl rfl ?_
           refine WH.val (O.move rfl rfl (Taken.yes rfl rfl hg34)) rfl rfl ?_
           have hg35 : false ≠ true := by decide
           refine WH.sk rfl rfl rfl hg35 (WH.sk rfl rfl rfl hg35 ?_)
           refine WH.val (O.pick_f rfl rfl rfl rfl (Taken.yes rfl rfl hg34)) rfl rfl ?_
           refine WH.val (O.pick_f rfl hg34 rfl rfl Taken.no) rfl rfl ?_
           refine WH.nil (E.to ?_)
           refine W.pick (K:=[(1,_),(3,_),(6,_),(7,_),(8,_),(10,_),(161,_)]) (Z:=[(101,_),(102,_),(109,_),(113,_)]) ⟨rfl,rfl,rfl,rfl,rfl,rfl,rfl,trivial⟩ ⟨rfl,rfl,rfl,rfl,trivial⟩ ?_
           refine W.cond_f rfl ?_
           refine W.skip (E.to (W.region (SL.mv rfl rfl ?_)))
           refine SL.memS (O.call (rn [(0, 114)]) [113] rfl rfl rfl (refnamed_h (l := mvL n (atomsL n rs) m s) (by rw [mvL, List.length_map, List.length_range]; omega)) (.cons (ArgOk.own rfl rfl) .nil) SubS.nil rfl rfl rfl rfl rfl (.inr ⟨rfl, fun x hx => by rw [List.mem_singleton] at hx; subst hx; exact flat_N _⟩) hcallOk65 (r' := .own 114) rfl rfl Taken.no) rfl rfl (S' := (114, .data _ _ _) :: _) rfl ?_
           refine SL.an rfl rfl (E.fo (W.seq (W.rg ?_)))
           have hX : nmL (mvL n (atomsL n rs) m s) = (labL n (atomsL n rs) m s) := by rw [labL, if_neg (by rw [hue]; decide)]
           have hpre : preR n (atomsL n rs) m s := by rw [hs]; exact preR_iff.2 ⟨⟨by omega, by omega, by omega, by omega, fun _ => rfl⟩, fun _ => by show m[t]! = t; omega, fun h => (by cases h), fun _ => ⟨by show (atomsL n rs)[f]! = f; omega, fun _ => by show m[f]! ≠ t; omega, fun h => by exfalso; omega⟩⟩
           rw [hX]
           have hll : (labL n (atomsL n rs) m s).length = n := labL_len hml
           refine SL.val (O.ldN (m := 3) (PtI.ref rfl rfl) (js := [_, _, _]) rfl (Nat.le_of_ble_eq_true rfl) Try.underlying25 rfl (by kernel_rfl) rfl Taken.no) ?_
           refine SL.mv rfl rfl ?_
           refine SL.memS (O.call (rn []) [114] rfl rfl rfl (refapart_h hf (m := (labL n (atomsL n rs) m s)) hll) (.cons (ArgOk.aggU (.cons (ArgOk.same rfl) (.cons (ArgOk.same rfl) (.cons (ArgOk.same rfl) .nil)))) (.cons (ArgOk.own rfl rfl) .nil)) SubS.nil rfl rfl rfl rfl rfl (.inr ⟨rfl, fun x hx => by simp at hx⟩) hcallOk36 (r' := .u _) rfl rfl Taken.no) rfl rfl (S' := _) rfl ?_
           refine SL.val (O.det (fun _ => G.R.not rfl) rfl Taken.no) ?_
           refine E.fo ?_
           first | refine W.cond_d rfl (fun hc36 => ?_) (fun hc36 => ?_) | refine W.cond_nd rfl (fun hc36 => ?_) (fun hc36 => ?_) | refine W.cond rfl (fun hc36 => ?_) (fun hc36 => ?_)
           ·skip
            refine W.rg (SL.an rfl rfl (SL.an rfl rfl (SL.an rfl rfl (E.fo (W.ret (E.thr ?_))))))
            refine E.nilsl 6 1 rfl ?_
            refine E.fin (rs := [_, _, _]) (rn []) (.inl rfl) rfl (.cons (ResOne.tmp rfl) (.cons (ResOne.tmp rfl) (.cons (ResOne.tmp rfl) .nil))) ?_ ?_ rfl (fixL_spec rfl)
            ·skip
             have hno : ¬ posR n (barL rs) (atomsL n rs) m s := fun q => by have q2 := q.2; simp_all
             rw [← hs, (apR_n hno).1, (apR_n hno).2, dec_f hno]; rfl
            · exact SubS.nil
           ·skip
            refine W.skip (E.to (W.rg ?_))
            refine SL.val (O.ldN (m := 3) (PtI.ref rfl rfl) (js := [_, _, _]) rfl (Nat.le_of_ble_eq_true rfl) Try.underlying25 rfl (by kernel_rfl) rfl Taken.no) ?_
            refine SL.mv rfl rfl ?_
            refine SL.memS (O.call (rn [(0, 115)]) [114] rfl rfl rfl (refconn_h hf (m := (labL n (atomsL n rs) m s)) hll) (.cons (ArgOk.aggU (.cons (ArgOk.same rfl) (.cons (ArgOk.same rfl) (.cons (ArgOk.same rfl) .nil)))) (.cons (ArgOk.own rfl rfl) .nil)) SubS.nil rfl rfl rfl rfl rfl (.inr ⟨rfl, fun x hx => by rw [List.mem_singleton] at hx; subst hx; exact flat_N _⟩) hcallOk43 (r' := .own 115) rfl rfl Taken.no) rfl rfl (S' := (115, .data _ _ _) :: _) rfl ?_
            refine SL.an rfl rfl (E.fo (W.seq ?_))
            refine W.freeze 115 rfl (F' := [(10, _)]) (⟨⟨_, rfl, rfl⟩, trivial⟩) ?_
            refine W.draw [⟨[], [], [], []⟩, ⟨[101], [], [], []⟩, ⟨[], [], [], []⟩, ⟨[], [], [], []⟩, ⟨[101], [], [], []⟩, ⟨[], [], [], []⟩, ⟨[], [], [], []⟩, ⟨[], [], [], []⟩, ⟨[], [], [], []⟩, ⟨[], [], [], []⟩, ⟨[], [], [], []⟩] rfl (by kernel_rfl) (by kernel_rfl) rfl rfl ?_
            refine WH.mv rfl rfl rfl ?_
            refine WH.val (O.ldN (m := 3) (PtI.ref rfl rfl) (js := [_, _, _]) rfl (Nat.le_of_ble_eq_true rfl) Try.underlying25 rfl (by kernel_rfl) rfl Taken.no) rfl rfl ?_
            refine WH.mv rfl rfl rfl ?_
            refine WH.val (O.callp rfl rfl rfl (refvalue_h hf (m := resR n ps rs m s) (res_comp hf m s).len hpl) (.cons (ArgOk.aggU (.cons (ArgOk.same rfl) (.cons (ArgOk.same rfl) (.cons (ArgOk.same rfl) .nil)))) (.cons (ArgOk.same rfl) .nil)) hcallOk48 rfl Taken.no) rfl rfl ?_
            refine WH.val (O.ldN (m := 3) (PtI.ref rfl rfl) (js := [_, _, _]) rfl (Nat.le_of_ble_eq_true rfl) Try.underlying25 rfl (by kernel_rfl) rfl Taken.no) rfl rfl ?_
            refine WH.mv rfl rfl rfl ?_
            refine WH.val (O.callp rfl rfl rfl (refvalue_h hf (m := m) hml hpl) (.cons (ArgOk.aggU (.cons (ArgOk.same rfl) (.cons (ArgOk.same rfl) (.cons (ArgOk.same rfl) .nil)))) (.cons (ArgOk.same rfl) .nil)) hcallOk48 rfl Taken.no) rfl rfl ?_
            have hv1 := valR_le hf (resR n ps rs m s)
            have hv2 := valR_le hf m
            refine WH.val (O.det (fun _ => by first | exact G.R.sub64 rfl rfl (by omega) | exact G.R.sub rfl rfl) rfl Taken.no) rfl rfl ?_
            refine WH.val (O.assign rfl rfl Taken.no) rfl rfl ?_
            refine WH.val (O.assign rfl rfl Taken.no) rfl rfl ?_
            refine WH.val (O.assign rfl rfl Taken.no) rfl rfl ?_
            refine WH.nil (E.to ?_)
            refine W.pick (K:=[(6,_),(7,_),(8,_)]) (Z:=[(101,_),(102,_),(109,_),(113,_),(114,_)]) ⟨rfl,rfl,rfl,trivial⟩ ⟨rfl,rfl,rfl,rfl,rfl,trivial⟩ ?_
            refine W.ret ?_
            refine E.fin (rs := [_, _, _]) (rn []) (.inl rfl) rfl (.cons (ResOne.tmp rfl) (.cons (ResOne.tmp rfl) (.cons (ResOne.tmp rfl) .nil))) ?_ ?_ rfl (fixL_spec rfl)
            ·skip
             have hyes : posR n (barL rs) (atomsL n rs) m s := ⟨hpre, by simp_all⟩
             rw [← hs, (apR_y hyes).1, (apR_y hyes).2, dec_t hyes]; rfl
            · exact SubS.nil
          ·skip
           first | have hg34p := G.gA7 hg34 | have hg34p := G.gA8 hg34 | have hg34p := hg34
           refine WH.sk rfl rfl rfl hg34 (WH.sk rfl rfl rfl hg34 (WH.sk rfl rfl rfl hg34 (WH.sk rfl rfl rfl hg34 ?_)))
           refine WH.skip (OpOk.not2 rfl rfl rfl) ?_
           refine WH.skip (OpOk.not2 rfl rfl rfl) ?_
           refine WH.sk rfl rfl rfl hg34 ?_
           refine WH.val (O.pick_t rfl (G.ne_f hg34) rfl rfl Taken.no) rfl rfl ?_
           refine WH.nil (E.to ?_)
           refine W.pick (K:=[(1,_),(3,_),(6,_),(7,_),(8,_),(10,_),(161,_)]) (Z:=[(101,_),(102,_),(109,_),(113,_)]) ⟨rfl,rfl,rfl,rfl,rfl,rfl,rfl,trivial⟩ ⟨rfl,rfl,rfl,rfl,trivial⟩ ?_
           refine W.cond_t rfl ?_
           refine W.rg (SL.an rfl rfl (SL.an rfl rfl (SL.an rfl rfl (E.fo (W.ret (E.thr (E.thr ?_)))))))
           refine E.nilsl 6 1 rfl ?_
           refine E.fin (rs := [_, _, _]) (rn []) (.inl rfl) rfl (.cons (ResOne.tmp rfl) (.cons (ResOne.tmp rfl) (.cons (ResOne.tmp rfl) .nil))) ?_ ?_ rfl (fixL_spec rfl)
           ·skip
            subst hs
            first | ((have hno : ¬ posR n (barL rs) (atomsL n rs) m ⟨false, (f : Int), (t : Int)⟩ := fun q => by ((obtain ⟨⟨q1, q2, q3, q4, q5⟩, q6, q7, q8⟩ := preR_iff.1 q.1); (try simp only [Int.toNat_natCast] at q6 q7 q8); (first | (have q8 := (q8 (by trivial)).1; omega) | (have q8 := (q8 (by trivial)).2.1 (by omega); omega) | (have q8 := (q8 (by trivial)).2.2 (by omega); simp_all)))); rw [(apR_n hno).1, (apR_n hno).2, dec_f hno]; rfl) | ((have hno : ¬ posR n (barL rs) (atomsL n rs) m ⟨false, (f : Int), -1⟩ := fun q => by ((obtain ⟨⟨q1, q2, q3, q4, q5⟩, q6, q7, q8⟩ := preR_iff.1 q.1); (try simp only [Int.toNat_natCast] at q6 q7 q8); (first | (have q8 := (q8 (by trivial)).1; omega) | (have q8 := (q8 (by trivial)).2.1 (by omega); omega) | (have q8 := (q8 (by trivial)).2.2 (by omega); simp_all)))); rw [(apR_n hno).1, (apR_n hno).2, dec_f hno]; rfl)
           · exact SubS.nil
         ·skip
          first | have hg33p := G.gA7 hg33 | have hg33p := G.gA8 hg33 | have hg33p := hg33
          refine WH.sk rfl rfl rfl hg33 (WH.sk rfl rfl rfl hg33 (WH.sk rfl rfl rfl hg33 (WH.sk rfl rfl rfl hg33 (WH.sk rfl rfl rfl hg33 (WH.sk rfl rfl rfl hg33 (WH.sk rfl rfl rfl hg33 (WH.sk rfl rfl rfl hg33 ?_)))))))
          refine WH.val (O.pick_t rfl (G.ne_f hg33) rfl rfl Taken.no) rfl rfl ?_
          refine WH.mv rfl rfl rfl ?_
          have hg37 : true ≠ false := by decide
          refine WH.sk rfl rfl rfl hg37 (WH.sk rfl rfl rfl hg37 (WH.sk rfl rfl rfl hg37 (WH.sk rfl rfl rfl hg37 ?_)))
          refine WH.skip (OpOk.not2 rfl rfl rfl) ?_
          refine WH.skip (OpOk.not2 rfl rfl rfl) ?_
          refine WH.sk rfl rfl rfl hg37 ?_
          refine WH.val (O.pick_t rfl rfl rfl rfl Taken.no) rfl rfl ?_
          refine WH.nil (E.to ?_)
          refine W.pick (K:=[(1,_),(3,_),(6,_),(7,_),(8,_),(10,_),(161,_)]) (Z:=[(101,_),(102,_),(109,_),(113,_)]) ⟨rfl,rfl,rfl,rfl,rfl,rfl,rfl,trivial⟩ ⟨rfl,rfl,rfl,rfl,trivial⟩ ?_
          refine W.cond_t rfl ?_
          refine W.rg (SL.an rfl rfl (SL.an rfl rfl (SL.an rfl rfl (E.fo (W.ret (E.thr (E.thr ?_)))))))
          refine E.nilsl 6 1 rfl ?_
          refine E.fin (rs := [_, _, _]) (rn []) (.inl rfl) rfl (.cons (ResOne.tmp rfl) (.cons (ResOne.tmp rfl) (.cons (ResOne.tmp rfl) .nil))) ?_ ?_ rfl (fixL_spec rfl)
          ·skip
           subst hs
           first | ((have hno : ¬ posR n (barL rs) (atomsL n rs) m ⟨false, (f : Int), (t : Int)⟩ := fun q => by ((obtain ⟨⟨q1, q2, q3, q4, q5⟩, q6, q7, q8⟩ := preR_iff.1 q.1); (try simp only [Int.toNat_natCast] at q6 q7 q8); (first | (have q8 := (q8 (by trivial)).1; omega) | (have q8 := (q8 (by trivial)).2.1 (by omega); omega) | (have q8 := (q8 (by trivial)).2.2 (by omega); simp_all)))); rw [(apR_n hno).1, (apR_n hno).2, dec_f hno]; rfl) | ((have hno : ¬ posR n (barL rs) (atomsL n rs) m ⟨false, (f : Int), -1⟩ := fun q => by ((obtain ⟨⟨q1, q2, q3, q4, q5⟩, q6, q7, q8⟩ := preR_iff.1 q.1); (try simp only [Int.toNat_natCast] at q6 q7 q8); (first | (have q8 := (q8 (by trivial)).1; omega) | (have q8 := (q8 (by trivial)).2.1 (by omega); omega) | (have q8 := (q8 (by trivial)).2.2 (by omega); simp_all)))); rw [(apR_n hno).1, (apR_n hno).2, dec_f hno]; rfl)
          · exact SubS.nil
    ·skip
     first | have hg4p := G.gA7 hg4 | have hg4p := G.gA8 hg4 | have hg4p := hg4
     refine WH.sk rfl rfl rfl hg4 (WH.sk rfl rfl rfl hg4 (WH.sk rfl rfl rfl hg4 (WH.sk rfl rfl rfl hg4 ?_)))
     refine WH.skip (OpOk.not2 rfl rfl rfl) ?_
     refine WH.skip (OpOk.not2 rfl rfl rfl) ?_
     refine WH.sk rfl rfl rfl hg4 ?_
     refine WH.val (O.pick_t rfl (G.ne_f hg4) rfl rfl Taken.no) rfl rfl ?_
     refine WH.mv rfl rfl rfl ?_
     have hg38 : true ≠ false := by decide
     refine WH.sk rfl rfl rfl hg38 (WH.sk rfl rfl rfl hg38 (WH.sk rfl rfl rfl hg38 (WH.sk rfl rfl rfl hg38 ?_)))
     refine WH.skip (OpOk.not2 rfl rfl rfl) ?_
     refine WH.skip (OpOk.not2 rfl rfl rfl) ?_
     refine WH.skip (OpOk.not2 rfl rfl rfl) ?_
     refine WH.skip (OpOk.not2 rfl rfl rfl) ?_
     refine WH.skip (OpOk.not2 rfl rfl rfl) ?_
     refine WH.skip (OpOk.not2 rfl rfl rfl) ?_
     refine WH.skip (OpOk.not2 rfl rfl rfl) ?_
     refine WH.skip (OpOk.not2 rfl rfl rfl) ?_
     refine WH.sk rfl rfl rfl hg38 ?_
     refine WH.val (O.pick_t rfl rfl rfl rfl Taken.no) rfl rfl ?_
     refine WH.nil (E.to ?_)
     refine W.pick (K:=[(1,_),(3,_),(5,_),(6,_),(7,_),(8,_),(58,_)]) (Z:=[(101,_),(102,_)]) ⟨rfl,rfl,rfl,rfl,rfl,rfl,rfl,trivial⟩ ⟨rfl,rfl,trivial⟩ ?_
     refine W.cond_t rfl ?_
     refine W.rg (SL.an rfl rfl (SL.an rfl rfl (SL.an rfl rfl (E.fo (W.ret (E.thr ?_))))))
     refine E.nilsl 6 1 rfl ?_
     refine E.fin (rs := [_, _, _]) (rn []) (.inl rfl) rfl (.cons (ResOne.tmp rfl) (.cons (ResOne.tmp rfl) (.cons (ResOne.tmp rfl) .nil))) ?_ ?_ rfl (fixL_spec rfl)
     ·skip
      first | ((have hno : ¬ posR n (barL rs) (atomsL n rs) m ⟨u, f, t⟩ := fun q => by ((obtain ⟨⟨q1, q2, q3, q4, q5⟩, q6, q7, q8⟩ := preR_iff.1 q.1); (try simp only [Int.toNat_natCast] at q6 q7 q8); (first | omega | (have q5 := q5 (by omega); simp_all) | (have q6 := q6 (by omega); omega)))); rw [(apR_n hno).1, (apR_n hno).2, dec_f hno]; rfl)
     · exact SubS.nil
   ·skip
    first | have hg3p := G.gA7 hg3 | have hg3p := G.gA8 hg3 | have hg3p := hg3
    refine WH.sk rfl rfl rfl hg3 (WH.sk rfl rfl rfl hg3 (WH.sk rfl rfl rfl hg3 (WH.sk rfl rfl rfl hg3 (WH.sk rfl rfl rfl hg3 ?_))))
    refine WH.val (O.pick_t rfl (G.ne_f hg3) rfl rfl Taken.no) rfl rfl ?_
    refine WH.mv rfl rfl rfl ?_
    have hg39 : true ≠ false := by decide
    refine WH.sk rfl rfl rfl hg39 (WH.sk rfl rfl rfl hg39 (WH.sk rfl rfl rfl hg39 (WH.sk rfl rfl rfl hg39 ?_)))
    refine WH.skip (OpOk.not2 rfl rfl rfl) ?_
    refine WH.skip (OpOk.not2 rfl rfl rfl) ?_
    refine WH.sk rfl rfl rfl hg39 ?_
    refine WH.val (O.pick_t rfl rfl rfl rfl Taken.no) rfl rfl ?_
    refine WH.mv rfl rfl rfl ?_
    have hg40 : true ≠ false := by decide
    refine WH.sk rfl rfl rfl hg40 (WH.sk rfl rfl rfl hg40 (WH.sk rfl rfl rfl hg40 (WH.sk rfl rfl rfl hg40 ?_)))
    refine WH.skip (OpOk.not2 rfl rfl rfl) ?_
    refine WH.skip (OpOk.not2 rfl rfl rfl) ?_
    refine WH.skip (OpOk.not2 rfl rfl rfl) ?_
    refine WH.skip (OpOk.not2 rfl rfl rfl) ?_
    refine WH.skip (OpOk.not2 rfl rfl rfl) ?_
    refine WH.skip (OpOk.not2 rfl rfl rfl) ?_
    refine WH.skip (OpOk.not2 rfl rfl rfl) ?_
    refine WH.skip (OpOk.not2 rfl rfl rfl) ?_
    refine WH.sk rfl rfl rfl hg40 ?_
    refine WH.val (O.pick_t rfl rfl rfl rfl Taken.no) rfl rfl ?_
    refine WH.nil (E.to ?_)
    refine W.pick (K:=[(1,_),(3,_),(5,_),(6,_),(7,_),(8,_),(58,_)]) (Z:=[(101,_),(102,_)]) ⟨rfl,rfl,rfl,rfl,rfl,rfl,rfl,trivial⟩ ⟨rfl,rfl,trivial⟩ ?_
    refine W.cond_t rfl ?_
    refine W.rg (SL.an rfl rfl (SL.an rfl rfl (SL.an rfl rfl (E.fo (W.ret (E.thr ?_))))))
    refine E.nilsl 6 1 rfl ?_
    refine E.fin (rs := [_, _, _]) (rn []) (.inl rfl) rfl (.cons (ResOne.tmp rfl) (.cons (ResOne.tmp rfl) (.cons (ResOne.tmp rfl) .nil))) ?_ ?_ rfl (fixL_spec rfl)
    ·skip
     first | ((have hno : ¬ posR n (barL rs) (atomsL n rs) m ⟨u, f, t⟩ := fun q => by ((obtain ⟨⟨q1, q2, q3, q4, q5⟩, q6, q7, q8⟩ := preR_iff.1 q.1); (try simp only [Int.toNat_natCast] at q6 q7 q8); (first | omega | (have q5 := q5 (by omega); simp_all) | (have q6 := q6 (by omega); omega)))); rw [(apR_n hno).1, (apR_n hno).2, dec_f hno]; rfl)
    · exact SubS.nil
  ·skip
   first | have hg2p := G.gA7 hg2 | have hg2p := G.gA8 hg2 | have hg2p := hg2
   refine WH.sk rfl rfl rfl hg2 (WH.sk rfl rfl rfl hg2 (WH.sk rfl rfl rfl hg2 ?_))
   refine WH.val (O.pick_t rfl (G.ne_f hg2) rfl rfl Taken.no) rfl rfl ?_
   refine WH.mv rfl rfl rfl ?_
   have hg41 : true ≠ false := by decide
   refine WH.sk rfl rfl rfl hg41 (WH.sk rfl rfl rfl hg41 (WH.sk rfl rfl rfl hg41 (WH.sk rfl rfl rfl hg41 (WH.sk rfl rfl rfl hg41 ?_))))
   refine WH.val (O.pick_t rfl rfl rfl rfl Taken.no) rfl rfl ?_
   refine WH.mv rfl rfl rfl ?_
   have hg42 : true ≠ false := by decide
   refine WH.sk rfl rfl rfl hg42 (WH.sk rfl rfl rfl hg42 (WH.sk rfl rfl rfl hg42 (WH.sk rfl rfl rfl hg42 ?_)))
   refine WH.skip (OpOk.not2 rfl rfl rfl) ?_
   refine WH.skip (OpOk.not2 rfl rfl rfl) ?_
   refine WH.sk rfl rfl rfl hg42 ?_
   refine WH.val (O.pick_t rfl rfl rfl rfl Taken.no) rfl rfl ?_
   refine WH.mv rfl rfl rfl ?_
   have hg43 : true ≠ false := by decide
   refine WH.sk rfl rfl rfl hg43 (WH.sk rfl rfl rfl hg43 (WH.sk rfl rfl rfl hg43 (WH.sk rfl rfl rfl hg43 ?_)))
   refine WH.skip (OpOk.not2 rfl rfl rfl) ?_
   refine WH.skip (OpOk.not2 rfl rfl rfl) ?_
   refine WH.skip (OpOk.not2 rfl rfl rfl) ?_
   refine WH.skip (OpOk.not2 rfl rfl rfl) ?_
   refine WH.skip (OpOk.not2 rfl rfl rfl) ?_
   refine WH.skip (OpOk.not2 rfl rfl rfl) ?_
   refine WH.skip (OpOk.not2 rfl rfl rfl) ?_
   refine WH.skip (OpOk.not2 rfl rfl rfl) ?_
   refine WH.sk rfl rfl rfl hg43 ?_
   refine WH.val (O.pick_t rfl rfl rfl rfl Taken.no) rfl rfl ?_
   refine WH.nil (E.to ?_)
   refine W.pick (K:=[(1,_),(3,_),(5,_),(6,_),(7,_),(8,_),(58,_)]) (Z:=[(101,_),(102,_)]) ⟨rfl,rfl,rfl,rfl,rfl,rfl,rfl,trivial⟩ ⟨rfl,rfl,trivial⟩ ?_
   refine W.cond_t rfl ?_
   refine W.rg (SL.an rfl rfl (SL.an rfl rfl (SL.an rfl rfl (E.fo (W.ret (E.thr ?_))))))
   refine E.nilsl 6 1 rfl ?_
   refine E.fin (rs := [_, _, _]) (rn []) (.inl rfl) rfl (.cons (ResOne.tmp rfl) (.cons (ResOne.tmp rfl) (.cons (ResOne.tmp rfl) .nil))) ?_ ?_ rfl (fixL_spec rfl)
   ·skip
    first | ((have hno : ¬ posR n (barL rs) (atomsL n rs) m ⟨u, f, t⟩ := fun q => by ((obtain ⟨⟨q1, q2, q3, q4, q5⟩, q6, q7, q8⟩ := preR_iff.1 q.1); (try simp only [Int.toNat_natCast] at q6 q7 q8); (first | omega | (have q5 := q5 (by omega); simp_all) | (have q6 := q6 (by omega); omega)))); rw [(apR_n hno).1, (apR_n hno).2, dec_f hno]; rfl)
   · exact SubS.nil
 ·skip
  first | have hg1p := G.gA7 hg1 | have hg1p := G.gA8 hg1 | have hg1p := hg1
  refine WH.sk rfl rfl rfl hg1 (WH.sk rfl rfl rfl hg1 (WH.sk rfl rfl rfl hg1 (WH.sk rfl rfl rfl hg1 (WH.sk rfl rfl rfl hg1 ?_))))
  refine WH.val (O.pick_t rfl (G.ne_f hg1) rfl rfl Taken.no) rfl rfl ?_
  refine WH.mv rfl rfl rfl ?_
  have hg44 : true ≠ false := by decide
  refine WH.sk rfl rfl rfl hg44 (WH.sk rfl rfl rfl hg44 (WH.sk rfl rfl rfl hg44 ?_))
  refine WH.val (O.pick_t rfl rfl rfl rfl Taken.no) rfl rfl ?_
  refine WH.mv rfl rfl rfl ?_
  have hg45 : true ≠ false := by decide
  refine WH.sk rfl rfl rfl hg45 (WH.sk rfl rfl rfl hg45 (WH.sk rfl rfl rfl hg45 (WH.sk rfl rfl rfl hg45 (WH.sk rfl rfl rfl hg45 ?_))))
  refine WH.val (O.pick_t rfl rfl rfl rfl Taken.no) rfl rfl ?_
  refine WH.mv rfl rfl rfl ?_
  have hg46 : true ≠ false := by decide
  refine WH.sk rfl rfl rfl hg46 (WH.sk rfl rfl rfl hg46 (WH.sk rfl rfl rfl hg46 (WH.sk rfl rfl rfl hg46 ?_)))
  refine WH.skip (OpOk.not2 rfl rfl rfl) ?_
  refine WH.skip (OpOk.not2 rfl rfl rfl) ?_
  refine WH.sk rfl rfl rfl hg46 ?_
  refine WH.val (O.pick_t rfl rfl rfl rfl Taken.no) rfl rfl ?_
  refine WH.mv rfl rfl rfl ?_
  have hg47 : true ≠ false := by decide
  refine WH.sk rfl rfl rfl hg47 (WH.sk rfl rfl rfl hg47 (WH.sk rfl rfl rfl hg47 (WH.sk rfl rfl rfl hg47 ?_)))
  refine WH.skip (OpOk.not2 rfl rfl rfl) ?_
  refine WH.skip (OpOk.not2 rfl rfl rfl) ?_
  refine WH.skip (OpOk.not2 rfl rfl rfl) ?_
  refine WH.skip (OpOk.not2 rfl rfl rfl) ?_
  refine WH.skip (OpOk.not2 rfl rfl rfl) ?_
  refine WH.skip (OpOk.not2 rfl rfl rfl) ?_
  refine WH.skip (OpOk.not2 rfl rfl rfl) ?_
  refine WH.skip (OpOk.not2 rfl rfl rfl) ?_
  refine WH.sk rfl rfl rfl hg47 ?_
  refine WH.val (O.pick_t rfl rfl rfl rfl Taken.no) rfl rfl ?_
  refine WH.nil (E.to ?_)
  refine W.pick (K:=[(1,_),(3,_),(5,_),(6,_),(7,_),(8,_),(58,_)]) (Z:=[(101,_),(102,_)]) ⟨rfl,rfl,rfl,rfl,rfl,rfl,rfl,trivial⟩ ⟨rfl,rfl,trivial⟩ ?_
  refine W.cond_t rfl ?_
  refine W.rg (SL.an rfl rfl (SL.an rfl rfl (SL.an rfl rfl (E.fo (W.ret (E.thr ?_))))))
  refine E.nilsl 6 1 rfl ?_
  refine E.fin (rs := [_, _, _]) (rn []) (.inl rfl) rfl (.cons (ResOne.tmp rfl) (.cons (ResOne.tmp rfl) (.cons (ResOne.tmp rfl) .nil))) ?_ ?_ rfl (fixL_spec rfl)
  ·skip
   first | ((have hno : ¬ posR n (barL rs) (atomsL n rs) m ⟨u, f, t⟩ := fun q => by ((obtain ⟨⟨q1, q2, q3, q4, q5⟩, q6, q7, q8⟩ := preR_iff.1 q.1); (try simp only [Int.toNat_natCast] at q6 q7 q8); (first | omega | (have q5 := q5 (by omega); simp_all) | (have q6 := q6 (by omega); omega)))); rw [(apR_n hno).1, (apR_n hno).2, dec_f hno]; rfl)
  · exact SubS.nil

end Go.Proofs.Ytppamigboeaefaa
end
section
namespace Go.Proofs.Ytppamigboeaefaa
open Go Go.RowKit Go.H Go.D33

theorem hcallOk51 : G.callOk Try.prog 51 = true := by kernel_rfl
theorem hcallOk52 : G.callOk Try.prog 52 = true := by kernel_rfl
theorem hcallOk55 : G.callOk Try.prog 55 = true := by kernel_rfl

set_option maxRecDepth 8000 in
set_option maxHeartbeats 3200000 in
/-- bookplate/bookplateref33.next. -/
theorem refnext_h {n : Nat} {ps : List Pr} {rs : List Ru} {m : List Nat} (hf : (Prob.mk (n : Int) ps rs).formed) (hml : m.length = n) (hpl : ps.length ≤ 1000000) :
    Con Try.prog 52 [vA [uI (n : Int), .sl 3 (ps.map ePr), .sl 3 (rs.map eRu)], vL 1 (m.map eN)] [] (.tup [.agg [vB (nextR n ps rs m).1.u, vI (nextR n ps rs m).1.f, vI (nextR n ps rs m).1.t], vI (nextR n ps rs m).2]) [] := by
 have hn2 : (n : Int) ≤ 200 := hf.2.1
 have hr4 : rs.length ≤ 400 := hf.2.2.1
 refine Con.enterL (n := 55) Try.func52 rfl rfl rfl (fun τ w ok vs hin => ?_)
 have hl0_1 := hin.lenA (i := 0) (j := 1) rfl rfl
 try rw [List.length_map] at hl0_1
 have hl0_2 := hin.lenA (i := 0) (j := 2) rfl rfl
 try rw [List.length_map] at hl0_2
 have hl1 := hin.len (i := 1) rfl
 try rw [List.length_map] at hl1
 clear hin
 refine W.rg ?_
 refine SL.memS (O.box (is := [_, _, _]) 101 rfl rfl (by simp) rfl rfl Taken.no) rfl rfl (S' := (101, _) :: _) rfl ?_
 refine SL.memS (O.alloc (z := .agg #[.bool false, .int .i64 0, .int .i64 0]) (is := [.u (.sc (.bool false)), .u (.sc (.int .i64 0)), .u (.sc (.int .i64 0))]) 102 (by kernel_rfl) rfl rfl rfl Taken.no) rfl rfl (S' := (102, _) :: _) rfl ?_
 refine SL.an rfl rfl (E.fo (W.rg ?_))
 refine SL.val (O.build (res := [_, _, _]) (z := .agg #[.bool false, .int .i64 0, .int .i64 0]) (places := [(0, 1), (1, 1), (2, 1)]) rfl rfl Try.underlying57 (by kernel_rfl) (fun _ => by kernel_rfl) rfl rfl Taken.no) ?_
 refine SL.memS (O.alloc (z := .agg #[.bool false, .int .i64 0, .int .i64 0]) (is := [.u (.sc (.bool false)), .u (.sc (.int .i64 0)), .u (.sc (.int .i64 0))]) 103 (by kernel_rfl) rfl rfl rfl Taken.no) rfl rfl (S' := (103, _) :: _) rfl ?_
 refine SL.effS (O.st_ref (m := 3) rfl rfl rfl (js := [_, _, _]) rfl rfl (by kernel_rfl) (by simp) (Nat.le_of_ble_eq_true rfl) rfl (is' := [_, _, _]) rfl Taken.no) (S' := (103, _) :: _) rfl ?_
 refine SL.an rfl rfl (E.fo (W.seq (W.rg (SL.an rfl rfl (E.fo (W.block ?_))))))
 refine W.unroll ?_
 refine W.seq (W.rg (SL.mv rfl rfl ?_))
 refine SL.val (O.det (fun _ => G.R.mv (G.R.lss rfl rfl) (congrArg Value.bool (decide_eq_true (by decide)))) rfl Taken.no) ?_
 refine E.fo ?_
 refine W.cond_t rfl ?_
 refine W.skip (E.to (W.seq (W.block (W.rg (SL.an rfl rfl (E.fo (W.block ?_)))))))
 refine W.loopx1 (fun (f : Nat) => [(9, vI (f : Int)), (7, vI (bestF (posR n (barL rs) (atomsL n rs) m) (gnR n ps rs m) (kindS n false f)).2)]) (fun (f : Nat) => [(103, .cells 57 [vB (bestF (posR n (barL rs) (atomsL n rs) m) (gnR n ps rs m) (kindS n false f)).1.u, vI (bestF (posR n (barL rs) (atomsL n rs) m) (gnR n ps rs m) (kindS n false f)).1.f, vI (bestF (posR n (barL rs) (atomsL n rs) m) (gnR n ps rs m) (kindS n false f)).1.t])]) (fun (f : Nat) => f ≤ n) (fun (f : Nat) => n - f) (0) (rn []) (.cons (t := 1) rfl (.cons (t := 2) rfl (.cons (t := 4) rfl (.cons (t := 5) rfl (.cons (t := 6) rfl (.cons (t := 8) rfl (.cons (t := 16) rfl (.cons (t := 17) rfl .nil)))))))) (.cons (t := 101) rfl (.cons (t := 102) rfl .nil)) rfl ?_ ?_ rfl rfl ?_ ?_
 · exact (SubF.cons rfl (SubF.val rfl (by exact iv_int rfl) SubF.nil))
 · exact (SubS.val rfl (by rfl) SubS.nil)
 ·skip
  omega
 intro f hinv
 have hf_ := hinv
 refine W.seq (W.rg (SL.mv rfl rfl ?_))
 refine SL.val (O.fld_ref (o' := 0) rfl Try.underlying25 rfl (m := 0) (by kernel_rfl) rfl rfl Taken.no) ?_
 refine SL.val (O.ld1 (PtI.ref rfl rfl) rfl Try.underlying3 rfl rfl Taken.no) ?_
 refine SL.val (O.det (fun _ => G.R.lss rfl rfl) rfl Taken.no) ?_
 refine E.fo ?_
 first | refine W.cond_d rfl (fun hc1 => ?_) (fun hc1 => ?_) | refine W.cond_nd rfl (fun hc1 => ?_) (fun hc1 => ?_) | refine W.cond rfl (fun hc1 => ?_) (fun hc1 => ?_)
 ·skip
  refine W.skip (E.to (W.seq (W.block (W.rg (SL.an rfl rfl (E.fo (W.block ?_)))))))
  refine W.loopx1 (fun (j : Nat) => [(10, vI ((j : Int) - 1)), (7, vI (bestF (posR n (barL rs) (atomsL n rs) m) (gnR n ps rs m) ((kindS n false f) ++ (rowS n false f).take j)).2)]) (fun (j : Nat) => [(103, .cells 57 [vB (bestF (posR n (barL rs) (atomsL n rs) m) (gnR n ps rs m) ((kindS n false f) ++ (rowS n false f).take j)).1.u, vI (bestF (posR n (barL rs) (atomsL n rs) m) (gnR n ps rs m) ((kindS n false f) ++ (rowS n false f).take j)).1.f, vI (bestF (posR n (barL rs) (atomsL n rs) m) (gnR n ps rs m) ((kindS n false f) ++ (rowS n false f).take j)).1.t])]) (fun (j : Nat) => j ≤ n + 1) (fun (j : Nat) => n + 1 - j) (0) (rn []) (.cons (t := 1) rfl (.cons (t := 2) rfl (.cons (t := 4) rfl (.cons (t := 5) rfl (.cons (t := 6) rfl (.cons (t := 8) rfl (.cons (t := 9) rfl (.cons (t := 16) rfl (.cons (t := 17) rfl (.cons (t := 20) rfl (.cons (t := 21) rfl (.cons (t := 22) rfl (.cons (t := 23) rfl .nil))))))))))))) (.cons (t := 101) rfl (.cons (t := 102) rfl .nil)) rfl ?_ ?_ rfl rfl ?_ ?_
  · exact (SubF.val rfl (by exact iv_int (by omega)) (SubF.val rfl (by exact iv_int (by rw [List.take_zero, List.append_nil])) SubF.nil))
  · exact (SubS.val rfl (by (rw [List.take_zero, List.append_nil]; try rfl)) SubS.nil)
  ·skip
   omega
  intro j hinv
  have hj := hinv
  refine W.seq (W.rg (SL.mv rfl rfl ?_))
  refine SL.val (O.fld_ref (o' := 0) rfl Try.underlying25 rfl (m := 0) (by kernel_rfl) rfl rfl Taken.no) ?_
  refine SL.val (O.ld1 (PtI.ref rfl rfl) rfl Try.underlying3 rfl rfl Taken.no) ?_
  refine SL.val (O.det (fun _ => G.R.lss rfl rfl) rfl Taken.no) ?_
  refine E.fo ?_
  first | refine W.cond_d rfl (fun hc2 => ?_) (fun hc2 => ?_) | refine W.cond_nd rfl (fun hc2 => ?_) (fun hc2 => ?_) | refine W.cond rfl (fun hc2 => ?_) (fun hc2 => ?_)
  ·skip
   refine W.skip (E.to (W.seq (W.block (W.rg (SL.mv rfl rfl ?_)))))
   refine SL.val (O.det (fun _ => G.R.mv (G.R.eql rfl rfl) (congrArg Value.bool (decide_eq_false (by decide)))) rfl Taken.no) ?_
   refine SL.mv rfl rfl (SL.mv rfl rfl ?_)
   refine SL.val (O.build (res := [_, _, _]) (z := .agg #[.bool false, .int .i64 0, .int .i64 0]) (places := [(0, 1), (1, 1), (2, 1)]) rfl rfl Try.underlying57 (by kernel_rfl) (fun _ => by kernel_rfl) rfl rfl Taken.no) ?_
   refine SL.memS (O.alloc (z := .agg #[.bool false, .int .i64 0, .int .i64 0]) (is := [.u (.sc (.bool false)), .u (.sc (.int .i64 0)), .u (.sc (.int .i64 0))]) 104 (by kernel_rfl) rfl rfl rfl Taken.no) rfl rfl (S' := (104, _) :: _) rfl ?_
   refine SL.effS (O.st_ref (m := 3) rfl rfl rfl (js := [_, _, _]) rfl rfl (by kernel_rfl) (by simp) (Nat.le_of_ble_eq_true rfl) rfl (is' := [_, _, _]) rfl Taken.no) (S' := (104, _) :: _) rfl ?_
   refine E.fo ?_
   refine W.pick (K:=[(1,_),(2,_),(4,_),(5,_),(6,_),(7,_),(8,_),(9,_),(10,_),(11,_),(16,_),(17,_),(20,_),(21,_),(22,_),(23,_),(26,_),(27,_),(28,_),(29,_),(32,_),(33,_),(34,_),(35,_),(36,_)]) (Z:=[(101,_),(102,_),(103,_),(104,_)]) ⟨rfl,rfl,rfl,rfl,rfl,rfl,rfl,rfl,rfl,rfl,rfl,rfl,rfl,rfl,rfl,rfl,rfl,rfl,rfl,rfl,rfl,rfl,rfl,rfl,rfl,trivial⟩ ⟨rfl,rfl,rfl,rfl,trivial⟩ ?_
   refine W.rg ?_
   refine SL.val (O.ldN (m := 3) (PtI.ref rfl rfl) (js := [_, _, _]) rfl (Nat.le_of_ble_eq_true rfl) Try.underlying25 rfl (by kernel_rfl) rfl Taken.no) ?_
   refine SL.mv rfl rfl ?_
   refine SL.val (O.ldN (m := 3) (PtI.ref rfl rfl) (js := [_, _, _]) rfl (Nat.le_of_ble_eq_true rfl) Try.underlying57 rfl (by kernel_rfl) rfl Taken.no) ?_
   refine SL.memS (O.call (rn []) [] rfl rfl rfl (refapply_h (u := false) (f := (f : Int)) (t := (j : Int) - 1) hf hml hpl) (.cons (ArgOk.aggU (.cons (ArgOk.same rfl) (.cons (ArgOk.same rfl) (.cons (ArgOk.same rfl) .nil)))) (.cons (ArgOk.same rfl) (.cons (ArgOk.aggU (.cons (ArgOk.same rfl) (.cons (ArgOk.same rfl) (.cons (ArgOk.same rfl) .nil)))) .nil))) SubS.nil rfl rfl rfl rfl rfl (.inl rfl) hcallOk51 (r' := .tup [.u _, .u _, .u _]) rfl rfl Taken.no) rfl rfl (S' := _) rfl ?_
   refine SL.mv rfl rfl ?_
   refine SL.val (O.extract rfl rfl rfl Taken.no) ?_
   refine SL.val (O.extract rfl rfl rfl Taken.no) ?_
   refine SL.val (O.extract rfl rfl rfl Taken.no) ?_
   refine SL.an rfl rfl (SL.an rfl rfl (SL.an rfl rfl (E.fo ?_)))
   refine W.pick (K:=[(1,_),(2,_),(4,_),(5,_),(6,_),(7,_),(8,_),(9,_),(10,_),(11,_),(13,_),(14,_),(16,_),(17,_),(20,_),(21,_),(22,_),(23,_),(26,_),(27,_),(28,_),(29,_),(32,_),(33,_),(34,_),(35,_),(36,_),(37,_),(38,_),(39,_),(40,_),(41,_),(42,_),(43,_),(44,_)]) (Z:=[(101,_),(102,_),(103,_),(104,_)]) ⟨rfl,rfl,rfl,rfl,rfl,rfl,rfl,rfl,rfl,rfl,rfl,rfl,rfl,rfl,rfl,rfl,rfl,rfl,rfl,rfl,rfl,rfl,rfl,rfl,rfl,rfl,rfl,rfl,rfl,rfl,rfl,rfl,rfl,rfl,rfl,trivial⟩ ⟨rfl,rfl,rfl,rfl,trivial⟩ ?_
   refine W.rg (SL.mv rfl rfl (SL.mv rfl rfl ?_))
   refine SL.case (j := 1) (g := 46) (want := true) rfl rfl (fun hg3 => ?_) (fun hg3 => ?_)
   ·skip
    first | have hg3p := G.gA1 hg3 | have hg3p := G.gA2 hg3 | have hg3p := hg3
    refine SL.val (O.move rfl rfl (Taken.yes rfl rfl hg3)) ?_
    refine SL.val (O.move rfl rfl (Taken.yes rfl rfl hg3)) ?_
    refine SL.val (O.det (fun _ => G.R.gtr rfl rfl) rfl (Taken.yes rfl rfl hg3)) ?_
    refine SL.val (O.pick_t rfl hg3 rfl rfl Taken.no) ?_
    refine E.fo ?_
    refine W.pick (K:=[(1,_),(2,_),(4,_),(5,_),(6,_),(7,_),(8,_),(9,_),(10,_),(11,_),(13,_),(14,_),(16,_),(17,_),(20,_),(21,_),(22,_),(23,_),(26,_),(27,_),(28,_),(29,_),(32,_),(33,_),(34,_),(35,_),(36,_),(37,_),(38,_),(39,_),(40,_),(41,_),(42,_),(43,_),(44,_),(45,_),(46,_),(47,_),(48,_),(49,_),(50,_)]) (Z:=[(101,_),(102,_),(103,_),(104,_)]) ⟨rfl,rfl,rfl,rfl,rfl,rfl,rfl,rfl,rfl,rfl,rfl,rfl,rfl,rfl,rfl,rfl,rfl,rfl,rfl,rfl,rfl,rfl,rfl,rfl,rfl,rfl,rfl,rfl,rfl,rfl,rfl,rfl,rfl,rfl,rfl,rfl,rfl,rfl,rfl,rfl,rfl,trivial⟩ ⟨rfl,rfl,rfl,rfl,trivial⟩ ?_
    first | refine W.cond_d rfl (fun hc4 => ?_) (fun hc4 => ?_) | refine W.cond_nd rfl (fun hc4 => ?_) (fun hc4 => ?_) | refine W.cond rfl (fun hc4 => ?_) (fun hc4 => ?_)
    ·skip
     have hp1 : (posR n (barL rs) (atomsL n rs) m) (Stp.mk false (f : Int) ((j : Int) - 1)) := by first | assumption | simp_all
     have hp2 : (bestF (posR n (barL rs) (atomsL n rs) m) (gnR n ps rs m) ((kindS n false f) ++ (rowS n false f).take j)).2 < (gnR n ps rs m) (Stp.mk false (f : Int) ((j : Int) - 1)) := by rw [← (apR_y hp1).2]; assumption
     refine W.region ?_
     refine SL.val (O.ldN (m := 3) (PtI.ref rfl rfl) (js := [_, _, _]) rfl (Nat.le_of_ble_eq_true rfl) Try.underlying57 rfl (by kernel_rfl) rfl Taken.no) ?_
     refine SL.mv rfl rfl ?_
     refine SL.effS (O.st_ref (m := 3) rfl rfl rfl (js := [_, _, _]) rfl rfl (by kernel_rfl) (by simp) (Nat.le_of_ble_eq_true rfl) rfl (is' := [_, _, _]) rfl Taken.no) (S' := (103, _) :: _) rfl ?_
     refine SL.an rfl rfl (SL.nil (E.inn (E.to ?_)))
     refine W.pick (K:=[(1,_),(2,_),(4,_),(5,_),(6,_),(7,_),(8,_),(9,_),(10,_),(11,_),(13,_),(14,_),(16,_),(17,_),(20,_),(21,_),(22,_),(23,_),(26,_),(27,_),(28,_),(29,_),(32,_),(33,_),(34,_),(35,_),(36,_),(37,_),(38,_),(39,_),(40,_),(41,_),(42,_),(43,_),(44,_),(45,_),(46,_),(47,_),(48,_),(49,_),(50,_),(51,_),(52,_)]) (Z:=[(101,_),(102,_),(103,_),(104,_)]) ⟨rfl,rfl,rfl,rfl,rfl,rfl,rfl,rfl,rfl,rfl,rfl,rfl,rfl,rfl,rfl,rfl,rfl,rfl,rfl,rfl,rfl,rfl,rfl,rfl,rfl,rfl,rfl,rfl,rfl,rfl,rfl,rfl,rfl,rfl,rfl,rfl,rfl,rfl,rfl,rfl,rfl,rfl,rfl,trivial⟩ ⟨rfl,rfl,rfl,rfl,trivial⟩ ?_
     refine W.region (SL.mv rfl rfl ?_)
     refine SL.val (O.det (fun _ => by first | exact G.R.add64 rfl rfl (by omega) | exact G.R.add rfl rfl) rfl Taken.no) ?_
     refine SL.an rfl rfl (SL.nil ?_)
     refine E.again ((j + 1)) (rn []) ?_ ?_ rfl (fixL_spec rfl) ?_ ?_
     · exact (SubF.val rfl (by (try dsimp only); exact iv_int (by omega)) (SubF.val rfl (by (try dsimp only); first | exact iv_int (by rw [snocP (l := (rowS n false f)) (by rw [rowS_len]; omega), ← List.append_assoc, best_snoc, rowS_get (by omega), pick_y hp1 hp2]; exact (apR_y hp1).2) | exact iv_int (by rw [snocP (l := (rowS n false f)) (by rw [rowS_len]; omega), ← List.append_assoc, best_snoc, rowS_get (by omega), pick_n hp])) (SubF.cons rfl (SubF.cons rfl (SubF.cons rfl (SubF.cons rfl (SubF.cons rfl (SubF.cons rfl (SubF.cons rfl (SubF.cons rfl (SubF.cons rfl (SubF.cons rfl (SubF.cons rfl (SubF.cons rfl (SubF.cons rfl SubF.nil)))))))))))))))
     · exact (SubS.val rfl (by (try dsimp only); first | (rw [snocP (l := (rowS n false f)) (by rw [rowS_len]; omega), ← List.append_assoc, best_snoc, rowS_get (by omega), pick_y hp1 hp2]; rfl) | (rw [snocP (l := (rowS n false f)) (by rw [rowS_len]; omega), ← List.append_assoc, best_snoc, rowS_get (by omega), pick_n hp]; rfl)) (SubS.cons rfl (SubS.cons rfl SubS.nil)))
     ·try dsimp only
      omega
     · (try dsimp only); omega
    ·skip
     have hp : ¬ ((posR n (barL rs) (atomsL n rs) m) (Stp.mk false (f : Int) ((j : Int) - 1)) ∧ (bestF (posR n (barL rs) (atomsL n rs) m) (gnR n ps rs m) ((kindS n false f) ++ (rowS n false f).take j)).2 < (gnR n ps rs m) (Stp.mk false (f : Int) ((j : Int) - 1))) := fun q => by have q2 := q.2; rw [← (apR_y q.1).2] at q2; exact absurd q2 (by assumption)
     refine W.skip (E.inn (E.to ?_))
     refine W.pick (K:=[(1,_),(2,_),(4,_),(5,_),(6,_),(7,_),(8,_),(9,_),(10,_),(11,_),(13,_),(14,_),(16,_),(17,_),(20,_),(21,_),(22,_),(23,_),(26,_),(27,_),(28,_),(29,_),(32,_),(33,_),(34,_),(35,_),(36,_),(37,_),(38,_),(39,_),(40,_),(41,_),(42,_),(43,_),(44,_),(45,_),(46,_),(47,_),(48,_),(49,_),(50,_)]) (Z:=[(101,_),(102,_),(103,_),(104,_)]) ⟨rfl,rfl,rfl,rfl,rfl,rfl,rfl,rfl,rfl,rfl,rfl,rfl,rfl,rfl,rfl,rfl,rfl,rfl,rfl,rfl,rfl,rfl,rfl,rfl,rfl,rfl,rfl,rfl,rfl,rfl,rfl,rfl,rfl,rfl,rfl,rfl,rfl,rfl,rfl,rfl,rfl,trivial⟩ ⟨rfl,rfl,rfl,rfl,trivial⟩ ?_
     refine W.region (SL.mv rfl rfl ?_)
     refine SL.val (O.det (fun _ => by first | exact G.R.add64 rfl rfl (by omega) | exact G.R.add rfl rfl) rfl Taken.no) ?_
     refine SL.an rfl rfl (SL.nil ?_)
     refine E.again ((j + 1)) (rn []) ?_ ?_ rfl (fixL_spec rfl) ?_ ?_
     · exact (SubF.val rfl (by (try dsimp only); exact iv_int (by omega)) (SubF.val rfl (by (try dsimp only); first | exact iv_int (by rw [snocP (l := (rowS n false f)) (by rw [rowS_len]; omega), ← List.append_assoc, best_snoc, rowS_get (by omega), pick_y hp1 hp2]; exact (apR_y hp1).2) | exact iv_int (by rw [snocP (l := (rowS n false f)) (by rw [rowS_len]; omega), ← List.append_assoc, best_snoc, rowS_get (by omega), pick_n hp])) (SubF.cons rfl (SubF.cons rfl (SubF.cons rfl (SubF.cons rfl (SubF.cons rfl (SubF.cons rfl (SubF.cons rfl (SubF.cons rfl (SubF.cons rfl (SubF.cons rfl (SubF.cons rfl (SubF.cons rfl (SubF.cons rfl SubF.nil)))))))))))))))
     · exact (SubS.val rfl (by (try dsimp only); first | (rw [snocP (l := (rowS n false f)) (by rw [rowS_len]; omega), ← List.append_assoc, best_snoc, rowS_get (by omega), pick_y hp1 hp2]; rfl) | (rw [snocP (l := (rowS n false f)) (by rw [rowS_len]; omega), ← List.append_assoc, best_snoc, rowS_get (by omega), pick_n hp]; rfl)) (SubS.cons rfl (SubS.cons rfl SubS.nil)))
     ·try dsimp only
      omega
     · (try dsimp only); omega
   ·skip
    first | have hg3p := G.gA5 hg3 | have hg3p := G.gA6 hg3 | have hg3p := hg3
    have hp : ¬ ((posR n (barL rs) (atomsL n rs) m) (Stp.mk false (f : Int) ((j : Int) - 1)) ∧ (bestF (posR n (barL rs) (atomsL n rs) m) (gnR n ps rs m) ((kindS n false f) ++ (rowS n false f).take j)).2 < (gnR n ps rs m) (Stp.mk false (f : Int) ((j : Int) - 1))) := fun q => absurd q.1 (by assumption)
    refine SL.sk rfl rfl rfl hg3 (SL.sk rfl rfl rfl hg3 (SL.sk rfl rfl rfl hg3 ?_))
    refine SL.val (O.pick_f rfl (G.ne_t hg3) rfl rfl Taken.no) ?_
    refine E.fo ?_
    refine W.pick (K:=[(1,_),(2,_),(4,_),(5,_),(6,_),(7,_),(8,_),(9,_),(10,_),(11,_),(13,_),(14,_),(16,_),(17,_),(20,_),(21,_),(22,_),(23,_),(26,_),(27,_),(28,_),(29,_),(32,_),(33,_),(34,_),(35,_),(36,_),(37,_),(38,_),(39,_),(40,_),(41,_),(42,_),(43,_),(44,_),(45,_),(46,_),(47,_),(48,_),(49,_),(50,_)]) (Z:=[(101,_),(102,_),(103,_),(104,_)]) ⟨rfl,rfl,rfl,rfl,rfl,rfl,rfl,rfl,rfl,rfl,rfl,rfl,rfl,rfl,rfl,rfl,rfl,rfl,rfl,rfl,rfl,rfl,rfl,rfl,rfl,rfl,rfl,rfl,rfl,rfl,rfl,rfl,rfl,rfl,rfl,rfl,rfl,rfl,rfl,rfl,rfl,trivial⟩ ⟨rfl,rfl,rfl,rfl,trivial⟩ ?_
    refine W.cond_f rfl ?_
    refine W.skip (E.inn (E.to ?_))
    refine W.pick (K:=[(1,_),(2,_),(4,_),(5,_),(6,_),(7,_),(8,_),(9,_),(10,_),(11,_),(13,_),(14,_),(16,_),(17,_),(20,_),(21,_),(22,_),(23,_),(26,_),(27,_),(28,_),(29,_),(32,_),(33,_),(34,_),(35,_),(36,_),(37,_),(38,_),(39,_),(40,_),(41,_),(42,_),(43,_),(44,_),(45,_),(46,_),(47,_),(48,_),(49,_),(50,_)]) (Z:=[(101,_),(102,_),(103,_),(104,_)]) ⟨rfl,rfl,rfl,rfl,rfl,rfl,rfl,rfl,rfl,rfl,rfl,rfl,rfl,rfl,rfl,rfl,rfl,rfl,rfl,rfl,rfl,rfl,rfl,rfl,rfl,rfl,rfl,rfl,rfl,rfl,rfl,rfl,rfl,rfl,rfl,rfl,rfl,rfl,rfl,rfl,rfl,trivial⟩ ⟨rfl,rfl,rfl,rfl,trivial⟩ ?_
    refine W.region (SL.mv rfl rfl ?_)
    refine SL.val (O.det (fun _ => by first | exact G.R.add64 rfl rfl (by omega) | exact G.R.add rfl rfl) rfl Taken.no) ?_
    refine SL.an rfl rfl (SL.nil ?_)
    refine E.again ((j + 1)) (rn []) ?_ ?_ rfl (fixL_spec rfl) ?_ ?_
    · exact (SubF.val rfl (by (try dsimp only); exact iv_int (by omega)) (SubF.val rfl (by (try dsimp only); first | exact iv_int (by rw [snocP (l := (rowS n false f)) (by rw [rowS_len]; omega), ← List.append_assoc, best_snoc, rowS_get (by omega), pick_y hp1 hp2]; exact (apR_y hp1).2) | exact iv_int (by rw [snocP (l := (rowS n false f)) (by rw [rowS_len]; omega), ← List.append_assoc, best_snoc, rowS_get (by omega), pick_n hp])) (SubF.cons rfl (SubF.cons rfl (SubF.cons rfl (SubF.cons rfl (SubF.cons rfl (SubF.cons rfl (SubF.cons rfl (SubF.cons rfl (SubF.cons rfl (SubF.cons rfl (SubF.cons rfl (SubF.cons rfl (SubF.cons rfl SubF.nil)))))))))))))))
    · exact (SubS.val rfl (by (try dsimp only); first | (rw [snocP (l := (rowS n false f)) (by rw [rowS_len]; omega), ← List.append_assoc, best_snoc, rowS_get (by omega), pick_y hp1 hp2]; rfl) | (rw [snocP (l := (rowS n false f)) (by rw [rowS_len]; omega), ← List.append_assoc, best_snoc, rowS_get (by omega), pick_n hp]; rfl)) (SubS.cons rfl (SubS.cons rfl SubS.nil)))
    ·try dsimp only
     omega
    · (try dsimp only); omega
  ·skip
   refine W.exit (E.th (E.th (E.hit (E.inn (E.to (W.region (SL.mv rfl rfl ?_)))))))
   refine SL.val (O.det (fun _ => by first | exact G.R.add64 rfl rfl (by omega) | exact G.R.add rfl rfl) rfl Taken.no) ?_
   refine SL.an rfl rfl (SL.nil ?_)
   refine E.again ((f + 1)) (rn []) ?_ ?_ rfl (fixL_spec rfl) ?_ ?_
   · exact (SubF.cons rfl (SubF.val rfl (by (try dsimp only); exact iv_int (by rw [kindS_s, show j = (rowS n false f).length by rw [rowS_len]; omega, List.take_length])) (SubF.cons rfl (SubF.cons rfl (SubF.cons rfl (SubF.cons rfl (SubF.cons rfl (SubF.cons rfl (SubF.cons rfl (SubF.cons rfl SubF.nil))))))))))
   · exact (SubS.val rfl (by (try dsimp only); (rw [kindS_s, show j = (rowS n false f).length by rw [rowS_len]; omega, List.take_length]; rfl)) (SubS.cons rfl (SubS.cons rfl SubS.nil)))
   ·try dsimp only
    omega
   · (try dsimp only); omega
 ·skip
  refine W.exit (E.th (E.th (E.hit (E.inn (E.to (W.region (SL.mv rfl rfl ?_)))))))
  refine SL.val (O.det (fun _ => by first | exact G.R.add64 rfl rfl (by omega) | exact G.R.add rfl rfl) rfl Taken.no) ?_
  refine SL.an rfl rfl (SL.nil ?_)
  refine E.reround ?_
  refine W.pick (K:=[(1,_),(2,_),(4,_),(5,_),(6,_),(7,_),(8,_),(9,_),(16,_),(17,_),(18,_),(19,_),(20,_),(21,_),(22,_),(23,_)]) (Z:=[(101,_),(102,_),(103,_)]) ⟨rfl,rfl,rfl,rfl,rfl,rfl,rfl,rfl,rfl,rfl,rfl,rfl,rfl,rfl,rfl,rfl,trivial⟩ ⟨rfl,rfl,rfl,trivial⟩ ?_
  refine W.seq (W.rg (SL.mv rfl rfl ?_))
  refine SL.val (O.det (fun _ => G.R.mv (G.R.lss rfl rfl) (congrArg Value.bool (decide_eq_true (by decide)))) rfl Taken.no) ?_
  refine E.fo ?_
  refine W.cond_t rfl ?_
  refine W.skip (E.to (W.seq (W.block (W.rg (SL.an rfl rfl (E.fo (W.block ?_)))))))
  refine W.loopx1 (fun (f : Nat) => [(9, vI (f : Int)), (7, vI (bestF (posR n (barL rs) (atomsL n rs) m) (gnR n ps rs m) (kindS n false n ++ kindS n true f)).2)]) (fun (f : Nat) => [(103, .cells 57 [vB (bestF (posR n (barL rs) (atomsL n rs) m) (gnR n ps rs m) (kindS n false n ++ kindS n true f)).1.u, vI (bestF (posR n (barL rs) (atomsL n rs) m) (gnR n ps rs m) (kindS n false n ++ kindS n true f)).1.f, vI (bestF (posR n (barL rs) (atomsL n rs) m) (gnR n ps rs m) (kindS n false n ++ kindS n true f)).1.t])]) (fun (f : Nat) => f ≤ n) (fun (f : Nat) => n - f) (0) (rn []) (.cons (t := 1) rfl (.cons (t := 2) rfl (.cons (t := 4) rfl (.cons (t := 5) rfl (.cons (t := 6) rfl (.cons (t := 8) rfl (.cons (t := 16) rfl (.cons (t := 17) rfl (.cons (t := 18) rfl (.cons (t := 19) rfl .nil)))))))))) (.cons (t := 101) rfl (.cons (t := 102) rfl .nil)) rfl ?_ ?_ rfl rfl ?_ ?_
  · exact (SubF.cons rfl (SubF.val rfl (by exact iv_int (by rw [show f = n by omega]; exact congrArg (fun l => (bestF (posR n (barL rs) (atomsL n rs) m) (gnR n ps rs m) l).2) (List.append_nil _).symm)) SubF.nil))
  · exact (SubS.val rfl (by (rw [show f = n by omega, show kindS n false n ++ kindS n true 0 = kindS n false n from List.append_nil _]; try rfl)) SubS.nil)
  ·skip
   omega
  intro f hinv
  have hf_ := hinv
  refine W.seq (W.rg (SL.mv rfl rfl ?_))
  refine SL.val (O.fld_ref (o' := 0) rfl Try.underlying25 rfl (m := 0) (by kernel_rfl) rfl rfl Taken.no) ?_
  refine SL.val (O.ld1 (PtI.ref rfl rfl) rfl Try.underlying3 rfl rfl Taken.no) ?_
  refine SL.val (O.det (fun _ => G.R.lss rfl rfl) rfl Taken.no) ?_
  refine E.fo ?_
  first | refine W.cond_d rfl (fun hc5 => ?_) (fun hc5 => ?_) | refine W.cond_nd rfl (fun hc5 => ?_) (fun hc5 => ?_) | refine W.cond rfl (fun hc5 => ?_) (fun hc5 => ?_)
  ·skip
   refine W.skip (E.to (W.seq (W.block (W.rg (SL.an rfl rfl (E.fo (W.block ?_)))))))
   refine W.loopx1 (fun (j : Nat) => [(10, vI ((j : Int) - 1)), (7, vI (bestF (posR n (barL rs) (atomsL n rs) m) (gnR n ps rs m) ((kindS n false n ++ kindS n true f) ++ (rowS n true f).take j)).2)]) (fun (j : Nat) => [(103, .cells 57 [vB (bestF (posR n (barL rs) (atomsL n rs) m) (gnR n ps rs m) ((kindS n false n ++ kindS n true f) ++ (rowS n true f).take j)).1.u, vI (bestF (posR n (barL rs) (atomsL n rs) m) (gnR n ps rs m) ((kindS n false n ++ kindS n true f) ++ (rowS n true f).take j)).1.f, vI (bestF (posR n (barL rs) (atomsL n rs) m) (gnR n ps rs m) ((kindS n false n ++ kindS n true f) ++ (rowS n true f).take j)).1.t])]) (fun (j : Nat) => j ≤ n + 1) (fun (j : Nat) => n + 1 - j) (0) (rn []) (.cons (t := 1) rfl (.cons (t := 2) rfl (.cons (t := 4) rfl (.cons (t := 5) rfl (.cons (t := 6) rfl (.cons (t := 8) rfl (.cons (t := 9) rfl (.cons (t := 16) rfl (.cons (t := 17) rfl (.cons (t := 18) rfl (.cons (t := 19) rfl (.cons (t := 20) rfl (.cons (t := 21) rfl (.cons (t := 22) rfl (.cons (t := 23) rfl .nil))))))))))))))) (.cons (t := 101) rfl (.cons (t := 102) rfl .nil)) rfl ?_ ?_ rfl rfl ?_ ?_
   · exact (SubF.val rfl (by exact iv_int (by omega)) (SubF.val rfl (by exact iv_int (by rw [List.take_zero, List.append_nil])) SubF.nil))
   · exact (SubS.val rfl (by (rw [List.take_zero, List.append_nil]; try rfl)) SubS.nil)
   ·skip
    omega
   intro j hinv
   have hj := hinv
   refine W.seq (W.rg (SL.mv rfl rfl ?_))
   refine SL.val (O.fld_ref (o' := 0) rfl Try.underlying25 rfl (m := 0) (by kernel_rfl) rfl rfl Taken.no) ?_
   refine SL.val (O.ld1 (PtI.ref rfl rfl) rfl Try.underlying3 rfl rfl Taken.no) ?_
   refine SL.val (O.det (fun _ => G.R.lss rfl rfl) rfl Taken.no) ?_
   refine E.fo ?_
   first | refine W.cond_d rfl (fun hc6 => ?_) (fun hc6 => ?_) | refine W.cond_nd rfl (fun hc6 => ?_) (fun hc6 => ?_) | refine W.cond rfl (fun hc6 => ?_) (fun hc6 => ?_)
   ·skip
    refine W.skip (E.to (W.seq (W.block (W.rg (SL.mv rfl rfl ?_)))))
    refine SL.val (O.det (fun _ => G.R.mv (G.R.eql rfl rfl) (congrArg Value.bool (decide_eq_true (by decide)))) rfl Taken.no) ?_
    refine SL.mv rfl rfl (SL.mv rfl rfl ?_)
    refine SL.val (O.build (res := [_, _, _]) (z := .agg #[.bool false, .int .i64 0, .int .i64 0]) (places := [(0, 1), (1, 1), (2, 1)]) rfl rfl Try.underlying57 (by kernel_rfl) (fun _ => by kernel_rfl) rfl rfl Taken.no) ?_
    refine SL.memS (O.alloc (z := .agg #[.bool false, .int .i64 0, .int .i64 0]) (is := [.u (.sc (.bool false)), .u (.sc (.int .i64 0)), .u (.sc (.int .i64 0))]) 105 (by kernel_rfl) rfl rfl rfl Taken.no) rfl rfl (S' := (105, _) :: _) rfl ?_
    refine SL.effS (O.st_ref (m := 3) rfl rfl rfl (js := [_, _, _]) rfl rfl (by kernel_rfl) (by simp) (Nat.le_of_ble_eq_true rfl) rfl (is' := [_, _, _]) rfl Taken.no) (S' := (105, _) :: _) rfl ?_
    refine E.fo ?_
    refine W.pick (K:=[(1,_),(2,_),(4,_),(5,_),(6,_),(7,_),(8,_),(9,_),(10,_),(11,_),(16,_),(17,_),(18,_),(19,_),(20,_),(21,_),(22,_),(23,_),(26,_),(27,_),(28,_),(29,_),(32,_),(33,_),(34,_),(35,_),(36,_)]) (Z:=[(101,_),(102,_),(103,_),(105,_)]) ⟨rfl,rfl,rfl,rfl,rfl,rfl,rfl,rfl,rfl,rfl,rfl,rfl,rfl,rfl,rfl,rfl,rfl,rfl,rfl,rfl,rfl,rfl,rfl,rfl,rfl,rfl,rfl,trivial⟩ ⟨rfl,rfl,rfl,rfl,trivial⟩ ?_
    refine W.rg ?_
    refine SL.val (O.ldN (m := 3) (PtI.ref rfl rfl) (js := [_, _, _]) rfl (Nat.le_of_ble_eq_true rfl) Try.underlying25 rfl (by kernel_rfl) rfl Taken.no) ?_
    refine SL.mv rfl rfl ?_
    refine SL.val (O.ldN (m := 3) (PtI.ref rfl rfl) (js := [_, _, _]) rfl (Nat.le_of_ble_eq_true rfl) Try.underlying57 rfl (by kernel_rfl) rfl Taken.no) ?_
    refine SL.memS (O.call (rn []) [] rfl rfl rfl (refapply_h (u := true) (f := (f : Int)) (t := (j : Int) - 1) hf hml hpl) (.cons (ArgOk.aggU (.cons (ArgOk.same rfl) (.cons (ArgOk.same rfl) (.cons (ArgOk.same rfl) .nil)))) (.cons (ArgOk.same rfl) (.cons (ArgOk.aggU (.cons (ArgOk.same rfl) (.cons (ArgOk.same rfl) (.cons (ArgOk.same rfl) .nil)))) .nil))) SubS.nil rfl rfl rfl rfl rfl (.inl rfl) hcallOk51 (r' := .tup [.u _, .u _, .u _]) rfl rfl Taken.no) rfl rfl (S' := _) rfl ?_
    refine SL.mv rfl rfl ?_
    refine SL.val (O.extract rfl rfl rfl Taken.no) ?_
    refine SL.val (O.extract rfl rfl rfl Taken.no) ?_
    refine SL.val (O.extract rfl rfl rfl Taken.no) ?_
    refine SL.an rfl rfl (SL.an rfl rfl (SL.an rfl rfl (E.fo ?_)))
    refine W.pick (K:=[(1,_),(2,_),(4,_),(5,_),(6,_),(7,_),(8,_),(9,_),(10,_),(11,_),(13,_),(14,_),(16,_),(17,_),(18,_),(19,_),(20,_),(21,_),(22,_),(23,_),(26,_),(27,_),(28,_),(29,_),(32,_),(33,_),(34,_),(35,_),(36,_),(37,_),(38,_),(39,_),(40,_),(41,_),(42,_),(43,_),(44,_)]) (Z:=[(101,_),(102,_),(103,_),(105,_)]) ⟨rfl,rfl,rfl,rfl,rfl,rfl,rfl,rfl,rfl,rfl,rfl,rfl,rfl,rfl,rfl,rfl,rfl,rfl,rfl,rfl,rfl,rfl,rfl,rfl,rfl,rfl,rfl,rfl,rfl,rfl,rfl,rfl,rfl,rfl,rfl,rfl,rfl,trivial⟩ ⟨rfl,rfl,rfl,rfl,trivial⟩ ?_
    refine W.rg (SL.mv rfl rfl (SL.mv rfl rfl ?_))
    refine SL.case (j := 1) (g := 46) (want := true) rfl rfl (fun hg7 => ?_) (fun hg7 => ?_)
    ·skip
     first | have hg7p := G.gA1 hg7 | have hg7p := G.gA2 hg7 | have hg7p := hg7
     refine SL.val (O.move rfl rfl (Taken.yes rfl rfl hg7)) ?_
     refine SL.val (O.move rfl rfl (Taken.yes rfl rfl hg7)) ?_
     refine SL.val (O.det (fun _ => G.R.gtr rfl rfl) rfl (Taken.yes rfl rfl hg7)) ?_
     refine SL.val (O.pick_t rfl hg7 rfl rfl Taken.no) ?_
     refine E.fo ?_
     refine W.pick (K:=[(1,_),(2,_),(4,_),(5,_),(6,_),(7,_),(8,_),(9,_),(10,_),(11,_),(13,_),(14,_),(16,_),(17,_),(18,_),(19,_),(20,_),(21,_),(22,_),(23,_),(26,_),(27,_),(28,_),(29,_),(32,_),(33,_),(34,_),(35,_),(36,_),(37,_),(38,_),(39,_),(40,_),(41,_),(42,_),(43,_),(44,_),(45,_),(46,_),(47,_),(48,_),(49,_),(50,_)]) (Z:=[(101,_),(102,_),(103,_),(105,_)]) ⟨rfl,rfl,rfl,rfl,rfl,rfl,rfl,rfl,rfl,rfl,rfl,rfl,rfl,rfl,rfl,rfl,rfl,rfl,rfl,rfl,rfl,rfl,rfl,rfl,rfl,rfl,rfl,rfl,rfl,rfl,rfl,rfl,rfl,rfl,rfl,rfl,rfl,rfl,rfl,rfl,rfl,rfl,rfl,trivial⟩ ⟨rfl,rfl,rfl,rfl,trivial⟩ ?_
     first | refine W.cond_d rfl (fun hc8 => ?_) (fun hc8 => ?_) | refine W.cond_nd rfl (fun hc8 => ?_) (fun hc8 => ?_) | refine W.cond rfl (fun hc8 => ?_) (fun hc8 => ?_)
     ·skip
      have hp1 : (posR n (barL rs) (atomsL n rs) m) (Stp.mk true (f : Int) ((j : Int) - 1)) := by first | assumption | simp_all
      have hp2 : (bestF (posR n (barL rs) (atomsL n rs) m) (gnR n ps rs m) ((kindS n false n ++ kindS n true f) ++ (rowS n true f).take j)).2 < (gnR n ps rs m) (Stp.mk true (f : Int) ((j : Int) - 1)) := by rw [← (apR_y hp1).2]; assumption
      refine W.region ?_
      refine SL.val (O.ldN (m := 3) (PtI.ref rfl rfl) (js := [_, _, _]) rfl (Nat.le_of_ble_eq_true rfl) Try.underlying57 rfl (by kernel_rfl) rfl Taken.no) ?_
      refine SL.mv rfl rfl ?_
      refine SL.effS (O.st_ref (m := 3) rfl rfl rfl (js := [_, _, _]) rfl rfl (by kernel_rfl) (by simp) (Nat.le_of_ble_eq_true rfl) rfl (is' := [_, _, _]) rfl Taken.no) (S' := (103, _) :: _) rfl ?_
      refine SL.an rfl rfl (SL.nil (E.inn (E.to ?_)))
      refine W.pick (K:=[(1,_),(2,_),(4,_),(5,_),(6,_),(7,_),(8,_),(9,_),(10,_),(11,_),(13,_),(14,_),(16,_),(17,_),(18,_),(19,_),(20,_),(21,_),(22,_),(23,_),(26,_),(27,_),(28,_),(29,_),(32,_),(33,_),(34,_),(35,_),(36,_),(37,_),(38,_),(39,_),(40,_),(41,_),(42,_),(43,_),(44,_),(45,_),(46,_),(47,_),(48,_),(49,_),(50,_),(51,_),(52,_)]) (Z:=[(101,_),(102,_),(103,_),(105,_)]) ⟨rfl,rfl,rfl,rfl,rfl,rfl,rfl,rfl,rfl,rfl,rfl,rfl,rfl,rfl,rfl,rfl,rfl,rfl,rfl,rfl,rfl,rfl,rfl,rfl,rfl,rfl,rfl,rfl,rfl,rfl,rfl,rfl,rfl,rfl,rfl,rfl,rfl,rfl,rfl,rfl,rfl,rfl,rfl,rfl,rfl,trivial⟩ ⟨rfl,rfl,rfl,rfl,trivial⟩ ?_
      refine W.region (SL.mv rfl rfl ?_)
      refine SL.val (O.det (fun _ => by first | exact G.R.add64 rfl rfl (by omega) | exact G.R.add rfl rfl) rfl Taken.no) ?_
      refine SL.an rfl rfl (SL.nil ?_)
      refine E.again ((j + 1)) (rn []) ?_ ?_ rfl (fixL_spec rfl) ?_ ?_
      · exact (SubF.val rfl (by (try dsimp only); exact iv_int (by omega)) (SubF.val rfl (by (try dsimp only); first | exact iv_int (by rw [snocP (l := (rowS n true f)) (by rw [rowS_len]; omega), ← List.append_assoc, best_snoc, rowS_get (by omega), pick_y hp1 hp2]; exact (apR_y hp1).2) | exact iv_int (by rw [snocP (l := (rowS n true f)) (by rw [rowS_len]; omega), ← List.append_assoc, best_snoc, rowS_get (by omega), pick_n hp])) (SubF.cons rfl (SubF.cons rfl (SubF.cons rfl (SubF.cons rfl (SubF.cons rfl (SubF.cons rfl (SubF.cons rfl (SubF.cons rfl (SubF.cons rfl (SubF.cons rfl (SubF.cons rfl (SubF.cons rfl (SubF.cons rfl (SubF.cons rfl (SubF.cons rfl SubF.nil)))))))))))))))))
      · exact (SubS.val rfl (by (try dsimp only); first | (rw [snocP (l := (rowS n true f)) (by rw [rowS_len]; omega), ← List.append_assoc, best_snoc, rowS_get (by omega), pick_y hp1 hp2]; rfl) | (rw [snocP (l := (rowS n true f)) (by rw [rowS_len]; omega), ← List.append_assoc, best_snoc, rowS_get (by omega), pick_n hp]; rfl)) (SubS.cons rfl (SubS.cons rfl SubS.nil)))
      ·try dsimp only
       omega
      · (try dsimp only); omega
     ·skip
      have hp : ¬ ((posR n (barL rs) (atomsL n rs) m) (Stp.mk true (f : Int) ((j : Int) - 1)) ∧ (bestF (posR n (barL rs) (atomsL n rs) m) (gnR n ps rs m) ((kindS n false n ++ kindS n true f) ++ (rowS n true f).take j)).2 < (gnR n ps rs m) (Stp.mk true (f : Int) ((j : Int) - 1))) := fun q => by have q2 := q.2; rw [← (apR_y q.1).2] at q2; exact absurd q2 (by assumption)
      refine W.skip (E.inn (E.to ?_))
      refine W.pick (K:=[(1,_),(2,_),(4,_),(5,_),(6,_),(7,_),(8,_),(9,_),(10,_),(11,_),(13,_),(14,_),(16,_),(17,_),(18,_),(19,_),(20,_),(21,_),(22,_),(23,_),(26,_),(27,_),(28,_),(29,_),(32,_),(33,_),(34,_),(35,_),(36,_),(37,_),(38,_),(39,_),(40,_),(41,_),(42,_),(43,_),(44,_),(45,_),(46,_),(47,_),(48,_),(49,_),(50,_)]) (Z:=[(101,_),(102,_),(103,_),(105,_)]) ⟨rfl,rfl,rfl,rfl,rfl,rfl,rfl,rfl,rfl,rfl,rfl,rfl,rfl,rfl,rfl,rfl,rfl,rfl,rfl,rfl,rfl,rfl,rfl,rfl,rfl,rfl,rfl,rfl,rfl,rfl,rfl,rfl,rfl,rfl,rfl,rfl,rfl,rfl,rfl,rfl,rfl,rfl,rfl,trivial⟩ ⟨rfl,rfl,rfl,rfl,trivial⟩ ?_
      refine W.region (SL.mv rfl rfl ?_)
      refine SL.val (O.det (fun _ => by first | exact G.R.add64 rfl rfl (by omega) | exact G.R.add rfl rfl) rfl Taken.no) ?_
      refine SL.an rfl rfl (SL.nil ?_)
      refine E.again ((j + 1)) (rn []) ?_ ?_ rfl (fixL_spec rfl) ?_ ?_
      · exact (SubF.val rfl (by (try dsimp only); exact iv_int (by omega)) (SubF.val rfl (by (try dsimp only); first | exact iv_int (by rw [snocP (l := (rowS n true f)) (by rw [rowS_len]; omega), ← List.append_assoc, best_snoc, rowS_get (by omega), pick_y hp1 hp2]; exact (apR_y hp1).2) | exact iv_int (by rw [snocP (l := (rowS n true f)) (by rw [rowS_len]; omega), ← List.append_assoc, best_snoc, rowS_get (by omega), pick_n hp])) (SubF.cons rfl (SubF.cons rfl (SubF.cons rfl (SubF.cons rfl (SubF.cons rfl (SubF.cons rfl (SubF.cons rfl (SubF.cons rfl (SubF.cons rfl (SubF.cons rfl (SubF.cons rfl (SubF.cons rfl (SubF.cons rfl (SubF.cons rfl (SubF.cons rfl SubF.nil)))))))))))))))))
      · exact (SubS.val rfl (by (try dsimp only); first | (rw [snocP (l := (rowS n true f)) (by rw [rowS_len]; omega), ← List.append_assoc, best_snoc, rowS_get (by omega), pick_y hp1 hp2]; rfl) | (rw [snocP (l := (rowS n true f)) (by rw [rowS_len]; omega), ← List.append_assoc, best_snoc, rowS_get (by omega), pick_n hp]; rfl)) (SubS.cons rfl (SubS.cons rfl SubS.nil)))
      ·try dsimp only
       omega
      · (try dsimp only); omega
    ·skip
     first | have hg7p := G.gA5 hg7 | have hg7p := G.gA6 hg7 | have hg7p := hg7
     have hp : ¬ ((posR n (barL rs) (atomsL n rs) m) (Stp.mk true (f : Int) ((j : Int) - 1)) ∧ (bestF (posR n (barL rs) (atomsL n rs) m) (gnR n ps rs m) ((kindS n false n ++ kindS n true f) ++ (rowS n true f).take j)).2 < (gnR n ps rs m) (Stp.mk true (f : Int) ((j : Int) - 1))) := fun q => absurd q.1 (by assumption)
     refine SL.sk rfl rfl rfl hg7 (SL.sk rfl rfl rfl hg7 (SL.sk rfl rfl rfl hg7 ?_))
     refine SL.val (O.pick_f rfl (G.ne_t hg7) rfl rfl Taken.no) ?_
     refine E.fo ?_
     refine W.pick (K:=[(1,_),(2,_),(4,_),(5,_),(6,_),(7,_),(8,_),(9,_),(10,_),(11,_),(13,_),(14,_),(16,_),(17,_),(18,_),(19,_),(20,_),(21,_),(22,_),(23,_),(26,_),(27,_),(28,_),(29,_),(32,_),(33,_),(34,_),(35,_),(36,_),(37,_),(38,_),(39,_),(40,_),(41,_),(42,_),(43,_),(44,_),(45,_),(46,_),(47,_),(48,_),(49,_),(50,_)]) (Z:=[(101,_),(102,_),(103,_),(105,_)]) ⟨rfl,rfl,rfl,rfl,rfl,rfl,rfl,rfl,rfl,rfl,rfl,rfl,rfl,rfl,rfl,rfl,rfl,rfl,rfl,rfl,rfl,rfl,rfl,rfl,rfl,rfl,rfl,rfl,rfl,rfl,rfl,rfl,rfl,rfl,rfl,rfl,rfl,rfl,rfl,rfl,rfl,rfl,rfl,trivial⟩ ⟨rfl,rfl,rfl,rfl,trivial⟩ ?_
     refine W.cond_f rfl ?_
     refine W.skip (E.inn (E.to ?_))
     refine W.pick (K:=[(1,_),(2,_),(4,_),(5,_),(6,_),(7,_),(8,_),(9,_),(10,_),(11,_),(13,_),(14,_),(16,_),(17,_),(18,_),(19,_),(20,_),(21,_),(22,_),(23,_),(26,_),(27,_),(28,_),(29,_),(32,_),(33,_),(34,_),(35,_),(36,_),(37,_),(38,_),(39,_),(40,_),(41,_),(42,_),(43,_),(44,_),(45,_),(46,_),(47,_),(48,_),(49,_),(50,_)]) (Z:=[(101,_),(102,_),(103,_),(105,_)]) ⟨rfl,rfl,rfl,rfl,rfl,rfl,rfl,rfl,rfl,rfl,rfl,rfl,rfl,rfl,rfl,rfl,rfl,rfl,rfl,rfl,rfl,rfl,rfl,rfl,rfl,rfl,rfl,rfl,rfl,rfl,rfl,rfl,rfl,rfl,rfl,rfl,rfl,rfl,rfl,rfl,rfl,rfl,rfl,trivial⟩ ⟨rfl,rfl,rfl,rfl,trivial⟩ ?_
     refine W.region (SL.mv rfl rfl ?_)
     refine SL.val (O.det (fun _ => by first | exact G.R.add64 rfl rfl (by omega) | exact G.R.add rfl rfl) rfl Taken.no) ?_
     refine SL.an rfl rfl (SL.nil ?_)
     refine E.again ((j + 1)) (rn []) ?_ ?_ rfl (fixL_spec rfl) ?_ ?_
     · exact (SubF.val rfl (by (try dsimp only); exact iv_int (by omega)) (SubF.val rfl (by (try dsimp only); first | exact iv_int (by rw [snocP (l := (rowS n true f)) (by rw [rowS_len]; omega), ← List.append_assoc, best_snoc, rowS_get (by omega), pick_y hp1 hp2]; exact (apR_y hp1).2) | exact iv_int (by rw [snocP (l := (rowS n true f)) (by rw [rowS_len]; omega), ← List.append_assoc, best_snoc, rowS_get (by omega), pick_n hp])) (SubF.cons rfl (SubF.cons rfl (SubF.cons rfl (SubF.cons rfl (SubF.cons rfl (SubF.cons rfl (SubF.cons rfl (SubF.cons rfl (SubF.cons rfl (SubF.cons rfl (SubF.cons rfl (SubF.cons rfl (SubF.cons rfl (SubF.cons rfl (SubF.cons rfl SubF.nil)))))))))))))))))
     · exact (SubS.val rfl (by (try dsimp only); first | (rw [snocP (l := (rowS n true f)) (by rw [rowS_len]; omega), ← List.append_assoc, best_snoc, rowS_get (by omega), pick_y hp1 hp2]; rfl) | (rw [snocP (l := (rowS n true f)) (by rw [rowS_len]; omega), ← List.append_assoc, best_snoc, rowS_get (by omega), pick_n hp]; rfl)) (SubS.cons rfl (SubS.cons rfl SubS.nil)))
     ·try dsimp only
      omega
     · (try dsimp only); omega
   ·skip
    refine W.exit (E.th (E.th (E.hit (E.inn (E.to (W.region (SL.mv rfl rfl ?_)))))))
    refine SL.val (O.det (fun _ => by first | exact G.R.add64 rfl rfl (by omega) | exact G.R.add rfl rfl) rfl Taken.no) ?_
    refine SL.an rfl rfl (SL.nil ?_)
    refine E.again ((f + 1)) (rn []) ?_ ?_ rfl (fixL_spec rfl) ?_ ?_
    · exact (SubF.cons rfl (SubF.val rfl (by (try dsimp only); exact iv_int (by rw [kindS_s, show j = (rowS n true f).length by rw [rowS_len]; omega, List.take_length, List.append_assoc])) (SubF.cons rfl (SubF.cons rfl (SubF.cons rfl (SubF.cons rfl (SubF.cons rfl (SubF.cons rfl (SubF.cons rfl (SubF.cons rfl (SubF.cons rfl (SubF.cons rfl SubF.nil))))))))))))
    · exact (SubS.val rfl (by (try dsimp only); (rw [kindS_s, show j = (rowS n true f).length by rw [rowS_len]; omega, List.take_length, List.append_assoc]; rfl)) (SubS.cons rfl (SubS.cons rfl SubS.nil)))
    ·try dsimp only
     omega
    · (try dsimp only); omega
  ·skip
   refine W.exit (E.th (E.th (E.hit (E.inn (E.to (W.region (SL.mv rfl rfl ?_)))))))
   refine SL.val (O.det (fun _ => by first | exact G.R.add64 rfl rfl (by omega) | exact G.R.add rfl rfl) rfl Taken.no) ?_
   refine SL.an rfl rfl (SL.nil ?_)
   refine E.reround ?_
   refine W.pick (K:=[(1,_),(2,_),(4,_),(5,_),(6,_),(7,_),(8,_),(9,_),(16,_),(17,_),(18,_),(19,_),(20,_),(21,_),(22,_),(23,_)]) (Z:=[(101,_),(102,_),(103,_)]) ⟨rfl,rfl,rfl,rfl,rfl,rfl,rfl,rfl,rfl,rfl,rfl,rfl,rfl,rfl,rfl,rfl,trivial⟩ ⟨rfl,rfl,rfl,trivial⟩ ?_
   refine W.seq (W.rg (SL.mv rfl rfl ?_))
   refine SL.val (O.det (fun _ => G.R.mv (G.R.lss rfl rfl) (congrArg Value.bool (decide_eq_false (by decide)))) rfl Taken.no) ?_
   refine E.fo ?_
   refine W.cond_f rfl ?_
   refine W.exit (E.th (E.th (E.hit (E.to (W.rg ?_)))))
   refine SL.val (O.ldN (m := 3) (PtI.ref rfl rfl) (js := [_, _, _]) rfl (Nat.le_of_ble_eq_true rfl) Try.underlying57 rfl (by kernel_rfl) rfl Taken.no) ?_
   refine SL.mv rfl rfl ?_
   refine SL.effS (O.st_ref (m := 3) rfl rfl rfl (js := [_, _, _]) rfl rfl (by kernel_rfl) (by simp) (Nat.le_of_ble_eq_true rfl) rfl (is' := [_, _, _]) rfl Taken.no) (S' := (102, _) :: _) rfl ?_
   refine SL.an rfl rfl (E.fo (W.ret ?_))
   refine E.fin (rs := [_, _]) (rn []) (.inl rfl) rfl (.cons (ResOne.cellN (m := 3) (PtI.ref rfl rfl) (js := [_, _, _]) rfl (Nat.le_of_ble_eq_true rfl) Try.underlying57 rfl (by kernel_rfl)) (.cons (ResOne.tmp rfl) .nil)) ?_ ?_ rfl (fixL_spec rfl)
   ·skip
    (rw [show f = n by omega]; rfl)
   · exact SubS.nil





set_option maxRecDepth 8000 in
/-- bookplate/bookplateref33.Solve. -/
theorem refSolve_ok {n : Nat} {ps : List Pr} {rs : List Ru} (hok : (Prob.mk (n : Int) ps rs).ok) (hpl : ps.length ≤ 1000000) :
    Con Try.prog 30 [vA [uI (n : Int), .sl 3 (ps.map ePr), .sl 3 (rs.map eRu)]] [] (.tup [vL 1 ((solveR n ps rs).map eN), vI 0]) [] := by
 have hf := hok.1
 have hn2 : (n : Int) ≤ 200 := hf.2.1
 have hr4 : rs.length ≤ 400 := hf.2.2.1
 have hal : (atomsL n rs).length = n := by rw [atomsL, joins_len, List.length_range]
 refine Con.enterL (n := 32) Try.func30 rfl rfl rfl (fun τ w ok vs hin => ?_)
 have hl0_1 := hin.lenA (i := 0) (j := 1) rfl rfl
 try rw [List.length_map] at hl0_1
 have hl0_2 := hin.lenA (i := 0) (j := 2) rfl rfl
 try rw [List.length_map] at hl0_2
 clear hin
 refine W.rg ?_
 refine SL.memS (O.box (is := [_, _, _]) 101 rfl rfl (by simp) rfl rfl Taken.no) rfl rfl (S' := (101, _) :: _) rfl ?_
 refine SL.an rfl rfl (SL.an rfl rfl (E.fo (W.seq (W.rg ?_))))
 refine SL.val (O.ldN (m := 3) (PtI.ref rfl rfl) (js := [_, _, _]) rfl (Nat.le_of_ble_eq_true rfl) Try.underlying25 rfl (by kernel_rfl) rfl Taken.no) ?_
 refine SL.val (O.callp rfl rfl rfl (refvalid_h (N := (n : Int)) (ps := ps) (rs := rs)) (.cons (ArgOk.aggU (.cons (ArgOk.same rfl) (.cons (ArgOk.same rfl) (.cons (ArgOk.same rfl) .nil)))) .nil) hcallOk13 rfl Taken.no) ?_
 refine SL.as (i' := vI 0) 9 rfl (by rw [Prob.err_0 hok]) ?_
 refine SL.an rfl rfl (E.fo (W.rg (SL.mv rfl rfl ?_)))
 refine SL.val (O.det (fun _ => G.R.mv (G.R.neq rfl rfl) (congrArg Value.bool (decide_eq_false (by decide)))) rfl Taken.no) ?_
 refine E.fo ?_
 refine W.cond_f rfl ?_
 refine W.skip (E.to (W.rg ?_))
 refine SL.val (O.ldN (m := 3) (PtI.ref rfl rfl) (js := [_, _, _]) rfl (Nat.le_of_ble_eq_true rfl) Try.underlying25 rfl (by kernel_rfl) rfl Taken.no) ?_
 refine SL.val (O.callp rfl rfl rfl (Con.fz (refatoms_h hf) rfl rfl) (.cons (ArgOk.aggU (.cons (ArgOk.same rfl) (.cons (ArgOk.same rfl) (.cons (ArgOk.same rfl) .nil)))) .nil) hcallOk37 rfl Taken.no) ?_
 refine SL.an rfl rfl (E.fo (W.block ?_))
 refine W.loopx1 (fun (m : List Nat) => [(5, vL 1 (m.map eN))]) (fun (m : List Nat) => []) (fun (m : List Nat) => isP n m ∧ permR n ps rs m ∧ solveN n ps rs (muS ps m + 1) m = solveR n ps rs) (fun (m : List Nat) => muS ps m) (atomsL n rs) (rn []) (.cons (t := 1) rfl .nil) (.cons (t := 101) rfl .nil) rfl ?_ ?_ rfl rfl ?_ ?_
 · exact (SubF.cons rfl SubF.nil)
 · exact SubS.nil
 ·skip
  exact ⟨(atoms_perm hok).1, (atoms_perm hok).2, rfl⟩
 intro m hinv
 obtain ⟨hQ, hpr, hsv⟩ := hinv
 have hml := hQ.1
 refine W.block (W.rg ?_)
 refine SL.val (O.ldN (m := 3) (PtI.ref rfl rfl) (js := [_, _, _]) rfl (Nat.le_of_ble_eq_true rfl) Try.underlying25 rfl (by kernel_rfl) rfl Taken.no) ?_
 refine SL.mv rfl rfl ?_
 refine SL.memS (O.call (rn []) [] rfl rfl rfl (refnext_h (m := m) hf hml hpl) (.cons (ArgOk.aggU (.cons (ArgOk.same rfl) (.cons (ArgOk.same rfl) (.cons (ArgOk.same rfl) .nil)))) (.cons (ArgOk.same rfl) .nil)) SubS.nil rfl rfl rfl rfl rfl (.inl rfl) hcallOk52 (r' := .tup [.agg [.u _, .u _, .u _], .u _]) rfl rfl Taken.no) rfl rfl (S' := _) rfl ?_
 refine SL.mv rfl rfl ?_
 refine SL.val (O.extract rfl rfl rfl Taken.no) ?_
 refine SL.val (O.extract rfl rfl rfl Taken.no) ?_
 refine SL.memS (O.alloc (z := .agg #[.bool false, .int .i64 0, .int .i64 0]) (is := [.u (.sc (.bool false)), .u (.sc (.int .i64 0)), .u (.sc (.int .i64 0))]) 102 (by kernel_rfl) rfl rfl rfl Taken.no) rfl rfl (S' := (102, _) :: _) rfl ?_
 refine SL.effS (O.st_ref (m := 3) rfl rfl rfl (js := [_, _, _]) rfl rfl (by kernel_rfl) (by simp) (Nat.le_of_ble_eq_true rfl) rfl (is' := [_, _, _]) rfl Taken.no) (S' := (102, _) :: _) rfl ?_
 refine SL.an rfl rfl (E.fo (W.seq (W.rg (SL.mv rfl rfl ?_))))
 refine SL.val (O.det (fun _ => G.R.eql rfl rfl) rfl Taken.no) ?_
 refine E.fo ?_
 first | refine W.cond_d rfl (fun hc1 => ?_) (fun hc1 => ?_) | refine W.cond_nd rfl (fun hc1 => ?_) (fun hc1 => ?_) | refine W.cond rfl (fun hc1 => ?_) (fun hc1 => ?_)
 ·skip
  refine W.rg (SL.mv rfl rfl (SL.an rfl rfl (SL.an rfl rfl (E.fo (W.ret (E.thr ?_))))))
  refine E.inr ?_
  refine E.thr ?_
  refine E.inr ?_
  refine E.fin (rs := [_, _]) (rn []) (.inl rfl) rfl (.cons (ResOne.tmp rfl) (.cons (ResOne.tmp rfl) .nil)) ?_ ?_ rfl (fixL_spec rfl)
  ·skip
   have hz : (nextR n ps rs m).2 = 0 := by assumption
   rw [← hsv, solve_end hz]; rfl
  · exact SubS.nil
 ·skip
  have hnz : ¬ (nextR n ps rs m).2 = 0 := by assumption
  have hnp : posR n (barL rs) (atomsL n rs) m (nextR n ps rs m).1 := by have q := next_spec n ps rs m; exact (q.2.1 (by have := q.1; omega)).2.1
  refine W.skip (E.to (W.region ?_))
  refine SL.val (O.ldN (m := 3) (PtI.ref rfl rfl) (js := [_, _, _]) rfl (Nat.le_of_ble_eq_true rfl) Try.underlying25 rfl (by kernel_rfl) rfl Taken.no) ?_
  refine SL.mv rfl rfl ?_
  refine SL.val (O.ldN (m := 3) (PtI.ref rfl rfl) (js := [_, _, _]) rfl (Nat.le_of_ble_eq_true rfl) Try.underlying57 rfl (by kernel_rfl) rfl Taken.no) ?_
  refine SL.memS (O.call (rn []) [] rfl rfl rfl (refapply_h (u := (nextR n ps rs m).1.u) (f := (nextR n ps rs m).1.f) (t := (nextR n ps rs m).1.t) hf hml hpl) (.cons (ArgOk.aggU (.cons (ArgOk.same rfl) (.cons (ArgOk.same rfl) (.cons (ArgOk.same rfl) .nil)))) (.cons (ArgOk.same rfl) (.cons (ArgOk.aggU (.cons (ArgOk.same rfl) (.cons (ArgOk.same rfl) (.cons (ArgOk.same rfl) .nil)))) .nil))) SubS.nil rfl rfl rfl rfl rfl (.inl rfl) hcallOk51 (r' := .tup [.u _, .u _, .u _]) rfl rfl Taken.no) rfl rfl (S' := _) rfl ?_
  refine SL.mv rfl rfl ?_
  refine SL.val (O.extract rfl rfl rfl Taken.no) ?_
  refine SL.val (O.extract rfl rfl rfl Taken.no) ?_
  refine SL.val (O.extract rfl rfl rfl Taken.no) ?_
  refine SL.an rfl rfl (SL.nil (E.inn ?_))
  refine E.again ((resR n ps rs m (nextR n ps rs m).1)) (rn []) ?_ ?_ rfl (fixL_spec rfl) ?_ ?_
  · exact (SubF.val rfl (by (try dsimp only); exact iv_sl (by rw [(apR_y hnp).1])) (SubF.cons rfl SubF.nil))
  · exact (SubS.cons rfl SubS.nil)
  ·try dsimp only
   have hns := next_step hf hQ hpr hnz
   exact ⟨hns.1, hns.2.1, by rw [solve_step hf hQ hpr hnz]; exact hsv⟩
  · (try dsimp only); (have hns := next_step hf hQ hpr hnz; exact hns.2.2.2)

set_option maxRecDepth 8000 in
/-- bookplate/bookplateref33.Solve. -/
theorem refSolve_bad {N : Int} {ps : List Pr} {rs : List Ru} (hok : ¬ (Prob.mk N ps rs).ok) (_ : ps.length ≤ 1000000) :
    Con Try.prog 30 [vA [uI N, .sl 3 (ps.map ePr), .sl 3 (rs.map eRu)]] [] (.tup [vL 1 ([] : List (List UV)), vI (Prob.mk N ps rs).err]) [] := by
 have he : (Prob.mk N ps rs).err ≠ 0 := fun q => hok (Prob.err_iff.1 q)
 refine Con.enterL (n := 32) Try.func30 rfl rfl rfl (fun τ w ok vs hin => ?_)
 have hl0_1 := hin.lenA (i := 0) (j := 1) rfl rfl
 try rw [List.length_map] at hl0_1
 have hl0_2 := hin.lenA (i := 0) (j := 2) rfl rfl
 try rw [List.length_map] at hl0_2
 clear hin
 refine W.rg ?_
 refine SL.memS (O.box (is := [_, _, _]) 101 rfl rfl (by simp) rfl rfl Taken.no) rfl rfl (S' := (101, _) :: _) rfl ?_
 refine SL.an rfl rfl (SL.an rfl rfl (E.fo (W.seq (W.rg ?_))))
 refine SL.val (O.ldN (m := 3) (PtI.ref rfl rfl) (js := [_, _, _]) rfl (Nat.le_of_ble_eq_true rfl) Try.underlying25 rfl (by kernel_rfl) rfl Taken.no) ?_
 refine SL.val (O.callp rfl rfl rfl (refvalid_h (N := N) (ps := ps) (rs := rs)) (.cons (ArgOk.aggU (.cons (ArgOk.same rfl) (.cons (ArgOk.same rfl) (.cons (ArgOk.same rfl) .nil)))) .nil) hcallOk13 rfl Taken.no) ?_
 refine SL.an rfl rfl (E.fo (W.rg (SL.mv rfl rfl ?_)))
 refine SL.val (O.det (fun _ => G.R.mv (G.R.neq rfl rfl) (congrArg Value.bool (decide_eq_true (by exact he)))) rfl Taken.no) ?_
 refine E.fo ?_
 refine W.cond_t rfl ?_
 refine W.rg (SL.mv rfl rfl (SL.an rfl rfl (SL.an rfl rfl (E.fo (W.ret (E.thr ?_))))))
 refine E.nilsl 2 1 rfl ?_
 refine E.fin (rs := [_, _]) (rn []) (.inl rfl) rfl (.cons (ResOne.tmp rfl) (.cons (ResOne.tmp rfl) .nil)) ?_ ?_ rfl (fixL_spec rfl)
 ·skip
  rfl
 · exact SubS.nil

set_option maxRecDepth 8000 in
set_option maxHeartbeats 1600000 in
/-- bookplate/bookplateref33.Sub. -/
theorem refSub_ok {n : Nat} {ps : List Pr} {rs : List Ru} {us : List Int} (hok : (Prob.mk (n : Int) ps rs).ok) (hpl : ps.length ≤ 1000000) (hul : us.length ≤ 1000000) :
    Con Try.prog 32 [vA [uI (n : Int), .sl 3 (ps.map ePr), .sl 3 (rs.map eRu)], vL 1 (us.map eI)] [] (.tup [.agg [vI (sbN (n : Int) us), vL 3 ((sbP (n : Int) us ps).map ePr), vL 3 ((sbR (n : Int) us rs).map eRu)], vI (subE (n : Int) us)]) [] := by
 have hf := hok.1
 have hn2 : (n : Int) ≤ 200 := hf.2.1
 have hr4 : rs.length ≤ 400 := hf.2.2.1
 have hal : (atomsL n rs).length = n := by rw [atomsL, joins_len, List.length_range]
 obtain ⟨i3, hi3, hz3, hs3, hb3⟩ := hinf3
 obtain ⟨i35, hi35, hz35, hs35, hb35⟩ := hinf35
 obtain ⟨i38, hi38, hz38, hs38, hb38⟩ := hinf38
 refine Con.enterL (n := 150) Try.func32 rfl rfl rfl (fun τ w ok vs hin => ?_)
 have hl0_1 := hin.lenA (i := 0) (j := 1) rfl rfl
 try rw [List.length_map] at hl0_1
 have hl0_2 := hin.lenA (i := 0) (j := 2) rfl rfl
 try rw [List.length_map] at hl0_2
 have hl1 := hin.len (i := 1) rfl
 try rw [List.length_map] at hl1
 clear hin
 refine W.rg ?_
 refine SL.memS (O.box (is := [_, _, _]) 101 rfl rfl (by simp) rfl rfl Taken.no) rfl rfl (S' := (101, _) :: _) rfl ?_
 refine SL.memS (O.alloc (z := .agg #[.int .i64 0, .slice none 0 0, .slice none 0 0]) (is := [.u (.sc (.int .i64 0)), .u (.sc (.slice none 0 0)), .u (.sc (.slice none 0 0))]) 102 (by kernel_rfl) rfl rfl rfl Taken.no) rfl rfl (S' := (102, _) :: _) rfl ?_
 refine SL.an rfl rfl (E.fo (W.seq (W.rg ?_)))
 refine SL.val (O.ldN (m := 3) (PtI.ref rfl rfl) (js := [_, _, _]) rfl (Nat.le_of_ble_eq_true rfl) Try.underlying25 rfl (by kernel_rfl) rfl Taken.no) ?_
 refine SL.val (O.callp rfl rfl rfl (refvalid_h (N := (n : Int)) (ps := ps) (rs := rs)) (.cons (ArgOk.aggU (.cons (ArgOk.same rfl) (.cons (ArgOk.same rfl) (.cons (ArgOk.same rfl) .nil)))) .nil) hcallOk13 rfl Taken.no) ?_
 refine SL.as (i' := vI 0) 17 rfl (by rw [Prob.err_0 hok]) ?_
 refine SL.an rfl rfl (E.fo (W.rg (SL.mv rfl rfl ?_)))
 refine SL.val (O.det (fun _ => G.R.mv (G.R.neq rfl rfl) (congrArg Value.bool (decide_eq_false (by decide)))) rfl Taken.no) ?_
 refine E.fo ?_
 refine W.cond_f rfl ?_
 refine W.skip (E.to (W.seq (W.rg (SL.an rfl rfl (E.fo (W.block ?_))))))
 refine W.loopx1 (fun (k : Nat) => [(7, vI (k : Int))]) (fun (k : Nat) => []) (fun (k : Nat) => 1 ≤ k ∧ ∀ i, i < k → i < us.length → 0 < i → us[i - 1]! < us[i]!) (fun (k : Nat) => us.length + 1 - k) (1) (rn []) (.cons (t := 1) rfl (.cons (t := 2) rfl (.cons (t := 4) rfl .nil))) (.cons (t := 101) rfl (.cons (t := 102) rfl .nil)) rfl ?_ ?_ rfl rfl ?_ ?_
 · exact (SubF.cons rfl SubF.nil)
 · exact SubS.nil
 ·skip
  exact ⟨by omega, fun i h => by omega⟩
 intro k hinv
 obtain ⟨hk, hp⟩ := hinv
 refine W.seq (W.rg (SL.mv rfl rfl (SL.mv rfl rfl ?_)))
 refine SL.val (O.lenE (SlOf.fz rfl (by decide)) (by first | exact List.length_map _ | rfl) Try.underlying39 rfl Taken.no) ?_
 refine SL.val (O.det (fun _ => G.R.lss rfl rfl) rfl Taken.no) ?_
 refine E.fo ?_
 first | refine W.cond_d rfl (fun hc1 => ?_) (fun hc1 => ?_) | refine W.cond_nd rfl (fun hc1 => ?_) (fun hc1 => ?_) | refine W.cond rfl (fun hc1 => ?_) (fun hc1 => ?_)
 ·skip
  refine W.skip (E.to (W.seq (W.block (W.seq ?_))))
  refine W.draw [⟨[], [], [], []⟩, ⟨[], [], [], []⟩, ⟨[], [], [], []⟩, ⟨[], [], [], []⟩, ⟨[], [], [], []⟩, ⟨[], [], [], []⟩, ⟨[], [], [], []⟩, ⟨[], [], [], []⟩, ⟨[], [], [], []⟩, ⟨[], [], [], []⟩] rfl (by kernel_rfl) (by kernel_rfl) rfl rfl ?_
  refine WH.mv rfl rfl rfl (WH.mv rfl rfl rfl ?_)
  refine WH.val (O.det (fun _ => by first | exact G.R.sub64 rfl rfl (by omega) | exact G.R.sub rfl rfl) rfl Taken.no) rfl rfl ?_
  refine WH.val (O.idx_fz (i := (k - 1)) rfl rfl (by omega) (row_get (by omega)) Try.underlying39 hi3 hs3 rfl Taken.no) rfl rfl ?_
  refine WH.val (O.ld1 (PtI.ofU (PtU.fz rfl)) rfl Try.underlying3 rfl rfl Taken.no) rfl rfl ?_
  refine WH.mv rfl rfl rfl (WH.mv rfl rfl rfl ?_)
  refine WH.val (O.idx_fz (i := k) rfl rfl (rfl) (row_get (by omega)) Try.underlying39 hi3 hs3 rfl Taken.no) rfl rfl ?_
  refine WH.val (O.ld1 (PtI.ofU (PtU.fz rfl)) rfl Try.underlying3 rfl rfl Taken.no) rfl rfl ?_
  refine WH.val (O.det (fun _ => G.R.geq rfl rfl) rfl Taken.no) rfl rfl ?_
  refine WH.nil (E.to ?_)
  first | refine W.cond_d rfl (fun hc2 => ?_) (fun hc2 => ?_) | refine W.cond_nd rfl (fun hc2 => ?_) (fun hc2 => ?_) | refine W.cond rfl (fun hc2 => ?_) (fun hc2 => ?_)
  ·skip
   refine W.rg ?_
   refine SL.val (O.build (res := [_, _, _]) (z := .agg #[.int .i64 0, .slice none 0 0, .slice none 0 0]) (places := [(0, 1), (1, 1), (2, 1)]) rfl rfl Try.underlying25 (by kernel_rfl) (fun _ => by kernel_rfl) rfl rfl Taken.no) ?_
   refine SL.effS (O.st_ref (m := 3) rfl rfl rfl (js := [_, _, _]) rfl rfl (by kernel_rfl) (by simp) (Nat.le_of_ble_eq_true rfl) rfl (is' := [_, _, _]) rfl Taken.no) (S' := (102, _) :: _) rfl ?_
   refine SL.an rfl rfl (E.fo (W.ret ?_))
   refine E.inr ?_
   refine E.thr (E.thr ?_)
   refine E.inr ?_
   refine E.thr ?_
   refine E.nilslC 102 1 3 (is' := [_, _, _]) rfl rfl rfl ?_
   refine E.nilslC 102 2 3 (is' := [_, _, _]) rfl rfl rfl ?_
   refine E.fin (rs := [_, _]) (rn []) (.inl rfl) rfl (.cons (ResOne.cellN (m := 3) (PtI.ref rfl rfl) (js := [_, _, _]) rfl (Nat.le_of_ble_eq_true rfl) Try.underlying25 rfl (by kernel_rfl)) (.cons (ResOne.tmp rfl) .nil)) ?_ ?_ rfl (fixL_spec rfl)
   ·skip
    have hna : ¬ ascU us := fun q => by have := q k (by omega) (by omega); omega
    rw [(sb_n (fun q => hna q.1) ps rs).1, (sb_n (N := (n : Int)) (fun q => hna q.1) ps rs).2.1, (sb_n (N := (n : Int)) (fun q => hna q.1) ps rs).2.2, subE_19 hna]; rfl
   · exact SubS.nil
  ·skip
   refine W.skip (E.inn (E.to (W.region (SL.mv rfl rfl ?_))))
   refine SL.val (O.det (fun _ => by first | exact G.R.add64 rfl rfl (by omega) | exact G.R.add rfl rfl) rfl Taken.no) ?_
   refine SL.an rfl rfl (SL.nil ?_)
   refine E.again ((k + 1)) (rn []) ?_ ?_ rfl (fixL_spec rfl) ?_ ?_
   · exact (SubF.cons rfl (SubF.cons rfl (SubF.cons rfl (SubF.cons rfl SubF.nil))))
   · exact (SubS.cons rfl (SubS.cons rfl SubS.nil))
   ·try dsimp only
    exact ⟨by omega, fun j hj hl h0 => by rcases Nat.lt_succ_iff_lt_or_eq.1 hj with h | h; exact hp j h hl h0; subst h; omega⟩
   · (try dsimp only); omega
 ·skip
  refine W.exit (E.th (E.th (E.hit (E.to (W.seq (W.rg (SL.an rfl rfl (E.fo (W.block ?_)))))))))
  have hasc : ascU us := fun i hi => hp i (by omega) hi
  refine W.loopx1 (fun (j : Nat) => [(8, vI (j : Int))]) (fun (j : Nat) => []) (fun (j : Nat) => j ≤ us.length ∧ ∀ i, i < j → 0 ≤ us[i]! ∧ us[i]! < (n : Int)) (fun (j : Nat) => us.length - j) (0) (rn []) (.cons (t := 1) rfl (.cons (t := 2) rfl (.cons (t := 4) rfl .nil))) (.cons (t := 101) rfl (.cons (t := 102) rfl .nil)) rfl ?_ ?_ rfl rfl ?_ ?_
  · exact (SubF.cons rfl SubF.nil)
  · exact SubS.nil
  ·skip
   exact ⟨by omega, fun i h => by omega⟩
  intro j hinv
  obtain ⟨hj, hq⟩ := hinv
  refine W.seq (W.rg (SL.mv rfl rfl (SL.mv rfl rfl ?_)))
  refine SL.val (O.lenE (SlOf.fz rfl (by decide)) (by first | exact List.length_map _ | rfl) Try.underlying39 rfl Taken.no) ?_
  refine SL.val (O.det (fun _ => G.R.lss rfl rfl) rfl Taken.no) ?_
  refine E.fo ?_
  first | refine W.cond_d rfl (fun hc3 => ?_) (fun hc3 => ?_) | refine W.cond_nd rfl (fun hc3 => ?_) (fun hc3 => ?_) | refine W.cond rfl (fun hc3 => ?_) (fun hc3 => ?_)
  ·skip
   refine W.skip (E.to (W.seq (W.block (W.seq ?_))))
   refine W.draw [⟨[], [], [], []⟩, ⟨[], [], [], []⟩, ⟨[], [], [], []⟩, ⟨[], [], [], []⟩, ⟨[], [], [], []⟩, ⟨[], [], [], []⟩, ⟨[], [], [], []⟩, ⟨[], [], [], []⟩, ⟨[], [], [], []⟩, ⟨[], [], [], []⟩, ⟨[], [], [], [101]⟩, ⟨[101], [], [], []⟩, ⟨[], [], [], []⟩, ⟨[], [], [], []⟩] rfl (by kernel_rfl) (by kernel_rfl) rfl rfl ?_
   refine WH.mv rfl rfl rfl (WH.mv rfl rfl rfl ?_)
   refine WH.val (O.idx_fz (i := j) rfl rfl (rfl) (row_get (by omega)) Try.underlying39 hi3 hs3 rfl Taken.no) rfl rfl ?_
   refine WH.val (O.ld1 (PtI.ofU (PtU.fz rfl)) rfl Try.underlying3 rfl rfl Taken.no) rfl rfl ?_
   refine WH.val (O.det (fun _ => G.R.lss rfl rfl) rfl Taken.no) rfl rfl ?_
   refine WH.mv rfl rfl rfl ?_
   refine WH.case (j := 5) (g := 50) (want := false) rfl rfl (fun hg4 => ?_) (fun hg4 => ?_)
   ·skip
    first | have hg4p := G.gA3 hg4 | have hg4p := G.gA4 hg4 | have hg4p := hg4
    refine WH.val (O.move rfl rfl (Taken.yes rfl rfl hg4)) rfl rfl ?_
    refine WH.val (O.move rfl rfl (Taken.yes rfl rfl hg4)) rfl rfl ?_
    refine WH.val (O.idx_fz (i := j) rfl rfl (rfl) (row_get (by omega)) Try.underlying39 hi3 hs3 rfl (Taken.yes rfl rfl hg4)) rfl rfl ?_
    refine WH.val (O.ld1 (PtI.ofU (PtU.fz rfl)) rfl Try.underlying3 rfl rfl (Taken.yes rfl rfl hg4)) rfl rfl ?_
    refine WH.val (O.fld_ref (o' := 0) rfl Try.underlying25 rfl (m := 0) (by kernel_rfl) rfl rfl (Taken.yes rfl rfl hg4)) rfl rfl ?_
    refine WH.val (O.ld1 (PtI.ref rfl rfl) rfl Try.underlying3 rfl rfl (Taken.yes rfl rfl hg4)) rfl rfl ?_
    refine WH.val (O.det (fun _ => G.R.geq rfl rfl) rfl (Taken.yes rfl rfl hg4)) rfl rfl ?_
    refine WH.val (O.pick_f rfl hg4 rfl rfl Taken.no) rfl rfl ?_
    refine WH.nil (E.to ?_)
    first | refine W.cond_d rfl (fun hc5 => ?_) (fun hc5 => ?_) | refine W.cond_nd rfl (fun hc5 => ?_) (fun hc5 => ?_) | refine W.cond rfl (fun hc5 => ?_) (fun hc5 => ?_)
    ·skip
     refine W.rg ?_
     refine SL.val (O.build (res := [_, _, _]) (z := .agg #[.int .i64 0, .slice none 0 0, .slice none 0 0]) (places := [(0, 1), (1, 1), (2, 1)]) rfl rfl Try.underlying25 (by kernel_rfl) (fun _ => by kernel_rfl) rfl rfl Taken.no) ?_
     refine SL.effS (O.st_ref (m := 3) rfl rfl rfl (js := [_, _, _]) rfl rfl (by kernel_rfl) (by simp) (Nat.le_of_ble_eq_true rfl) rfl (is' := [_, _, _]) rfl Taken.no) (S' := (102, _) :: _) rfl ?_
     refine SL.an rfl rfl (E.fo (W.ret ?_))
     refine E.inr ?_
     refine E.thr (E.thr ?_)
     refine E.inr ?_
     refine E.thr ?_
     refine E.nilslC 102 1 3 (is' := [_, _, _]) rfl rfl rfl ?_
     refine E.nilslC 102 2 3 (is' := [_, _, _]) rfl rfl rfl ?_
     refine E.fin (rs := [_, _]) (rn []) (.inl rfl) rfl (.cons (ResOne.cellN (m := 3) (PtI.ref rfl rfl) (js := [_, _, _]) rfl (Nat.le_of_ble_eq_true rfl) Try.underlying25 rfl (by kernel_rfl)) (.cons (ResOne.tmp rfl) .nil)) ?_ ?_ rfl (fixL_spec rfl)
     ·skip
      have hnr : ¬ rngU (n : Int) us := fun q => by have := q j (by omega); omega
      rw [(sb_n (fun q => hnr q.2) ps rs).1, (sb_n (fun q => hnr q.2) ps rs).2.1, (sb_n (fun q => hnr q.2) ps rs).2.2, subE_2 hasc hnr]; rfl
     · exact SubS.nil
    ·skip
     refine W.skip (E.inn (E.to (W.region (SL.mv rfl rfl ?_))))
     refine SL.val (O.det (fun _ => by first | exact G.R.add64 rfl rfl (by omega) | exact G.R.add rfl rfl) rfl Taken.no) ?_
     refine SL.an rfl rfl (SL.nil ?_)
     refine E.again ((j + 1)) (rn []) ?_ ?_ rfl (fixL_spec rfl) ?_ ?_
     · exact (SubF.cons rfl (SubF.cons rfl (SubF.cons rfl (SubF.cons rfl SubF.nil))))
     · exact (SubS.cons rfl (SubS.cons rfl SubS.nil))
     ·try dsimp only
      exact ⟨by omega, fun i hi => by rcases Nat.lt_succ_iff_lt_or_eq.1 hi with h | h; exact hq i h; subst h; omega⟩
     · (try dsimp only); omega
   ·skip
    first | have hg4p := G.gA7 hg4 | have hg4p := G.gA8 hg4 | have hg4p := hg4
    refine WH.sk rfl rfl rfl hg4 (WH.sk rfl rfl rfl hg4 (WH.sk rfl rfl rfl hg4 (WH.sk rfl rfl rfl hg4 (WH.sk rfl rfl rfl hg4 (WH.sk rfl rfl rfl hg4 (WH.sk rfl rfl rfl hg4 ?_))))))
    refine WH.val (O.pick_t rfl (G.ne_f hg4) rfl rfl Taken.no) rfl rfl ?_
    refine WH.nil (E.to ?_)
    refine W.cond_t rfl ?_
    refine W.rg ?_
    refine SL.val (O.build (res := [_, _, _]) (z := .agg #[.int .i64 0, .slice none 0 0, .slice none 0 0]) (places := [(0, 1), (1, 1), (2, 1)]) rfl rfl Try.underlying25 (by kernel_rfl) (fun _ => by kernel_rfl) rfl rfl Taken.no) ?_
    refine SL.effS (O.st_ref (m := 3) rfl rfl rfl (js := [_, _, _]) rfl rfl (by kernel_rfl) (by simp) (Nat.le_of_ble_eq_true rfl) rfl (is' := [_, _, _]) rfl Taken.no) (S' := (102, _) :: _) rfl ?_
    refine SL.an rfl rfl (E.fo (W.ret ?_))
    refine E.inr ?_
    refine E.thr (E.thr ?_)
    refine E.inr ?_
    refine E.thr ?_
    refine E.nilslC 102 1 3 (is' := [_, _, _]) rfl rfl rfl ?_
    refine E.nilslC 102 2 3 (is' := [_, _, _]) rfl rfl rfl ?_
    refine E.fin (rs := [_, _]) (rn []) (.inl rfl) rfl (.cons (ResOne.cellN (m := 3) (PtI.ref rfl rfl) (js := [_, _, _]) rfl (Nat.le_of_ble_eq_true rfl) Try.underlying25 rfl (by kernel_rfl)) (.cons (ResOne.tmp rfl) .nil)) ?_ ?_ rfl (fixL_spec rfl)
    ·skip
     have hnr : ¬ rngU (n : Int) us := fun q => by have := q j (by omega); omega
     rw [(sb_n (fun q => hnr q.2) ps rs).1, (sb_n (fun q => hnr q.2) ps rs).2.1, (sb_n (fun q => hnr q.2) ps rs).2.2, subE_2 hasc hnr]; rfl
    · exact SubS.nil
  ·skip
   refine W.exit (E.th (E.th (E.hit (E.to (W.seq ?_)))))
   have hoku : okU (n : Int) us := ⟨hasc, fun i hi => hq i (by omega)⟩
   refine W.region (SL.mv rfl rfl ?_)
   refine SL.val (O.lenE (SlOf.fz rfl (by decide)) (by first | exact List.length_map _ | rfl) Try.underlying39 rfl Taken.no) ?_
   refine SL.val (O.build (res := [_, _, _]) (z := .agg #[.int .i64 0, .slice none 0 0, .slice none 0 0]) (places := [(0, 1), (1, 1), (2, 1)]) rfl rfl Try.underlying25 (by kernel_rfl) (fun _ => by kernel_rfl) rfl rfl Taken.no) ?_
   refine SL.memS (O.alloc (z := .agg #[.int .i64 0, .slice none 0 0, .slice none 0 0]) (is := [.u (.sc (.int .i64 0)), .u (.sc (.slice none 0 0)), .u (.sc (.slice none 0 0))]) 103 (by kernel_rfl) rfl rfl rfl Taken.no) rfl rfl (S' := (103, _) :: _) rfl ?_
   refine SL.effS (O.st_ref (m := 3) rfl rfl rfl (js := [_, _, _]) rfl rfl (by kernel_rfl) (by simp) (Nat.le_of_ble_eq_true rfl) rfl (is' := [_, _, _]) rfl Taken.no) (S' := (103, _) :: _) rfl ?_
   refine E.fo (W.seq (W.rg (SL.an rfl rfl (E.fo (W.block ?_)))))
   refine W.adoptC 103 1 105 35 3 (is' := [_, _, _]) (by decide) rfl rfl rfl rfl rfl ?_
   refine W.loopx1 (fun (k : Nat) => [(10, vI (k : Int))]) (fun (k : Nat) => [(104, .data 35 3 ((subP us (ps.take k)).map ePr)), (103, .cells 25 [vI (us.length : Int), .own 104, .u (.sc (.slice none 0 0))])]) (fun (k : Nat) => k ≤ ps.length) (fun (k : Nat) => ps.length - k) (0) (rn [(104, 105)]) (.cons (t := 1) rfl (.cons (t := 2) rfl (.cons (t := 4) rfl (.cons (t := 9) rfl .nil)))) (.cons (t := 101) rfl (.cons (t := 102) rfl .nil)) rfl ?_ ?_ rfl rfl ?_ ?_
   · exact (SubF.cons rfl SubF.nil)
   · exact (SubS.cons rfl (SubS.cons rfl SubS.nil))
   ·skip
    omega
   intro k hinv
   have hk := hinv
   have hfl := subP_len us ps k
   refine W.seq (W.rg (SL.mv rfl rfl ?_))
   refine SL.val (O.fld_ref (o' := 1) rfl Try.underlying25 rfl (m := 0) (by kernel_rfl) rfl rfl Taken.no) ?_
   refine SL.val (O.ld1 (PtI.ref rfl rfl) rfl Try.underlying22 rfl rfl Taken.no) ?_
   refine SL.val (O.lenE (SlOf.fz rfl (by decide)) (by first | exact List.length_map _ | rfl) Try.underlying22 rfl Taken.no) ?_
   refine SL.val (O.det (fun _ => G.R.lss rfl rfl) rfl Taken.no) ?_
   refine E.fo ?_
   first | refine W.cond_d rfl (fun hc6 => ?_) (fun hc6 => ?_) | refine W.cond_nd rfl (fun hc6 => ?_) (fun hc6 => ?_) | refine W.cond rfl (fun hc6 => ?_) (fun hc6 => ?_)
   ·skip
    refine W.skip (E.to (W.seq (W.block (W.seq ?_))))
    refine W.draw [⟨[], [], [], []⟩, ⟨[], [], [], [101]⟩, ⟨[101], [], [], []⟩, ⟨[], [], [], []⟩, ⟨[], [], [], []⟩, ⟨[], [], [], []⟩, ⟨[], [], [], []⟩, ⟨[], [], [], []⟩, ⟨[], [], [], []⟩, ⟨[], [], [], [101]⟩, ⟨[101], [], [], []⟩, ⟨[], [], [], []⟩, ⟨[], [], [], []⟩, ⟨[], [], [], []⟩, ⟨[], [], [], []⟩, ⟨[], [], [], []⟩, ⟨[], [], [], []⟩, ⟨[], [], [], []⟩] rfl (by kernel_rfl) (by kernel_rfl) rfl rfl ?_
    refine WH.mv rfl rfl rfl ?_
    refine WH.val (O.fld_ref (o' := 1) rfl Try.underlying25 rfl (m := 0) (by kernel_rfl) rfl rfl Taken.no) rfl rfl ?_
    refine WH.val (O.ld1 (PtI.ref rfl rfl) rfl Try.underlying22 rfl rfl Taken.no) rfl rfl ?_
    refine WH.mv rfl rfl rfl ?_
    refine WH.val (O.idx_fz (i := k) rfl rfl (rfl) (row_get (by omega)) Try.underlying22 hi35 hs35 rfl Taken.no) rfl rfl ?_
    refine WH.val (O.fld_fz rfl Try.underlying35 rfl (m := 0) (by kernel_rfl) rfl rfl Taken.no) rfl rfl ?_
    refine WH.val (O.ld1 (PtI.ofU (PtU.fz rfl)) rfl Try.underlying3 rfl rfl Taken.no) rfl rfl ?_
    refine WH.val (O.callp rfl rfl rfl (at_h (us := us) (x := ps[k]!.a)) (.cons (ArgOk.same rfl) (.cons (ArgOk.same rfl) .nil)) hcallOk55 rfl Taken.no) rfl rfl ?_
    refine WH.mv rfl rfl rfl ?_
    refine WH.val (O.fld_ref (o' := 1) rfl Try.underlying25 rfl (m := 0) (by kernel_rfl) rfl rfl Taken.no) rfl rfl ?_
    refine WH.val (O.ld1 (PtI.ref rfl rfl) rfl Try.underlying22 rfl rfl Taken.no) rfl rfl ?_
    refine WH.mv rfl rfl rfl ?_
    refine WH.val (O.idx_fz (i := k) rfl rfl (rfl) (row_get (by omega)) Try.underlying22 hi35 hs35 rfl Taken.no) rfl rfl ?_
    refine WH.val (O.fld_fz rfl Try.underlying35 rfl (m := 0) (by kernel_rfl) rfl rfl Taken.no) rfl rfl ?_
    refine WH.val (O.ld1 (PtI.ofU (PtU.fz rfl)) rfl Try.underlying3 rfl rfl Taken.no) rfl rfl ?_
    refine WH.val (O.callp rfl rfl rfl (at_h (us := us) (x := ps[k]!.b)) (.cons (ArgOk.same rfl) (.cons (ArgOk.same rfl) .nil)) hcallOk55 rfl Taken.no) rfl rfl ?_
    refine WH.val (O.assign rfl rfl Taken.no) rfl rfl ?_
    refine WH.val (O.assign rfl rfl Taken.no) rfl rfl ?_
    refine WH.nil (E.to ?_)
    refine W.pick (K:=[(1,_),(2,_),(4,_),(9,_),(10,_),(11,_),(12,_)]) (Z:=[(101,_),(102,_),(103,_),(104,_)]) ⟨rfl,rfl,rfl,rfl,rfl,rfl,rfl,trivial⟩ ⟨rfl,rfl,rfl,rfl,trivial⟩ ?_
    refine W.rg (SL.mv rfl rfl ?_)
    refine SL.val (O.det (fun _ => G.R.geq rfl rfl) rfl Taken.no) ?_
    refine SL.mv rfl rfl ?_
    refine SL.case (j := 2) (g := 88) (want := true) rfl rfl (fun hg7 => ?_) (fun hg7 => ?_)
    ·skip
     first | have hg7p := G.gA1 hg7 | have hg7p := G.gA2 hg7 | have hg7p := hg7
     refine SL.val (O.move rfl rfl (Taken.yes rfl rfl hg7)) ?_
     refine SL.val (O.det (fun _ => G.R.geq rfl rfl) rfl (Taken.yes rfl rfl hg7)) ?_
     refine SL.val (O.pick_t rfl hg7 rfl rfl Taken.no) ?_
     refine E.fo ?_
     first | refine W.cond_d rfl (fun hc8 => ?_) (fun hc8 => ?_) | refine W.cond_nd rfl (fun hc8 => ?_) (fun hc8 => ?_) | refine W.cond rfl (fun hc8 => ?_) (fun hc8 => ?_)
     ·skip
      refine W.draw [⟨[], [], [], [103]⟩, ⟨[103], [], [], [104]⟩, ⟨[], [], [], []⟩, ⟨[], [], [], []⟩, ⟨[], [], [], [101]⟩, ⟨[101], [], [], []⟩, ⟨[], [], [], []⟩, ⟨[], [], [], []⟩, ⟨[], [], [], []⟩, ⟨[], [], [], []⟩, ⟨[], [], [], []⟩, ⟨[106], [106], [106], []⟩, ⟨[104, 106, 107], [104, 107], [107], []⟩, ⟨[], [], [], [103]⟩, ⟨[103, 107], [103], [], []⟩] rfl (by kernel_rfl) (by kernel_rfl) rfl rfl ?_
      refine WH.val (O.fld_ref (o' := 1) rfl Try.underlying25 rfl (m := 0) (by kernel_rfl) rfl rfl Taken.no) rfl rfl ?_
      refine WH.val (O.ld1 (PtI.ref rfl rfl) rfl Try.underlying22 rfl rfl Taken.no) rfl rfl ?_
      refine WH.mv rfl rfl rfl (WH.mv rfl rfl rfl ?_)
      refine WH.val (O.fld_ref (o' := 1) rfl Try.underlying25 rfl (m := 0) (by kernel_rfl) rfl rfl Taken.no) rfl rfl ?_
      refine WH.val (O.ld1 (PtI.ref rfl rfl) rfl Try.underlying22 rfl rfl Taken.no) rfl rfl ?_
      refine WH.mv rfl rfl rfl ?_
      refine WH.val (O.idx_fz (i := k) rfl rfl (rfl) (row_get (by omega)) Try.underlying22 hi35 hs35 rfl Taken.no) rfl rfl ?_
      refine WH.val (O.fld_fz rfl Try.underlying35 rfl (m := 0) (by kernel_rfl) rfl rfl Taken.no) rfl rfl ?_
      refine WH.val (O.ld1 (PtI.ofU (PtU.fz rfl)) rfl Try.underlying3 rfl rfl Taken.no) rfl rfl ?_
      refine WH.val (O.build (res := [_, _, _]) (z := .agg #[.int .i64 0, .int .i64 0, .int .i64 0]) (places := [(0, 1), (1, 1), (2, 1)]) rfl rfl Try.underlying35 (by kernel_rfl) (fun _ => by kernel_rfl) rfl rfl Taken.no) rfl rfl ?_
      refine WH.memS (O.buildSlice 106 (rows := [Pr.mk (atF us ps[k]!.a) (atF us ps[k]!.b) ps[k]!.w].map ePr) rfl rfl Try.underlying22 hi35 hz35 hs35 (by decide) rfl (by decide) rfl rfl rfl Taken.no) rfl rfl rfl rfl rfl (S' := (106, .data 35 3 ([Pr.mk (atF us ps[k]!.a) (atF us ps[k]!.b) ps[k]!.w].map ePr)) :: _) rfl ?_
      refine WH.memS (O.app (k' := 107) rfl rfl (SlOf.own rfl rfl) Try.underlying22 hi35 hz35 hs35 rfl rfl (by exact app_map) (by rw [hb35]; (simp only [List.length_map, List.length_singleton]; omega)) (by (simp only [List.length_map, List.length_singleton]; omega)) rfl Taken.no) rfl rfl rfl rfl rfl (S' := (107, _) :: (104, .dead) :: _) rfl ?_
      refine WH.val (O.fld_ref (o' := 1) rfl Try.underlying25 rfl (m := 0) (by kernel_rfl) rfl rfl Taken.no) rfl rfl ?_
      refine WH.effS (O.st_ref (m := 1) rfl rfl rfl (js := [_]) rfl rfl (by kernel_rfl) (by simp) (Nat.le_of_ble_eq_true rfl) rfl (is' := [_, _, _]) rfl Taken.no) rfl rfl rfl (S' := (103, _) :: _) rfl ?_
      refine WH.nil (E.inn (E.to ?_))
      refine W.pick (K:=[(1,_),(2,_),(4,_),(9,_),(10,_)]) (Z:=[(101,_),(102,_),(103,_),(106,_),(107,_)]) ⟨rfl,rfl,rfl,rfl,rfl,trivial⟩ ⟨rfl,rfl,rfl,rfl,rfl,trivial⟩ ?_
      refine W.region (SL.mv rfl rfl ?_)
      refine SL.val (O.det (fun _ => by first | exact G.R.add64 rfl rfl (by omega) | exact G.R.add rfl rfl) rfl Taken.no) ?_
      refine SL.an rfl rfl (SL.nil ?_)
      refine E.again ((k + 1)) (rn [(104, 107)]) ?_ ?_ rfl (fixL_spec rfl) ?_ ?_
      · exact (SubF.cons rfl (SubF.cons rfl (SubF.cons rfl (SubF.cons rfl (SubF.cons rfl SubF.nil)))))
      · exact (SubS.val rfl (by (try dsimp only); first | exact sb_data (by rw [subP_y (by omega) (by omega) (by omega)]) | exact sb_data (by rw [subP_n (by omega) (by omega)])) (SubS.cons rfl (SubS.cons rfl (SubS.cons rfl SubS.nil))))
      ·try dsimp only
       omega
      · (try dsimp only); omega
     ·skip
      refine W.skip (E.inn (E.to (W.region (SL.mv rfl rfl ?_))))
      refine SL.val (O.det (fun _ => by first | exact G.R.add64 rfl rfl (by omega) | exact G.R.add rfl rfl) rfl Taken.no) ?_
      refine SL.an rfl rfl (SL.nil ?_)
      refine E.again ((k + 1)) (rn []) ?_ ?_ rfl (fixL_spec rfl) ?_ ?_
      · exact (SubF.cons rfl (SubF.cons rfl (SubF.cons rfl (SubF.cons rfl (SubF.cons rfl SubF.nil)))))
      · exact (SubS.val rfl (by (try dsimp only); first | exact sb_data (by rw [subP_y (by omega) (by omega) (by omega)]) | exact sb_data (by rw [subP_n (by omega) (by omega)])) (SubS.cons rfl (SubS.cons rfl (SubS.cons rfl SubS.nil))))
      ·try dsimp only
       omega
      · (try dsimp only); omega
    ·skip
     first | have hg7p := G.gA5 hg7 | have hg7p := G.gA6 hg7 | have hg7p := hg7
     refine SL.sk rfl rfl rfl hg7 (SL.sk rfl rfl rfl hg7 ?_)
     refine SL.val (O.pick_f rfl (G.ne_t hg7) rfl rfl Taken.no) ?_
     refine E.fo ?_
     refine W.cond_f rfl ?_
     refine W.skip (E.inn (E.to (W.region (SL.mv rfl rfl ?_))))
     refine SL.val (O.det (fun _ => by first | exact G.R.add64 rfl rfl (by omega) | exact G.R.add rfl rfl) rfl Taken.no) ?_
     refine SL.an rfl rfl (SL.nil ?_)
     refine E.again ((k + 1)) (rn []) ?_ ?_ rfl (fixL_spec rfl) ?_ ?_
     · exact (SubF.cons rfl (SubF.cons rfl (SubF.cons rfl (SubF.cons rfl (SubF.cons rfl SubF.nil)))))
     · exact (SubS.val rfl (by (try dsimp only); first | exact sb_data (by rw [subP_y (by omega) (by omega) (by omega)]) | exact sb_data (by rw [subP_n (by omega) (by omega)])) (SubS.cons rfl (SubS.cons rfl (SubS.cons rfl SubS.nil))))
     ·try dsimp only
      omega
     · (try dsimp only); omega
   ·skip
    refine W.exit (E.th (E.th (E.hit (E.to (W.seq (W.seq ?_))))))
    have hkp : k = ps.length := by omega
    rw [hkp, List.take_length]
    refine W.region (SL.an rfl rfl (E.fo (W.block ?_)))
    refine W.adoptC 103 2 110 38 3 (is' := [_, _, _]) (by decide) rfl rfl rfl rfl rfl ?_
    refine W.loopx1 (fun (k : Nat) => [(13, vI (k : Int))]) (fun (k : Nat) => [(108, .data 35 3 ((subP us ps).map ePr)), (109, .data 38 3 ((subR us (rs.take k)).map eRu)), (103, .cells 25 [vI (us.length : Int), .own 108, .own 109])]) (fun (k : Nat) => k ≤ rs.length) (fun (k : Nat) => rs.length - k) (0) (rn [(108, 104), (109, 110)]) (.cons (t := 1) rfl (.cons (t := 2) rfl (.cons (t := 4) rfl (.cons (t := 9) rfl .nil)))) (.cons (t := 101) rfl (.cons (t := 102) rfl .nil)) rfl ?_ ?_ rfl rfl ?_ ?_
    · exact (SubF.cons rfl SubF.nil)
    · exact (SubS.cons rfl (SubS.cons rfl (SubS.cons rfl SubS.nil)))
    ·skip
     omega
    intro k hinv
    have hk := hinv
    have hfl := subR_len us rs k
    refine W.seq (W.rg (SL.mv rfl rfl ?_))
    refine SL.val (O.fld_ref (o' := 2) rfl Try.underlying25 rfl (m := 0) (by kernel_rfl) rfl rfl Taken.no) ?_
    refine SL.val (O.ld1 (PtI.ref rfl rfl) rfl Try.underlying23 rfl rfl Taken.no) ?_
    refine SL.val (O.lenE (SlOf.fz rfl (by decide)) (by first | exact List.length_map _ | rfl) Try.underlying23 rfl Taken.no) ?_
    refine SL.val (O.det (fun _ => G.R.lss rfl rfl) rfl Taken.no) ?_
    refine E.fo ?_
    first | refine W.cond_d rfl (fun hc9 => ?_) (fun hc9 => ?_) | refine W.cond_nd rfl (fun hc9 => ?_) (fun hc9 => ?_) | refine W.cond rfl (fun hc9 => ?_) (fun hc9 => ?_)
    ·skip
     refine W.skip (E.to (W.seq (W.block (W.seq ?_))))
     refine W.draw [⟨[], [], [], []⟩, ⟨[], [], [], [101]⟩, ⟨[101], [], [], []⟩, ⟨[], [], [], []⟩, ⟨[], [], [], []⟩, ⟨[], [], [], []⟩, ⟨[], [], [], []⟩, ⟨[], [], [], []⟩, ⟨[], [], [], []⟩, ⟨[], [], [], [101]⟩, ⟨[101], [], [], []⟩, ⟨[], [], [], []⟩, ⟨[], [], [], []⟩, ⟨[], [], [], []⟩, ⟨[], [], [], []⟩, ⟨[], [], [], []⟩, ⟨[], [], [], []⟩, ⟨[], [], [], []⟩] rfl (by kernel_rfl) (by kernel_rfl) rfl rfl ?_
     refine WH.mv rfl rfl rfl ?_
     refine WH.val (O.fld_ref (o' := 2) rfl Try.underlying25 rfl (m := 0) (by kernel_rfl) rfl rfl Taken.no) rfl rfl ?_
     refine WH.val (O.ld1 (PtI.ref rfl rfl) rfl Try.underlying23 rfl rfl Taken.no) rfl rfl ?_
     refine WH.mv rfl rfl rfl ?_
     refine WH.val (O.idx_fz (i := k) rfl rfl (rfl) (row_get (by omega)) Try.underlying23 hi38 hs38 rfl Taken.no) rfl rfl ?_
     refine WH.val (O.fld_fz rfl Try.underlying38 rfl (m := 0) (by kernel_rfl) rfl rfl Taken.no) rfl rfl ?_
     refine WH.val (O.ld1 (PtI.ofU (PtU.fz rfl)) rfl Try.underlying3 rfl rfl Taken.no) rfl rfl ?_
     refine WH.val (O.callp rfl rfl rfl (at_h (us := us) (x := rs[k]!.a)) (.cons (ArgOk.same rfl) (.cons (ArgOk.same rfl) .nil)) hcallOk55 rfl Taken.no) rfl rfl ?_
     refine WH.mv rfl rfl rfl ?_
     refine WH.val (O.fld_ref (o' := 2) rfl Try.underlying25 rfl (m := 0) (by kernel_rfl) rfl rfl Taken.no) rfl rfl ?_
     refine WH.val (O.ld1 (PtI.ref rfl rfl) rfl Try.underlying23 rfl rfl Taken.no) rfl rfl ?_
     refine WH.mv rfl rfl rfl ?_
     refine WH.val (O.idx_fz (i := k) rfl rfl (rfl) (row_get (by omega)) Try.underlying23 hi38 hs38 rfl Taken.no) rfl rfl ?_
     refine WH.val (O.fld_fz rfl Try.underlying38 rfl (m := 0) (by kernel_rfl) rfl rfl Taken.no) rfl rfl ?_
     refine WH.val (O.ld1 (PtI.ofU (PtU.fz rfl)) rfl Try.underlying3 rfl rfl Taken.no) rfl rfl ?_
     refine WH.val (O.callp rfl rfl rfl (at_h (us := us) (x := rs[k]!.b)) (.cons (ArgOk.same rfl) (.cons (ArgOk.same rfl) .nil)) hcallOk55 rfl Taken.no) rfl rfl ?_
     refine WH.val (O.assign rfl rfl Taken.no) rfl rfl ?_
     refine WH.val (O.assign rfl rfl Taken.no) rfl rfl ?_
     refine WH.nil (E.to ?_)
     refine W.pick (K:=[(1,_),(2,_),(4,_),(9,_),(13,_),(14,_),(15,_)]) (Z:=[(101,_),(102,_),(103,_),(108,_),(109,_)]) ⟨rfl,rfl,rfl,rfl,rfl,rfl,rfl,trivial⟩ ⟨rfl,rfl,rfl,rfl,rfl,trivial⟩ ?_
     refine W.rg (SL.mv rfl rfl ?_)
     refine SL.val (O.det (fun _ => G.R.geq rfl rfl) rfl Taken.no) ?_
     refine SL.mv rfl rfl ?_
     refine SL.case (j := 2) (g := 131) (want := true) rfl rfl (fun hg10 => ?_) (fun hg10 => ?_)
     ·skip
      first | have hg10p := G.gA1 hg10 | have hg10p := G.gA2 hg10 | have hg10p := hg10
      refine SL.val (O.move rfl rfl (Taken.yes rfl rfl hg10)) ?_
      refine SL.val (O.det (fun _ => G.R.geq rfl rfl) rfl (Taken.yes rfl rfl hg10)) ?_
      refine SL.val (O.pick_t rfl hg10 rfl rfl Taken.no) ?_
      refine E.fo ?_
      first | refine W.cond_d rfl (fun hc11 => ?_) (fun hc11 => ?_) | refine W.cond_nd rfl (fun hc11 => ?_) (fun hc11 => ?_) | refine W.cond rfl (fun hc11 => ?_) (fun hc11 => ?_)
      ·skip
       refine W.draw [⟨[], [], [], [103]⟩, ⟨[103], [], [], [109]⟩, ⟨[], [], [], [101]⟩, ⟨[101], [], [], []⟩, ⟨[], [], [], []⟩, ⟨[], [], [], []⟩, ⟨[], [], [], []⟩, ⟨[], [], [], []⟩, ⟨[], [], [], []⟩, ⟨[], [], [], []⟩, ⟨[], [], [], []⟩, ⟨[111], [111], [111], []⟩, ⟨[109, 111, 112], [109, 112], [112], []⟩, ⟨[], [], [], [103]⟩, ⟨[103, 108, 112], [103], [], []⟩] rfl (by kernel_rfl) (by kernel_rfl) rfl rfl ?_
       refine WH.val (O.fld_ref (o' := 2) rfl Try.underlying25 rfl (m := 0) (by kernel_rfl) rfl rfl Taken.no) rfl rfl ?_
       refine WH.val (O.ld1 (PtI.ref rfl rfl) rfl Try.underlying23 rfl rfl Taken.no) rfl rfl ?_
       refine WH.val (O.fld_ref (o' := 2) rfl Try.underlying25 rfl (m := 0) (by kernel_rfl) rfl rfl Taken.no) rfl rfl ?_
       refine WH.val (O.ld1 (PtI.ref rfl rfl) rfl Try.underlying23 rfl rfl Taken.no) rfl rfl ?_
       refine WH.mv rfl rfl rfl ?_
       refine WH.val (O.idx_fz (i := k) rfl rfl (rfl) (row_get (by omega)) Try.underlying23 hi38 hs38 rfl Taken.no) rfl rfl ?_
       refine WH.val (O.fld_fz rfl Try.underlying38 rfl (m := 0) (by kernel_rfl) rfl rfl Taken.no) rfl rfl ?_
       refine WH.val (O.ld1 (PtI.ofU (PtU.fz rfl)) rfl Try.underlying3 rfl rfl Taken.no) rfl rfl ?_
       refine WH.mv rfl rfl rfl (WH.mv rfl rfl rfl ?_)
       refine WH.val (O.build (res := [_, _, _]) (z := .agg #[.int .i64 0, .int .i64 0, .int .i64 0]) (places := [(0, 1), (1, 1), (2, 1)]) rfl rfl Try.underlying38 (by kernel_rfl) (fun _ => by kernel_rfl) rfl rfl Taken.no) rfl rfl ?_
       refine WH.memS (O.buildSlice 111 (rows := [Ru.mk rs[k]!.k (atF us rs[k]!.a) (atF us rs[k]!.b)].map eRu) rfl rfl Try.underlying23 hi38 hz38 hs38 (by decide) rfl (by decide) rfl rfl rfl Taken.no) rfl rfl rfl rfl rfl (S' := (111, .data 38 3 ([Ru.mk rs[k]!.k (atF us rs[k]!.a) (atF us rs[k]!.b)].map eRu)) :: _) rfl ?_
       refine WH.memS (O.app (k' := 112) rfl rfl (SlOf.own rfl rfl) Try.underlying23 hi38 hz38 hs38 rfl rfl (by exact app_map) (by rw [hb38]; (simp only [List.length_map, List.length_singleton]; omega)) (by (simp only [List.length_map, List.length_singleton]; omega)) rfl Taken.no) rfl rfl rfl rfl rfl (S' := (112, _) :: (109, .dead) :: _) rfl ?_
       refine WH.val (O.fld_ref (o' := 2) rfl Try.underlying25 rfl (m := 0) (by kernel_rfl) rfl rfl Taken.no) rfl rfl ?_
       refine WH.effS (O.st_ref (m := 1) rfl rfl rfl (js := [_]) rfl rfl (by kernel_rfl) (by simp) (Nat.le_of_ble_eq_true rfl) rfl (is' := [_, _, _]) rfl Taken.no) rfl rfl rfl (S' := (103, _) :: _) rfl ?_
       refine WH.nil (E.inn (E.to ?_))
       refine W.pick (K:=[(1,_),(2,_),(4,_),(9,_),(13,_)]) (Z:=[(101,_),(102,_),(103,_),(108,_),(111,_),(112,_)]) ⟨rfl,rfl,rfl,rfl,rfl,trivial⟩ ⟨rfl,rfl,rfl,rfl,rfl,rfl,trivial⟩ ?_
       refine W.region (SL.mv rfl rfl ?_)
       refine SL.val (O.det (fun _ => by first | exact G.R.add64 rfl rfl (by omega) | exact G.R.add rfl rfl) rfl Taken.no) ?_
       refine SL.an rfl rfl (SL.nil ?_)
       refine E.again ((k + 1)) (rn [(109, 112)]) ?_ ?_ rfl (fixL_spec rfl) ?_ ?_
       · exact (SubF.cons rfl (SubF.cons rfl (SubF.cons rfl (SubF.cons rfl (SubF.cons rfl SubF.nil)))))
       · exact (SubS.cons rfl (SubS.val rfl (by (try dsimp only); first | exact sb_data (by rw [subR_y (by omega) (by omega) (by omega)]) | exact sb_data (by rw [subR_n (by omega) (by omega)])) (SubS.cons rfl (SubS.cons rfl (SubS.cons rfl SubS.nil)))))
       ·try dsimp only
        omega
       · (try dsimp only); omega
      ·skip
       refine W.skip (E.inn (E.to (W.region (SL.mv rfl rfl ?_))))
       refine SL.val (O.det (fun _ => by first | exact G.R.add64 rfl rfl (by omega) | exact G.R.add rfl rfl) rfl Taken.no) ?_
       refine SL.an rfl rfl (SL.nil ?_)
       refine E.again ((k + 1)) (rn []) ?_ ?_ rfl (fixL_spec rfl) ?_ ?_
       · exact (SubF.cons rfl (SubF.cons rfl (SubF.cons rfl (SubF.cons rfl (SubF.cons rfl SubF.nil)))))
       · exact (SubS.cons rfl (SubS.val rfl (by (try dsimp only); first | exact sb_data (by rw [subR_y (by omega) (by omega) (by omega)]) | exact sb_data (by rw [subR_n (by omega) (by omega)])) (SubS.cons rfl (SubS.cons rfl (SubS.cons rfl SubS.nil)))))
       ·try dsimp only
        omega
       · (try dsimp only); omega
     ·skip
      first | have hg10p := G.gA5 hg10 | have hg10p := G.gA6 hg10 | have hg10p := hg10
      refine SL.sk rfl rfl rfl hg10 (SL.sk rfl rfl rfl hg10 ?_)
      refine SL.val (O.pick_f rfl (G.ne_t hg10) rfl rfl Taken.no) ?_
      refine E.fo ?_
      refine W.cond_f rfl ?_
      refine W.skip (E.inn (E.to (W.region (SL.mv rfl rfl ?_))))
      refine SL.val (O.det (fun _ => by first | exact G.R.add64 rfl rfl (by omega) | exact G.R.add rfl rfl) rfl Taken.no) ?_
      refine SL.an rfl rfl (SL.nil ?_)
      refine E.again ((k + 1)) (rn []) ?_ ?_ rfl (fixL_spec rfl) ?_ ?_
      · exact (SubF.cons rfl (SubF.cons rfl (SubF.cons rfl (SubF.cons rfl (SubF.cons rfl SubF.nil)))))
      · exact (SubS.cons rfl (SubS.val rfl (by (try dsimp only); first | exact sb_data (by rw [subR_y (by omega) (by omega) (by omega)]) | exact sb_data (by rw [subR_n (by omega) (by omega)])) (SubS.cons rfl (SubS.cons rfl (SubS.cons rfl SubS.nil)))))
      ·try dsimp only
       omega
      · (try dsimp only); omega
    ·skip
     refine W.exit (E.th (E.th (E.hit (E.to (W.rg ?_)))))
     refine SL.val (O.ldN (m := 3) (PtI.ref rfl rfl) (js := [_, _, _]) rfl (Nat.le_of_ble_eq_true rfl) Try.underlying25 rfl (by kernel_rfl) rfl Taken.no) ?_
     refine SL.effS (O.st_ref (m := 3) rfl rfl rfl (js := [_, _, _]) rfl rfl (by kernel_rfl) (by simp) (Nat.le_of_ble_eq_true rfl) rfl (is' := [_, _, _]) rfl Taken.no) (S' := (102, _) :: _) rfl ?_
     refine SL.an rfl rfl (E.fo (W.ret ?_))
     refine E.freezeC 102 1 108 (is' := [_, _, _]) rfl rfl rfl rfl ?_
     refine E.freezeC 102 2 109 (is' := [_, _, _]) rfl rfl rfl rfl ?_
     refine E.fin (rs := [_, _]) (rn []) (.inl rfl) rfl (.cons (ResOne.cellN (m := 3) (PtI.ref rfl rfl) (js := [_, _, _]) rfl (Nat.le_of_ble_eq_true rfl) Try.underlying25 rfl (by kernel_rfl)) (.cons (ResOne.tmp rfl) .nil)) ?_ ?_ rfl (fixL_spec rfl)
     ·skip
      first | (rw [show k = rs.length by omega, List.take_length, (sb_y hoku ps rs).1, (sb_y hoku ps rs).2.1, (sb_y hoku ps rs).2.2.1, (sb_y hoku ps rs).2.2.2]; rfl) | rfl
     · exact SubS.nil

set_option maxRecDepth 8000 in
set_option maxHeartbeats 1600000 in
/-- bookplate/bookplateref33.Sub. -/
theorem refSub_bad {N : Int} {ps : List Pr} {rs : List Ru} {us : List Int} (hok : ¬ (Prob.mk N ps rs).ok) (_ : ps.length ≤ 1000000) (_ : us.length ≤ 1000000) :
    Con Try.prog 32 [vA [uI N, .sl 3 (ps.map ePr), .sl 3 (rs.map eRu)], vL 1 (us.map eI)] [] (.tup [.agg [vI 0, vL 3 ([] : List (List UV)), vL 3 ([] : List (List UV))], vI (Prob.mk N ps rs).err]) [] := by
 have he : (Prob.mk N ps rs).err ≠ 0 := fun q => hok (Prob.err_iff.1 q)
 refine Con.enterL (n := 150) Try.func32 rfl rfl rfl (fun τ w ok vs hin => ?_)
 have hl0_1 := hin.lenA (i := 0) (j := 1) rfl rfl
 try rw [List.length_map] at hl0_1
 have hl0_2 := hin.lenA (i := 0) (j := 2) rfl rfl
 try rw [List.length_map] at hl0_2
 have hl1 := hin.len (i := 1) rfl
 try rw [List.length_map] at hl1
 clear hin
 refine W.rg ?_
 refine SL.memS (O.box (is := [_, _, _]) 101 rfl rfl (by simp) rfl rfl Taken.no) rfl rfl (S' := (101, _) :: _) rfl ?_
 refine SL.memS (O.alloc (z := .agg #[.int .i64 0, .slice none 0 0, .slice none 0 0]) (is := [.u (.sc (.int .i64 0)), .u (.sc (.slice none 0 0)), .u (.sc (.slice none 0 0))]) 102 (by kernel_rfl) rfl rfl rfl Taken.no) rfl rfl (S' := (102, _) :: _) rfl ?_
 refine SL.an rfl rfl (E.fo (W.seq (W.rg ?_)))
 refine SL.val (O.ldN (m := 3) (PtI.ref rfl rfl) (js := [_, _, _]) rfl (Nat.le_of_ble_eq_true rfl) Try.underlying25 rfl (by kernel_rfl) rfl Taken.no) ?_
 refine SL.val (O.callp rfl rfl rfl (refvalid_h (N := N) (ps := ps) (rs := rs)) (.cons (ArgOk.aggU (.cons (ArgOk.same rfl) (.cons (ArgOk.same rfl) (.cons (ArgOk.same rfl) .nil)))) .nil) hcallOk13 rfl Taken.no) ?_
 refine SL.an rfl rfl (E.fo (W.rg (SL.mv rfl rfl ?_)))
 refine SL.val (O.det (fun _ => G.R.mv (G.R.neq rfl rfl) (congrArg Value.bool (decide_eq_true (by exact he)))) rfl Taken.no) ?_
 refine E.fo ?_
 refine W.cond_t rfl ?_
 refine W.rg ?_
 refine SL.val (O.build (res := [_, _, _]) (z := .agg #[.int .i64 0, .slice none 0 0, .slice none 0 0]) (places := [(0, 1), (1, 1), (2, 1)]) rfl rfl Try.underlying25 (by kernel_rfl) (fun _ => by kernel_rfl) rfl rfl Taken.no) ?_
 refine SL.mv rfl rfl ?_
 refine SL.effS (O.st_ref (m := 3) rfl rfl rfl (js := [_, _, _]) rfl rfl (by kernel_rfl) (by simp) (Nat.le_of_ble_eq_true rfl) rfl (is' := [_, _, _]) rfl Taken.no) (S' := (102, _) :: _) rfl ?_
 refine SL.an rfl rfl (E.fo (W.ret (E.thr ?_)))
 refine E.nilslC 102 1 3 (is' := [_, _, _]) rfl rfl rfl ?_
 refine E.nilslC 102 2 3 (is' := [_, _, _]) rfl rfl rfl ?_
 refine E.fin (rs := [_, _]) (rn []) (.inl rfl) rfl (.cons (ResOne.cellN (m := 3) (PtI.ref rfl rfl) (js := [_, _, _]) rfl (Nat.le_of_ble_eq_true rfl) Try.underlying25 rfl (by kernel_rfl)) (.cons (ResOne.tmp rfl) .nil)) ?_ ?_ rfl (fixL_spec rfl)
 ·skip
  first | (rw [show k = rs.length by omega, List.take_length, (sb_y hoku ps rs).1, (sb_y hoku ps rs).2.1, (sb_y hoku ps rs).2.2.1, (sb_y hoku ps rs).2.2.2]; rfl) | rfl
 · exact SubS.nil

end Go.Proofs.Ytppamigboeaefaa
end
section
namespace Go.D33
open Go Go.RowKit Go.H
def exP : List Pr := [⟨0, 1, 5⟩, ⟨0, 2, -6⟩, ⟨1, 2, 4⟩]
def exR : List Ru := [⟨1, 2, 1⟩]
theorem ex_ok : (Prob.mk ((3 : Nat) : Int) exP []).ok := ⟨by decide +kernel, by decide +kernel⟩
theorem ex_ok2 : (Prob.mk ((3 : Nat) : Int) exP exR).ok := ⟨by decide +kernel, by decide +kernel⟩
theorem ex_s1 : solveR 3 exP [] = [0, 0, 2] := by decide +kernel
theorem ex_s2 : solveR 3 exP exR = [0, 1, 1] := by decide +kernel
theorem ex_v : valI 3 (wF exP) ([0, 0, 2] : List Int) = 5 ∧ valE 3 ([0, 0, 2] : List Int) = 0 := by decide +kernel
theorem ex_p : permI 3 (mF (lF exP) exR) (barL exR) (namedL 3 (partsL (mu exR) (List.range 3))) ([0, 1, 1] : List Int) := by decide +kernel
/-! ### '==' of pairs, rules and steps -/
def prV (x : Pr) : List Value := [.int .i64 x.a, .int .i64 x.b, .int .i64 x.w]
def ruV (x : Ru) : List Value := [.int .i64 x.k, .int .i64 x.a, .int .i64 x.b]
def stV (x : Stp) : List Value := [.bool x.u, .int .i64 x.f, .int .i64 x.t]
theorem Pr.ext {a b : Pr} (h1 : a.a = b.a) (h2 : a.b = b.b) (h3 : a.w = b.w) : a = b := by cases a; cases b; simp_all
instance : DecidableEq Pr := fun a b => if h : a.a = b.a ∧ a.b = b.b ∧ a.w = b.w then .isTrue (Pr.ext h.1 h.2.1 h.2.2) else .isFalse fun e => h (by subst e; exact ⟨rfl, rfl, rfl⟩)
theorem Ru.ext {a b : Ru} (h1 : a.k = b.k) (h2 : a.a = b.a) (h3 : a.b = b.b) : a = b := by cases a; cases b; simp_all
instance : DecidableEq Ru := fun a b => if h : a.k = b.k ∧ a.a = b.a ∧ a.b = b.b then .isTrue (Ru.ext h.1 h.2.1 h.2.2) else .isFalse fun e => h (by subst e; exact ⟨rfl, rfl, rfl⟩)
theorem eqPr (a b : Pr) : eqvL (prV a) (prV b) = decide (a = b) := by
  cases a; cases b
  rw [Bool.eq_iff_iff]
  simp [prV, eqvL, eqv]
theorem eqRu (a b : Ru) : eqvL (ruV a) (ruV b) = decide (a = b) := by
  cases a; cases b
  rw [Bool.eq_iff_iff]
  simp [ruV, eqvL, eqv]
theorem sb_len (N : Int) (us : List Int) (ps : List Pr) (rs : List Ru) : (sbP N us ps).length ≤ ps.length ∧ (sbR N us rs).length ≤ rs.length := by
  unfold sbP sbR
  split
  · exact ⟨List.length_filterMap_le _ _, List.length_filterMap_le _ _⟩
  · exact ⟨Nat.zero_le _, Nat.zero_le _⟩
end Go.D33
end
