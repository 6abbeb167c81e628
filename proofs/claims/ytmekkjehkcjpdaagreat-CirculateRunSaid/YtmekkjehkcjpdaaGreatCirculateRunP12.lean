/-
  What the proof rests on: part 12 of 14.
-/
import Derived.Test.YtmekkjehkcjpdaaGreatCirculateRunP11
import Derived.Test.YtmekkjehkcjpdaaGreatRows
import Derived.WalkKit
import Derived.Shelf.RegionOpenPlain
import Derived.Shelf.Spec.SlicesInsert
import Derived.Lib.AppendZerosOnto
import Derived.Lib.Overlaps
section
namespace Go.Proofs.YtmekkjehkcjpdaaGreat
open Go Go.RowKit Go.H Go.Lib
theorem run_copyM {P : Program} {w : World} {t t' e ty tb : TypeId} {inf : TypeInfo} {g o m cc l c' q : Nat} {a' : Addr} {cs : List Value} {cur : Array Value} (ht : P.underlying t = some (.slice e)) (hi : P.info? e = some inf) (hq : Nat.min l m = q) (hl : cs.length = q * inf.size)
    (hs : G.At w a' cs) (hg : w.heap[g]? = some (.cells cur tb (0, 0))) (hfit : o + cs.length ≤ cur.size) (h1 : ∀ v ∈ cs, v.oneCell' = true) :
    (Builtin.copy_ #[t, t'] ty #[.slice (some ⟨g, o, none⟩) m cc, .slice (some a') l c']).run P w = .ok (.int .i64 q) (w.setRow g (cur.toList.take o ++ cs ++ cur.toList.drop (o + cs.length)).toArray) := by
  have hld := run_loadCells_list (P := P) w a' cs hs
  have hst := run_storeCells_at P g o tb cs 0 cur w hg (by simpa using hfit) h1
  rw [hl] at hld
  simp only [Nat.add_zero] at hst
  simp [Builtin.copy_, run_underlying ht, Builtin.lenOf, Builtin.firstCells, sizeOf, typeInfo, hi, hq, hld, hst, goInt]
def InsAside (p : Prop) : Prop := p
theorem insInfo : (Tryz.prog.info? 55).map (fun i => (i.zero, i.size, i.bytes)) = some (some (.agg #[.int .i64 0, .int .i64 0, .string ByteArray.empty, .int .i64 0, .int .i64 0, .int .i64 0, .int .i64 0, .bool false]), 8, 72) := by kernel_rfl
set_option maxHeartbeats 4000000 in
set_option maxRecDepth 100000 in
theorem ins_shift (w : World) (b n c i vb vc : Nat) (cur vcur : Array Value) (hi : i < n) (hroom : n + 1 ≤ c) (hc63 : c ≤ 9223372036854775807) (hvb : vb ≠ b) (hb : w.heap[b]? = some (.cells cur 55 (0, 0))) (hcur : cur.size = c * 8)
    (hv : w.heap[vb]? = some (.cells vcur 55 (0, 0))) (hvs : 8 ≤ vcur.size) (h1c : ∀ v ∈ cur.toList.take (n * 8), v.oneCell' = true) (h1v : ∀ v ∈ vcur.toList.take 8, v.oneCell' = true) :
    Calls Tryz.prog 68 #[.slice (some ⟨b, 0, none⟩) n c, .int .i64 i, .slice (some ⟨vb, 0, none⟩) 1 vc] w fun e w' =>
      e = .returned (.slice (some ⟨b, 0, none⟩) (n + 1) c) ∧ ∃ (w1 : World) (X : Array Value), w' = w1.setRow b X ∧ w1.heap = w.heap ∧ w1.os = w.os ∧ w1.tape = w.tape ∧ w1.output = w.output ∧ X.size = cur.size ∧
        X.toList.take ((n + 1) * 8) = cur.toList.take (i * 8) ++ vcur.toList.take 8 ++ (cur.toList.take (n * 8)).drop (i * 8) := by
  obtain ⟨i0, hi0, hz0, hzs, hzb⟩ := info_parts insInfo
  have hz1 : ¬ ((1 : Int) = 0) := by decide
  have hz2 : ¬ ((i : Int) = (n : Int)) := by omega
  have hsz : ∀ w, (Go.sizeOf 55).run Tryz.prog w = .ok 8 w := fun w => by simp [Go.sizeOf, typeInfo, hi0, hzs]
  have hsa : w.shape? vb = some (55, vcur.size) := by simp [World.shape?, hv]
  have hsb : w.shape? b = some (55, cur.size) := by simp [World.shape?, hb]
  have hfa : w.frozen? ⟨vb, 0, none⟩ = false := by simp [World.frozen?, hv]
  have hfe : w.frozen? ⟨vb, vcur.size, none⟩ = false := by simp [World.frozen?, hv]
  have hov : ∀ lb cb, (callFunc 102 #[.slice (some ⟨vb, 0, none⟩) 1 vc, .slice (some ⟨b, (i + 1) * 8, none⟩) lb cb]).run Tryz.prog w = .ok (.value (.bool false)) w := fun lb cb => by
    rw [run_callFunc_extern Tryz.func102 xG xG xG (e := Extern.SlicesOverlaps.overlaps #[30, 30] #[4]) xG,
      Lib.run_overlaps_apart w 30 4 55 u30 8 hsz ⟨vb, 0, none⟩ ⟨b, (i + 1) * 8, none⟩ 1 vc lb cb hvb 55 55 vcur.size cur.size hsa hsb xA hfa hfe]
    rfl
  obtain ⟨cs, hcs⟩ : ∃ cs, cs = (cur.toList.take (n * 8)).drop (i * 8) := ⟨_, rfl⟩
  have hcl : cs.length = (n - i) * 8 := by rw [hcs, List.length_drop, List.length_take, Array.length_toList]; omega
  obtain ⟨vs, hvsd⟩ : ∃ vs, vs = vcur.toList.take 8 := ⟨_, rfl⟩
  have hvl : vs.length = 1 * 8 := by rw [hvsd, List.length_take, Array.length_toList]; omega
  obtain ⟨X1, hX1⟩ : ∃ X1, X1 = (cur.toList.take ((i + 1) * 8) ++ cs ++ cur.toList.drop ((i + 1) * 8 + cs.length)).toArray := ⟨_, rfl⟩
  have hX1s : X1.size = cur.size := by
    rw [hX1]
    simp only [List.size_toArray, List.length_append, List.length_take, List.length_drop, Array.length_toList]; omega
  obtain ⟨X2, hX2⟩ : ∃ X2, X2 = (X1.toList.take (i * 8) ++ vs ++ X1.toList.drop (i * 8 + vs.length)).toArray := ⟨_, rfl⟩
  have hcat : ∀ (W : World), W.heap = w.heap → G.At W ⟨b, i * 8, none⟩ cs := fun W hW j v hj => by
    have hj' : (cur.toList.take (n * 8))[i * 8 + j]? = some v := by rw [hcs, List.getElem?_drop] at hj; exact hj
    rw [List.getElem?_take] at hj'
    split at hj'
    · rw [Addr.add_lit]
      simp only [World.cell?, hW, hb]
      simpa using hj'
    · cases hj'
  have hcp1 : ∀ ty dc sc, (Builtin.copy_ #[30, 30] ty #[.slice (some ⟨b, (i + 1) * 8, none⟩) (n - i) dc, .slice (some ⟨b, i * 8, none⟩) (n + 1 - i) sc]).run Tryz.prog w.drew = .ok (.int .i64 ((n - i : Nat) : Int)) (w.drew.setRow b X1) := fun ty dc sc => by
    rw [hX1]
    exact run_copyM (q := n - i) u30 hi0 (by simp only [Nat.min_def]; split <;> omega) (by rw [hcl, hzs]) (hcat _ rfl) hb (by rw [hcl, hcur]; omega) (fun v hv => h1c v (List.mem_of_mem_drop (hcs ▸ hv)))
  have hX1h : (w.drew.setRow b X1).heap[b]? = some (.cells X1 55 (0, 0)) := setRow_heap _ _ _ _ _ _ hb
  have hvat : G.At (w.drew.setRow b X1) ⟨vb, 0, none⟩ vs := fun j v hj => by
    rw [hvsd, List.getElem?_take] at hj
    split at hj
    · rw [Addr.add_lit, cell_setRow_other _ _ _ _ hvb]
      have hv' : w.drew.heap[vb]? = some (.cells vcur 55 (0, 0)) := hv
      simp only [World.cell?, hv']
      simpa using hj
    · cases hj
  have hcp2 : ∀ ty dc, (Builtin.copy_ #[30, 30] ty #[.slice (some ⟨b, i * 8, none⟩) (n + 1 - i) dc, .slice (some ⟨vb, 0, none⟩) 1 vc]).run Tryz.prog (w.drew.setRow b X1) = .ok (.int .i64 ((1 : Nat) : Int)) ((w.drew.setRow b X1).setRow b X2) := fun ty dc => by
    rw [hX2]
    exact run_copyM (q := 1) u30 hi0 (by simp only [Nat.min_def]; split <;> omega) (by rw [hvl, hzs]) hvat hX1h (by rw [hvl, hX1s, hcur]; omega) (fun v hv => h1v v (hvsd ▸ hv))
  have mixed : Tryz.prog.follows .mixedOrders = true := by kernel_rfl
  have hw1 : IntKind.i64.wrap ((i : Int) + 1) = (i : Int) + 1 := by rw [IntKind.wrap_i64]; omega
  have hb1 : (0 : Int) ≤ (i : Int) + 1 := by omega
  have hin : i ≤ n := by omega
  have htn : ((i : Int) + 1).toNat = i + 1 := by omega
  have hb2 : ¬ (c = i + 1) := by omega
  have hb3 : (i : Int) ≤ (n : Int) + 1 := by omega
  have hb4 : ¬ (c = i) := by omega
  have hX2s : X2.size = cur.size := by
    rw [hX2]
    simp only [List.size_toArray, List.length_append, List.length_take, List.length_drop, Array.length_toList]; omega
  have hfin : X2.toList.take ((n + 1) * 8) = cur.toList.take (i * 8) ++ vcur.toList.take 8 ++ (cur.toList.take (n * 8)).drop (i * 8) := by
    have hA : (cur.toList.take ((i + 1) * 8)).length = (i + 1) * 8 := by rw [List.length_take, Array.length_toList]; omega
    have e1 : X1.toList.take (i * 8) = cur.toList.take (i * 8) := by
      rw [hX1, List.append_assoc]
      show (cur.toList.take ((i + 1) * 8) ++ _).take (i * 8) = _
      rw [List.take_append_of_le_length xA, List.take_take, Nat.min_eq_left xA]
    have e2 : X1.toList.drop (i * 8 + vs.length) = cs ++ cur.toList.drop ((i + 1) * 8 + cs.length) := by
      rw [hX1, List.append_assoc]
      show (cur.toList.take ((i + 1) * 8) ++ _).drop (i * 8 + vs.length) = _
      rw [show i * 8 + vs.length = (cur.toList.take ((i + 1) * 8)).length by omega, List.drop_left]
    rw [← hvsd, ← hcs, hX2]
    show (X1.toList.take (i * 8) ++ vs ++ X1.toList.drop (i * 8 + vs.length)).take _ = _
    rw [e1, e2, ← List.append_assoc]
    apply List.take_left'
    rw [List.length_append, List.length_append, List.length_take, Array.length_toList]
    omega
  clear hX1 hX2 hcs hvsd
  go_enter Tryz.func68, Tryz.ntmps68
  go_wp2_with (simp only [hov])
  go_region_law_o (refine step_copy_runI rfl _ _ 30 30 rfl _ _ (by simp [Act.eval, Act.put]) (by simp [Act.eval, Act.put]) (hcp1 _ _ _) ?_)
  go_wp2_with (at_builtin; refine wpList_copy_runI _ rfl _ _ 30 30 rfl _ _ rfl rfl (hcp2 _ _) ?_)
  go_ret
  exact ⟨rfl, w.drew, X2, setRow_setRow _ _ _ _, rfl, rfl, rfl, rfl, hX2s, hfin⟩
set_option maxHeartbeats 4000000 in
set_option maxRecDepth 100000 in
theorem ins_grow (w : World) (b n c i vb vc : Nat) (cur vcur : Array Value) (hi : i < n) (hnc : n ≤ c) (hroom : c < n + 1) (hbig : (n + 1) * 72 ≤ 140737488355328) (hb : w.heap[b]? = some (.cells cur 55 (0, 0))) (hcur : cur.size = c * 8)
    (hv : w.heap[vb]? = some (.cells vcur 55 (0, 0))) (hvs : 8 ≤ vcur.size) (h1c : ∀ v ∈ cur.toList.take (n * 8), v.oneCell' = true) (h1v : ∀ v ∈ vcur.toList.take 8, v.oneCell' = true) :
    Calls Tryz.prog 68 #[.slice (some ⟨b, 0, none⟩) n c, .int .i64 i, .slice (some ⟨vb, 0, none⟩) 1 vc] w fun e w' =>
      ∃ (GG : Nat) (w1 : World) (X0 X : Array Value), e = .returned (.slice (some ⟨w.heap.size, 0, none⟩) (n + 1) GG) ∧ n + 1 ≤ GG ∧ GG ≤ maxLen ∧ w' = w1.setRow w.heap.size X ∧ w1.heap = (w.alloc (.cells X0 55)).heap ∧ w1.os = w.os ∧ w1.tape = w.tape ∧ w1.output = w.output ∧ X.size = GG * 8 ∧
        X.toList.take ((n + 1) * 8) = cur.toList.take (i * 8) ++ vcur.toList.take 8 ++ (cur.toList.take (n * 8)).drop (i * 8) := by
  obtain ⟨i0, hi0, hz0, hzs, hzb⟩ := info_parts insInfo
  have hz1 : ¬ ((1 : Int) = 0) := by decide
  have hz2 : ¬ ((i : Int) = (n : Int)) := by omega
  have hz3 : (c : Int) < (n : Int) + 1 := by omega
  have hbw : b < w.heap.size := (Array.getElem?_eq_some_iff.1 hb).1
  have hvw : vb < w.heap.size := (Array.getElem?_eq_some_iff.1 hv).1
  have hkk : (n : Int) + 1 - (i : Int) = ((n + 1 - i : Nat) : Int) := by omega
  have hik : i + (n + 1 - i) = n + 1 := by omega
  obtain ⟨cs, hcs⟩ : ∃ cs, cs = (cur.toList.take (n * 8)).drop (i * 8) := ⟨_, rfl⟩
  have hcl : cs.length = (n - i) * 8 := by rw [hcs, List.length_drop, List.length_take, Array.length_toList]; omega
  obtain ⟨vs, hvsd⟩ : ∃ vs, vs = vcur.toList.take 8 := ⟨_, rfl⟩
  have hvl : vs.length = 1 * 8 := by rw [hvsd, List.length_take, Array.length_toList]; omega
  obtain ⟨ah, hah⟩ : ∃ ah, ah = cur.toList.take (i * 8) := ⟨_, rfl⟩
  have hal : ah.length = i * 8 := by rw [hah, List.length_take, Array.length_toList]; omega
  have hcell : ∀ j, w.cell? ⟨b, j, none⟩ = cur[j]? := fun j => by simp [World.cell?, hb]
  have hold : (Builtin.firstCells i0.size i (.slice (some ⟨b, 0, none⟩) i c)).run Tryz.prog w.drew = .ok ah.toArray w.drew := by
    rw [hzs]
    exact run_firstCells_some w.drew 8 i ⟨b, 0, none⟩ i c ah hal (fun j v hj => by
      rw [Addr.add_lit, Nat.zero_add]
      rw [hah, List.getElem?_take] at hj
      split at hj
      · show w.cell? ⟨b, j, none⟩ = _
        rw [hcell]; simpa using hj
      · cases hj)
  obtain ⟨z, hz⟩ : ∃ z : Value, i0.zero = some z ∧ z.cells.size = 8 := ⟨_, hz0, rfl⟩
  obtain ⟨GG, hG⟩ : ∃ GG, GG = grownCap w (n + 1) c 55 := ⟨_, rfl⟩
  have hGn : n + 1 ≤ GG := by rw [hG]; exact grownCap_ge w _ _ _
  have hGm : GG ≤ maxLen := by rw [hG]; exact grownCap_le_maxLen w (n + 1) c 55 (by unfold maxLen; omega)
  have hG63 : GG ≤ 9223372036854775807 := by
    have := hGm
    unfold maxLen at this; omega
  obtain ⟨X0, hX0⟩ : ∃ X0 : Array Value, X0 = ah.toArray ++ Builtin.zeroCells z.cells (n + 1 - i) ++ Builtin.zeroCells z.cells (GG - (n + 1)) := ⟨_, rfl⟩
  have hX0s : X0.size = GG * 8 := by
    rw [hX0]
    simp only [Array.size_append, size_zeroCells, hz.2, List.size_toArray, hal]; omega
  have hrz : ∀ ty, (Builtin.append_ #[30, 3] ty #[.slice (some ⟨b, 0, none⟩) i c, .int .i64 ((n : Int) + 1 - (i : Int))]).run Tryz.prog w = .ok (.slice (some ⟨w.heap.size, 0, none⟩) (n + 1) GG) (w.drew.alloc (.cells X0 55)) := fun ty => by
    have h := Lib.run_append_grow_zeros w 30 3 ty 55 i0 z .i64 .i64 u30 u3 hi0 hz.1 (some ⟨b, 0, none⟩) i c ah hold (n + 1 - i) xA xA xA xA (by rw [hzb]; omega) (by rw [hzb, hik]; exact growslice_fits hroom hbig)
    rw [hik] at h
    rw [hkk, h, hX0, hG]
  obtain ⟨W1, hW1⟩ : ∃ W1, W1 = w.drew.alloc (.cells X0 55) := ⟨_, rfl⟩
  have hW1n : W1.heap[w.heap.size]? = some (.cells X0 55 (0, 0)) := by rw [hW1]; exact heap_alloc_new w.drew _
  have hW1o : ∀ k, k < w.heap.size → W1.heap[k]? = w.heap[k]? := fun k hk => by rw [hW1]; exact heap_alloc_old w.drew _ hk
  obtain ⟨X1, hX1⟩ : ∃ X1, X1 = (X0.toList.take (i * 8) ++ vs ++ X0.toList.drop (i * 8 + vs.length)).toArray := ⟨_, rfl⟩
  have hX1s : X1.size = X0.size := by
    rw [hX1]
    simp only [List.size_toArray, List.length_append, List.length_take, List.length_drop, Array.length_toList]; omega
  obtain ⟨X2, hX2⟩ : ∃ X2, X2 = (X1.toList.take ((i + 1) * 8) ++ cs ++ X1.toList.drop ((i + 1) * 8 + cs.length)).toArray := ⟨_, rfl⟩
  have hX2s : X2.size = X0.size := by
    rw [hX2]
    simp only [List.size_toArray, List.length_append, List.length_take, List.length_drop, Array.length_toList]; omega
  have hvat : G.At W1 ⟨vb, 0, none⟩ vs := fun j v hj => by
    rw [hvsd, List.getElem?_take] at hj
    split at hj
    · rw [Addr.add_lit]
      simp only [World.cell?, hW1o vb hvw, hv]
      simpa using hj
    · cases hj
  have hcp1 : ∀ ty dc, (Builtin.copy_ #[30, 30] ty #[.slice (some ⟨w.heap.size, i * 8, none⟩) (n + 1 - i) dc, .slice (some ⟨vb, 0, none⟩) 1 vc]).run Tryz.prog W1 = .ok (.int .i64 ((1 : Nat) : Int)) (W1.setRow w.heap.size X1) := fun ty dc => by
    rw [hX1]
    exact run_copyM (q := 1) u30 hi0 (by simp only [Nat.min_def]; split <;> omega) (by rw [hvl, hzs]) hvat hW1n (by rw [hvl, hX0s]; omega) (fun v hv => h1v v (hvsd ▸ hv))
  have hcat : G.At (W1.setRow w.heap.size X1).drew ⟨b, i * 8, none⟩ cs := fun j v hj => by
    have hj' : (cur.toList.take (n * 8))[i * 8 + j]? = some v := by rw [hcs, List.getElem?_drop] at hj; exact hj
    rw [List.getElem?_take] at hj'
    split at hj'
    · rw [Addr.add_lit]
      show (W1.setRow w.heap.size X1).cell? _ = _
      rw [cell_setRow_other _ _ _ _ (show b ≠ w.heap.size by omega)]
      simp only [World.cell?, hW1o b hbw, hb]
      simpa using hj'
    · cases hj'
  have hcp2 : ∀ ty dc sc, (Builtin.copy_ #[30, 30] ty #[.slice (some ⟨w.heap.size, (i + 1) * 8, none⟩) (n - i) dc, .slice (some ⟨b, i * 8, none⟩) (n - i) sc]).run Tryz.prog (W1.setRow w.heap.size X1).drew = .ok (.int .i64 ((n - i : Nat) : Int)) ((W1.setRow w.heap.size X1).drew.setRow w.heap.size X2) := fun ty dc sc => by
    rw [hX2]
    exact run_copyM (q := n - i) u30 hi0 (Nat.min_self _) (by rw [hcl, hzs]) hcat (setRow_heap _ _ _ _ _ _ hW1n) (by rw [hcl, hX1s, hX0s]; omega) (fun v hv => h1c v (List.mem_of_mem_drop (hcs ▸ hv)))
  have hfin : X2.toList.take ((n + 1) * 8) = cur.toList.take (i * 8) ++ vcur.toList.take 8 ++ (cur.toList.take (n * 8)).drop (i * 8) := by
    have e0 : X0.toList.take (i * 8) = ah := by
      rw [hX0, Array.append_assoc, Array.toList_append]
      show (ah ++ _).take (i * 8) = ah
      exact List.take_left' hal
    have e1 : X1.toList.take ((i + 1) * 8) = ah ++ vs := by
      rw [hX1, e0]
      show (ah ++ vs ++ _).take ((i + 1) * 8) = ah ++ vs
      exact List.take_left' (by rw [List.length_append, hal, hvl]; omega)
    rw [← hah, ← hvsd, ← hcs, hX2, e1]
    show (ah ++ vs ++ cs ++ _).take ((n + 1) * 8) = ah ++ vs ++ cs
    exact List.take_left' (by rw [List.length_append, List.length_append, hal, hvl, hcl]; omega)
  have mixed : Tryz.prog.follows .mixedOrders = true := by kernel_rfl
  have hw1 : IntKind.i64.wrap ((i : Int) + 1) = (i : Int) + 1 := by rw [IntKind.wrap_i64]; omega
  have hb1 : (0 : Int) ≤ (i : Int) + 1 := by omega
  have hin : i ≤ n := by omega
  have htn : ((i : Int) + 1).toNat = i + 1 := by omega
  have hb3 : (i : Int) ≤ (n : Int) := by omega
  have hGi : ¬ (GG = i) := by omega
  have hGim : ¬ (GG = i + 1) := by omega
  have hci : ¬ (c = i) := by omega
  have hX2g : X2.size = GG * 8 := by rw [hX2s, hX0s]
  rw [← hW1] at hrz
  have hE : InsAside ((W1.setRow w.heap.size X1).drew.setRow w.heap.size X2 = (w.alloc (.cells X0 55)).drew.drew.setRow w.heap.size X2) := by
    subst hW1
    show ((w.alloc (.cells X0 55)).drew.drew.setRow w.heap.size X1).setRow w.heap.size X2 = _
    exact setRow_setRow _ _ _ _
  clear hkk hik hold hX0 hG hX1 hX2 hcs hvsd hah hW1 hvat hcat
  go_enter Tryz.func68, Tryz.ntmps68
  go_wp2_with (first
    | (at_builtin; refine Lib.wpList_append_run _ rfl _ _ _ _ rfl _ _ rfl rfl _ _ (hrz _) ?_)
    | (at_builtin; refine wpList_copy_runI _ rfl _ _ 30 30 rfl _ _ rfl rfl (hcp1 _ _) ?_))
  go_region_law_o (refine step_copy_runI rfl _ _ 30 30 rfl (.slice (some ⟨w.heap.size, (i + 1) * 8, none⟩) (n - i) (GG - (i + 1))) (.slice (some ⟨b, i * 8, none⟩) (n - i) (c - i)) (by simp [Act.eval, Act.put]) (by simp [Act.eval, Act.put]) (hcp2 3 (GG - (i + 1)) (c - i)) ?_)
  go_wp2
  go_ret
  exact ⟨GG, (w.alloc (.cells X0 55)).drew.drew, X0, X2, rfl, hGn, hGm, hE, rfl, rfl, rfl, rfl, hX2g, hfin⟩
section
open Go.G (Ext Gr)
variable {τ : Nat → Value} {w : World} {ok : Nat → Prop}
theorem ins_args {i : IV} {vs : List Value} (h : AllI τ w ok [.own 0, i, .own 1] vs) : ∃ u, vs = [τ 0, u, τ 1] ∧ RepI τ w ok i u := by
  obtain ⟨hl, hg⟩ := h
  match vs, hl with
  | [a, b, c], _ =>
    have h0 := hg 0 (.own 0) a rfl rfl
    have h1 := hg 1 i b rfl rfl
    have h2 := hg 2 (.own 1) c rfl rfl
    cases h0; cases h2
    exact ⟨b, rfl, h1⟩
theorem ins_data {k : Nat} {rows : List (List UV)} (h : RepB τ w ok k (.data 55 8 rows)) (hp : 0 < rows.length) : ∃ g cap cur, τ k = .slice (some ⟨g, 0, none⟩) rows.length cap ∧ w.heap[g]? = some (.cells cur 55 (0, 0)) ∧ rows.length ≤ cap ∧ cap ≤ maxLen ∧ cur.size = cap * 8 ∧
    AllU w ok rows.flatten (cur.toList.take (rows.length * 8)) ∧ (∀ r ∈ rows, r.length = 8) ∧ (∀ u ∈ rows.flatten, u.one = true) ∧ ∀ v ∈ cur.toList.take (rows.length * 8), v.oneCell' = true := by
  obtain ⟨vs, ⟨hl, h0 | ⟨g, cap, cur, h1, _, h2, h3, h4, h5, h6⟩⟩, hu, hr, _, ho⟩ := h
  · omega
  · subst h6
    refine ⟨g, cap, cur, h1, h2, h3, h4, h5, hu, hr, ho, fun v hv => ?_⟩
    obtain ⟨j, hj, e⟩ := List.mem_iff_getElem.1 hv
    have hj2 : j < rows.flatten.length := by rw [hu.1]; exact hj
    have := hu.2 j rows.flatten[j] v (List.getElem?_eq_getElem hj2) (by rw [List.getElem?_eq_getElem hj, e])
    exact (RepI.u (τ := τ) this).isOne (ho _ (List.getElem_mem hj2))
theorem ins_all {rows : List (List UV)} {row : List UV} {i : Nat} {xs ys : List Value} (hi : i ≤ rows.length) (hr : ∀ r ∈ rows, r.length = 8) (hx : AllU w ok rows.flatten xs) (hy : AllU w ok row ys) :
    AllU w ok (rows.take i ++ row :: rows.drop i).flatten (xs.take (i * 8) ++ ys ++ xs.drop (i * 8)) := by
  have e : rows.flatten = (rows.take i).flatten ++ (rows.drop i).flatten := by rw [← List.flatten_append, List.take_append_drop]
  have hl : (rows.take i).flatten.length = i * 8 := by
    rw [flat_len (sz := 8) (fun r hr' => hr r (List.mem_of_mem_take hr')), List.length_take, Nat.min_eq_left hi]
  have hxl := hx.1
  rw [e, List.length_append, hl] at hxl
  rw [← List.take_append_drop (i * 8) xs, e] at hx
  obtain ⟨h1, h2⟩ := hx.split (by rw [hl, List.length_take]; omega)
  rw [List.flatten_append, List.flatten_cons, ← List.append_assoc]
  exact (h1.app hy).app h2
end
open Go.G (Ext Gr) in
theorem insMid_con {rows : List (List UV)} {row : List UV} {i : Nat} (hi : i < rows.length) (hl : rows.length ≤ 1000000) :
    Con Tryz.prog 68 [.own 0, .u (.sc (.int .i64 (i : Int))), .own 1] [(0, .data 55 8 rows), (1, .data 55 8 [row])] (.own 2) [(2, .data 55 8 (rows.take i ++ row :: rows.drop i))] := by
  intro τ w vs ok hin
  obtain ⟨u, rfl, hu⟩ := ins_args hin.args
  obtain rfl : u = .int .i64 (i : Int) := by
    cases hu with
    | u h => cases h; rfl
  have b0 := hin.sto 0 _ rfl
  have b1 := hin.sto 1 _ rfl
  obtain ⟨g, cap, cur, t0, hg, c1, c2, c3, c4, c5, c6, c7⟩ := ins_data b0 xA
  obtain ⟨g1, cap1, cur1, t1, hg1, d1, d2, d3, d4, d5, d6, d7⟩ := ins_data b1 yE
  have hne : g1 ≠ g := fun e => by
    have := hin.inj 0 1 _ _ g rfl rfl (by rw [t0]; rfl) (by rw [t1, e]; rfl)
    cases this
  have hM : ∀ b, b = g → MOf τ [(0, SB.data 55 8 rows), (1, .data 55 8 [row])] b := fun b e => ⟨0, _, rfl, by rw [t0, e]; rfl⟩
  have hrl : row.length = 8 := d5 row yE
  have hfl : ([row] : List (List UV)).flatten = row := by simp
  rw [hfl] at d4 d6
  have d4' : AllU w ok row (cur1.toList.take 8) := d4
  have d7' : ∀ v ∈ cur1.toList.take 8, v.oneCell' = true := d7
  have hall := ins_all (Nat.le_of_lt hi) c5 c4 d4'
  rw [List.take_take, Nat.min_eq_left xA] at hall
  have hr' : ∀ r ∈ rows.take i ++ row :: rows.drop i, r.length = 8 := fun r hr => by
    rcases List.mem_append.1 hr with m | m
    · exact c5 r (List.mem_of_mem_take m)
    · rcases List.mem_cons.1 m with m | m
      · rw [m]; exact hrl
      · exact c5 r (List.mem_of_mem_drop m)
  have ho' : ∀ u ∈ (rows.take i ++ row :: rows.drop i).flatten, u.one = true := fun u hu => by
    obtain ⟨r, hr, hu⟩ := List.mem_flatten.1 hu
    rcases List.mem_append.1 hr with m | m
    · exact c6 u (List.mem_flatten.2 ⟨r, List.mem_of_mem_take m, hu⟩)
    · rcases List.mem_cons.1 m with m | m
      · rw [m] at hu; exact d6 u hu
      · exact c6 u (List.mem_flatten.2 ⟨r, List.mem_of_mem_drop m, hu⟩)
  have hlen' : (rows.take i ++ row :: rows.drop i).length = rows.length + 1 := by
    rw [List.length_append, List.length_take, List.length_cons, List.length_drop]; omega
  have hvl : (cur.toList.take (i * 8) ++ cur1.toList.take 8 ++ (cur.toList.take (rows.length * 8)).drop (i * 8)).length = (rows.length + 1) * 8 := by
    simp only [List.length_append, List.length_take, List.length_drop, Array.length_toList]
    have : ([row] : List (List UV)).length = 1 := rfl
    omega
  have hcap1 : 8 ≤ cur1.size := by
    have : ([row] : List (List UV)).length = 1 := rfl
    omega
  show Calls Tryz.prog 68 #[τ 0, .int .i64 (i : Int), τ 1] w _
  rw [t0, t1]
  by_cases hroom : rows.length + 1 ≤ cap
  · refine Calls.mono (ins_shift w g rows.length cap i g1 cap1 cur cur1 hi hroom (by unfold maxLen at c2; omega) hne hg c3 hg1 hcap1 c7 d7') ?_
    rintro e w' ⟨rfl, w1, X, rfl, hh, ho, htp, hou, hXs, hX⟩
    have hbk : ∀ k, k ≠ g → (w1.setRow g X).heap[k]? = w.heap[k]? := fun k hk => by rw [setRow_other _ _ _ _ hk, hh]
    have hg' : w1.heap[g]? = some (.cells cur 55 (0, 0)) := by rw [hh]; exact hg
    have hsz : (w1.setRow g X).heap.size = w.heap.size := by rw [setRow_size, hh]
    refine ⟨_, fun k => if k = 2 then .slice (some ⟨g, 0, none⟩) (rows.length + 1) cap else τ k, rfl, ⟨ho, htp, hou, xA, fun k _ hn => hbk k (fun e => hn (hM k e))⟩, fun k hk => ?_, ?_, fun k sb hk => ?_, fun k k' sb sb' b hk hk' _ _ => ?_, fun k sb b hk hb => ?_⟩
    · have : k = 0 ∨ k = 1 := by simpa [keysS] using hk
      rcases this with rfl | rfl <;> rfl
    · exact RepI.own (τ := fun k => if k = 2 then .slice (some ⟨g, 0, none⟩) (rows.length + 1) cap else τ k) 2 rfl
    · by_cases e : 2 = k
      · subst e
        rw [lookS_data] at hk; cases hk
        refine ⟨_, ⟨?_, .inr ⟨g, cap, X, by rw [hlen']; rfl, Nat.zero_le _, setRow_heap _ _ _ _ _ _ hg', by rw [hlen']; exact hroom, c2, by rw [hXs, c3], by rw [hlen']; exact hX⟩⟩, hall.mono xA (fun b hb hlt => ⟨⟨.inl hb, fun k sb hk hv => ?_⟩, hbk b (fun e => hin.ap b hb (hM b e))⟩), hr', by decide, ho'⟩
        · rw [hlen']; exact hvl
        · by_cases e : 2 = k
          · subst e
            rw [lookS_data] at hk; cases hk
            change vblk _ = some b at hv
            simp [vblk] at hv
            exact hin.ap b hb (hM b hv.symm)
          · rw [lookS_ne e] at hk; cases hk
      · rw [lookS_ne e] at hk; cases hk
    · by_cases e : 2 = k
      · by_cases e' : 2 = k'
        · omega
        · rw [lookS_ne e'] at hk'; cases hk'
      · rw [lookS_ne e] at hk; cases hk
    · by_cases e : 2 = k
      · subst e
        rw [lookS_data] at hk; cases hk
        change vblk _ = some b at hb
        simp [vblk] at hb
        exact .inl (hM b hb.symm)
      · rw [lookS_ne e] at hk; cases hk
  · refine Calls.mono (ins_grow w g rows.length cap i g1 cap1 cur cur1 hi c1 xA xA hg c3 hg1 hcap1 c7 d7') ?_
    rintro e w' ⟨GG, w1, X0, X, rfl, hG1, hG2, rfl, hh, ho, htp, hou, hXs, hX⟩
    have hgs : g < w.heap.size := (Array.getElem?_eq_some_iff.1 hg).1
    have hn' : w1.heap[w.heap.size]? = some (.cells X0 55 (0, 0)) := by rw [hh]; exact heap_alloc_new w _
    have hbk : ∀ k, k < w.heap.size → (w1.setRow w.heap.size X).heap[k]? = w.heap[k]? := fun k hk => by rw [setRow_other _ _ _ _ xA, hh]; exact heap_alloc_old w _ hk
    have hsz : (w1.setRow w.heap.size X).heap.size = w.heap.size + 1 := by rw [setRow_size, hh, World.size_alloc]
    refine ⟨_, fun k => if k = 2 then .slice (some ⟨w.heap.size, 0, none⟩) (rows.length + 1) GG else τ k, rfl, ⟨ho, htp, hou, xA, fun k hk _ => hbk k hk⟩, fun k hk => ?_, ?_, fun k sb hk => ?_, fun k k' sb sb' b hk hk' _ _ => ?_, fun k sb b hk hb => ?_⟩
    · have : k = 0 ∨ k = 1 := by simpa [keysS] using hk
      rcases this with rfl | rfl <;> rfl
    · exact RepI.own (τ := fun k => if k = 2 then .slice (some ⟨w.heap.size, 0, none⟩) (rows.length + 1) GG else τ k) 2 rfl
    · by_cases e : 2 = k
      · subst e
        rw [lookS_data] at hk; cases hk
        refine ⟨_, ⟨?_, .inr ⟨w.heap.size, GG, X, by rw [hlen']; rfl, Nat.zero_le _, setRow_heap _ _ _ _ _ _ hn', by rw [hlen']; exact hG1, hG2, hXs, by rw [hlen']; exact hX⟩⟩, hall.mono xA (fun b hb hlt => ⟨⟨.inl hb, fun k sb hk hv => ?_⟩, hbk b hlt⟩), hr', by decide, ho'⟩
        · rw [hlen']; exact hvl
        · by_cases e : 2 = k
          · subst e
            rw [lookS_data] at hk; cases hk
            change vblk _ = some b at hv
            simp [vblk] at hv
            omega
          · rw [lookS_ne e] at hk; cases hk
      · rw [lookS_ne e] at hk; cases hk
    · by_cases e : 2 = k
      · by_cases e' : 2 = k'
        · omega
        · rw [lookS_ne e'] at hk'; cases hk'
      · rw [lookS_ne e] at hk; cases hk
    · by_cases e : 2 = k
      · subst e
        rw [lookS_data] at hk; cases hk
        change vblk _ = some b at hb
        simp [vblk] at hb
        exact .inr xA
      · rw [lookS_ne e] at hk; cases hk
end Go.Proofs.YtmekkjehkcjpdaaGreat
end
section
namespace Go.D58
open Go Go.RowKit Go.H Go.D57
variable {s : St} {x : Sp}
theorem add_e2 (h : ¬ (idB x.copy ∧ idB x.work)) : addE s x = 2 ∧ addS s x = s := by
  have e : addE s x = 2 := by rw [addE, if_pos h]
  exact ⟨e, by rw [addS, e, if_neg xI]⟩
theorem add_e8 (h0 : ¬ (¬ (idB x.copy ∧ idB x.work))) (h : ¬ nmOk x.lib) : addE s x = 8 ∧ addS s x = s := by
  have e : addE s x = 8 := by rw [addE, if_neg h0, if_pos h]
  exact ⟨e, by rw [addS, e, if_neg xI]⟩
theorem add_e10 (h0 : ¬ (¬ (idB x.copy ∧ idB x.work))) (h1 : ¬ (¬ nmOk x.lib)) (h : 0 ≤ cpI s x.copy) : addE s x = 10 ∧ addS s x = s := by
  have e : addE s x = 10 := by rw [addE, if_neg h0, if_neg h1, if_pos h]
  exact ⟨e, by rw [addS, e, if_neg xI]⟩
theorem add_e20 (h0 : ¬ (¬ (idB x.copy ∧ idB x.work))) (h1 : ¬ (¬ nmOk x.lib)) (h2 : ¬ (0 ≤ cpI s x.copy)) (h : s.cps.length = 60) : addE s x = 20 ∧ addS s x = s := by
  have e : addE s x = 20 := by rw [addE, if_neg h0, if_neg h1, if_neg h2, if_pos h]
  exact ⟨e, by rw [addS, e, if_neg xI]⟩
theorem add_e0 (h0 : ¬ (¬ (idB x.copy ∧ idB x.work))) (h1 : ¬ (¬ nmOk x.lib)) (h2 : ¬ (0 ≤ cpI s x.copy)) (h3 : ¬ (s.cps.length = 60)) : addE s x = 0 ∧ addS s x = freeS (insC s x) (kpos (·.id) s.cps x.copy) := by
  have e : addE s x = 0 := by rw [addE, if_neg h0, if_neg h1, if_neg h2, if_neg h3]
  exact ⟨e, by rw [addS, if_pos e]⟩
theorem rem_e9 (h : ¬ 0 ≤ cpI s x.copy) : remE s x = 9 ∧ remS s x = s := by
  have e : remE s x = 9 := by rw [remE, if_pos h]
  exact ⟨e, by rw [remS, e, if_neg xI]⟩
theorem rem_e26 (h0 : ¬ (¬ 0 ≤ cpI s x.copy)) (h : (atC s x.copy).place ≠ 1) : remE s x = 26 ∧ remS s x = s := by
  have e : remE s x = 26 := by rw [remE, if_neg h0, if_pos h]
  exact ⟨e, by rw [remS, e, if_neg xI]⟩
theorem rem_e0 (h0 : ¬ (¬ 0 ≤ cpI s x.copy)) (h1 : ¬ ((atC s x.copy).place ≠ 1)) : remE s x = 0 ∧ remS s x = ⟨s.now, s.cps.filter (fun c => !decide (c.id = x.copy)), s.lns⟩ := by
  have e : remE s x = 0 := by rw [remE, if_neg h0, if_neg h1]
  exact ⟨e, by rw [remS, if_pos e]⟩
theorem len_e2 (h : ¬ idB x.pat) : lenE s x = 2 ∧ lenS s x = s := by
  have e : lenE s x = 2 := by rw [lenE, if_pos h]
  exact wJ
theorem len_e9 (h0 : ¬ (¬ idB x.pat)) (h : ¬ 0 ≤ cpI s x.copy) : lenE s x = 9 ∧ lenS s x = s := by
  have e : lenE s x = 9 := by rw [lenE, if_neg h0, if_pos h]
  exact wJ
theorem len_e26 (h0 : ¬ (¬ idB x.pat)) (h1 : ¬ (¬ 0 ≤ cpI s x.copy)) (h : (atC s x.copy).place = 2 ∨ ((atC s x.copy).place = 3 ∧ (atC s x.copy).pat ≠ x.pat)) : lenE s x = 26 ∧ lenS s x = s := by
  have e : lenE s x = 26 := by rw [lenE, if_neg h0, if_neg h1, if_pos h]
  exact wJ
theorem len_e10 (h0 : ¬ (¬ idB x.pat)) (h1 : ¬ (¬ 0 ≤ cpI s x.copy)) (h2 : ¬ ((atC s x.copy).place = 2 ∨ ((atC s x.copy).place = 3 ∧ (atC s x.copy).pat ≠ x.pat))) (h : (atC s x.copy).place = 1 ∧ 0 ≤ ownI s x.pat (atC s x.copy).work) : lenE s x = 10 ∧ lenS s x = s := by
  have e : lenE s x = 10 := by rw [lenE, if_neg h0, if_neg h1, if_neg h2, if_pos h]
  exact wJ
theorem len_e3 (h0 : ¬ (¬ idB x.pat)) (h1 : ¬ (¬ 0 ≤ cpI s x.copy)) (h2 : ¬ ((atC s x.copy).place = 2 ∨ ((atC s x.copy).place = 3 ∧ (atC s x.copy).pat ≠ x.pat))) (h3 : ¬ ((atC s x.copy).place = 1 ∧ 0 ≤ ownI s x.pat (atC s x.copy).work)) (h : 5 ≤ (idsF (fun c => decide (c.place = 2 ∧ c.pat = x.pat)) s.cps).length) : lenE s x = 3 ∧ lenS s x = s := by
  have e : lenE s x = 3 := by rw [lenE, if_neg h0, if_neg h1, if_neg h2, if_neg h3, if_pos h]
  exact wJ
theorem len_e25 (h0 : ¬ (¬ idB x.pat)) (h1 : ¬ (¬ 0 ≤ cpI s x.copy)) (h2 : ¬ ((atC s x.copy).place = 2 ∨ ((atC s x.copy).place = 3 ∧ (atC s x.copy).pat ≠ x.pat))) (h3 : ¬ ((atC s x.copy).place = 1 ∧ 0 ≤ ownI s x.pat (atC s x.copy).work)) (h4 : ¬ (5 ≤ (idsF (fun c => decide (c.place = 2 ∧ c.pat = x.pat)) s.cps).length)) (h : 1000000 < s.now + 28) : lenE s x = 25 ∧ lenS s x = s := by
  have e : lenE s x = 25 := by rw [lenE, if_neg h0, if_neg h1, if_neg h2, if_neg h3, if_neg h4, if_pos h]
  exact wJ
theorem len_e0 (h0 : ¬ (¬ idB x.pat)) (h1 : ¬ (¬ 0 ≤ cpI s x.copy)) (h2 : ¬ ((atC s x.copy).place = 2 ∨ ((atC s x.copy).place = 3 ∧ (atC s x.copy).pat ≠ x.pat))) (h3 : ¬ ((atC s x.copy).place = 1 ∧ 0 ≤ ownI s x.pat (atC s x.copy).work)) (h4 : ¬ (5 ≤ (idsF (fun c => decide (c.place = 2 ∧ c.pat = x.pat)) s.cps).length)) (h5 : ¬ (1000000 < s.now + 28)) : lenE s x = 0 ∧ lenS s x = ⟨s.now, s.cps.set (cpI s x.copy).toNat (lentC (atC s x.copy) x.pat s.now), s.lns⟩ := by
  have e : lenE s x = 0 := by rw [lenE, if_neg h0, if_neg h1, if_neg h2, if_neg h3, if_neg h4, if_neg h5]
  exact ⟨e, by rw [lenS, if_pos e]⟩
theorem bak_e9 (h : ¬ 0 ≤ cpI s x.copy) : bakE s x = 9 ∧ bakS s x = s := by
  have e : bakE s x = 9 := by rw [bakE, if_pos h]
  exact ⟨e, by rw [bakS, e, if_neg xI]⟩
theorem bak_e11 (h0 : ¬ (¬ 0 ≤ cpI s x.copy)) (h : (atC s x.copy).place ≠ 2) : bakE s x = 11 ∧ bakS s x = s := by
  have e : bakE s x = 11 := by rw [bakE, if_neg h0, if_pos h]
  exact ⟨e, by rw [bakS, e, if_neg xI]⟩
theorem bak_e0 (h0 : ¬ (¬ 0 ≤ cpI s x.copy)) (h1 : ¬ ((atC s x.copy).place ≠ 2)) : bakE s x = 0 ∧ bakS s x = freeS s (cpI s x.copy).toNat := by
  have e : bakE s x = 0 := by rw [bakE, if_neg h0, if_neg h1]
  exact ⟨e, by rw [bakS, if_pos e]⟩
theorem ren_e9 (h : ¬ 0 ≤ cpI s x.copy) : renE s x = 9 ∧ renS s x = s := by
  have e : renE s x = 9 := by rw [renE, if_pos h]
  exact ⟨e, by rw [renS, e, if_neg xI]⟩
theorem ren_e11 (h0 : ¬ (¬ 0 ≤ cpI s x.copy)) (h : (atC s x.copy).place ≠ 2) : renE s x = 11 ∧ renS s x = s := by
  have e : renE s x = 11 := by rw [renE, if_neg h0, if_pos h]
  exact ⟨e, by rw [renS, e, if_neg xI]⟩
theorem ren_e26 (h0 : ¬ (¬ 0 ≤ cpI s x.copy)) (h1 : ¬ ((atC s x.copy).place ≠ 2)) (h : (atC s x.copy).rc = true ∨ 0 < (queS s (atC s x.copy).work).length) : renE s x = 26 ∧ renS s x = s := by
  have e : renE s x = 26 := by rw [renE, if_neg h0, if_neg h1, if_pos h]
  exact ⟨e, by rw [renS, e, if_neg xI]⟩
theorem ren_e25 (h0 : ¬ (¬ 0 ≤ cpI s x.copy)) (h1 : ¬ ((atC s x.copy).place ≠ 2)) (h2 : ¬ ((atC s x.copy).rc = true ∨ 0 < (queS s (atC s x.copy).work).length)) (h : 1000000 < s.now + 28) : renE s x = 25 ∧ renS s x = s := by
  have e : renE s x = 25 := by rw [renE, if_neg h0, if_neg h1, if_neg h2, if_pos h]
  exact ⟨e, by rw [renS, e, if_neg xI]⟩
theorem ren_e0 (h0 : ¬ (¬ 0 ≤ cpI s x.copy)) (h1 : ¬ ((atC s x.copy).place ≠ 2)) (h2 : ¬ ((atC s x.copy).rc = true ∨ 0 < (queS s (atC s x.copy).work).length)) (h3 : ¬ (1000000 < s.now + 28)) : renE s x = 0 ∧ renS s x = ⟨s.now, s.cps.set (cpI s x.copy).toNat (rnwC (atC s x.copy) s.now), s.lns⟩ := by
  have e : renE s x = 0 := by rw [renE, if_neg h0, if_neg h1, if_neg h2, if_neg h3]
  exact ⟨e, by rw [renS, if_pos e]⟩
theorem ask_e2 (h : ¬ (idB x.work ∧ idB x.pat ∧ idB x.hold ∧ inB x.cls 1 3)) : askE s x = 2 ∧ askS s x = s := by
  have e : askE s x = 2 := by rw [askE, if_pos h]
  exact ⟨e, by rw [askS, e, if_neg xI]⟩
theorem ask_e9 (h0 : ¬ (¬ (idB x.work ∧ idB x.pat ∧ idB x.hold ∧ inB x.cls 1 3))) (h : cntP s.cps x.work 1 = 0 ∧ cntP s.cps x.work 2 = 0 ∧ cntP s.cps x.work 3 = 0) : askE s x = 9 ∧ askS s x = s := by
  have e : askE s x = 9 := by rw [askE, if_neg h0, if_pos h]
  exact ⟨e, by rw [askS, e, if_neg xI]⟩
theorem ask_e10 (h0 : ¬ (¬ (idB x.work ∧ idB x.pat ∧ idB x.hold ∧ inB x.cls 1 3))) (h1 : ¬ (cntP s.cps x.work 1 = 0 ∧ cntP s.cps x.work 2 = 0 ∧ cntP s.cps x.work 3 = 0)) (h : useB s x.hold = true ∨ 0 ≤ ownI s x.pat x.work ∨ 0 ≤ patI (queS s x.work) x.pat) : askE s x = 10 ∧ askS s x = s := by
  have e : askE s x = 10 := by rw [askE, if_neg h0, if_neg h1, if_pos h]
  exact ⟨e, by rw [askS, e, if_neg xI]⟩
theorem ask_e20 (h0 : ¬ (¬ (idB x.work ∧ idB x.pat ∧ idB x.hold ∧ inB x.cls 1 3))) (h1 : ¬ (cntP s.cps x.work 1 = 0 ∧ cntP s.cps x.work 2 = 0 ∧ cntP s.cps x.work 3 = 0)) (h2 : ¬ (useB s x.hold = true ∨ 0 ≤ ownI s x.pat x.work ∨ 0 ≤ patI (queS s x.work) x.pat)) (h : (queS s x.work).length = 60) : askE s x = 20 ∧ askS s x = s := by
  have e : askE s x = 20 := by rw [askE, if_neg h0, if_neg h1, if_neg h2, if_pos h]
  exact ⟨e, by rw [askS, e, if_neg xI]⟩
theorem ask_e0 (h0 : ¬ (¬ (idB x.work ∧ idB x.pat ∧ idB x.hold ∧ inB x.cls 1 3))) (h1 : ¬ (cntP s.cps x.work 1 = 0 ∧ cntP s.cps x.work 2 = 0 ∧ cntP s.cps x.work 3 = 0)) (h2 : ¬ (useB s x.hold = true ∨ 0 ≤ ownI s x.pat x.work ∨ 0 ≤ patI (queS s x.work) x.pat)) (h3 : ¬ ((queS s x.work).length = 60)) : askE s x = 0 ∧ askS s x = (if 0 ≤ shlI s x.work then ⟨s.now, s.cps.set (shlI s x.work).toNat (wtC s.cps[(shlI s x.work).toNat]! (hldX s x) s.now), s.lns⟩ else recS (putS s x) x.work) := by
  have e : askE s x = 0 := by rw [askE, if_neg h0, if_neg h1, if_neg h2, if_neg h3]
  exact ⟨e, by rw [askS, if_pos e]⟩
theorem wai_e2 (h : ¬ inB x.days 1 1000) : waiE s x = 2 ∧ waiS s x = s := by
  have e : waiE s x = 2 := by rw [waiE, if_pos h]
  exact ⟨e, by rw [waiS, e, if_neg xI]⟩
theorem wai_e25 (h0 : ¬ (¬ inB x.days 1 1000)) (h : 1000000 < s.now + x.days) : waiE s x = 25 ∧ waiS s x = s := by
  have e : waiE s x = 25 := by rw [waiE, if_neg h0, if_pos h]
  exact ⟨e, by rw [waiS, e, if_neg xI]⟩
theorem wai_e0 (h0 : ¬ (¬ inB x.days 1 1000)) (h1 : ¬ (1000000 < s.now + x.days)) : waiE s x = 0 ∧ waiS s x = lateS ⟨s.now + x.days, s.cps, s.lns⟩ s.cps.length := by
  have e : waiE s x = 0 := by rw [waiE, if_neg h0, if_neg h1]
  exact ⟨e, by rw [waiS, if_pos e]⟩
theorem clc_w (h : 0 ≤ wtI s x.hold) : clcE s x = 0 ∧ clcS s x = freeS s (wtI s x.hold).toNat := ⟨by rw [clcE, if_pos h], by rw [clcS, if_pos h]⟩
theorem clc_l (h0 : ¬ 0 ≤ wtI s x.hold) (h : 0 ≤ lnI s x.hold) : clcE s x = 0 ∧ clcS s x = ⟨s.now, s.cps, setQ s.lns s.lns[(lnI s x.hold).toNat]!.work (canQ s.lns[(lnI s x.hold).toNat]!.q x.hold)⟩ := ⟨by rw [clcE, if_neg h0, if_pos h], by rw [clcS, if_neg h0, if_pos h]⟩
theorem clc_n (h0 : ¬ 0 ≤ wtI s x.hold) (h : ¬ 0 ≤ lnI s x.hold) : clcE s x = 9 ∧ clcS s x = s := ⟨by rw [clcE, if_neg h0, if_neg h], by rw [clcS, if_neg h0, if_neg h]⟩
def keepF (l : List Cp) (p : Cp → Bool) (j : Nat) : List Cp := (l.take j).filter fun c => !p c
def dlR (l : List Cp) (p : Cp → Bool) (j : Nat) : List Cp := keepF l p j ++ l.drop (keepF l p j).length
section
variable {l : List Cp} {p : Cp → Bool} {j : Nat}
theorem keep_le (l : List Cp) (p : Cp → Bool) (j : Nat) : (keepF l p j).length ≤ j := by
  unfold keepF
  have := List.length_filter_le (fun c : Cp => !p c) (l.take j)
  rw [List.length_take] at this; omega
theorem dl_len (h : j ≤ l.length) : (dlR l p j).length = l.length := by
  have := keep_le l p j
  simp only [dlR, List.length_append, List.length_drop]; omega
theorem dl_get (h : j < l.length) : (dlR l p j)[j]! = l[j]! := by
  have h1 := keep_le l p j
  rw [getElem!_pos _ j (by rw [dl_len xA]; exact h), getElem!_pos l j h]
  simp only [dlR]
  rw [List.getElem_append_right h1, List.getElem_drop]
  congr 1; omega
theorem keep_n (h : j < l.length) (e : p l[j]! = true) : keepF l p (j + 1) = keepF l p j := filt_n h (by rw [e]; decide)
theorem keep_y (h : j < l.length) (e : p l[j]! = false) : keepF l p (j + 1) = keepF l p j ++ [l[j]!] := filt_y h (by rw [e]; rfl)
theorem dl_n (h : j < l.length) (e : p l[j]! = true) : dlR l p (j + 1) = dlR l p j := by unfold dlR; rw [keep_n h e]
theorem dl_y (h : j < l.length) (e : p l[j]! = false) : dlR l p (j + 1) = (dlR l p j).set (keepF l p j).length l[j]! := by
  have h1 := keep_le l p j
  unfold dlR
  rw [keep_y h e, List.set_append_right _ _ (Nat.le_refl _), Nat.sub_self, List.length_append, List.length_singleton, List.append_assoc]
  rw [List.drop_eq_getElem_cons (show (keepF l p j).length < l.length by omega), List.set_cons_zero]; rfl
theorem keep_0 {i : Nat} (hi : i < l.length) (h1 : ∀ k, k < i → p l[k]! = false) (h2 : p l[i]! = true) : keepF l p (i + 1) = l.take i := by
  rw [keep_n hi h2]
  refine List.filter_eq_self.2 fun a ha => ?_
  obtain ⟨k, hk, rfl⟩ := List.getElem_of_mem ha
  have hk2 : k < i := by rw [List.length_take] at hk; omega
  have := h1 k hk2
  rw [getElem!_pos l k xA] at this
  rw [List.getElem_take, this]; rfl
theorem dl_0 {i : Nat} (hi : i < l.length) (h1 : ∀ k, k < i → p l[k]! = false) (h2 : p l[i]! = true) : (keepF l p (i + 1)).length = i ∧ dlR l p (i + 1) = l := by
  have e := keep_0 hi h1 h2
  have e2 : (keepF l p (i + 1)).length = i := by rw [e, List.length_take]; omega
  exact ⟨e2, by rw [dlR, e2, e, List.take_append_drop]⟩
theorem keep_all : keepF l p l.length = l.filter fun c => !p c := by unfold keepF; rw [List.take_length]
theorem idx_first {α : Type} [Inhabited α] {p : α → Bool} {l : List α} (h : 0 ≤ idxF p l) : ∀ k, k < (idxF p l).toNat → p l[k]! = false := by
  unfold idxF at h ⊢
  split at h
  · rename_i i hi
    obtain ⟨h1, _, h3⟩ := List.findIdx?_eq_some_iff_getElem.1 hi
    intro k hk
    have hk2 : k < i := hk
    have := h3 k hk2
    rw [getElem!_pos l k xA]
    cases e : p l[k] with
    | false => rfl
    | true => rw [e] at this; exact absurd rfl this
  · omega
theorem filt_none {p : Cp → Bool} {l : List Cp} (h : ¬ 0 ≤ idxF p l) : l.filter (fun c => !p c) = l := List.filter_eq_self.2 fun a ha => by
  cases e : p a with
  | false => rfl
  | true => exact absurd (any_iff.1 ⟨a, ha, e⟩) h
end
end Go.D58
end
section
namespace Go.Proofs.YtmekkjehkcjpdaaGreat
open Go Go.RowKit Go.H Go.D57 Go.D58



set_option maxRecDepth 8000 in
theorem insertEndC {rows : List (List UV)} {row : List UV} (hl : rows.length ≤ 1000000) :
    Con Tryz.prog 68 [.own 0, vI (rows.length : Int), .own 1] [(0, .data 55 8 (rows)), (1, .data 55 8 ([row]))] (.own 2) [(2, .data 55 8 (rows ++ [row]))] := by
 obtain ⟨i55, hi55, hz55, hs55, hb55⟩ := hinf55
 refine Con.en 95 Tryz.func68 fun τ w ok vs hin => ?_
 clear hin
 refine W.rg (SL.a (E.fo (W.rg (SL.o (SL.o ?_)))))
 refine SL.v (O.sub_own (i := rows.length) rfl rfl (Bnd.at rfl yC) Bnd.no yX yX u30 hi55 hs55 rfl Taken.no) ?_
 refine E.fo (W.rg (SL.o ?_))
 refine SL.v (O.lenE (n := 1) (SlOf.own rfl rfl) yT u30 rfl Taken.no) ?_
 refine SL.a (E.fo (W.seq (W.rg (SL.o ?_))))
 refine SL.v (O.det (fun _ => G.R.mv (G.R.eql rfl rfl) (congrArg Value.bool (decide_eq_false xI))) rfl Taken.no) ?_
 refine E.fo ?_
 refine W.cond_f rfl ?_
 refine W.skip (E.to (W.rg (SL.o ?_)))
 refine SL.v (O.lenE (SlOf.own rfl rfl) yB u30 rfl Taken.no) ?_
 refine SL.a (E.fo (W.seq (W.rg (SL.o (SL.o ?_)))))
 refine SL.v (O.det (fun _ => G.R.mv (G.R.eql rfl rfl) (congrArg Value.bool (decide_eq_true yT))) rfl Taken.no) ?_
 refine E.fo ?_
 refine W.cond_t rfl ?_
 refine W.rg (SL.o (SL.o ?_))
 refine SL.memS (O.app (k' := 101) rfl rfl (SlOf.own rfl rfl) u30 hi55 hz55 hs55 rfl rfl (rfl) (by rw [hb55]; rw [List.length_singleton]; omega) (by rw [List.length_singleton]; omega) rfl Taken.no) rfl rfl (S' := (101, _) :: (0, .dead) :: _) rfl ?_
 refine SL.a (E.fo (W.ret (E.thr ?_)))
 refine E.h1 [(2, 101)] ?_
 ·rfl

theorem insertC {ks : List Cp} {k : Cp} {row : List UV} (hr : row = eCp k) {i : Nat} (hi : i ≤ ks.length) (hl : ks.length ≤ 1000000) :
    Con Tryz.prog 68 [.own 0, vI (i : Int), .own 1] [(0, .data 55 8 (ks.map eCp)), (1, .data 55 8 [row])] (.own 2) [(2, .data 55 8 ((ks.take i ++ k :: ks.drop i).map eCp))] := by
  subst hr
  rcases Nat.lt_or_eq_of_le hi with h | h
  · have := insMid_con (rows := ks.map eCp) (row := eCp k) (i := i) (by rw [List.length_map]; exact h) (by rw [List.length_map]; exact hl)
    rw [List.map_append, List.map_cons, List.map_take, List.map_drop]; exact this
  · subst h
    have := insertEndC (rows := ks.map eCp) (row := eCp k) (by rw [List.length_map]; exact hl)
    rw [List.length_map] at this
    rw [List.take_length, List.drop_length, List.map_append]; exact this
theorem dl_row {l : List Cp} {p : Cp → Bool} {j : Nat} (h : j < l.length) : ((dlR l p j).map eCp)[j]? = some (eCp l[j]!) := by
  have e : ((dlR l p j).map eCp)[j]? = some (eCp (dlR l p j)[j]!) := by
    have hl := dl_len (p := p) (Nat.le_of_lt h)
    rw [List.getElem?_map, List.getElem?_eq_getElem xA, getElem!_pos _ j xA]; rfl
  rw [e, dl_get h]
theorem clr_rows {l k : List Cp} {z : List UV} (h : k.length ≤ l.length) : ((k ++ l.drop k.length).map eCp).take k.length ++ List.replicate (l.length - k.length) z ++ ((k ++ l.drop k.length).map eCp).drop l.length = k.map eCp ++ List.replicate (l.length - k.length) z := by
  have h1 : ((k ++ l.drop k.length).map eCp).length = l.length := by simp; omega
  rw [List.drop_eq_nil_of_le (show ((k ++ l.drop k.length).map eCp).length ≤ l.length by omega), List.append_nil, ← List.map_take, List.take_left' rfl]

set_option maxRecDepth 8000 in
theorem deleteFuncC {f : Nat} {caps : List UV} {pr : Cp → Bool} {q : List Cp} (hok : G.callOk Tryz.prog f = true) (hpr : ∀ x, Con Tryz.prog f ([vA (eCp x)] ++ caps.map .u) [] (vB (pr x)) []) (hql : q.length ≤ 1000000) :
    Con Tryz.prog 70 [.own 0, .u (.clo (.func f) [] caps)] [(0, .data 55 8 (q.map eCp))] (.own 1) [(1, .data 55 8 ((q.filter fun c => !pr c).map eCp))] := by
 obtain ⟨i55, hi55, hz55, hs55, hb55⟩ := hinf55
 refine Con.en 42 Tryz.func70 fun τ w ok vs hin => ?_
 clear hin
 refine W.rg (SL.a (E.fo (W.rg (SL.o (SL.o ?_)))))
 refine SL.cl [] [0] (.u _) _ (q := indexFuncCp (q := q) (f := f) (caps := caps) (pr := pr) hok (fun x _ => hpr x))  (fl := .inr ⟨rfl, fun x hx => by simp at hx⟩) (h := ?_)
 refine SL.a (E.fo (W.seq (W.rg (SL.o ?_))))
 refine SL.v (O.eql) ?_
 refine E.fo ?_
 refine W.cc rfl (fun hc1 => ?_) fun hc1 => ?_
 ·have hno : ¬ 0 ≤ idxF pr q := by omega
  refine W.rg (SL.o (SL.a (E.fo (W.ret (E.thr ?_)))))
  refine E.f1 [(1, 0)] ?_ ?_
  ·rfl
  · exact (SubS.val rfl (by exact sb_data (by rw [filt_none hno])) SubS.nil)
 have hrg := idxF_range pr q
 have hge : 0 ≤ idxF pr q := by omega
 have hlt := idxF_lt hge
 have hfi := idx_first hge
 have hz := dl_0 hlt.1 hfi hlt.2
 generalize hi0 : (idxF pr q).toNat = i0 at hlt hfi hz
 refine W.skip (E.to (W.seq (W.rg (SL.o ?_))))
 refine SL.v (O.ad) ?_
 refine SL.a (E.fo (W.block ?_))
 refine W.lp (fun (k : Nat) => [(0, .own 101), (5, vI ((keepF q pr k).length : Nat)), (6, vI (k : Int))]) (fun (k : Nat) => [(101, .data 55 8 ((dlR q pr k).map eCp))]) (fun (k : Nat) => k ≤ q.length) (fun (k : Nat) => q.length - k) (i0 + 1) [(101, 0)] [(1, _), (4, _)] [] ?_ ?_ ?_ ?_
 · exact (SubF.cons rfl (SubF.val rfl (by exact iv_int xA) (SubF.val rfl (by exact iv_int xA) SubF.nil)))
 · exact (SubS.val rfl (by exact sb_data (by rw [hz.2])) SubS.nil)
 ·omega
 intro k hinv
 have hk := hinv
 have hdl := dl_len (p := pr) hk
 have hkl := keep_le q pr k
 refine W.seq (W.rg (SL.o (SL.o ?_)))
 refine SL.v (O.lenE (n := q.length) (SlOf.own rfl rfl) (by rw [List.length_map]; exact hdl) u30 rfl Taken.no) ?_
 refine SL.v (O.lss) ?_
 refine E.fo ?_
 refine W.cc rfl (fun hc2 => ?_) fun hc2 => ?_
 ·refine W.skip (E.to (W.seq (W.block (W.rg (SL.o (SL.o ?_))))))
  refine SL.v (O.idx_own (i := k) rfl rfl rfl (rfl) xS u30 hi55 hs55 rfl Taken.no) ?_
  refine SL.v (O.ldU (m := 8) (PtU.el rfl rfl (dl_row xA)) rfl u55 rfl xG rfl Taken.no) ?_
  refine SL.al3 102 ?_
  refine SL.st8_8 102 ?_
  refine E.fo (W.rg (SL.o ?_))
  refine SL.v (O.n8 u55) ?_
  refine SL.v (O.cp (q := hpr q[k]!) (o := hok)) ?_
  refine SL.v (O.nt) ?_
  refine E.fo ?_
  refine W.cc rfl (fun hc3 => ?_) fun hc3 => ?_
  ·have hp0 : pr q[k]! = false := by first | assumption | exact nt_f xK | simp_all
   refine W.rg (SL.o (SL.o ?_))
   refine SL.v (O.n8 u55) ?_
   refine SL.v (O.idx_own (i := (keepF q pr k).length) rfl rfl rfl (rfl) xS u30 hi55 hs55 rfl Taken.no) ?_
   refine SL.effS (O.st_els (m := 8) rfl rfl rfl (us := [_, _, _, _, _, _, _, _]) rfl rfl xG yE (row_get xA) xP rfl rfl (rows' := ((dlR q pr k).set (keepF q pr k).length q[k]!).map eCp) (by exact set_map rfl) Taken.no) (S' := (101, _) :: _) rfl ?_
   refine E.fo (W.region (SL.o ?_))
   refine SL.v (O.ad) ?_
   refine SL.a (SL.nil (E.inn (E.to ?_)))
   refine W.pk [(0,_),(1,_),(4,_),(5,_),(6,_)] [(101,_),(102,_)] ?_
   refine W.region (SL.o ?_)
   refine SL.v (O.ad) ?_
   refine SL.a (SL.nil ?_)
   refine E.ag (k + 1) [] ?_ ?_ ?_ ?_
   · exact zN
   · exact vG
   ·try dsimp only
    omega
   · exact xT
  have hp1 : pr q[k]! = true := by first | assumption | exact nt_t xK | exact nt_t2 xK | simp_all
  refine W.skip (E.inn (E.to (W.region (SL.o ?_))))
  refine SL.v (O.ad) ?_
  refine SL.a (SL.nil ?_)
  refine E.ag (k + 1) [] ?_ ?_ ?_ ?_
  · exact zN
  · exact vG
  ·try dsimp only
   omega
  · exact xT
 refine W.exit (E.th (E.th (E.hit (E.to (W.rg (SL.o ?_))))))
 obtain rfl : k = q.length := by omega
 refine SL.o ?_
 refine SL.v (O.sub_own (i := (keepF q pr q.length).length) rfl rfl (Bnd.at rfl yC) Bnd.no xS yX u30 hi55 hs55 rfl Taken.no) ?_
 refine SL.effS (O.clear (PartOf.osl rfl xS yX) rfl u30 hi55 hz55 rfl rfl rfl (rows' := (keepF q pr q.length).map eCp ++ List.replicate (q.length - (keepF q pr q.length).length) [uI 0, uI 0, uT [], uI 0, uI 0, uI 0, uI 0, uB false]) (by rw [List.length_map, hdl]; exact clr_rows hkl) Taken.no) (S' := (101, _) :: _) rfl ?_
 refine E.fo (W.rg (SL.o (SL.o ?_)))
 refine SL.v (O.sub_own (j := (keepF q pr q.length).length) rfl rfl Bnd.no (Bnd.at rfl yC) xA wT u30 hi55 hs55 rfl Taken.no) ?_
 refine SL.trunc 41 103 rfl rfl (rows' := (keepF q pr q.length).map eCp) (by rw [List.take_left' (by rw [List.length_map])]) rfl rfl ?_
 refine SL.a (E.fo (W.ret ?_))
 refine E.f1 [(1, 103)] ?_ ?_
 ·rfl
 · exact (SubS.val rfl (by exact sb_data (by rw [keep_all])) SubS.nil)

set_option maxRecDepth 8000 in
theorem remove1_h {c : Cp} {x : Sp} :
    Con Tryz.prog 71 [vA (eCp c), .u (.ptr (eSp x))] [] (vB (decide (c.id = x.copy))) [] := by
 refine Con.en 9 Tryz.func71 fun τ w ok vs hin => ?_
 clear hin
 refine W.rg ?_
 refine SL.bx8 101 ?_
 refine SL.a (E.fo (W.rg ?_))
 refine SL.v (O.fr 0 0 u55) ?_
 refine SL.v (O.l1 u3) ?_
 refine SL.v (O.ff 0 u38) ?_
 refine SL.v (O.l1f u3) ?_
 refine SL.v (O.eql) ?_
 refine SL.a (E.fo (W.ret ?_))
 refine E.h1 [] ?_
 ·rfl

end Go.Proofs.YtmekkjehkcjpdaaGreat
end
section
namespace Go.H
open Go Go.RowKit
section
variable {P : Program} {w : World}
theorem run_partI {t : TypeId} {k : IntKind} {xs : Array Value} {i : Nat} {x : Value} (ht : P.underlying t = some (.int k)) (hx : xs[i]? = some x) : (part t xs i).run P w = .ok x w := by
  simp [part, isAgg, run_underlying ht, hx]
theorem run_eqArr3 {t e : TypeId} {k : IntKind} {inf : TypeInfo} {d : Nat} {a0 a1 a2 b0 b1 b2 : Int} (ht : P.underlying t = some (.array 3 e)) (he : P.underlying e = some (.int k)) (hi : P.info? e = some inf) (hs : inf.size = 1) :
    (Op.equalIn (d + 2) t (.agg #[.int k a0, .int k a1, .int k a2]) (.agg #[.int k b0, .int k b1, .int k b2])).run P w = .ok (a0 == b0 && (a1 == b1 && a2 == b2)) w := by
  have q : ∀ (x y : Int) (w : World), (Op.equalIn (d + 1) e (.int k x) (.int k y)).run P w = .ok (x == y) w := fun x y w => run_equalIn_int w d e _ _ x y he
  have pa : ∀ (i : Nat) (x : Value) (xs : Array Value) (w : World), xs[i]? = some x → (part e xs i).run P w = .ok x w := fun i x xs w hx => run_partI he hx
  rw [Op.equalIn]
  simp only [Sem.run_bind, run_underlying ht, Result.andThen_ok, sizeOf, typeInfo]
  simp [hi, hs, Std.Legacy.Range.forIn_eq_forIn_range', List.range', pa, q]
  cases h0 : (a0 == b0) <;> cases h1 : (a1 == b1) <;> cases h2 : (a2 == b2) <;> simp_all
theorem R.eqArr3 {F : G.Frm} {tx e t' ty : TypeId} {k : IntKind} {inf : TypeInfo} {x y : Operand} {a0 a1 a2 b0 b1 b2 : Int} (hx : G.ev F x = some (.agg #[.int k a0, .int k a1, .int k a2])) (hy : G.ev F y = some (.agg #[.int k b0, .int k b1, .int k b2]))
    (ht : P.underlying tx = some (.array 3 e)) (he : P.underlying e = some (.int k)) (hi : P.info? e = some inf) (hs : inf.size = 1) (hm : P.eqGuardType P.depth tx = false) :
    G.Runs P w F (.binOp .eql tx x y t') ty (.bool (a0 == b0 && (a1 == b1 && a2 == b2))) := fun o ρ ho _ hρ => by
  simp only [execOp, ho, hρ x xH _ hx, hρ y xH _ hy]
  have h1 := run_eqGuard_agg (P := P) w .eql tx x y #[.int k a0, .int k a1, .int k a2] #[.int k b0, .int k b1, .int k b2] hm
  have h2 : (Op.equal tx (.agg #[.int k a0, .int k a1, .int k a2]) (.agg #[.int k b0, .int k b1, .int k b2])).run P w = .ok (a0 == b0 && (a1 == b1 && a2 == b2)) w := run_eqArr3 (d := 9998) ht he hi hs
  simp only [Sem.run_bind, h1, binOp, h2, Result.andThen_ok, Sem.run_pure]
end
section
variable {c : Ctx} {P : Program} {F : Frm} {S : Sto} {ops : Array Oper} {d : Nat} {ty : TypeId} {pos : String} {af : Array Edge} {gd : Option (Nat × Bool)}
theorem O.eqArr3 {x y : Operand} {tx e t' : TypeId} {k : IntKind} {inf : TypeInfo} {a0 a1 a2 b0 b1 b2 : Int} {r : Bool} (hx : AggOf F x [.int k a0, .int k a1, .int k a2]) (hy : AggOf F y [.int k b0, .int k b1, .int k b2])
    (ht : P.underlying tx = some (.array 3 e)) (he : P.underlying e = some (.int k)) (hi : P.info? e = some inf) (hs : inf.size = 1) (hm : P.eqGuardType P.depth tx = false) (hr : (a0 == b0 && (a1 == b1 && a2 == b2)) = r) (hd : Nat.blt d c.n = true) (hg : Taken ops F gd) :
    OpOk c P ops ⟨some d, .binOp .eql tx x y t', ty, pos, af, gd⟩ F S [] [] (some (.u (.sc (.bool r)))) [] :=
  OpOk.runs hd hg fun σ τ a w hA hB hst => by
    subst hr
    exact ⟨_, R.eqArr3 (hx.val hst hA xH) (hy.val hst hA xH) ht he hi hs hm, .u (.sc _)⟩
end
end Go.H
end
section
namespace Go.Proofs.YtmekkjehkcjpdaaGreat
open Go Go.RowKit Go.H Go.D57 Go.D58

theorem hcallOk71 : G.callOk Tryz.prog 71 = true := by kernel_rfl

theorem flat_C (l : List Cp) {t : TypeId} : (SB.data t 8 (l.map eCp)).flatP := fun u hu => by
  obtain ⟨r, hr, hu⟩ := List.mem_flatten.1 hu
  obtain ⟨x, _, rfl⟩ := List.mem_map.1 hr
  simp [eCp] at hu
  rcases hu with rfl | rfl | rfl | rfl | rfl | rfl | rfl | rfl <;> rfl

set_option maxRecDepth 8000 in
theorem remove_m {s : St} {x : Sp} (hv : validS s) :
    Con Tryz.prog 27 [.ref 0 0, vA (eSp x)] [(0, .cells 33 [.u (uI s.now), .own 1, .own 2]), (1, .data 55 8 ((s.cps).map eCp)), (2, .data 79 2 ((s.lns).map eLn))] (vI (remE s x)) [(0, .cells 33 [.u (uI (remS s x).now), .own 4, .own 3]), (4, .data 55 8 (((remS s x).cps).map eCp)), (3, .data 79 2 (((remS s x).lns).map eLn))] := by
 have hn := hv.1
 unfold inB at hn
 have hcl := hv.2.1
 have hok := valid_ok hv
 have hid := valid_asc hv
 refine Con.en 28 Tryz.func27 fun τ w ok vs hin => ?_
 clear hin
 refine W.rg ?_
 refine SL.bx8 101 ?_
 refine SL.a (E.fo (W.seq ?_))
 by_cases hx : 0 ≤ cpI s x.copy
 ·have hix : ixC s x.copy < s.cps.length := (idxF_lt hx).1
  refine W.region (SL.o ?_)
  refine SL.v (O.fr 1 0 u38) ?_
  refine SL.v (O.l1 u3) ?_
  refine SL.cl [(0, 0), (1, 1), (2, 2)] [] (.el 1 _ _ 0) ((0, .cells _ [.u _, .own 1, .own 2]) :: (1, .data _ _ _) :: (2, .data _ _ _) :: _) (q := copy_y xA hx)  (h := ?_)
  refine SL.a (E.fo (W.seq (W.block (W.rg (SL.o ?_)))))
  refine SL.v (O.ptrnil (.inr (.inr ⟨_, _, _, _, rfl⟩)) rfl xG rfl Taken.no) ?_
  refine SL.a (E.fo ?_)
  refine W.cond_f rfl ?_
  refine W.rg (SL.o ?_)
  refine SL.v (O.nc) ?_
  refine SL.v (O.fe 3 0 u55) ?_
  refine SL.v (O.ld1 (PtI.ofU (PtU.el rfl rfl (row_get xA))) rfl u3 rfl rfl Taken.no) ?_
  refine SL.v (O.neq) ?_
  refine SL.a (E.fo ?_)
  refine W.cc rfl (fun hc1 => ?_) fun hc1 => ?_
  ·have hp : (atC s x.copy).place ≠ 1 := by show s.cps[ixC s x.copy]!.place ≠ 1; first | assumption | omega
   refine W.rg (SL.a (E.fo (W.ret ?_)))
   refine E.inr ?_
   refine E.thr ?_
   refine E.f1 [(3, 2), (4, 1)] ?_ ?_
   ·rw [(rem_e26 (s := s) (x := x) (fun z => z hx) hp).1]; rfl
   · rw [(rem_e26 (s := s) (x := x) (fun z => z hx) hp).2]; exact SubS.v3
  have hp : (atC s x.copy).place = 1 := by show s.cps[ixC s x.copy]!.place = 1; first | assumption | omega
  refine W.skip (E.inn (E.to (W.rg (SL.o (SL.o ?_)))))
  refine SL.v (O.nc) ?_
  refine SL.v (O.fr 1 0 u33) ?_
  refine SL.v (O.l1 u30) ?_
  refine SL.v (O.makeFunc rfl rfl rfl Taken.no) ?_
  refine SL.cl [(0, 1), (1, 102)] [101] (.own 102) ((102, .data _ _ _) :: (1, .dead) :: _) (q := deleteFuncC (q := s.cps) (f := 71) (caps := [.ptr (eSp x)]) (pr := fun c => decide (c.id = x.copy)) hcallOk71 (fun c => remove1_h) xA)  (fl := .inr ⟨rfl, fun x hx => by rw [List.mem_singleton] at hx; subst hx; exact flat_C _⟩) (h := ?_)
  refine SL.v (O.nc) ?_
  refine SL.v (O.fr 1 0 u33) ?_
  refine SL.st1_3 0 ?_
  refine E.fo ?_
  refine W.pk [(4,_)] [(0,_),(2,_),(101,_),(102,_)] ?_
  refine W.rg (SL.a (E.fo (W.ret ?_)))
  refine E.f1 [(3, 2), (4, 102)] ?_ ?_
  ·rw [(rem_e0 (s := s) (x := x) (fun z => z hx) (fun z => z hp)).1]; rfl
  · rw [(rem_e0 (s := s) (x := x) (fun z => z hx) (fun z => z hp)).2]; exact SubS.v3
 refine W.region (SL.o ?_)
 refine SL.v (O.fr 1 0 u38) ?_
 refine SL.v (O.l1 u3) ?_
 refine SL.cl [(0, 0), (1, 1), (2, 2)] [] (.u _) ((0, .cells _ [.u _, .own 1, .own 2]) :: (1, .data _ _ _) :: (2, .data _ _ _) :: _) (q := copy_n xA hx)  (h := ?_)
 refine SL.a (E.fo (W.seq (W.block (W.rg (SL.o ?_)))))
 refine SL.v (O.det (fun _ => G.R.ptrnil (p := none) rfl rfl xG) rfl Taken.no) ?_
 refine SL.a (E.fo ?_)
 refine W.cond_t rfl ?_
 refine W.rg (SL.a (E.fo (W.ret ?_)))
 refine E.inr ?_
 refine E.thr ?_
 refine E.f1 [(3, 2), (4, 1)] ?_ ?_
 ·rw [(rem_e9 (s := s) (x := x) hx).1]; rfl
 · rw [(rem_e9 (s := s) (x := x) hx).2]; exact SubS.v3

set_option maxRecDepth 8000 in
theorem giveBack_m {s : St} {x : Sp} (hv : validS s) :
    Con Tryz.prog 29 [.ref 0 0, vA (eSp x)] [(0, .cells 33 [.u (uI s.now), .own 1, .own 2]), (1, .data 55 8 ((s.cps).map eCp)), (2, .data 79 2 ((s.lns).map eLn))] (vI (bakE s x)) [(0, .cells 33 [.u (uI (bakS s x).now), .own 4, .own 3]), (4, .data 55 8 (((bakS s x).cps).map eCp)), (3, .data 79 2 (((bakS s x).lns).map eLn))] := by
 have hn := hv.1
 unfold inB at hn
 have hcl := hv.2.1
 have hok := valid_ok hv
 have hid := valid_asc hv
 refine Con.en 22 Tryz.func29 fun τ w ok vs hin => ?_
 clear hin
 refine W.rg ?_
 refine SL.bx8 101 ?_
 refine SL.a (E.fo (W.seq ?_))
 by_cases hx : 0 ≤ cpI s x.copy
 ·have hix : ixC s x.copy < s.cps.length := (idxF_lt hx).1
  refine W.region (SL.o ?_)
  refine SL.v (O.fr 1 0 u38) ?_
  refine SL.v (O.l1 u3) ?_
  refine SL.cl [(0, 0), (1, 1), (2, 2)] [] (.el 1 _ _ 0) ((0, .cells _ [.u _, .own 1, .own 2]) :: (1, .data _ _ _) :: (2, .data _ _ _) :: _) (q := copy_y xA hx)  (h := ?_)
  refine SL.a (E.fo (W.seq (W.block (W.rg (SL.o ?_)))))
  refine SL.v (O.ptrnil (.inr (.inr ⟨_, _, _, _, rfl⟩)) rfl xG rfl Taken.no) ?_
  refine SL.a (E.fo ?_)
  refine W.cond_f rfl ?_
  refine W.rg (SL.o ?_)
  refine SL.v (O.nc) ?_
  refine SL.v (O.fe 3 0 u55) ?_
  refine SL.v (O.ld1 (PtI.ofU (PtU.el rfl rfl (row_get xA))) rfl u3 rfl rfl Taken.no) ?_
  refine SL.v (O.neq) ?_
  refine SL.a (E.fo ?_)
  refine W.cc rfl (fun hc1 => ?_) fun hc1 => ?_
  ·have hp : (atC s x.copy).place ≠ 2 := by show s.cps[ixC s x.copy]!.place ≠ 2; first | assumption | omega
   refine W.rg (SL.a (E.fo (W.ret ?_)))
   refine E.inr ?_
   refine E.thr ?_
   refine E.f1 [(3, 2), (4, 1)] ?_ ?_
   ·rw [(bak_e11 (s := s) (x := x) (fun z => z hx) hp).1]; rfl
   · rw [(bak_e11 (s := s) (x := x) (fun z => z hx) hp).2]; exact SubS.v3
  have hp : (atC s x.copy).place = 2 := by show s.cps[ixC s x.copy]!.place = 2; first | assumption | omega
  refine W.skip (E.inn (E.to (W.rg (SL.o (SL.o ?_)))))
  refine SL.cl [(0, 0), (1, 1), (2, 2), (3, 102)] [] (.tup []) ((0, .cells _ [.u _, .own 1, .own 102]) :: (1, .data _ _ _) :: (102, .data _ _ _) :: (2, .dead) :: _) (q := free_h (s := s) (i := ixC s x.copy) (n := 60) hix xA hok xA)  (h := ?_)
  refine E.fo (W.rg (SL.a (E.fo (W.ret ?_))))
  refine E.f1 [(3, 102), (4, 1)] ?_ ?_
  ·rw [(bak_e0 (s := s) (x := x) (fun z => z hx) (fun z => z hp)).1]; rfl
  · rw [(bak_e0 (s := s) (x := x) (fun z => z hx) (fun z => z hp)).2]; exact SubS.v3
 refine W.region (SL.o ?_)
 refine SL.v (O.fr 1 0 u38) ?_
 refine SL.v (O.l1 u3) ?_
 refine SL.cl [(0, 0), (1, 1), (2, 2)] [] (.u _) ((0, .cells _ [.u _, .own 1, .own 2]) :: (1, .data _ _ _) :: (2, .data _ _ _) :: _) (q := copy_n xA hx)  (h := ?_)
 refine SL.a (E.fo (W.seq (W.block (W.rg (SL.o ?_)))))
 refine SL.v (O.det (fun _ => G.R.ptrnil (p := none) rfl rfl xG) rfl Taken.no) ?_
 refine SL.a (E.fo ?_)
 refine W.cond_t rfl ?_
 refine W.rg (SL.a (E.fo (W.ret ?_)))
 refine E.inr ?_
 refine E.thr ?_
 refine E.f1 [(3, 2), (4, 1)] ?_ ?_
 ·rw [(bak_e9 (s := s) (x := x) hx).1]; rfl
 · rw [(bak_e9 (s := s) (x := x) hx).2]; exact SubS.v3

set_option maxRecDepth 8000 in
theorem loansO_h {s : St} {i : Int} (hl : s.cps.length ≤ 1000000) :
    Con Tryz.prog 21 [vA [uI s.now, .sl 8 (s.cps.map eCp), .sl 2 (s.lns.map eLn)], vI i] [] (.own 0) [(0, .data 3 1 ((idsF (fun c => decide (c.place = 2 ∧ c.pat = i)) s.cps).map eI))] := by
 refine Con.en 8 Tryz.func21 fun τ w ok vs hin => ?_
 have hl0_1 := hin.lenA (i := 0) (j := 1) rfl rfl
 try rw [List.length_map] at hl0_1
 have hl0_2 := hin.lenA (i := 0) (j := 2) rfl rfl
 try rw [List.length_map] at hl0_2
 clear hin
 refine W.rg ?_
 refine SL.bx3 101 ?_
 refine SL.bx1 102 ?_
 refine SL.a (E.fo (W.rg ?_))
 refine SL.v (O.n3 u33) ?_
 refine SL.v (O.makeFunc rfl rfl rfl Taken.no) ?_
 refine SL.cl [(0, 103)] [102] (.own 103) ((103, .data _ _ _) :: _) (q := which_h (s := s) (f := 59) (caps := [.ptr [uI i]]) (pr := fun c => decide (c.place = 2 ∧ c.pat = i)) hcallOk59 (fun x => loans1_h) hl)  (fl := .inr ⟨rfl, fun x hx => by rw [List.mem_singleton] at hx; subst hx; exact flat_I _⟩) (h := ?_)
 refine SL.a (E.fo (W.ret ?_))
 refine E.h1 [(0, 103)] ?_
 ·rfl

theorem lt_fin {cs : List Cp} {i : Nat} {p now : Int} {a b c d : List UV} : (((((cs.map eCp).set i a).set i b).set i c).set i d).set i [uI cs[i]!.id, uI cs[i]!.work, uT cs[i]!.lib, uI 2, uI p, uI (now + 28), uI 0, uB false] = (cs.set i (lentC cs[i]! p now)).map eCp := by
  rw [List.set_set, List.set_set, List.set_set, List.set_set, List.map_set]; rfl
theorem rn_fin {cs : List Cp} {i : Nat} {now : Int} : (cs.map eCp).set i [uI cs[i]!.id, uI cs[i]!.work, uT cs[i]!.lib, uI cs[i]!.place, uI cs[i]!.pat, uI (now + 28), uI cs[i]!.hold, uB cs[i]!.rc] = (cs.set i (rnwC cs[i]! now)).map eCp := by
  rw [List.map_set]; rfl

set_option maxRecDepth 8000 in
theorem lend_m {s : St} {x : Sp} (hv : validS s) :
    Con Tryz.prog 28 [.ref 0 0, vA (eSp x)] [(0, .cells 33 [.u (uI s.now), .own 1, .own 2]), (1, .data 55 8 ((s.cps).map eCp)), (2, .data 79 2 ((s.lns).map eLn))] (vI (lenE s x)) [(0, .cells 33 [.u (uI (lenS s x).now), .own 4, .own 3]), (4, .data 55 8 (((lenS s x).cps).map eCp)), (3, .data 79 2 (((lenS s x).lns).map eLn))] := by
 have hn := hv.1
 unfold inB at hn
 have hcl := hv.2.1
 have hok := valid_ok hv
 have hid := valid_asc hv
 refine Con.en 94 Tryz.func28 fun τ w ok vs hin => ?_
 clear hin
 refine W.rg ?_
 refine SL.bx8 101 ?_
 refine SL.a (E.fo (W.seq ?_))
 by_cases hx : 0 ≤ cpI s x.copy
 ·have hix : ixC s x.copy < s.cps.length := (idxF_lt hx).1
  refine W.region (SL.o ?_)
  refine SL.v (O.fr 1 0 u38) ?_
  refine SL.v (O.l1 u3) ?_
  refine SL.cl [(0, 0), (1, 1), (2, 2)] [] (.el 1 _ _ 0) ((0, .cells _ [.u _, .own 1, .own 2]) :: (1, .data _ _ _) :: (2, .data _ _ _) :: _) (q := copy_y xA hx)  (h := ?_)
  refine SL.a (E.fo (W.seq (W.block (W.rg ?_))))
  refine SL.v (O.fr 3 0 u38) ?_
  refine SL.v (O.l1 u3) ?_
  refine SL.v (O.cp (q := id_h)) ?_
  refine SL.v (O.nt) ?_
  refine SL.a (E.fo ?_)
  refine W.cc rfl (fun hc1 => ?_) fun hc1 => ?_
  ·have hb : ¬ idB x.pat := by first | assumption | simp_all
   refine W.rg (SL.a (E.fo (W.ret ?_)))
   refine E.inr ?_
   refine E.thr ?_
   refine E.f1 [(3, 2), (4, 1)] ?_ ?_
   ·rw [(len_e2 (s := s) (x := x)  hb).1]; rfl
   · rw [(len_e2 (s := s) (x := x)  hb).2]; exact SubS.v3
  have hb : ¬ (¬ idB x.pat) := by first | assumption | simp_all
  refine W.rg (SL.o ?_)
  refine SL.v (O.ptrnil (.inr (.inr ⟨_, _, _, _, rfl⟩)) rfl xG rfl Taken.no) ?_
  refine SL.a (E.fo ?_)
  refine W.cond_f rfl ?_
  refine W.seq ?_
  refine W.dr [pW 1, pW 1, pW 1, pX 1, pO, pO, pW 1, pW 1, pW 1, pX 1, pO, pO, pW 1, pW 1, pW 1, pX 1, pW 101, pX 101, pO, pO, pO, pO] ?_
  refine WH.o rfl ?_
  refine WH.v (O.nc) ?_
  refine WH.v (O.fe 3 0 u55) ?_
  refine WH.v (O.ld1 (PtI.ofU (PtU.el rfl rfl (row_get xA))) rfl u3 rfl rfl Taken.no) ?_
  refine WH.v (O.eql) ?_
  refine WH.o rfl ?_
  refine WH.cs 5 false (fun hg2 => ?_) fun hg2 => ?_
  ·have hg2p := gP hg2
   refine WH.v (O.mo (tY hg2)) ?_
   refine WH.v (O.nc (tY hg2)) ?_
   refine WH.v (O.fe 3 0 u55 (tY hg2)) ?_
   refine WH.v (O.ld1 (PtI.ofU (PtU.el rfl rfl (row_get xA))) rfl u3 rfl rfl (Taken.yes rfl rfl hg2)) ?_
   refine WH.v (O.eql (tY hg2)) ?_
   refine WH.v (O.mo (tY hg2)) ?_
   refine WH.cs 11 true (fun hg3 => ?_) fun hg3 => ?_
   ·have hg3p := gP hg3
    refine WH.v (O.mo (tY hg3)) ?_
    refine WH.v (O.nc (tY hg3)) ?_
    refine WH.v (O.fe 4 0 u55 (tY hg3)) ?_
    refine WH.v (O.ld1 (PtI.ofU (PtU.el rfl rfl (row_get xA))) rfl u3 rfl rfl (Taken.yes rfl rfl hg3)) ?_
    refine WH.v (O.fr 3 0 u38 (tY hg3)) ?_
    refine WH.v (O.l1 u3 (tY hg3)) ?_
    refine WH.v (O.neq (tY hg3)) ?_
    refine WH.v (O.pt hg3 (tY hg2)) ?_
    refine WH.v (O.pf hg2) ?_
    refine WH.v (O.as1) ?_
    refine WH.nil (E.to ?_)
    refine W.pk [(0,_),(3,_),(4,_),(5,_),(18,_)] [(0,_),(1,_),(2,_),(101,_)] ?_
    refine W.cc rfl (fun hc4 => ?_) fun hc4 => ?_
    ·have hbb : (atC s x.copy).place = 2 ∨ ((atC s x.copy).place = 3 ∧ (atC s x.copy).pat ≠ x.pat) := by show s.cps[ixC s x.copy]!.place = 2 ∨ (s.cps[ixC s x.copy]!.place = 3 ∧ s.cps[ixC s x.copy]!.pat ≠ x.pat); first | omega | simp_all
     refine W.rg (SL.a (E.fo (W.ret ?_)))
     refine E.inr ?_
     refine E.thr ?_
     refine E.f1 [(3, 2), (4, 1)] ?_ ?_
     ·rw [(len_e26 (s := s) (x := x)  hb (fun z => z hx) hbb).1]; rfl
     · rw [(len_e26 (s := s) (x := x)  hb (fun z => z hx) hbb).2]; exact SubS.v3
    have hbb : ¬ ((atC s x.copy).place = 2 ∨ ((atC s x.copy).place = 3 ∧ (atC s x.copy).pat ≠ x.pat)) := by show ¬ (s.cps[ixC s x.copy]!.place = 2 ∨ (s.cps[ixC s x.copy]!.place = 3 ∧ s.cps[ixC s x.copy]!.pat ≠ x.pat)); first | omega | simp_all
    refine W.seq ?_
    refine W.dr [pW 1, pW 1, pW 1, pX 1, pO, pO, pW 0, pW 101, pX 101, pW 1, pW 1, pW 1, pX 1, ⟨[0, 1, 2], [0, 1, 2], [], []⟩, pO, pO] ?_
    refine WH.o rfl ?_
    refine WH.v (O.nc) ?_
    refine WH.v (O.fe 3 0 u55) ?_
    refine WH.v (O.ld1 (PtI.ofU (PtU.el rfl rfl (row_get xA))) rfl u3 rfl rfl Taken.no) ?_
    refine WH.v (O.eql) ?_
    refine WH.o rfl ?_
    refine WH.cs 5 true (fun hg5 => ?_) fun hg5 => ?_
    ·have hg5p := gP hg5
     refine WH.v (O.mo (tY hg5)) ?_
     refine WH.v (O.fr 3 0 u38 (tY hg5)) ?_
     refine WH.v (O.l1 u3 (tY hg5)) ?_
     refine WH.v (O.mo (tY hg5)) ?_
     refine WH.v (O.nc (tY hg5)) ?_
     refine WH.v (O.fe 1 0 u55 (tY hg5)) ?_
     refine WH.v (O.ld1 (PtI.ofU (PtU.el rfl rfl (row_get xA))) rfl u3 rfl rfl (Taken.yes rfl rfl hg5)) ?_
     refine WH.cl [(0, 0), (1, 1), (2, 2)] [] (.u _) ((0, .cells _ [.u _, .own 1, .own 2]) :: (1, .data _ _ _) :: (2, .data _ _ _) :: _) (q := owns_h (s := s) (p := x.pat) (wk := s.cps[ixC s x.copy]!.work))  (hg := tY hg5) (h := ?_)
     refine WH.v (O.pt hg5) ?_
     refine WH.v (O.as1) ?_
     refine WH.nil (E.to ?_)
     refine W.cc rfl (fun hc6 => ?_) fun hc6 => ?_
     ·have hbe : (atC s x.copy).place = 1 ∧ 0 ≤ ownI s x.pat (atC s x.copy).work := by show s.cps[ixC s x.copy]!.place = 1 ∧ 0 ≤ ownI s x.pat s.cps[ixC s x.copy]!.work; unfold ownI; first | simp_all | omega
      refine W.rg (SL.a (E.fo (W.ret ?_)))
      refine E.inr ?_
      refine E.thr ?_
      refine E.f1 [(3, 2), (4, 1)] ?_ ?_
      ·rw [(len_e10 (s := s) (x := x)  hb (fun z => z hx) hbb hbe).1]; rfl
      · rw [(len_e10 (s := s) (x := x)  hb (fun z => z hx) hbb hbe).2]; exact SubS.v3
     have hbe : ¬ ((atC s x.copy).place = 1 ∧ 0 ≤ ownI s x.pat (atC s x.copy).work) := by show ¬ (s.cps[ixC s x.copy]!.place = 1 ∧ 0 ≤ ownI s x.pat s.cps[ixC s x.copy]!.work); unfold ownI; first | (rintro ⟨z1, z2⟩; first | omega | (simp_all; done) | (simp_all; omega)) | simp_all
     refine W.seq ?_
     refine W.dr [pW 0, pW 0, ⟨[0], [], [], [1, 2]⟩, pW 101, pX 101, ⟨[1, 2, 102], [102], [102], []⟩, pX 102, pO, pO] ?_
     refine WH.o rfl ?_
     refine WH.v (O.nc) ?_
     refine WH.v (O.n3 u33) ?_
     refine WH.v (O.fr 3 0 u38) ?_
     refine WH.v (O.l1 u3) ?_
     refine WH.cl [(0, 102)] [1, 2] (.own 102) ((102, .data _ _ _) :: _) (q := loansO_h (s := s) (i := x.pat) xA)  (fl := .inr ⟨rfl, fun x hx => by rw [List.mem_singleton] at hx; subst hx; exact flat_I _⟩) (h := ?_)
     refine WH.v (O.lenE (SlOf.own rfl rfl) yB u61 rfl Taken.no) ?_
     refine WH.v (O.geq) ?_
     refine WH.v (O.as1) ?_
     refine WH.nil (E.to ?_)
     refine W.pk [(0,_),(3,_),(4,_),(5,_),(56,_)] [(0,_),(1,_),(2,_),(101,_),(102,_)] ?_
     refine W.cc rfl (fun hc7 => ?_) fun hc7 => ?_
     ·have hb5 : 5 ≤ (idsF (fun c => decide (c.place = 2 ∧ c.pat = x.pat)) s.cps).length := by omega
      refine W.rg (SL.a (E.fo (W.ret ?_)))
      refine E.inr ?_
      refine E.thr ?_
      refine E.f1 [(3, 2), (4, 1)] ?_ ?_
      ·rw [(len_e3 (s := s) (x := x)  hb (fun z => z hx) hbb hbe hb5).1]; rfl
      · rw [(len_e3 (s := s) (x := x)  hb (fun z => z hx) hbb hbe hb5).2]; exact SubS.v3
     have hb5 : ¬ (5 ≤ (idsF (fun c => decide (c.place = 2 ∧ c.pat = x.pat)) s.cps).length) := by omega
     refine W.rg (SL.o ?_)
     refine SL.v (O.nc) ?_
     refine SL.v (O.fr 0 0 u33) ?_
     refine SL.v (O.l1 u3) ?_
     refine SL.v (O.ad) ?_
     refine SL.v (O.gtr) ?_
     refine SL.a (E.fo ?_)
     refine W.cc rfl (fun hc8 => ?_) fun hc8 => ?_
     ·have hbd : 1000000 < s.now + 28 := by omega
      refine W.rg (SL.a (E.fo (W.ret ?_)))
      refine E.inr ?_
      refine E.thr ?_
      refine E.f1 [(3, 2), (4, 1)] ?_ ?_
      ·rw [(len_e25 (s := s) (x := x)  hb (fun z => z hx) hbb hbe hb5 hbd).1]; rfl
      · rw [(len_e25 (s := s) (x := x)  hb (fun z => z hx) hbb hbe hb5 hbd).2]; exact SubS.v3
     have hbd : ¬ (1000000 < s.now + 28) := by omega
     refine W.skip (E.inn (E.to (W.seq ?_)))
     refine W.dr [pW 1, pW 1, pW 1, pW 1, pW 1, pW 101, pX 101, pW 0, pW 0, pW 0, pX 0, pO, pW 1, pW 1, ⟨[1], [1], [], []⟩, pW 1, pW 1, ⟨[1], [1], [], []⟩, pW 1, pW 1, ⟨[1], [1], [], []⟩, pW 1, pW 1, ⟨[1], [1], [], []⟩, pW 1, pW 1, ⟨[1], [1], [], []⟩] ?_
     refine WH.o rfl (WH.o rfl (WH.o rfl (WH.o rfl (WH.o rfl ?_))))
     refine WH.v (O.fr 3 0 u38) ?_
     refine WH.v (O.l1 u3) ?_
     refine WH.o rfl ?_
     refine WH.v (O.nc) ?_
     refine WH.v (O.fr 0 0 u33) ?_
     refine WH.v (O.l1 u3) ?_
     refine WH.v (O.ad) ?_
     refine WH.v (O.nc) ?_
     refine WH.v (O.fe 3 0 u55) ?_
     refine WH.effS (O.st_els (m := 1) rfl rfl rfl (us := [_]) rfl rfl xG yE (row_get xA) xP rfl rfl (rows' := ((s.cps.map eCp).set (ixC s x.copy) [uI s.cps[ixC s x.copy]!.id, uI s.cps[ixC s x.copy]!.work, uT s.cps[ixC s x.copy]!.lib, uI 2, uI s.cps[ixC s x.copy]!.pat, uI s.cps[ixC s x.copy]!.due, uI s.cps[ixC s x.copy]!.hold, uB s.cps[ixC s x.copy]!.rc])) yT Taken.no) rfl rfl rfl (S' := (1, _) :: _) rfl ?_
     refine WH.v (O.nc) ?_
     refine WH.v (O.fe 4 0 u55) ?_
     refine WH.effS (O.st_els (m := 1) rfl rfl rfl (us := [_]) rfl rfl xG yE (by rw [List.getElem?_set_self zX]) xP rfl rfl (rows' := (((s.cps.map eCp).set (ixC s x.copy) [uI s.cps[ixC s x.copy]!.id, uI s.cps[ixC s x.copy]!.work, uT s.cps[ixC s x.copy]!.lib, uI 2, uI s.cps[ixC s x.copy]!.pat, uI s.cps[ixC s x.copy]!.due, uI s.cps[ixC s x.copy]!.hold, uB s.cps[ixC s x.copy]!.rc]).set (ixC s x.copy) [uI s.cps[ixC s x.copy]!.id, uI s.cps[ixC s x.copy]!.work, uT s.cps[ixC s x.copy]!.lib, uI 2, uI x.pat, uI s.cps[ixC s x.copy]!.due, uI s.cps[ixC s x.copy]!.hold, uB s.cps[ixC s x.copy]!.rc])) yT Taken.no) rfl rfl rfl (S' := (1, _) :: _) rfl ?_
     refine WH.v (O.nc) ?_
     refine WH.v (O.fe 5 0 u55) ?_
     refine WH.effS (O.st_els (m := 1) rfl rfl rfl (us := [_]) rfl rfl xG yE (by rw [List.getElem?_set_self xZ]) xP rfl rfl (rows' := ((((s.cps.map eCp).set (ixC s x.copy) [uI s.cps[ixC s x.copy]!.id, uI s.cps[ixC s x.copy]!.work, uT s.cps[ixC s x.copy]!.lib, uI 2, uI s.cps[ixC s x.copy]!.pat, uI s.cps[ixC s x.copy]!.due, uI s.cps[ixC s x.copy]!.hold, uB s.cps[ixC s x.copy]!.rc]).set (ixC s x.copy) [uI s.cps[ixC s x.copy]!.id, uI s.cps[ixC s x.copy]!.work, uT s.cps[ixC s x.copy]!.lib, uI 2, uI x.pat, uI s.cps[ixC s x.copy]!.due, uI s.cps[ixC s x.copy]!.hold, uB s.cps[ixC s x.copy]!.rc]).set (ixC s x.copy) [uI s.cps[ixC s x.copy]!.id, uI s.cps[ixC s x.copy]!.work, uT s.cps[ixC s x.copy]!.lib, uI 2, uI x.pat, uI (s.now + 28), uI s.cps[ixC s x.copy]!.hold, uB s.cps[ixC s x.copy]!.rc])) yT Taken.no) rfl rfl rfl (S' := (1, _) :: _) rfl ?_
     refine WH.v (O.nc) ?_
     refine WH.v (O.fe 6 0 u55) ?_
     refine WH.effS (O.st_els (m := 1) rfl rfl rfl (us := [_]) rfl rfl xG yE (by rw [List.getElem?_set_self xZ]) xP rfl rfl (rows' := (((((s.cps.map eCp).set (ixC s x.copy) [uI s.cps[ixC s x.copy]!.id, uI s.cps[ixC s x.copy]!.work, uT s.cps[ixC s x.copy]!.lib, uI 2, uI s.cps[ixC s x.copy]!.pat, uI s.cps[ixC s x.copy]!.due, uI s.cps[ixC s x.copy]!.hold, uB s.cps[ixC s x.copy]!.rc]).set (ixC s x.copy) [uI s.cps[ixC s x.copy]!.id, uI s.cps[ixC s x.copy]!.work, uT s.cps[ixC s x.copy]!.lib, uI 2, uI x.pat, uI s.cps[ixC s x.copy]!.due, uI s.cps[ixC s x.copy]!.hold, uB s.cps[ixC s x.copy]!.rc]).set (ixC s x.copy) [uI s.cps[ixC s x.copy]!.id, uI s.cps[ixC s x.copy]!.work, uT s.cps[ixC s x.copy]!.lib, uI 2, uI x.pat, uI (s.now + 28), uI s.cps[ixC s x.copy]!.hold, uB s.cps[ixC s x.copy]!.rc]).set (ixC s x.copy) [uI s.cps[ixC s x.copy]!.id, uI s.cps[ixC s x.copy]!.work, uT s.cps[ixC s x.copy]!.lib, uI 2, uI x.pat, uI (s.now + 28), uI 0, uB s.cps[ixC s x.copy]!.rc])) yT Taken.no) rfl rfl rfl (S' := (1, _) :: _) rfl ?_
     refine WH.v (O.nc) ?_
     refine WH.v (O.fe 7 0 u55) ?_
     refine WH.effS (O.st_els (m := 1) rfl rfl rfl (us := [_]) rfl rfl xG yE (by rw [List.getElem?_set_self xZ]) xP rfl rfl (rows' := ((((((s.cps.map eCp).set (ixC s x.copy) [uI s.cps[ixC s x.copy]!.id, uI s.cps[ixC s x.copy]!.work, uT s.cps[ixC s x.copy]!.lib, uI 2, uI s.cps[ixC s x.copy]!.pat, uI s.cps[ixC s x.copy]!.due, uI s.cps[ixC s x.copy]!.hold, uB s.cps[ixC s x.copy]!.rc]).set (ixC s x.copy) [uI s.cps[ixC s x.copy]!.id, uI s.cps[ixC s x.copy]!.work, uT s.cps[ixC s x.copy]!.lib, uI 2, uI x.pat, uI s.cps[ixC s x.copy]!.due, uI s.cps[ixC s x.copy]!.hold, uB s.cps[ixC s x.copy]!.rc]).set (ixC s x.copy) [uI s.cps[ixC s x.copy]!.id, uI s.cps[ixC s x.copy]!.work, uT s.cps[ixC s x.copy]!.lib, uI 2, uI x.pat, uI (s.now + 28), uI s.cps[ixC s x.copy]!.hold, uB s.cps[ixC s x.copy]!.rc]).set (ixC s x.copy) [uI s.cps[ixC s x.copy]!.id, uI s.cps[ixC s x.copy]!.work, uT s.cps[ixC s x.copy]!.lib, uI 2, uI x.pat, uI (s.now + 28), uI 0, uB s.cps[ixC s x.copy]!.rc]).set (ixC s x.copy) [uI s.cps[ixC s x.copy]!.id, uI s.cps[ixC s x.copy]!.work, uT s.cps[ixC s x.copy]!.lib, uI 2, uI x.pat, uI (s.now + 28), uI 0, uB false])) yT Taken.no) rfl rfl rfl (S' := (1, _) :: _) rfl ?_
     refine WH.nil (E.to ?_)
     refine W.pk [(4,_)] [(0,_),(1,_),(2,_),(101,_),(102,_)] ?_
     refine W.rg (SL.a (E.fo (W.ret ?_)))
     refine E.f1 [(3, 2), (4, 1)] ?_ ?_
     ·rw [(len_e0 (s := s) (x := x)  hb (fun z => z hx) hbb hbe hb5 hbd).1]; rfl
     · exact xW
    have hg5p := gP hg5
    have hbe : ¬ ((atC s x.copy).place = 1 ∧ 0 ≤ ownI s x.pat (atC s x.copy).work) := fun z => absurd z.1 (by show ¬ s.cps[ixC s x.copy]!.place = 1; first | assumption | omega)
    refine WH.k hg5 (WH.k hg5 (WH.k hg5 (WH.k hg5 (WH.k hg5 (WH.k hg5 (WH.k hg5 (WH.k hg5 ?_)))))))
    refine WH.v (O.pf (G.ne_t hg5)) ?_
    refine WH.v (O.as1) ?_
    refine WH.nil (E.to ?_)
    refine W.cond_f rfl ?_
    refine W.seq ?_
    refine W.dr [pW 0, pW 0, ⟨[0], [], [], [1, 2]⟩, pW 101, pX 101, ⟨[1, 2, 103], [103], [103], []⟩, pX 103, pO, pO] ?_
    refine WH.o rfl ?_
    refine WH.v (O.nc) ?_
    refine WH.v (O.n3 u33) ?_
    refine WH.v (O.fr 3 0 u38) ?_
    refine WH.v (O.l1 u3) ?_
    refine WH.cl [(0, 103)] [1, 2] (.own 103) ((103, .data _ _ _) :: _) (q := loansO_h (s := s) (i := x.pat) xA)  (fl := .inr ⟨rfl, fun x hx => by rw [List.mem_singleton] at hx; subst hx; exact flat_I _⟩) (h := ?_)
    refine WH.v (O.lenE (SlOf.own rfl rfl) yB u61 rfl Taken.no) ?_
    refine WH.v (O.geq) ?_
    refine WH.v (O.as1) ?_
    refine WH.nil (E.to ?_)
    refine W.pk [(0,_),(3,_),(4,_),(5,_),(56,_)] [(0,_),(1,_),(2,_),(101,_),(103,_)] ?_
    refine W.cc rfl (fun hc9 => ?_) fun hc9 => ?_
    ·have hb5 : 5 ≤ (idsF (fun c => decide (c.place = 2 ∧ c.pat = x.pat)) s.cps).length := by omega
     refine W.rg (SL.a (E.fo (W.ret ?_)))
     refine E.inr ?_
     refine E.thr ?_
     refine E.f1 [(3, 2), (4, 1)] ?_ ?_
     ·rw [(len_e3 (s := s) (x := x)  hb (fun z => z hx) hbb hbe hb5).1]; rfl
     · rw [(len_e3 (s := s) (x := x)  hb (fun z => z hx) hbb hbe hb5).2]; exact SubS.v3
    have hb5 : ¬ (5 ≤ (idsF (fun c => decide (c.place = 2 ∧ c.pat = x.pat)) s.cps).length) := by omega
    refine W.rg (SL.o ?_)
    refine SL.v (O.nc) ?_
    refine SL.v (O.fr 0 0 u33) ?_
    refine SL.v (O.l1 u3) ?_
    refine SL.v (O.ad) ?_
    refine SL.v (O.gtr) ?_
    refine SL.a (E.fo ?_)
    refine W.cc rfl (fun hc10 => ?_) fun hc10 => ?_
    ·have hbd : 1000000 < s.now + 28 := by omega
     refine W.rg (SL.a (E.fo (W.ret ?_)))
     refine E.inr ?_
     refine E.thr ?_
     refine E.f1 [(3, 2), (4, 1)] ?_ ?_
     ·rw [(len_e25 (s := s) (x := x)  hb (fun z => z hx) hbb hbe hb5 hbd).1]; rfl
     · rw [(len_e25 (s := s) (x := x)  hb (fun z => z hx) hbb hbe hb5 hbd).2]; exact SubS.v3
    have hbd : ¬ (1000000 < s.now + 28) := by omega
    refine W.skip (E.inn (E.to (W.seq ?_)))
    refine W.dr [pW 1, pW 1, pW 1, pW 1, pW 1, pW 101, pX 101, pW 0, pW 0, pW 0, pX 0, pO, pW 1, pW 1, ⟨[1], [1], [], []⟩, pW 1, pW 1, ⟨[1], [1], [], []⟩, pW 1, pW 1, ⟨[1], [1], [], []⟩, pW 1, pW 1, ⟨[1], [1], [], []⟩, pW 1, pW 1, ⟨[1], [1], [], []⟩] ?_
    refine WH.o rfl (WH.o rfl (WH.o rfl (WH.o rfl (WH.o rfl ?_))))
    refine WH.v (O.fr 3 0 u38) ?_
    refine WH.v (O.l1 u3) ?_
    refine WH.o rfl ?_
    refine WH.v (O.nc) ?_
    refine WH.v (O.fr 0 0 u33) ?_
    refine WH.v (O.l1 u3) ?_
    refine WH.v (O.ad) ?_
    refine WH.v (O.nc) ?_
    refine WH.v (O.fe 3 0 u55) ?_
    refine WH.effS (O.st_els (m := 1) rfl rfl rfl (us := [_]) rfl rfl xG yE (row_get xA) xP rfl rfl (rows' := ((s.cps.map eCp).set (ixC s x.copy) [uI s.cps[ixC s x.copy]!.id, uI s.cps[ixC s x.copy]!.work, uT s.cps[ixC s x.copy]!.lib, uI 2, uI s.cps[ixC s x.copy]!.pat, uI s.cps[ixC s x.copy]!.due, uI s.cps[ixC s x.copy]!.hold, uB s.cps[ixC s x.copy]!.rc])) yT Taken.no) rfl rfl rfl (S' := (1, _) :: _) rfl ?_
    refine WH.v (O.nc) ?_
    refine WH.v (O.fe 4 0 u55) ?_
    refine WH.effS (O.st_els (m := 1) rfl rfl rfl (us := [_]) rfl rfl xG yE (by rw [List.getElem?_set_self zX]) xP rfl rfl (rows' := (((s.cps.map eCp).set (ixC s x.copy) [uI s.cps[ixC s x.copy]!.id, uI s.cps[ixC s x.copy]!.work, uT s.cps[ixC s x.copy]!.lib, uI 2, uI s.cps[ixC s x.copy]!.pat, uI s.cps[ixC s x.copy]!.due, uI s.cps[ixC s x.copy]!.hold, uB s.cps[ixC s x.copy]!.rc]).set (ixC s x.copy) [uI s.cps[ixC s x.copy]!.id, uI s.cps[ixC s x.copy]!.work, uT s.cps[ixC s x.copy]!.lib, uI 2, uI x.pat, uI s.cps[ixC s x.copy]!.due, uI s.cps[ixC s x.copy]!.hold, uB s.cps[ixC s x.copy]!.rc])) yT Taken.no) rfl rfl rfl (S' := (1, _) :: _) rfl ?_
    refine WH.v (O.nc) ?_
    refine WH.v (O.fe 5 0 u55) ?_
    refine WH.effS (O.st_els (m := 1) rfl rfl rfl (us := [_]) rfl rfl xG yE (by rw [List.getElem?_set_self xZ]) xP rfl rfl (rows' := ((((s.cps.map eCp).set (ixC s x.copy) [uI s.cps[ixC s x.copy]!.id, uI s.cps[ixC s x.copy]!.work, uT s.cps[ixC s x.copy]!.lib, uI 2, uI s.cps[ixC s x.copy]!.pat, uI s.cps[ixC s x.copy]!.due, uI s.cps[ixC s x.copy]!.hold, uB s.cps[ixC s x.copy]!.rc]).set (ixC s x.copy) [uI s.cps[ixC s x.copy]!.id, uI s.cps[ixC s x.copy]!.work, uT s.cps[ixC s x.copy]!.lib, uI 2, uI x.pat, uI s.cps[ixC s x.copy]!.due, uI s.cps[ixC s x.copy]!.hold, uB s.cps[ixC s x.copy]!.rc]).set (ixC s x.copy) [uI s.cps[ixC s x.copy]!.id, uI s.cps[ixC s x.copy]!.work, uT s.cps[ixC s x.copy]!.lib, uI 2, uI x.pat, uI (s.now + 28), uI s.cps[ixC s x.copy]!.hold, uB s.cps[ixC s x.copy]!.rc])) yT Taken.no) rfl rfl rfl (S' := (1, _) :: _) rfl ?_
    refine WH.v (O.nc) ?_
    refine WH.v (O.fe 6 0 u55) ?_
    refine WH.effS (O.st_els (m := 1) rfl rfl rfl (us := [_]) rfl rfl xG yE (by rw [List.getElem?_set_self xZ]) xP rfl rfl (rows' := (((((s.cps.map eCp).set (ixC s x.copy) [uI s.cps[ixC s x.copy]!.id, uI s.cps[ixC s x.copy]!.work, uT s.cps[ixC s x.copy]!.lib, uI 2, uI s.cps[ixC s x.copy]!.pat, uI s.cps[ixC s x.copy]!.due, uI s.cps[ixC s x.copy]!.hold, uB s.cps[ixC s x.copy]!.rc]).set (ixC s x.copy) [uI s.cps[ixC s x.copy]!.id, uI s.cps[ixC s x.copy]!.work, uT s.cps[ixC s x.copy]!.lib, uI 2, uI x.pat, uI s.cps[ixC s x.copy]!.due, uI s.cps[ixC s x.copy]!.hold, uB s.cps[ixC s x.copy]!.rc]).set (ixC s x.copy) [uI s.cps[ixC s x.copy]!.id, uI s.cps[ixC s x.copy]!.work, uT s.cps[ixC s x.copy]!.lib, uI 2, uI x.pat, uI (s.now + 28), uI s.cps[ixC s x.copy]!.hold, uB s.cps[ixC s x.copy]!.rc]).set (ixC s x.copy) [uI s.cps[ixC s x.copy]!.id, uI s.cps[ixC s x.copy]!.work, uT s.cps[ixC s x.copy]!.lib, uI 2, uI x.pat, uI (s.now + 28), uI 0, uB s.cps[ixC s x.copy]!.rc])) yT Taken.no) rfl rfl rfl (S' := (1, _) :: _) rfl ?_
    refine WH.v (O.nc) ?_
    refine WH.v (O.fe 7 0 u55) ?_
    refine WH.effS (O.st_els (m := 1) rfl rfl rfl (us := [_]) rfl rfl xG yE (by rw [List.getElem?_set_self xZ]) xP rfl rfl (rows' := ((((((s.cps.map eCp).set (ixC s x.copy) [uI s.cps[ixC s x.copy]!.id, uI s.cps[ixC s x.copy]!.work, uT s.cps[ixC s x.copy]!.lib, uI 2, uI s.cps[ixC s x.copy]!.pat, uI s.cps[ixC s x.copy]!.due, uI s.cps[ixC s x.copy]!.hold, uB s.cps[ixC s x.copy]!.rc]).set (ixC s x.copy) [uI s.cps[ixC s x.copy]!.id, uI s.cps[ixC s x.copy]!.work, uT s.cps[ixC s x.copy]!.lib, uI 2, uI x.pat, uI s.cps[ixC s x.copy]!.due, uI s.cps[ixC s x.copy]!.hold, uB s.cps[ixC s x.copy]!.rc]).set (ixC s x.copy) [uI s.cps[ixC s x.copy]!.id, uI s.cps[ixC s x.copy]!.work, uT s.cps[ixC s x.copy]!.lib, uI 2, uI x.pat, uI (s.now + 28), uI s.cps[ixC s x.copy]!.hold, uB s.cps[ixC s x.copy]!.rc]).set (ixC s x.copy) [uI s.cps[ixC s x.copy]!.id, uI s.cps[ixC s x.copy]!.work, uT s.cps[ixC s x.copy]!.lib, uI 2, uI x.pat, uI (s.now + 28), uI 0, uB s.cps[ixC s x.copy]!.rc]).set (ixC s x.copy) [uI s.cps[ixC s x.copy]!.id, uI s.cps[ixC s x.copy]!.work, uT s.cps[ixC s x.copy]!.lib, uI 2, uI x.pat, uI (s.now + 28), uI 0, uB false])) yT Taken.no) rfl rfl rfl (S' := (1, _) :: _) rfl ?_
    refine WH.nil (E.to ?_)
    refine W.pk [(4,_)] [(0,_),(1,_),(2,_),(101,_),(103,_)] ?_
    refine W.rg (SL.a (E.fo (W.ret ?_)))
    refine E.f1 [(3, 2), (4, 1)] ?_ ?_
    ·rw [(len_e0 (s := s) (x := x)  hb (fun z => z hx) hbb hbe hb5 hbd).1]; rfl
    · exact xW
   have hg3p := gP hg3
   have hbb : ¬ ((atC s x.copy).place = 2 ∨ ((atC s x.copy).place = 3 ∧ (atC s x.copy).pat ≠ x.pat)) := by show ¬ (s.cps[ixC s x.copy]!.place = 2 ∨ (s.cps[ixC s x.copy]!.place = 3 ∧ s.cps[ixC s x.copy]!.pat ≠ x.pat)); rintro (z | ⟨z, _⟩) <;> omega
   refine WH.k hg3 (WH.k hg3 (WH.k hg3 (WH.k hg3 (WH.k hg3 (WH.k hg3 (WH.k hg3 ?_))))))
   refine WH.v (O.pf (G.ne_t hg3) (tY hg2)) ?_
   refine WH.v (O.pf hg2) ?_
   refine WH.v (O.as1) ?_
   refine WH.nil (E.to ?_)
   refine W.pk [(0,_),(3,_),(4,_),(5,_),(18,_)] [(0,_),(1,_),(2,_),(101,_)] ?_
   refine W.cond_f rfl ?_
   refine W.seq ?_
   refine W.dr [pW 1, pW 1, pW 1, pX 1, pO, pO, pW 0, pW 101, pX 101, pW 1, pW 1, pW 1, pX 1, ⟨[0, 1, 2], [0, 1, 2], [], []⟩, pO, pO] ?_
   refine WH.o rfl ?_
   refine WH.v (O.nc) ?_
   refine WH.v (O.fe 3 0 u55) ?_
   refine WH.v (O.ld1 (PtI.ofU (PtU.el rfl rfl (row_get xA))) rfl u3 rfl rfl Taken.no) ?_
   refine WH.v (O.eql) ?_
   refine WH.o rfl ?_
   refine WH.cs 5 true (fun hg11 => ?_) fun hg11 => ?_
   ·have hg11p := gP hg11
    refine WH.v (O.mo (tY hg11)) ?_
    refine WH.v (O.fr 3 0 u38 (tY hg11)) ?_
    refine WH.v (O.l1 u3 (tY hg11)) ?_
    refine WH.v (O.mo (tY hg11)) ?_
    refine WH.v (O.nc (tY hg11)) ?_
    refine WH.v (O.fe 1 0 u55 (tY hg11)) ?_
    refine WH.v (O.ld1 (PtI.ofU (PtU.el rfl rfl (row_get xA))) rfl u3 rfl rfl (Taken.yes rfl rfl hg11)) ?_
    refine WH.cl [(0, 0), (1, 1), (2, 2)] [] (.u _) ((0, .cells _ [.u _, .own 1, .own 2]) :: (1, .data _ _ _) :: (2, .data _ _ _) :: _) (q := owns_h (s := s) (p := x.pat) (wk := s.cps[ixC s x.copy]!.work))  (hg := tY hg11) (h := ?_)
    refine WH.v (O.pt hg11) ?_
    refine WH.v (O.as1) ?_
    refine WH.nil (E.to ?_)
    refine W.cc rfl (fun hc12 => ?_) fun hc12 => ?_
    ·have hbe : (atC s x.copy).place = 1 ∧ 0 ≤ ownI s x.pat (atC s x.copy).work := by show s.cps[ixC s x.copy]!.place = 1 ∧ 0 ≤ ownI s x.pat s.cps[ixC s x.copy]!.work; unfold ownI; first | simp_all | omega
     refine W.rg (SL.a (E.fo (W.ret ?_)))
     refine E.inr ?_
     refine E.thr ?_
     refine E.f1 [(3, 2), (4, 1)] ?_ ?_
     ·rw [(len_e10 (s := s) (x := x)  hb (fun z => z hx) hbb hbe).1]; rfl
     · rw [(len_e10 (s := s) (x := x)  hb (fun z => z hx) hbb hbe).2]; exact SubS.v3
    have hbe : ¬ ((atC s x.copy).place = 1 ∧ 0 ≤ ownI s x.pat (atC s x.copy).work) := by show ¬ (s.cps[ixC s x.copy]!.place = 1 ∧ 0 ≤ ownI s x.pat s.cps[ixC s x.copy]!.work); unfold ownI; first | (rintro ⟨z1, z2⟩; first | omega | (simp_all; done) | (simp_all; omega)) | simp_all
    refine W.seq ?_
    refine W.dr [pW 0, pW 0, ⟨[0], [], [], [1, 2]⟩, pW 101, pX 101, ⟨[1, 2, 104], [104], [104], []⟩, pX 104, pO, pO] ?_
    refine WH.o rfl ?_
    refine WH.v (O.nc) ?_
    refine WH.v (O.n3 u33) ?_
    refine WH.v (O.fr 3 0 u38) ?_
    refine WH.v (O.l1 u3) ?_
    refine WH.cl [(0, 104)] [1, 2] (.own 104) ((104, .data _ _ _) :: _) (q := loansO_h (s := s) (i := x.pat) xA)  (fl := .inr ⟨rfl, fun x hx => by rw [List.mem_singleton] at hx; subst hx; exact flat_I _⟩) (h := ?_)
    refine WH.v (O.lenE (SlOf.own rfl rfl) yB u61 rfl Taken.no) ?_
    refine WH.v (O.geq) ?_
    refine WH.v (O.as1) ?_
    refine WH.nil (E.to ?_)
    refine W.pk [(0,_),(3,_),(4,_),(5,_),(56,_)] [(0,_),(1,_),(2,_),(101,_),(104,_)] ?_
    refine W.cc rfl (fun hc13 => ?_) fun hc13 => ?_
    ·have hb5 : 5 ≤ (idsF (fun c => decide (c.place = 2 ∧ c.pat = x.pat)) s.cps).length := by omega
     refine W.rg (SL.a (E.fo (W.ret ?_)))
     refine E.inr ?_
     refine E.thr ?_
     refine E.f1 [(3, 2), (4, 1)] ?_ ?_
     ·rw [(len_e3 (s := s) (x := x)  hb (fun z => z hx) hbb hbe hb5).1]; rfl
     · rw [(len_e3 (s := s) (x := x)  hb (fun z => z hx) hbb hbe hb5).2]; exact SubS.v3
    have hb5 : ¬ (5 ≤ (idsF (fun c => decide (c.place = 2 ∧ c.pat = x.pat)) s.cps).length) := by omega
    refine W.rg (SL.o ?_)
    refine SL.v (O.nc) ?_
    refine SL.v (O.fr 0 0 u33) ?_
    refine SL.v (O.l1 u3) ?_
    refine SL.v (O.ad) ?_
    refine SL.v (O.gtr) ?_
    refine SL.a (E.fo ?_)
    refine W.cc rfl (fun hc14 => ?_) fun hc14 => ?_
    ·have hbd : 1000000 < s.now + 28 := by omega
     refine W.rg (SL.a (E.fo (W.ret ?_)))
     refine E.inr ?_
     refine E.thr ?_
     refine E.f1 [(3, 2), (4, 1)] ?_ ?_
     ·rw [(len_e25 (s := s) (x := x)  hb (fun z => z hx) hbb hbe hb5 hbd).1]; rfl
     · rw [(len_e25 (s := s) (x := x)  hb (fun z => z hx) hbb hbe hb5 hbd).2]; exact SubS.v3
    have hbd : ¬ (1000000 < s.now + 28) := by omega
    refine W.skip (E.inn (E.to (W.seq ?_)))
    refine W.dr [pW 1, pW 1, pW 1, pW 1, pW 1, pW 101, pX 101, pW 0, pW 0, pW 0, pX 0, pO, pW 1, pW 1, ⟨[1], [1], [], []⟩, pW 1, pW 1, ⟨[1], [1], [], []⟩, pW 1, pW 1, ⟨[1], [1], [], []⟩, pW 1, pW 1, ⟨[1], [1], [], []⟩, pW 1, pW 1, ⟨[1], [1], [], []⟩] ?_
    refine WH.o rfl (WH.o rfl (WH.o rfl (WH.o rfl (WH.o rfl ?_))))
    refine WH.v (O.fr 3 0 u38) ?_
    refine WH.v (O.l1 u3) ?_
    refine WH.o rfl ?_
    refine WH.v (O.nc) ?_
    refine WH.v (O.fr 0 0 u33) ?_
    refine WH.v (O.l1 u3) ?_
    refine WH.v (O.ad) ?_
    refine WH.v (O.nc) ?_
    refine WH.v (O.fe 3 0 u55) ?_
    refine WH.effS (O.st_els (m := 1) rfl rfl rfl (us := [_]) rfl rfl xG yE (row_get xA) xP rfl rfl (rows' := ((s.cps.map eCp).set (ixC s x.copy) [uI s.cps[ixC s x.copy]!.id, uI s.cps[ixC s x.copy]!.work, uT s.cps[ixC s x.copy]!.lib, uI 2, uI s.cps[ixC s x.copy]!.pat, uI s.cps[ixC s x.copy]!.due, uI s.cps[ixC s x.copy]!.hold, uB s.cps[ixC s x.copy]!.rc])) yT Taken.no) rfl rfl rfl (S' := (1, _) :: _) rfl ?_
    refine WH.v (O.nc) ?_
    refine WH.v (O.fe 4 0 u55) ?_
    refine WH.effS (O.st_els (m := 1) rfl rfl rfl (us := [_]) rfl rfl xG yE (by rw [List.getElem?_set_self zX]) xP rfl rfl (rows' := (((s.cps.map eCp).set (ixC s x.copy) [uI s.cps[ixC s x.copy]!.id, uI s.cps[ixC s x.copy]!.work, uT s.cps[ixC s x.copy]!.lib, uI 2, uI s.cps[ixC s x.copy]!.pat, uI s.cps[ixC s x.copy]!.due, uI s.cps[ixC s x.copy]!.hold, uB s.cps[ixC s x.copy]!.rc]).set (ixC s x.copy) [uI s.cps[ixC s x.copy]!.id, uI s.cps[ixC s x.copy]!.work, uT s.cps[ixC s x.copy]!.lib, uI 2, uI x.pat, uI s.cps[ixC s x.copy]!.due, uI s.cps[ixC s x.copy]!.hold, uB s.cps[ixC s x.copy]!.rc])) yT Taken.no) rfl rfl rfl (S' := (1, _) :: _) rfl ?_
    refine WH.v (O.nc) ?_
    refine WH.v (O.fe 5 0 u55) ?_
    refine WH.effS (O.st_els (m := 1) rfl rfl rfl (us := [_]) rfl rfl xG yE (by rw [List.getElem?_set_self xZ]) xP rfl rfl (rows' := ((((s.cps.map eCp).set (ixC s x.copy) [uI s.cps[ixC s x.copy]!.id, uI s.cps[ixC s x.copy]!.work, uT s.cps[ixC s x.copy]!.lib, uI 2, uI s.cps[ixC s x.copy]!.pat, uI s.cps[ixC s x.copy]!.due, uI s.cps[ixC s x.copy]!.hold, uB s.cps[ixC s x.copy]!.rc]).set (ixC s x.copy) [uI s.cps[ixC s x.copy]!.id, uI s.cps[ixC s x.copy]!.work, uT s.cps[ixC s x.copy]!.lib, uI 2, uI x.pat, uI s.cps[ixC s x.copy]!.due, uI s.cps[ixC s x.copy]!.hold, uB s.cps[ixC s x.copy]!.rc]).set (ixC s x.copy) [uI s.cps[ixC s x.copy]!.id, uI s.cps[ixC s x.copy]!.work, uT s.cps[ixC s x.copy]!.lib, uI 2, uI x.pat, uI (s.now + 28), uI s.cps[ixC s x.copy]!.hold, uB s.cps[ixC s x.copy]!.rc])) yT Taken.no) rfl rfl rfl (S' := (1, _) :: _) rfl ?_
    refine WH.v (O.nc) ?_
    refine WH.v (O.fe 6 0 u55) ?_
    refine WH.effS (O.st_els (m := 1) rfl rfl rfl (us := [_]) rfl rfl xG yE (by rw [List.getElem?_set_self xZ]) xP rfl rfl (rows' := (((((s.cps.map eCp).set (ixC s x.copy) [uI s.cps[ixC s x.copy]!.id, uI s.cps[ixC s x.copy]!.work, uT s.cps[ixC s x.copy]!.lib, uI 2, uI s.cps[ixC s x.copy]!.pat, uI s.cps[ixC s x.copy]!.due, uI s.cps[ixC s x.copy]!.hold, uB s.cps[ixC s x.copy]!.rc]).set (ixC s x.copy) [uI s.cps[ixC s x.copy]!.id, uI s.cps[ixC s x.copy]!.work, uT s.cps[ixC s x.copy]!.lib, uI 2, uI x.pat, uI s.cps[ixC s x.copy]!.due, uI s.cps[ixC s x.copy]!.hold, uB s.cps[ixC s x.copy]!.rc]).set (ixC s x.copy) [uI s.cps[ixC s x.copy]!.id, uI s.cps[ixC s x.copy]!.work, uT s.cps[ixC s x.copy]!.lib, uI 2, uI x.pat, uI (s.now + 28), uI s.cps[ixC s x.copy]!.hold, uB s.cps[ixC s x.copy]!.rc]).set (ixC s x.copy) [uI s.cps[ixC s x.copy]!.id, uI s.cps[ixC s x.copy]!.work, uT s.cps[ixC s x.copy]!.lib, uI 2, uI x.pat, uI (s.now + 28), uI 0, uB s.cps[ixC s x.copy]!.rc])) yT Taken.no) rfl rfl rfl (S' := (1, _) :: _) rfl ?_
    refine WH.v (O.nc) ?_
    refine WH.v (O.fe 7 0 u55) ?_
    refine WH.effS (O.st_els (m := 1) rfl rfl rfl (us := [_]) rfl rfl xG yE (by rw [List.getElem?_set_self xZ]) xP rfl rfl (rows' := ((((((s.cps.map eCp).set (ixC s x.copy) [uI s.cps[ixC s x.copy]!.id, uI s.cps[ixC s x.copy]!.work, uT s.cps[ixC s x.copy]!.lib, uI 2, uI s.cps[ixC s x.copy]!.pat, uI s.cps[ixC s x.copy]!.due, uI s.cps[ixC s x.copy]!.hold, uB s.cps[ixC s x.copy]!.rc]).set (ixC s x.copy) [uI s.cps[ixC s x.copy]!.id, uI s.cps[ixC s x.copy]!.work, uT s.cps[ixC s x.copy]!.lib, uI 2, uI x.pat, uI s.cps[ixC s x.copy]!.due, uI s.cps[ixC s x.copy]!.hold, uB s.cps[ixC s x.copy]!.rc]).set (ixC s x.copy) [uI s.cps[ixC s x.copy]!.id, uI s.cps[ixC s x.copy]!.work, uT s.cps[ixC s x.copy]!.lib, uI 2, uI x.pat, uI (s.now + 28), uI s.cps[ixC s x.copy]!.hold, uB s.cps[ixC s x.copy]!.rc]).set (ixC s x.copy) [uI s.cps[ixC s x.copy]!.id, uI s.cps[ixC s x.copy]!.work, uT s.cps[ixC s x.copy]!.lib, uI 2, uI x.pat, uI (s.now + 28), uI 0, uB s.cps[ixC s x.copy]!.rc]).set (ixC s x.copy) [uI s.cps[ixC s x.copy]!.id, uI s.cps[ixC s x.copy]!.work, uT s.cps[ixC s x.copy]!.lib, uI 2, uI x.pat, uI (s.now + 28), uI 0, uB false])) yT Taken.no) rfl rfl rfl (S' := (1, _) :: _) rfl ?_
    refine WH.nil (E.to ?_)
    refine W.pk [(4,_)] [(0,_),(1,_),(2,_),(101,_),(104,_)] ?_
    refine W.rg (SL.a (E.fo (W.ret ?_)))
    refine E.f1 [(3, 2), (4, 1)] ?_ ?_
    ·rw [(len_e0 (s := s) (x := x)  hb (fun z => z hx) hbb hbe hb5 hbd).1]; rfl
    · exact xW
   have hg11p := gP hg11
   have hbe : ¬ ((atC s x.copy).place = 1 ∧ 0 ≤ ownI s x.pat (atC s x.copy).work) := fun z => absurd z.1 (by show ¬ s.cps[ixC s x.copy]!.place = 1; first | assumption | omega)
   refine WH.k hg11 (WH.k hg11 (WH.k hg11 (WH.k hg11 (WH.k hg11 (WH.k hg11 (WH.k hg11 (WH.k hg11 ?_)))))))
   refine WH.v (O.pf (G.ne_t hg11)) ?_
   refine WH.v (O.as1) ?_
   refine WH.nil (E.to ?_)
   refine W.cond_f rfl ?_
   refine W.seq ?_
   refine W.dr [pW 0, pW 0, ⟨[0], [], [], [1, 2]⟩, pW 101, pX 101, ⟨[1, 2, 105], [105], [105], []⟩, pX 105, pO, pO] ?_
   refine WH.o rfl ?_
   refine WH.v (O.nc) ?_
   refine WH.v (O.n3 u33) ?_
   refine WH.v (O.fr 3 0 u38) ?_
   refine WH.v (O.l1 u3) ?_
   refine WH.cl [(0, 105)] [1, 2] (.own 105) ((105, .data _ _ _) :: _) (q := loansO_h (s := s) (i := x.pat) xA)  (fl := .inr ⟨rfl, fun x hx => by rw [List.mem_singleton] at hx; subst hx; exact flat_I _⟩) (h := ?_)
   refine WH.v (O.lenE (SlOf.own rfl rfl) yB u61 rfl Taken.no) ?_
   refine WH.v (O.geq) ?_
   refine WH.v (O.as1) ?_
   refine WH.nil (E.to ?_)
   refine W.pk [(0,_),(3,_),(4,_),(5,_),(56,_)] [(0,_),(1,_),(2,_),(101,_),(105,_)] ?_
   refine W.cc rfl (fun hc15 => ?_) fun hc15 => ?_
   ·have hb5 : 5 ≤ (idsF (fun c => decide (c.place = 2 ∧ c.pat = x.pat)) s.cps).length := by omega
    refine W.rg (SL.a (E.fo (W.ret ?_)))
    refine E.inr ?_
    refine E.thr ?_
    refine E.f1 [(3, 2), (4, 1)] ?_ ?_
    ·rw [(len_e3 (s := s) (x := x)  hb (fun z => z hx) hbb hbe hb5).1]; rfl
    · rw [(len_e3 (s := s) (x := x)  hb (fun z => z hx) hbb hbe hb5).2]; exact SubS.v3
   have hb5 : ¬ (5 ≤ (idsF (fun c => decide (c.place = 2 ∧ c.pat = x.pat)) s.cps).length) := by omega
   refine W.rg (SL.o ?_)
   refine SL.v (O.nc) ?_
   refine SL.v (O.fr 0 0 u33) ?_
   refine SL.v (O.l1 u3) ?_
   refine SL.v (O.ad) ?_
   refine SL.v (O.gtr) ?_
   refine SL.a (E.fo ?_)
   refine W.cc rfl (fun hc16 => ?_) fun hc16 => ?_
   ·have hbd : 1000000 < s.now + 28 := by omega
    refine W.rg (SL.a (E.fo (W.ret ?_)))
    refine E.inr ?_
    refine E.thr ?_
    refine E.f1 [(3, 2), (4, 1)] ?_ ?_
    ·rw [(len_e25 (s := s) (x := x)  hb (fun z => z hx) hbb hbe hb5 hbd).1]; rfl
    · rw [(len_e25 (s := s) (x := x)  hb (fun z => z hx) hbb hbe hb5 hbd).2]; exact SubS.v3
   have hbd : ¬ (1000000 < s.now + 28) := by omega
   refine W.skip (E.inn (E.to (W.seq ?_)))
   refine W.dr [pW 1, pW 1, pW 1, pW 1, pW 1, pW 101, pX 101, pW 0, pW 0, pW 0, pX 0, pO, pW 1, pW 1, ⟨[1], [1], [], []⟩, pW 1, pW 1, ⟨[1], [1], [], []⟩, pW 1, pW 1, ⟨[1], [1], [], []⟩, pW 1, pW 1, ⟨[1], [1], [], []⟩, pW 1, pW 1, ⟨[1], [1], [], []⟩] ?_
   refine WH.o rfl (WH.o rfl (WH.o rfl (WH.o rfl (WH.o rfl ?_))))
   refine WH.v (O.fr 3 0 u38) ?_
   refine WH.v (O.l1 u3) ?_
   refine WH.o rfl ?_
   refine WH.v (O.nc) ?_
   refine WH.v (O.fr 0 0 u33) ?_
   refine WH.v (O.l1 u3) ?_
   refine WH.v (O.ad) ?_
   refine WH.v (O.nc) ?_
   refine WH.v (O.fe 3 0 u55) ?_
   refine WH.effS (O.st_els (m := 1) rfl rfl rfl (us := [_]) rfl rfl xG yE (row_get xA) xP rfl rfl (rows' := ((s.cps.map eCp).set (ixC s x.copy) [uI s.cps[ixC s x.copy]!.id, uI s.cps[ixC s x.copy]!.work, uT s.cps[ixC s x.copy]!.lib, uI 2, uI s.cps[ixC s x.copy]!.pat, uI s.cps[ixC s x.copy]!.due, uI s.cps[ixC s x.copy]!.hold, uB s.cps[ixC s x.copy]!.rc])) yT Taken.no) rfl rfl rfl (S' := (1, _) :: _) rfl ?_
   refine WH.v (O.nc) ?_
   refine WH.v (O.fe 4 0 u55) ?_
   refine WH.effS (O.st_els (m := 1) rfl rfl rfl (us := [_]) rfl rfl xG yE (by rw [List.getElem?_set_self zX]) xP rfl rfl (rows' := (((s.cps.map eCp).set (ixC s x.copy) [uI s.cps[ixC s x.copy]!.id, uI s.cps[ixC s x.copy]!.work, uT s.cps[ixC s x.copy]!.lib, uI 2, uI s.cps[ixC s x.copy]!.pat, uI s.cps[ixC s x.copy]!.due, uI s.cps[ixC s x.copy]!.hold, uB s.cps[ixC s x.copy]!.rc]).set (ixC s x.copy) [uI s.cps[ixC s x.copy]!.id, uI s.cps[ixC s x.copy]!.work, uT s.cps[ixC s x.copy]!.lib, uI 2, uI x.pat, uI s.cps[ixC s x.copy]!.due, uI s.cps[ixC s x.copy]!.hold, uB s.cps[ixC s x.copy]!.rc])) yT Taken.no) rfl rfl rfl (S' := (1, _) :: _) rfl ?_
   refine WH.v (O.nc) ?_
   refine WH.v (O.fe 5 0 u55) ?_
   refine WH.effS (O.st_els (m := 1) rfl rfl rfl (us := [_]) rfl rfl xG yE (by rw [List.getElem?_set_self xZ]) xP rfl rfl (rows' := ((((s.cps.map eCp).set (ixC s x.copy) [uI s.cps[ixC s x.copy]!.id, uI s.cps[ixC s x.copy]!.work, uT s.cps[ixC s x.copy]!.lib, uI 2, uI s.cps[ixC s x.copy]!.pat, uI s.cps[ixC s x.copy]!.due, uI s.cps[ixC s x.copy]!.hold, uB s.cps[ixC s x.copy]!.rc]).set (ixC s x.copy) [uI s.cps[ixC s x.copy]!.id, uI s.cps[ixC s x.copy]!.work, uT s.cps[ixC s x.copy]!.lib, uI 2, uI x.pat, uI s.cps[ixC s x.copy]!.due, uI s.cps[ixC s x.copy]!.hold, uB s.cps[ixC s x.copy]!.rc]).set (ixC s x.copy) [uI s.cps[ixC s x.copy]!.id, uI s.cps[ixC s x.copy]!.work, uT s.cps[ixC s x.copy]!.lib, uI 2, uI x.pat, uI (s.now + 28), uI s.cps[ixC s x.copy]!.hold, uB s.cps[ixC s x.copy]!.rc])) yT Taken.no) rfl rfl rfl (S' := (1, _) :: _) rfl ?_
   refine WH.v (O.nc) ?_
   refine WH.v (O.fe 6 0 u55) ?_
   refine WH.effS (O.st_els (m := 1) rfl rfl rfl (us := [_]) rfl rfl xG yE (by rw [List.getElem?_set_self xZ]) xP rfl rfl (rows' := (((((s.cps.map eCp).set (ixC s x.copy) [uI s.cps[ixC s x.copy]!.id, uI s.cps[ixC s x.copy]!.work, uT s.cps[ixC s x.copy]!.lib, uI 2, uI s.cps[ixC s x.copy]!.pat, uI s.cps[ixC s x.copy]!.due, uI s.cps[ixC s x.copy]!.hold, uB s.cps[ixC s x.copy]!.rc]).set (ixC s x.copy) [uI s.cps[ixC s x.copy]!.id, uI s.cps[ixC s x.copy]!.work, uT s.cps[ixC s x.copy]!.lib, uI 2, uI x.pat, uI s.cps[ixC s x.copy]!.due, uI s.cps[ixC s x.copy]!.hold, uB s.cps[ixC s x.copy]!.rc]).set (ixC s x.copy) [uI s.cps[ixC s x.copy]!.id, uI s.cps[ixC s x.copy]!.work, uT s.cps[ixC s x.copy]!.lib, uI 2, uI x.pat, uI (s.now + 28), uI s.cps[ixC s x.copy]!.hold, uB s.cps[ixC s x.copy]!.rc]).set (ixC s x.copy) [uI s.cps[ixC s x.copy]!.id, uI s.cps[ixC s x.copy]!.work, uT s.cps[ixC s x.copy]!.lib, uI 2, uI x.pat, uI (s.now + 28), uI 0, uB s.cps[ixC s x.copy]!.rc])) yT Taken.no) rfl rfl rfl (S' := (1, _) :: _) rfl ?_
   refine WH.v (O.nc) ?_
   refine WH.v (O.fe 7 0 u55) ?_
   refine WH.effS (O.st_els (m := 1) rfl rfl rfl (us := [_]) rfl rfl xG yE (by rw [List.getElem?_set_self xZ]) xP rfl rfl (rows' := ((((((s.cps.map eCp).set (ixC s x.copy) [uI s.cps[ixC s x.copy]!.id, uI s.cps[ixC s x.copy]!.work, uT s.cps[ixC s x.copy]!.lib, uI 2, uI s.cps[ixC s x.copy]!.pat, uI s.cps[ixC s x.copy]!.due, uI s.cps[ixC s x.copy]!.hold, uB s.cps[ixC s x.copy]!.rc]).set (ixC s x.copy) [uI s.cps[ixC s x.copy]!.id, uI s.cps[ixC s x.copy]!.work, uT s.cps[ixC s x.copy]!.lib, uI 2, uI x.pat, uI s.cps[ixC s x.copy]!.due, uI s.cps[ixC s x.copy]!.hold, uB s.cps[ixC s x.copy]!.rc]).set (ixC s x.copy) [uI s.cps[ixC s x.copy]!.id, uI s.cps[ixC s x.copy]!.work, uT s.cps[ixC s x.copy]!.lib, uI 2, uI x.pat, uI (s.now + 28), uI s.cps[ixC s x.copy]!.hold, uB s.cps[ixC s x.copy]!.rc]).set (ixC s x.copy) [uI s.cps[ixC s x.copy]!.id, uI s.cps[ixC s x.copy]!.work, uT s.cps[ixC s x.copy]!.lib, uI 2, uI x.pat, uI (s.now + 28), uI 0, uB s.cps[ixC s x.copy]!.rc]).set (ixC s x.copy) [uI s.cps[ixC s x.copy]!.id, uI s.cps[ixC s x.copy]!.work, uT s.cps[ixC s x.copy]!.lib, uI 2, uI x.pat, uI (s.now + 28), uI 0, uB false])) yT Taken.no) rfl rfl rfl (S' := (1, _) :: _) rfl ?_
   refine WH.nil (E.to ?_)
   refine W.pk [(4,_)] [(0,_),(1,_),(2,_),(101,_),(105,_)] ?_
   refine W.rg (SL.a (E.fo (W.ret ?_)))
   refine E.f1 [(3, 2), (4, 1)] ?_ ?_
   ·rw [(len_e0 (s := s) (x := x)  hb (fun z => z hx) hbb hbe hb5 hbd).1]; rfl
   · exact xW
  have hg2p := gP hg2
  have hbb : (atC s x.copy).place = 2 ∨ ((atC s x.copy).place = 3 ∧ (atC s x.copy).pat ≠ x.pat) := .inl (by show s.cps[ixC s x.copy]!.place = 2; first | assumption | omega)
  refine WH.k hg2 (WH.k hg2 (WH.k hg2 (WH.k hg2 (WH.k hg2 (WH.k hg2 ?_)))))
  refine WH.s2 ?_
  refine WH.s2 ?_
  refine WH.s2 ?_
  refine WH.s2 ?_
  refine WH.s2 ?_
  refine WH.s2 ?_
  refine WH.s2 ?_
  refine WH.k hg2 ?_
  refine WH.v (O.pt (G.ne_f hg2)) ?_
  refine WH.v (O.as1) ?_
  refine WH.nil (E.to ?_)
  refine W.pk [(0,_),(3,_),(4,_),(5,_),(18,_)] [(0,_),(1,_),(2,_),(101,_)] ?_
  refine W.cond_t rfl ?_
  refine W.rg (SL.a (E.fo (W.ret ?_)))
  refine E.inr ?_
  refine E.thr ?_
  refine E.f1 [(3, 2), (4, 1)] ?_ ?_
  ·rw [(len_e26 (s := s) (x := x)  hb (fun z => z hx) hbb).1]; rfl
  · rw [(len_e26 (s := s) (x := x)  hb (fun z => z hx) hbb).2]; exact SubS.v3
 refine W.region (SL.o ?_)
 refine SL.v (O.fr 1 0 u38) ?_
 refine SL.v (O.l1 u3) ?_
 refine SL.cl [(0, 0), (1, 1), (2, 2)] [] (.u _) ((0, .cells _ [.u _, .own 1, .own 2]) :: (1, .data _ _ _) :: (2, .data _ _ _) :: _) (q := copy_n xA hx)  (h := ?_)
 refine SL.a (E.fo (W.seq (W.block (W.rg ?_))))
 refine SL.v (O.fr 3 0 u38) ?_
 refine SL.v (O.l1 u3) ?_
 refine SL.v (O.cp (q := id_h)) ?_
 refine SL.v (O.nt) ?_
 refine SL.a (E.fo ?_)
 refine W.cc rfl (fun hc17 => ?_) fun hc17 => ?_
 ·have hb : ¬ idB x.pat := by first | assumption | simp_all
  refine W.rg (SL.a (E.fo (W.ret ?_)))
  refine E.inr ?_
  refine E.thr ?_
  refine E.f1 [(3, 2), (4, 1)] ?_ ?_
  ·rw [(len_e2 (s := s) (x := x)  hb).1]; rfl
  · rw [(len_e2 (s := s) (x := x)  hb).2]; exact SubS.v3
 have hb : ¬ (¬ idB x.pat) := by first | assumption | simp_all
 refine W.rg (SL.o ?_)
 refine SL.v (O.det (fun _ => G.R.ptrnil (p := none) rfl rfl xG) rfl Taken.no) ?_
 refine SL.a (E.fo ?_)
 refine W.cond_t rfl ?_
 refine W.rg (SL.a (E.fo (W.ret ?_)))
 refine E.inr ?_
 refine E.thr ?_
 refine E.f1 [(3, 2), (4, 1)] ?_ ?_
 ·rw [(len_e9 (s := s) (x := x)  hb hx).1]; rfl
 · rw [(len_e9 (s := s) (x := x)  hb hx).2]; exact SubS.v3

set_option maxRecDepth 8000 in
theorem renew_m {s : St} {x : Sp} (hv : validS s) :
    Con Tryz.prog 30 [.ref 0 0, vA (eSp x)] [(0, .cells 33 [.u (uI s.now), .own 1, .own 2]), (1, .data 55 8 ((s.cps).map eCp)), (2, .data 79 2 ((s.lns).map eLn))] (vI (renE s x)) [(0, .cells 33 [.u (uI (renS s x).now), .own 4, .own 3]), (4, .data 55 8 (((renS s x).cps).map eCp)), (3, .data 79 2 (((renS s x).lns).map eLn))] := by
 have hn := hv.1
 unfold inB at hn
 have hcl := hv.2.1
 have hok := valid_ok hv
 have hid := valid_asc hv
 refine Con.en 51 Tryz.func30 fun τ w ok vs hin => ?_
 clear hin
 refine W.rg ?_
 refine SL.bx8 101 ?_
 refine SL.a (E.fo (W.seq ?_))
 by_cases hx : 0 ≤ cpI s x.copy
 ·have hix : ixC s x.copy < s.cps.length := (idxF_lt hx).1
  refine W.region (SL.o ?_)
  refine SL.v (O.fr 1 0 u38) ?_
  refine SL.v (O.l1 u3) ?_
  refine SL.cl [(0, 0), (1, 1), (2, 2)] [] (.el 1 _ _ 0) ((0, .cells _ [.u _, .own 1, .own 2]) :: (1, .data _ _ _) :: (2, .data _ _ _) :: _) (q := copy_y xA hx)  (h := ?_)
  refine SL.a (E.fo (W.seq (W.block (W.rg (SL.o ?_)))))
  refine SL.v (O.ptrnil (.inr (.inr ⟨_, _, _, _, rfl⟩)) rfl xG rfl Taken.no) ?_
  refine SL.a (E.fo ?_)
  refine W.cond_f rfl ?_
  refine W.rg (SL.o ?_)
  refine SL.v (O.nc) ?_
  refine SL.v (O.fe 3 0 u55) ?_
  refine SL.v (O.ld1 (PtI.ofU (PtU.el rfl rfl (row_get xA))) rfl u3 rfl rfl Taken.no) ?_
  refine SL.v (O.neq) ?_
  refine SL.a (E.fo ?_)
  refine W.cc rfl (fun hc1 => ?_) fun hc1 => ?_
  ·have hp : (atC s x.copy).place ≠ 2 := by show s.cps[ixC s x.copy]!.place ≠ 2; first | assumption | omega
   refine W.rg (SL.a (E.fo (W.ret ?_)))
   refine E.inr ?_
   refine E.thr ?_
   refine E.f1 [(3, 2), (4, 1)] ?_ ?_
   ·rw [(ren_e11 (s := s) (x := x)  (fun z => z hx) hp).1]; rfl
   · rw [(ren_e11 (s := s) (x := x)  (fun z => z hx) hp).2]; exact SubS.v3
  have hp : (atC s x.copy).place = 2 := by show s.cps[ixC s x.copy]!.place = 2; first | assumption | omega
  refine W.seq ?_
  refine W.dr [pW 1, pW 1, pW 1, pX 1, pO, pW 0, pW 0, ⟨[0], [], [], [1, 2]⟩, pW 1, pW 1, pW 1, pX 1, ⟨[1, 2, 102], [102], [102], []⟩, pX 102, pO, pO, pO] ?_
  refine WH.o rfl ?_
  refine WH.v (O.nc) ?_
  refine WH.v (O.fe 7 0 u55) ?_
  refine WH.v (O.ld1 (PtI.ofU (PtU.el rfl rfl (row_get xA))) rfl u4 rfl rfl Taken.no) ?_
  refine WH.o rfl ?_
  refine WH.cs 4 false (fun hg2 => ?_) fun hg2 => ?_
  ·have hg2p := gP hg2
   have hq60 := queS_len hok s.cps[ixC s x.copy]!.work
   refine WH.v (O.mo (tY hg2)) ?_
   refine WH.v (O.nc (tY hg2)) ?_
   refine WH.v (O.n3 u33 (tY hg2)) ?_
   refine WH.v (O.mo (tY hg2)) ?_
   refine WH.v (O.nc (tY hg2)) ?_
   refine WH.v (O.fe 1 0 u55 (tY hg2)) ?_
   refine WH.v (O.ld1 (PtI.ofU (PtU.el rfl rfl (row_get xA))) rfl u3 rfl rfl (Taken.yes rfl rfl hg2)) ?_
   refine WH.cl [(0, 102)] [1, 2] (.own 102) ((102, .data _ _ _) :: _) (q := queueO_h (s := s) (i := s.cps[ixC s x.copy]!.work) (fun l hl => by have := hok.2.2 l hl; omega))  (fl := .inr ⟨rfl, fun x hx => by rw [List.mem_singleton] at hx; subst hx; exact flat_H _⟩) (hg := tY hg2) (h := ?_)
   refine WH.v (O.lenE (SlOf.own rfl rfl) yB u59 rfl (Taken.yes rfl rfl hg2)) ?_
   refine WH.v (O.gtr (tY hg2)) ?_
   refine WH.v (O.pf hg2) ?_
   refine WH.v (O.as1) ?_
   refine WH.nil (E.to ?_)
   refine W.pk [(0,_),(4,_),(5,_),(19,_)] [(0,_),(1,_),(2,_),(101,_),(102,_)] ?_
   refine W.cc rfl (fun hc3 => ?_) fun hc3 => ?_
   ·have hbq : (atC s x.copy).rc = true ∨ 0 < (queS s (atC s x.copy).work).length := by show s.cps[ixC s x.copy]!.rc = true ∨ 0 < (queS s s.cps[ixC s x.copy]!.work).length; first | (left; assumption) | (right; omega) | simp_all
    refine W.rg (SL.a (E.fo (W.ret ?_)))
    refine E.inr ?_
    refine E.thr ?_
    refine E.f1 [(3, 2), (4, 1)] ?_ ?_
    ·rw [(ren_e26 (s := s) (x := x)  (fun z => z hx) (fun z => z hp) hbq).1]; rfl
    · rw [(ren_e26 (s := s) (x := x)  (fun z => z hx) (fun z => z hp) hbq).2]; exact SubS.v3
   have hbq : ¬ ((atC s x.copy).rc = true ∨ 0 < (queS s (atC s x.copy).work).length) := by show ¬ (s.cps[ixC s x.copy]!.rc = true ∨ 0 < (queS s s.cps[ixC s x.copy]!.work).length); rintro (z | z) <;> first | omega | (simp_all; done)
   refine W.rg (SL.o ?_)
   refine SL.v (O.nc) ?_
   refine SL.v (O.fr 0 0 u33) ?_
   refine SL.v (O.l1 u3) ?_
   refine SL.v (O.ad) ?_
   refine SL.v (O.gtr) ?_
   refine SL.a (E.fo ?_)
   refine W.cc rfl (fun hc4 => ?_) fun hc4 => ?_
   ·have hbd : 1000000 < s.now + 28 := by omega
    refine W.rg (SL.a (E.fo (W.ret ?_)))
    refine E.inr ?_
    refine E.thr ?_
    refine E.f1 [(3, 2), (4, 1)] ?_ ?_
    ·rw [(ren_e25 (s := s) (x := x)  (fun z => z hx) (fun z => z hp) hbq hbd).1]; rfl
    · rw [(ren_e25 (s := s) (x := x)  (fun z => z hx) (fun z => z hp) hbq hbd).2]; exact SubS.v3
   have hbd : ¬ (1000000 < s.now + 28) := by omega
   refine W.skip (E.inn (E.to (W.rg (SL.o (SL.o ?_)))))
   refine SL.v (O.nc) ?_
   refine SL.v (O.fr 0 0 u33) ?_
   refine SL.v (O.l1 u3) ?_
   refine SL.v (O.ad) ?_
   refine SL.v (O.nc) ?_
   refine SL.v (O.fe 5 0 u55) ?_
   refine SL.effS (O.st_els (m := 1) rfl rfl rfl (us := [_]) rfl rfl xG yE (row_get xA) xP rfl rfl (rows' := ((s.cps.map eCp).set (ixC s x.copy) [uI s.cps[ixC s x.copy]!.id, uI s.cps[ixC s x.copy]!.work, uT s.cps[ixC s x.copy]!.lib, uI s.cps[ixC s x.copy]!.place, uI s.cps[ixC s x.copy]!.pat, uI (s.now + 28), uI s.cps[ixC s x.copy]!.hold, uB s.cps[ixC s x.copy]!.rc])) yT Taken.no) (S' := (1, _) :: _) rfl ?_
   refine E.fo (W.rg (SL.a (E.fo (W.ret ?_))))
   refine E.f1 [(3, 2), (4, 1)] ?_ ?_
   ·rw [(ren_e0 (s := s) (x := x)  (fun z => z hx) (fun z => z hp) hbq hbd).1]; rfl
   · exact (SubS.val rfl (by rw [(ren_e0 (s := s) (x := x)  (fun z => z hx) (fun z => z hp) hbq hbd).2] <;> rfl) (SubS.val rfl (by exact sb_data (by rw [(ren_e0 (s := s) (x := x)  (fun z => z hx) (fun z => z hp) hbq hbd).2]; exact rn_fin)) (SubS.val rfl (by exact sb_data (by rw [(ren_e0 (s := s) (x := x)  (fun z => z hx) (fun z => z hp) hbq hbd).2] <;> rfl)) SubS.nil)))
  have hg2p := gP hg2
  have hbq : (atC s x.copy).rc = true ∨ 0 < (queS s (atC s x.copy).work).length := .inl (eq_true_of_ne_false (by show ¬ s.cps[ixC s x.copy]!.rc = false; first | assumption | simp_all))
  refine WH.k hg2 (WH.k hg2 (WH.k hg2 (WH.k hg2 (WH.k hg2 (WH.k hg2 (WH.k hg2 (WH.k hg2 (WH.k hg2 (WH.k hg2 ?_)))))))))
  refine WH.v (O.pt (G.ne_f hg2)) ?_
  refine WH.v (O.as1) ?_
  refine WH.nil (E.to ?_)
  refine W.pk [(0,_),(4,_),(5,_),(19,_)] [(0,_),(1,_),(2,_),(101,_)] ?_
  refine W.cond_t rfl ?_
  refine W.rg (SL.a (E.fo (W.ret ?_)))
  refine E.inr ?_
  refine E.thr ?_
  refine E.f1 [(3, 2), (4, 1)] ?_ ?_
  ·rw [(ren_e26 (s := s) (x := x)  (fun z => z hx) (fun z => z hp) hbq).1]; rfl
  · rw [(ren_e26 (s := s) (x := x)  (fun z => z hx) (fun z => z hp) hbq).2]; exact SubS.v3
 refine W.region (SL.o ?_)
 refine SL.v (O.fr 1 0 u38) ?_
 refine SL.v (O.l1 u3) ?_
 refine SL.cl [(0, 0), (1, 1), (2, 2)] [] (.u _) ((0, .cells _ [.u _, .own 1, .own 2]) :: (1, .data _ _ _) :: (2, .data _ _ _) :: _) (q := copy_n xA hx)  (h := ?_)
 refine SL.a (E.fo (W.seq (W.block (W.rg (SL.o ?_)))))
 refine SL.v (O.det (fun _ => G.R.ptrnil (p := none) rfl rfl xG) rfl Taken.no) ?_
 refine SL.a (E.fo ?_)
 refine W.cond_t rfl ?_
 refine W.rg (SL.a (E.fo (W.ret ?_)))
 refine E.inr ?_
 refine E.thr ?_
 refine E.f1 [(3, 2), (4, 1)] ?_ ?_
 ·rw [(ren_e9 (s := s) (x := x)  hx).1]; rfl
 · rw [(ren_e9 (s := s) (x := x)  hx).2]; exact SubS.v3

end Go.Proofs.YtmekkjehkcjpdaaGreat
end
section
namespace Go.Proofs.YtmekkjehkcjpdaaGreat
open Go Go.RowKit Go.H Go.D57 Go.D58

theorem hcallOk66 : G.callOk Tryz.prog 66 = true := by kernel_rfl
theorem hcallOk75 : G.callOk Tryz.prog 75 = true := by kernel_rfl

theorem ins_len {s : St} {x : Sp} : (insC s x).cps.length = s.cps.length + 1 := by
  have hk := kpos_le (key := fun c : Cp => c.id) s.cps x.copy
  simp [insC]; omega
theorem recS_now (s : St) (w : Int) : (recS s w).now = s.now := by unfold recS; split <;> rfl
theorem recS_lns (s : St) (w : Int) : (recS s w).lns = s.lns := by unfold recS; split <;> rfl
theorem cnt3_b {a b c : Nat} : (((a : Int) == 0) && (((b : Int) == 0) && ((c : Int) == 0))) = decide (a = 0 ∧ b = 0 ∧ c = 0) := by
  rw [Bool.eq_iff_iff]; simp

set_option maxRecDepth 8000 in
theorem add_m {s : St} {x : Sp} (hv : validS s) :
    Con Tryz.prog 26 [.ref 0 0, vA (eSp x)] [(0, .cells 33 [.u (uI s.now), .own 1, .own 2]), (1, .data 55 8 ((s.cps).map eCp)), (2, .data 79 2 ((s.lns).map eLn))] (vI (addE s x)) [(0, .cells 33 [.u (uI (addS s x).now), .own 4, .own 3]), (4, .data 55 8 (((addS s x).cps).map eCp)), (3, .data 79 2 (((addS s x).lns).map eLn))] := by
 have hn := hv.1
 unfold inB at hn
 have hcl := hv.2.1
 have hok := valid_ok hv
 have hid := valid_asc hv
 obtain ⟨i55, hi55, hz55, hs55, hb55⟩ := hinf55
 refine Con.en 71 Tryz.func26 fun τ w ok vs hin => ?_
 clear hin
 refine W.rg ?_
 refine SL.bx8 101 ?_
 refine SL.a (E.fo (W.seq (W.block (W.rg ?_))))
 refine SL.v (O.fr 1 0 u38) ?_
 refine SL.v (O.l1 u3) ?_
 refine SL.v (O.cp (q := id_h)) ?_
 refine SL.v (O.nt) ?_
 refine SL.o ?_
 refine SL.cs 4 false (fun hg1 => ?_) fun hg1 => ?_
 ·have hg1p := gP hg1
  refine SL.v (O.fr 2 0 u38 (tY hg1)) ?_
  refine SL.v (O.l1 u3 (tY hg1)) ?_
  refine SL.v (O.cp (q := id_h) (hg := (tY hg1))) ?_
  refine SL.v (O.nt (tY hg1)) ?_
  refine SL.v (O.pf hg1) ?_
  refine SL.a (E.fo ?_)
  refine W.cc rfl (fun hc2 => ?_) fun hc2 => ?_
  ·have ha0 : ¬ (idB x.copy ∧ idB x.work) := by intro z; simp_all
   refine W.rg (SL.a (E.fo (W.ret ?_)))
   refine E.inr ?_
   refine E.thr ?_
   refine E.f1 [(3, 2), (4, 1)] ?_ ?_
   ·rw [(add_e2 (s := s) (x := x)  ha0).1]; rfl
   · rw [(add_e2 (s := s) (x := x)  ha0).2]; exact SubS.v3
  have ha0 : ¬ (¬ (idB x.copy ∧ idB x.work)) := by simp_all
  refine W.rg ?_
  refine SL.v (O.fr 7 0 u38) ?_
  refine SL.v (O.l1 u9) ?_
  refine SL.v (O.cp (q := name_h)) ?_
  refine SL.v (O.nt) ?_
  refine SL.a (E.fo ?_)
  refine W.cc rfl (fun hc3 => ?_) fun hc3 => ?_
  ·have ha1 : ¬ nmOk x.lib := by first | assumption | simp_all
   refine W.rg (SL.a (E.fo (W.ret ?_)))
   refine E.inr ?_
   refine E.thr ?_
   refine E.f1 [(3, 2), (4, 1)] ?_ ?_
   ·rw [(add_e8 (s := s) (x := x)  ha0 ha1).1]; rfl
   · rw [(add_e8 (s := s) (x := x)  ha0 ha1).2]; exact SubS.v3
  have ha1 : ¬ (¬ nmOk x.lib) := by first | assumption | simp_all
  refine W.seq ?_
  by_cases hx : 0 ≤ cpI s x.copy
  ·have hix : ixC s x.copy < s.cps.length := (idxF_lt hx).1
   refine W.region (SL.o ?_)
   refine SL.v (O.fr 1 0 u38) ?_
   refine SL.v (O.l1 u3) ?_
   refine SL.cl [(0, 0), (1, 1), (2, 2)] [] (.el 1 _ _ 0) ((0, .cells _ [.u _, .own 1, .own 2]) :: (1, .data _ _ _) :: (2, .data _ _ _) :: _) (q := copy_y xA hx)  (h := ?_)
   refine SL.v (O.ptrnn (.inr (.inr ⟨_, _, _, _, rfl⟩)) rfl xG rfl Taken.no) ?_
   refine SL.a (E.fo ?_)
   refine W.pk [(0,_),(3,_),(4,_),(23,_)] [(0,_),(1,_),(2,_),(101,_)] ?_
   refine W.cond_t rfl ?_
   refine W.rg (SL.a (E.fo (W.ret ?_)))
   refine E.inr ?_
   refine E.thr ?_
   refine E.f1 [(3, 2), (4, 1)] ?_ ?_
   ·rw [(add_e10 (s := s) (x := x)  ha0 ha1 hx).1]; rfl
   · rw [(add_e10 (s := s) (x := x)  ha0 ha1 hx).2]; exact SubS.v3
  refine W.region (SL.o ?_)
  refine SL.v (O.fr 1 0 u38) ?_
  refine SL.v (O.l1 u3) ?_
  refine SL.cl [(0, 0), (1, 1), (2, 2)] [] (.u _) ((0, .cells _ [.u _, .own 1, .own 2]) :: (1, .data _ _ _) :: (2, .data _ _ _) :: _) (q := copy_n xA hx)  (h := ?_)
  refine SL.v (O.det (fun _ => G.R.ptrnn (p := none) rfl rfl xG) rfl Taken.no) ?_
  refine SL.a (E.fo ?_)
  refine W.pk [(0,_),(3,_),(4,_),(23,_)] [(0,_),(1,_),(2,_),(101,_)] ?_
  refine W.cond_f rfl ?_
  refine W.rg (SL.o ?_)
  refine SL.v (O.nc) ?_
  refine SL.v (O.fr 1 0 u33) ?_
  refine SL.v (O.l1 u30) ?_
  refine SL.v (O.lenE (SlOf.own rfl rfl) yB u30 rfl Taken.no) ?_
  refine SL.v (O.eql) ?_
  refine SL.a (E.fo ?_)
  refine W.cc rfl (fun hc4 => ?_) fun hc4 => ?_
  ·have ha4 : s.cps.length = 60 := by omega
   refine W.rg (SL.a (E.fo (W.ret ?_)))
   refine E.inr ?_
   refine E.thr ?_
   refine E.f1 [(3, 2), (4, 1)] ?_ ?_
   ·rw [(add_e20 (s := s) (x := x)  ha0 ha1 hx ha4).1]; rfl
   · rw [(add_e20 (s := s) (x := x)  ha0 ha1 hx ha4).2]; exact SubS.v3
  have ha4 : ¬ (s.cps.length = 60) := by omega
  refine W.skip (E.inn (E.to (W.seq ?_)))
  refine W.dr [pW 0, pW 0, pW 0, ⟨[0], [], [], [1]⟩, pW 101, pX 101, pX 1, pO, pO, pO, pO, pO] ?_
  have hkp := kpos_le (key := fun c : Cp => c.id) s.cps x.copy
  have hil := ins_len (s := s) (x := x)
  refine WH.o rfl ?_
  refine WH.v (O.nc) ?_
  refine WH.v (O.fr 1 0 u33) ?_
  refine WH.v (O.l1 u30) ?_
  refine WH.v (O.fr 1 0 u38) ?_
  refine WH.v (O.l1 u3) ?_
  refine WH.cl [] [1] (.tup [.u _, .u _]) _ (q := bsCopy_h (f := 66) (caps := []) (q := s.cps) (h := x.copy) hcallOk66 (fun c => add1_h) hid xA)  (fl := .inr ⟨rfl, fun x hx => by simp at hx⟩) (h := ?_)
  refine WH.o rfl ?_
  refine WH.v (O.ex) ?_
  refine WH.v (O.ex) ?_
  refine WH.v (O.as1) ?_
  refine WH.v (O.as1) ?_
  refine WH.nil (E.to (W.seq ?_))
  refine W.dr [pW 0, pW 0, pW 0, pW 0, ⟨[0], [], [], [1]⟩, pO, pW 101, pX 101, pW 101, pX 101, pW 101, pX 101, pO, ⟨[102], [102], [102], []⟩, ⟨[1, 102, 103], [1, 102, 103], [103], []⟩, pW 0, pW 0, ⟨[0, 2, 103], [0], [], []⟩] ?_
  refine WH.o rfl (WH.o rfl ?_)
  refine WH.v (O.nc) ?_
  refine WH.v (O.fr 1 0 u33) ?_
  refine WH.v (O.l1 u30) ?_
  refine WH.o rfl ?_
  refine WH.v (O.fr 1 0 u38) ?_
  refine WH.v (O.l1 u3) ?_
  refine WH.v (O.fr 2 0 u38) ?_
  refine WH.v (O.l1 u3) ?_
  refine WH.v (O.fr 7 0 u38) ?_
  refine WH.v (O.l1 u9) ?_
  refine WH.v (O.bd2 u55) ?_
  refine WH.memS (O.buildSlice 102 (rows := [eCp (newC x)]) rfl rfl u30 hi55 hz55 hs55 xI rfl xI rfl rfl rfl Taken.no) rfl rfl rfl rfl rfl (S' := (102, .data 55 8 ([eCp (newC x)])) :: _) rfl ?_
  refine WH.cl [(0, 1), (1, 102), (2, 103)] [] (.own 103) ((103, .data _ _ _) :: (1, .dead) :: (102, .dead) :: _) (q := insertC (ks := s.cps) (k := newC x) rfl (i := (kpos (fun c : Cp => c.id) s.cps x.copy)) hkp xA)  (h := ?_)
  refine WH.v (O.nc) ?_
  refine WH.v (O.fr 1 0 u33) ?_
  refine WH.st1_3 0 ?_
  refine WH.nil (E.to ?_)
  refine W.pk [(0,_),(4,_),(5,_)] [(0,_),(2,_),(101,_),(103,_)] ?_
  refine W.rg (SL.o (SL.o ?_))
  refine SL.v (O.nc) ?_
  refine SL.v (O.fr 1 0 u33) ?_
  refine SL.v (O.l1 u30) ?_
  refine SL.o ?_
  refine SL.v (O.idx_own (i := (kpos (fun c : Cp => c.id) s.cps x.copy)) rfl rfl rfl (rfl) (by rw [List.length_map]; show _ < (insC s x).cps.length; omega) u30 hi55 hs55 rfl Taken.no) ?_
  refine SL.cl [(0, 0), (1, 103), (2, 2), (3, 104)] [] (.tup []) ((0, .cells _ [.u _, .own 103, .own 104]) :: (103, .data _ _ _) :: (104, .data _ _ _) :: (2, .dead) :: _) (q := free_h (s := insC s x) (i := (kpos (fun c : Cp => c.id) s.cps x.copy)) (n := 60) xA hn hok xA)  (h := ?_)
  refine E.fo (W.rg (SL.a (E.fo (W.ret ?_))))
  refine E.f1 [(3, 104), (4, 103)] ?_ ?_
  ·rw [(add_e0 (s := s) (x := x)  ha0 ha1 hx ha4).1]; rfl
  · rw [(add_e0 (s := s) (x := x)  ha0 ha1 hx ha4).2]; exact SubS.v3
 have hg1p := gP hg1
 have ha0 : ¬ (idB x.copy ∧ idB x.work) := by intro z; simp_all
 refine SL.k hg1 (SL.k hg1 (SL.k hg1 (SL.k hg1 ?_)))
 refine SL.v (O.pt (G.ne_f hg1)) ?_
 refine SL.a (E.fo ?_)
 refine W.cond_t rfl ?_
 refine W.rg (SL.a (E.fo (W.ret ?_)))
 refine E.inr ?_
 refine E.thr ?_
 refine E.f1 [(3, 2), (4, 1)] ?_ ?_
 ·rw [(add_e2 (s := s) (x := x)  ha0).1]; rfl
 · rw [(add_e2 (s := s) (x := x)  ha0).2]; exact SubS.v3

set_option maxRecDepth 8000 in
theorem wait_m {s : St} {x : Sp} (hv : validS s) :
    Con Tryz.prog 33 [.ref 0 0, vA (eSp x)] [(0, .cells 33 [.u (uI s.now), .own 1, .own 2]), (1, .data 55 8 ((s.cps).map eCp)), (2, .data 79 2 ((s.lns).map eLn))] (vI (waiE s x)) [(0, .cells 33 [.u (uI (waiS s x).now), .own 4, .own 3]), (4, .data 55 8 (((waiS s x).cps).map eCp)), (3, .data 79 2 (((waiS s x).lns).map eLn))] := by
 have hn := hv.1
 unfold inB at hn
 have hcl := hv.2.1
 have hok := valid_ok hv
 have hid := valid_asc hv
 obtain ⟨i55, hi55, hz55, hs55, hb55⟩ := hinf55
 refine Con.en 64 Tryz.func33 fun τ w ok vs hin => ?_
 clear hin
 refine W.rg ?_
 refine SL.bx8 101 ?_
 refine SL.a (E.fo (W.seq (W.block (W.rg ?_))))
 refine SL.v (O.fr 6 0 u38) ?_
 refine SL.v (O.l1 u3) ?_
 refine SL.v (O.cp (q := in_h)) ?_
 refine SL.v (O.nt) ?_
 refine SL.a (E.fo ?_)
 refine W.cc rfl (fun hc1 => ?_) fun hc1 => ?_
 ·have hw0 : ¬ inB x.days 1 1000 := by first | assumption | simp_all
  refine W.rg (SL.a (E.fo (W.ret ?_)))
  refine E.inr ?_
  refine E.thr ?_
  refine E.f1 [(3, 2), (4, 1)] ?_ ?_
  ·rw [(wai_e2 (s := s) (x := x)  hw0).1]; rfl
  · rw [(wai_e2 (s := s) (x := x)  hw0).2]; exact SubS.v3
 have hw0 : ¬ (¬ inB x.days 1 1000) := by first | assumption | simp_all
 have hd : 1 ≤ x.days ∧ x.days ≤ 1000 := Decidable.not_not.1 hw0
 refine W.seq ?_
 refine W.dr [pW 0, pW 0, pW 0, pX 0, pW 101, pX 101, pO, pO, pO] ?_
 refine WH.o rfl ?_
 refine WH.v (O.nc) ?_
 refine WH.v (O.fr 0 0 u33) ?_
 refine WH.v (O.l1 u3) ?_
 refine WH.v (O.fr 6 0 u38) ?_
 refine WH.v (O.l1 u3) ?_
 refine WH.v (O.ad) ?_
 refine WH.v (O.gtr) ?_
 refine WH.v (O.as1) ?_
 refine WH.nil (E.to ?_)
 refine W.cc rfl (fun hc2 => ?_) fun hc2 => ?_
 ·have hw1 : 1000000 < s.now + x.days := by omega
  refine W.rg (SL.a (E.fo (W.ret ?_)))
  refine E.inr ?_
  refine E.thr ?_
  refine E.f1 [(3, 2), (4, 1)] ?_ ?_
  ·rw [(wai_e25 (s := s) (x := x)  hw0 hw1).1]; rfl
  · rw [(wai_e25 (s := s) (x := x)  hw0 hw1).2]; exact SubS.v3
 have hw1 : ¬ (1000000 < s.now + x.days) := by omega
 refine W.skip (E.inn (E.to (W.seq ?_)))
 refine W.dr [pW 0, pW 0, pW 0, pX 0, pW 101, pX 101, pO, pW 0, pW 0, ⟨[0, 1, 2], [0], [], []⟩] ?_
 refine WH.o rfl ?_
 refine WH.v (O.nc) ?_
 refine WH.v (O.fr 0 0 u33) ?_
 refine WH.v (O.l1 u3) ?_
 refine WH.v (O.fr 6 0 u38) ?_
 refine WH.v (O.l1 u3) ?_
 refine WH.v (O.ad) ?_
 refine WH.v (O.nc) ?_
 refine WH.v (O.fr 0 0 u33) ?_
 refine WH.st1_3 0 ?_
 refine WH.nil (E.to ?_)
 refine W.pk [(0,_),(4,_)] [(0,_),(1,_),(2,_),(101,_)] ?_
 refine W.seq (W.rg (SL.o ?_))
 refine SL.v (O.nc) ?_
 refine SL.v (O.fr 1 0 u33) ?_
 refine SL.v (O.l1 u30) ?_
 refine SL.v (O.lenE (SlOf.own rfl rfl) yB u30 rfl Taken.no) ?_
 refine SL.o (E.fo (W.block ?_))
 refine W.lq (fun (k : Nat) => [(35, vI (k : Int))]) (fun (k : Nat) => [(102, .data 55 8 ((lateS (⟨s.now + x.days, s.cps, s.lns⟩ : St) k).cps.map eCp)), (103, .data 79 2 ((lateS (⟨s.now + x.days, s.cps, s.lns⟩ : St) k).lns.map eLn)), (0, .cells 33 [vI (lateS (⟨s.now + x.days, s.cps, s.lns⟩ : St) k).now, .own 102, .own 103])]) (fun (k : Nat) => k ≤ s.cps.length) (fun (k : Nat) => s.cps.length - k) (0) [(102, 1), (103, 2)] [(0, _), (4, _), (34, _)] [(101, _)] ?_ ?_
 ·omega
 intro k hinv
 have hk := hinv
 have hll : (lateS (⟨s.now + x.days, s.cps, s.lns⟩ : St) k).cps.length = s.cps.length := late_len _ _
 have hln : (lateS (⟨s.now + x.days, s.cps, s.lns⟩ : St) k).now = s.now + x.days := late_now _ _
 have hlo := late_ok (s := (⟨s.now + x.days, s.cps, s.lns⟩ : St)) hok k
 refine W.rg ?_
 refine SL.v (O.lss) ?_
 refine E.fo (W.seq ?_)
 refine W.cc rfl (fun hc3 => ?_) fun hc3 => ?_
 ·refine W.skip (E.to (W.seq (W.block (W.rg (SL.o (SL.a (E.fo (W.rg (SL.o ?_)))))))))
  refine SL.v (O.nc) ?_
  refine SL.v (O.fr 1 0 u33) ?_
  refine SL.v (O.l1 u30) ?_
  refine SL.o ?_
  refine SL.v (O.idx_own (i := k) rfl rfl rfl (rfl) xS u30 hi55 hs55 rfl Taken.no) ?_
  refine SL.a (E.fo (W.seq ?_))
  refine W.dr [pW 102, pW 102, pW 102, pX 102, pO, pO, pW 102, pW 102, pW 102, pX 102, pW 0, pW 0, pW 0, pX 0, pO, pO] ?_
  refine WH.o rfl ?_
  refine WH.v (O.nc) ?_
  refine WH.v (O.fe 3 0 u55) ?_
  refine WH.v (O.ld1 (PtI.ofU (PtU.el rfl rfl (row_get xA))) rfl u3 rfl rfl Taken.no) ?_
  refine WH.v (O.eql) ?_
  refine WH.o rfl ?_
  refine WH.cs 5 true (fun hg4 => ?_) fun hg4 => ?_
  ·have hg4p := gP hg4
   refine WH.v (O.mo (tY hg4)) ?_
   refine WH.v (O.nc (tY hg4)) ?_
   refine WH.v (O.fe 5 0 u55 (tY hg4)) ?_
   refine WH.v (O.ld1 (PtI.ofU (PtU.el rfl rfl (row_get xA))) rfl u3 rfl rfl (Taken.yes rfl rfl hg4)) ?_
   refine WH.v (O.mo (tY hg4)) ?_
   refine WH.v (O.nc (tY hg4)) ?_
   refine WH.v (O.fr 0 0 u33 (tY hg4)) ?_
   refine WH.v (O.l1 u3 (tY hg4)) ?_
   refine WH.v (O.lss (tY hg4)) ?_
   refine WH.v (O.pt hg4) ?_
   refine WH.nil (E.to ?_)
   refine W.pk [(0,_),(4,_),(6,_),(34,_),(35,_),(59,_)] [(0,_),(101,_),(102,_),(103,_)] ?_
   refine W.cc rfl (fun hc5 => ?_) fun hc5 => ?_
   ·have hla : lateC (lateS (⟨s.now + x.days, s.cps, s.lns⟩ : St) k) k = true := decide_eq_true ⟨xA, xA⟩
    refine W.region (SL.o (SL.o ?_))
    refine SL.cl [(0, 0), (1, 102), (2, 103), (3, 104)] [] (.tup []) ((0, .cells _ [.u _, .own 102, .own 104]) :: (102, .data _ _ _) :: (104, .data _ _ _) :: (103, .dead) :: _) (q := free_h (s := (lateS (⟨s.now + x.days, s.cps, s.lns⟩ : St) k)) (i := k) (n := 60 + k) xA xA hlo xA)  (h := ?_)
    refine SL.nil (E.inn (E.to (W.region ?_)))
    refine SL.v (O.ad) ?_
    refine SL.o (SL.nil ?_)
    refine E.ag (k + 1) [(103, 104)] ?_ ?_ ?_ ?_
    · exact zH
    · exact yH
    ·try dsimp only
     omega
    · exact xT
   have hla : ¬ lateC (lateS (⟨s.now + x.days, s.cps, s.lns⟩ : St) k) k = true := fun z => by have := of_decide_eq_true z; omega
   refine W.skip (E.inn (E.to (W.region ?_)))
   refine SL.v (O.ad) ?_
   refine SL.o (SL.nil ?_)
   refine E.ag (k + 1) [] ?_ ?_ ?_ ?_
   · exact zH
   · exact yH
   ·try dsimp only
    omega
   · exact xT
  have hg4p := gP hg4
  have hla : ¬ lateC (lateS (⟨s.now + x.days, s.cps, s.lns⟩ : St) k) k = true := fun z => by have := (of_decide_eq_true z).1; omega
  refine WH.k hg4 (WH.k hg4 (WH.k hg4 (WH.k hg4 (WH.k hg4 (WH.k hg4 (WH.k hg4 (WH.k hg4 (WH.k hg4 ?_))))))))
  refine WH.v (O.pf (G.ne_t hg4)) ?_
  refine WH.nil (E.to ?_)
  refine W.pk [(0,_),(4,_),(6,_),(34,_),(35,_),(59,_)] [(0,_),(101,_),(102,_),(103,_)] ?_
  refine W.cond_f rfl ?_
  refine W.skip (E.inn (E.to (W.region ?_)))
  refine SL.v (O.ad) ?_
  refine SL.o (SL.nil ?_)
  refine E.ag (k + 1) [] ?_ ?_ ?_ ?_
  · exact zH
  · exact yH
  ·try dsimp only
   omega
  · exact xT
 refine W.exit (E.th (E.th (E.hit (E.to (W.rg (SL.a (E.fo (W.ret ?_))))))))
 refine E.f1 [(3, 103), (4, 102)] ?_ ?_
 ·rw [(wai_e0 (s := s) (x := x)  hw0 hw1).1]; rfl
 · rw [(wai_e0 (s := s) (x := x)  hw0 hw1).2, show s.cps.length = k by omega]; exact SubS.v3

set_option maxRecDepth 8000 in
theorem cancel_m {s : St} {x : Sp} (hv : validS s) :
    Con Tryz.prog 32 [.ref 0 0, vA (eSp x)] [(0, .cells 33 [.u (uI s.now), .own 1, .own 2]), (1, .data 55 8 ((s.cps).map eCp)), (2, .data 79 2 ((s.lns).map eLn))] (vI (clcE s x)) [(0, .cells 33 [.u (uI (clcS s x).now), .own 4, .own 3]), (4, .data 55 8 (((clcS s x).cps).map eCp)), (3, .data 79 2 (((clcS s x).lns).map eLn))] := by
 have hn := hv.1
 unfold inB at hn
 have hcl := hv.2.1
 have hok := valid_ok hv
 have hid := valid_asc hv
 obtain ⟨i55, hi55, hz55, hs55, hb55⟩ := hinf55
 obtain ⟨i79, hi79, hz79, hs79, hb79⟩ := hinf79
 refine Con.en 68 Tryz.func32 fun τ w ok vs hin => ?_
 clear hin
 refine W.rg ?_
 refine SL.bx8 101 ?_
 refine SL.a (E.fo (W.seq (W.rg (SL.o ?_))))
 refine SL.v (O.nc) ?_
 refine SL.v (O.fr 1 0 u33) ?_
 refine SL.v (O.l1 u30) ?_
 refine SL.v (O.lenE (SlOf.own rfl rfl) yB u30 rfl Taken.no) ?_
 refine SL.o (E.fo (W.block ?_))
 refine W.lq (fun (k : Nat) => [(16, vI (k : Int))]) (fun (k : Nat) => []) (fun (k : Nat) => k ≤ s.cps.length ∧ ∀ j, j < k → (fun c : Cp => decide (c.place = 3 ∧ c.hold = x.hold)) s.cps[j]! = false) (fun (k : Nat) => s.cps.length - k) (0) [] [(0, _), (3, _), (15, _)] [(0, _), (1, _), (2, _), (101, _)] ?_ ?_
 ·exact yG
 intro k hinv
 obtain ⟨hk, hp⟩ := hinv
 refine W.rg ?_
 refine SL.v (O.lss) ?_
 refine E.fo (W.seq ?_)
 refine W.cc rfl (fun hc1 => ?_) fun hc1 => ?_
 ·refine W.skip (E.to (W.seq (W.block (W.rg (SL.o (SL.a (E.fo (W.rg (SL.o ?_)))))))))
  refine SL.v (O.nc) ?_
  refine SL.v (O.fr 1 0 u33) ?_
  refine SL.v (O.l1 u30) ?_
  refine SL.o ?_
  refine SL.v (O.idx_own (i := k) rfl rfl rfl (rfl) xS u30 hi55 hs55 rfl Taken.no) ?_
  refine SL.a (E.fo (W.seq ?_))
  refine W.dr [pW 1, pW 1, pW 1, pX 1, pO, pO, pW 1, pW 1, pW 1, pX 1, pW 101, pX 101, pO, pO] ?_
  refine WH.o rfl ?_
  refine WH.v (O.nc) ?_
  refine WH.v (O.fe 3 0 u55) ?_
  refine WH.v (O.ld1 (PtI.ofU (PtU.el rfl rfl (row_get xA))) rfl u3 rfl rfl Taken.no) ?_
  refine WH.v (O.eql) ?_
  refine WH.o rfl ?_
  refine WH.cs 5 true (fun hg2 => ?_) fun hg2 => ?_
  ·have hg2p := gP hg2
   refine WH.v (O.mo (tY hg2)) ?_
   refine WH.v (O.nc (tY hg2)) ?_
   refine WH.v (O.fe 6 0 u55 (tY hg2)) ?_
   refine WH.v (O.ld1 (PtI.ofU (PtU.el rfl rfl (row_get xA))) rfl u3 rfl rfl (Taken.yes rfl rfl hg2)) ?_
   refine WH.v (O.fr 4 0 u38 (tY hg2)) ?_
   refine WH.v (O.l1 u3 (tY hg2)) ?_
   refine WH.v (O.eql (tY hg2)) ?_
   refine WH.v (O.pt hg2) ?_
   refine WH.nil (E.to ?_)
   refine W.pk [(0,_),(3,_),(6,_),(15,_),(16,_),(38,_)] [(0,_),(1,_),(2,_),(101,_)] ?_
   refine W.cc rfl (fun hc3 => ?_) fun hc3 => ?_
   ·have hwk : wtI s x.hold = (k : Int) := idxF_here (p := (fun c : Cp => decide (c.place = 3 ∧ c.hold = x.hold))) xA hp (decide_eq_true ⟨xA, xA⟩)
    have hwt : (wtI s x.hold).toNat = k := by omega
    refine W.rg (SL.o (SL.o ?_))
    refine SL.cl [(0, 0), (1, 1), (2, 2), (3, 102)] [] (.tup []) ((0, .cells _ [.u _, .own 1, .own 102]) :: (1, .data _ _ _) :: (102, .data _ _ _) :: (2, .dead) :: _) (q := free_h (s := s) (i := k) (n := 60) xA xA hok xA)  (h := ?_)
    refine E.fo (W.rg (SL.a (E.fo (W.ret ?_))))
    refine E.inr ?_
    refine E.thr (E.thr ?_)
    refine E.inr ?_
    refine E.thr ?_
    refine E.f1 [(3, 102), (4, 1)] ?_ ?_
    ·rw [(clc_w (s := s) (x := x)  xA).1]; rfl
    · rw [(clc_w (s := s) (x := x)  xA).2, hwt]; exact SubS.v3
   refine W.skip (E.inn (E.to (W.region ?_)))
   refine SL.v (O.ad) ?_
   refine SL.o (SL.nil ?_)
   refine E.ai (k + 1) [] ?_
   ·try dsimp only
    exact yZ
  have hg2p := gP hg2
  refine WH.k hg2 (WH.k hg2 (WH.k hg2 (WH.k hg2 (WH.k hg2 (WH.k hg2 (WH.k hg2 ?_))))))
  refine WH.v (O.pf (G.ne_t hg2)) ?_
  refine WH.nil (E.to ?_)
  refine W.pk [(0,_),(3,_),(6,_),(15,_),(16,_),(38,_)] [(0,_),(1,_),(2,_),(101,_)] ?_
  refine W.cond_f rfl ?_
  refine W.skip (E.inn (E.to (W.region ?_)))
  refine SL.v (O.ad) ?_
  refine SL.o (SL.nil ?_)
  refine E.ai (k + 1) [] ?_
  ·try dsimp only
   exact yZ
 have hnw : ¬ 0 ≤ wtI s x.hold := by have z := idxF_none (p := (fun c : Cp => decide (c.place = 3 ∧ c.hold = x.hold))) (l := s.cps) (k := k) xA hp; unfold wtI; omega
 refine W.exit (E.th (E.th (E.hit (E.to (W.seq (W.rg (SL.o ?_)))))))
 refine SL.v (O.nc) ?_
 refine SL.v (O.fr 2 0 u33) ?_
 refine SL.v (O.l1 u31) ?_
 refine SL.v (O.lenE (SlOf.own rfl rfl) yB u31 rfl Taken.no) ?_
 refine SL.o (E.fo (W.block ?_))
 refine W.lq (fun (i : Nat) => [(48, vI (i : Int))]) (fun (i : Nat) => []) (fun (i : Nat) => i ≤ s.lns.length ∧ ∀ j, j < i → (fun l : Ln => decide (canE l.q x.hold = 0)) s.lns[j]! = false) (fun (i : Nat) => s.lns.length - i) (0) [] [(0, _), (3, _), (46, _), (47, _)] [(0, _), (1, _), (2, _), (101, _)] ?_ ?_
 ·exact yG
 intro i hinv
 obtain ⟨hi, hq⟩ := hinv
 have hl60 := hok.2.1
 refine W.rg ?_
 refine SL.v (O.lss) ?_
 refine E.fo (W.seq ?_)
 refine W.cc rfl (fun hc4 => ?_) fun hc4 => ?_
 ·refine W.skip (E.to (W.seq (W.block (W.rg ?_))))
  refine SL.v (O.idx_own (i := i) rfl rfl rfl (rfl) xS u31 hi79 hs79 rfl Taken.no) ?_
  refine SL.v (O.ldU (m := 2) (PtU.el rfl rfl (row_get xA)) rfl u79 rfl xG rfl Taken.no) ?_
  refine SL.al7 103 ?_
  refine SL.st2_2 103 ?_
  refine E.fo (W.rg ?_)
  refine SL.v (O.fr 1 0 u79) ?_
  refine SL.v (O.l1 u59) ?_
  refine SL.v (O.fr 4 0 u38) ?_
  refine SL.v (O.l1 u3) ?_
  refine SL.cl [] [] (.tup [.u _, .u _]) _ (q := holdCancel_h (q := s.lns[i]!.q) x.hold)  (h := ?_)
  refine SL.o ?_
  refine SL.v (O.ex) ?_
  refine SL.v (O.ex) ?_
  refine SL.a (SL.a (E.fo (W.rg (SL.o ?_))))
  refine SL.v (O.eql) ?_
  refine E.fo ?_
  refine W.cc rfl (fun hc5 => ?_) fun hc5 => ?_
  ·have hlk : lnI s x.hold = (i : Int) := idxF_here (p := (fun l : Ln => decide (canE l.q x.hold = 0))) xA hq (decide_eq_true xA)
   have hlt : (lnI s x.hold).toNat = i := by omega
   refine W.rg (SL.o ?_)
   refine SL.v (O.fr 0 0 u79) ?_
   refine SL.v (O.l1 u3) ?_
   refine SL.o ?_
   refine SL.cl [(0, 0), (1, 1), (2, 2), (3, 104)] [] (.tup []) ((0, .cells _ [.u _, .own 1, .own 104]) :: (1, .data _ _ _) :: (104, .data _ _ _) :: (2, .dead) :: _) (q := setQueue_h (s := s) (wk := s.lns[i]!.work) (q := canQ s.lns[i]!.q x.hold) hok.1 xA)  (h := ?_)
   refine E.fo ?_
   refine W.pk [(0,_),(3,_),(46,_),(47,_),(48,_)] [(0,_),(1,_),(101,_),(103,_),(104,_)] ?_
   refine W.rg (SL.a (E.fo (W.ret ?_)))
   refine E.inr ?_
   refine E.thr (E.thr ?_)
   refine E.inr ?_
   refine E.thr ?_
   refine E.f1 [(3, 104), (4, 1)] ?_ ?_
   ·rw [(clc_l (s := s) (x := x)  hnw xA).1]; rfl
   · rw [(clc_l (s := s) (x := x)  hnw xA).2, hlt]; exact SubS.v3
  refine W.skip (E.inn (E.to (W.region ?_)))
  refine SL.v (O.ad) ?_
  refine SL.o (SL.nil ?_)
  refine E.ai (i + 1) [] ?_
  ·try dsimp only
   exact ⟨xA, upto_s hq (decide_eq_false xA)⟩
 have hnl : ¬ 0 ≤ lnI s x.hold := by have z := idxF_none (p := (fun l : Ln => decide (canE l.q x.hold = 0))) (l := s.lns) (k := i) xA hq; unfold lnI; omega
 refine W.exit (E.th (E.th (E.hit (E.to (W.rg (SL.a (E.fo (W.ret ?_))))))))
 refine E.f1 [(3, 2), (4, 1)] ?_ ?_
 ·rw [(clc_n (s := s) (x := x)  hnw hnl).1]; rfl
 · rw [(clc_n (s := s) (x := x)  hnw hnl).2]; exact SubS.v3

set_option maxRecDepth 8000 in
theorem ask1_h {h : Hd} {x : Sp} :
    Con Tryz.prog 75 [vA (eH h), .u (.ptr (eSp x))] [] (vB (decide (h.pat = x.pat))) [] := by
 refine Con.en 9 Tryz.func75 fun τ w ok vs hin => ?_
 clear hin
 refine W.rg ?_
 refine SL.bx5 101 ?_
 refine SL.a (E.fo (W.rg ?_))
 refine SL.v (O.fr 1 0 u96) ?_
 refine SL.v (O.l1 u3) ?_
 refine SL.v (O.ff 0 u38) ?_
 refine SL.v (O.l1f u3) ?_
 refine SL.v (O.eql) ?_
 refine SL.a (E.fo (W.ret ?_))
 refine E.h1 [] ?_
 ·rfl

set_option maxRecDepth 8000 in
theorem ask_m {s : St} {x : Sp} (hv : validS s) :
    Con Tryz.prog 31 [.ref 0 0, vA (eSp x)] [(0, .cells 33 [.u (uI s.now), .own 1, .own 2]), (1, .data 55 8 ((s.cps).map eCp)), (2, .data 79 2 ((s.lns).map eLn))] (vI (askE s x)) [(0, .cells 33 [.u (uI (askS s x).now), .own 4, .own 3]), (4, .data 55 8 (((askS s x).cps).map eCp)), (3, .data 79 2 (((askS s x).lns).map eLn))] := by
 have hn := hv.1
 unfold inB at hn
 have hcl := hv.2.1
 have hok := valid_ok hv
 have hid := valid_asc hv
 obtain ⟨i3, hi3, hz3, hs3, hb3⟩ := hinf3
 obtain ⟨i55, hi55, hz55, hs55, hb55⟩ := hinf55
 refine Con.en 128 Tryz.func31 fun τ w ok vs hin => ?_
 clear hin
 refine W.rg ?_
 refine SL.bx8 101 ?_
 refine SL.a (E.fo (W.seq ?_))
 refine W.dr [pW 0, pW 0, ⟨[0], [], [], [1, 2]⟩, pW 101, pX 101, ⟨[1, 2, 102], [102], [102], []⟩, pW 102] ?_
 refine WH.o rfl ?_
 refine WH.v (O.nc) ?_
 refine WH.v (O.n3 u33) ?_
 refine WH.v (O.fr 2 0 u38) ?_
 refine WH.v (O.l1 u3) ?_
 refine WH.cl [(0, 102)] [1, 2] (.own 102) ((102, .data _ _ _) :: _) (q := queueO_h (s := s) (i := x.work) (fun l hl => by have := hok.2.2 l hl; omega))  (fl := .inr ⟨rfl, fun x hx => by rw [List.mem_singleton] at hx; subst hx; exact flat_H _⟩) (h := ?_)
 refine WH.v (O.as1) ?_
 refine WH.nil (E.to (W.seq (W.block (W.rg ?_))))
 refine SL.v (O.fr 2 0 u38) ?_
 refine SL.freeze 102 rfl (F' := [(5, _)]) (⟨⟨_, rfl, rfl⟩, trivial⟩) ?_
 refine SL.v (O.l1 u3) ?_
 refine SL.v (O.cp (q := id_h)) ?_
 refine SL.v (O.nt) ?_
 refine SL.o ?_
 refine SL.cs 4 false (fun hg1 => ?_) fun hg1 => ?_
 ·have hg1p := gP hg1
  refine SL.v (O.fr 3 0 u38 (tY hg1)) ?_
  refine SL.v (O.l1 u3 (tY hg1)) ?_
  refine SL.v (O.cp (q := id_h) (hg := (tY hg1))) ?_
  refine SL.v (O.nt (tY hg1)) ?_
  refine SL.v (O.pf hg1) ?_
  refine SL.o ?_
  refine SL.cs 10 false (fun hg2 => ?_) fun hg2 => ?_
  ·have hg2p := gP hg2
   refine SL.v (O.fr 4 0 u38 (tY hg2)) ?_
   refine SL.v (O.l1 u3 (tY hg2)) ?_
   refine SL.v (O.cp (q := id_h) (hg := (tY hg2))) ?_
   refine SL.v (O.nt (tY hg2)) ?_
   refine SL.v (O.pf hg2) ?_
   refine SL.o ?_
   refine SL.cs 16 false (fun hg3 => ?_) fun hg3 => ?_
   ·have hg3p := gP hg3
    refine SL.v (O.fr 5 0 u38 (tY hg3)) ?_
    refine SL.v (O.l1 u3 (tY hg3)) ?_
    refine SL.v (O.cp (q := in_h) (hg := (tY hg3))) ?_
    refine SL.v (O.nt (tY hg3)) ?_
    refine SL.v (O.pf hg3) ?_
    refine SL.a (E.fo ?_)
    refine W.pk [(0,_),(3,_),(4,_),(5,_),(15,_)] [(0,_),(1,_),(2,_),(101,_)] ?_
    refine W.cc rfl (fun hc4 => ?_) fun hc4 => ?_
    ·have ha0 : ¬ (idB x.work ∧ idB x.pat ∧ idB x.hold ∧ inB x.cls 1 3) := by intro z; simp_all
     refine W.rg (SL.a (E.fo (W.ret ?_)))
     refine E.inr ?_
     refine E.thr ?_
     refine E.f1 [(3, 2), (4, 1)] ?_ ?_
     ·rw [(ask_e2 (s := s) (x := x)  ha0).1]; rfl
     · rw [(ask_e2 (s := s) (x := x)  ha0).2]; exact SubS.v3
    have ha0 : ¬ (¬ (idB x.work ∧ idB x.pat ∧ idB x.hold ∧ inB x.cls 1 3)) := by simp_all
    refine W.seq ?_
    refine W.dr [pW 0, pW 0, ⟨[0], [], [], [1, 2]⟩, pW 101, pX 101, pXs [1, 2], pO, pO, pO] ?_
    refine WH.o rfl ?_
    refine WH.v (O.nc) ?_
    refine WH.v (O.n3 u33) ?_
    refine WH.v (O.fr 2 0 u38) ?_
    refine WH.v (O.l1 u3) ?_
    refine WH.cl [] [1, 2] (.agg [.u _, .u _, .u _]) _ (q := count_h (s := s) (work := x.work))  (fl := .inr ⟨rfl, fun x hx => by simp at hx⟩) (h := ?_)
    refine WH.v (O.buildA (m := 1) (res := [_, _, _]) (z := .agg #[.int .i64 0, .int .i64 0, .int .i64 0]) rfl rfl u56 xG hi3 hs3 rfl rfl Taken.no) ?_
    refine WH.v (O.eqArr3 (r := (decide (cntP s.cps x.work 1 = 0 ∧ cntP s.cps x.work 2 = 0 ∧ cntP s.cps x.work 3 = 0))) (.inr rfl) (.inr rfl) u56 u3 hi3 hs3 xG (by exact cnt3_b) rfl Taken.no) ?_
    refine WH.v (O.as1) ?_
    refine WH.nil (E.to ?_)
    refine W.cc rfl (fun hc5 => ?_) fun hc5 => ?_
    ·have ha1 : cntP s.cps x.work 1 = 0 ∧ cntP s.cps x.work 2 = 0 ∧ cntP s.cps x.work 3 = 0 := by first | assumption | simp_all
     refine W.rg (SL.a (E.fo (W.ret ?_)))
     refine E.inr ?_
     refine E.thr ?_
     refine E.f1 [(3, 2), (4, 1)] ?_ ?_
     ·rw [(ask_e9 (s := s) (x := x)  ha0 ha1).1]; rfl
     · rw [(ask_e9 (s := s) (x := x)  ha0 ha1).2]; exact SubS.v3
    have ha1 : ¬ (cntP s.cps x.work 1 = 0 ∧ cntP s.cps x.work 2 = 0 ∧ cntP s.cps x.work 3 = 0) := by first | assumption | simp_all
    refine W.rg (SL.o ?_)
    refine SL.v (O.fr 4 0 u38) ?_
    refine SL.v (O.l1 u3) ?_
    refine SL.cl [(0, 0), (1, 1), (2, 2)] [] (.u _) ((0, .cells _ [.u _, .own 1, .own 2]) :: (1, .data _ _ _) :: (2, .data _ _ _) :: _) (q := used_h (s := s) (h := x.hold))  (h := ?_)
    refine SL.as (i' := vB (useB s x.hold)) 51 rfl yT ?_
    refine SL.o ?_
    refine SL.cs 4 false (fun hg6 => ?_) fun hg6 => ?_
    ·have hg6p := gP hg6
     refine SL.v (O.mo (tY hg6)) ?_
     refine SL.v (O.fr 3 0 u38 (tY hg6)) ?_
     refine SL.v (O.l1 u3 (tY hg6)) ?_
     refine SL.v (O.fr 2 0 u38 (tY hg6)) ?_
     refine SL.v (O.l1 u3 (tY hg6)) ?_
     refine SL.cl [(0, 0), (1, 1), (2, 2)] [] (.u _) ((0, .cells _ [.u _, .own 1, .own 2]) :: (1, .data _ _ _) :: (2, .data _ _ _) :: _) (q := owns_h (s := s) (p := x.pat) (wk := x.work))  (hg := tY hg6) (h := ?_)
     refine SL.as (i' := vB (decide (0 ≤ ownI s x.pat x.work))) 58 rfl yT ?_
     refine SL.v (O.pf hg6) ?_
     refine SL.o ?_
     refine SL.cs 12 false (fun hg7 => ?_) fun hg7 => ?_
     ·have hg7p := gP hg7
      refine SL.v (O.mo (tY hg7)) ?_
      refine SL.v (O.makeFunc rfl rfl rfl (Taken.yes rfl rfl hg7)) ?_
      refine SL.cl [] [101] (.u _) _ (q := containsFunc_h (q := queS s x.work) (f := 75) (caps := [.ptr (eSp x)]) (pr := fun h => decide (h.pat = x.pat)) hcallOk75 (fun h => ask1_h))  (fl := .inr ⟨rfl, fun x hx => by simp at hx⟩) (hg := tY hg7) (h := ?_)
      refine SL.as (i' := vB (decide (0 ≤ patI (queS s x.work) x.pat))) 63 rfl yT ?_
      refine SL.v (O.pf hg7) ?_
      refine SL.a (E.fo ?_)
      refine W.pk [(0,_),(3,_),(4,_),(5,_),(47,_)] [(0,_),(1,_),(2,_),(101,_)] ?_
      refine W.cc rfl (fun hc8 => ?_) fun hc8 => ?_
      ·have ha2 : useB s x.hold = true ∨ 0 ≤ ownI s x.pat x.work ∨ 0 ≤ patI (queS s x.work) x.pat := by simp_all
       refine W.rg (SL.a (E.fo (W.ret ?_)))
       refine E.inr ?_
       refine E.thr ?_
       refine E.f1 [(3, 2), (4, 1)] ?_ ?_
       ·rw [(ask_e10 (s := s) (x := x)  ha0 ha1 ha2).1]; rfl
       · rw [(ask_e10 (s := s) (x := x)  ha0 ha1 ha2).2]; exact SubS.v3
      have ha2 : ¬ (useB s x.hold = true ∨ 0 ≤ ownI s x.pat x.work ∨ 0 ≤ patI (queS s x.work) x.pat) := by simp_all
      refine W.rg (SL.o ?_)
      refine SL.v (O.le u59) ?_
      refine SL.v (O.eql) ?_
      refine SL.a (E.fo ?_)
      refine W.cc rfl (fun hc9 => ?_) fun hc9 => ?_
      ·have ha3 : (queS s x.work).length = 60 := by omega
       refine W.rg (SL.a (E.fo (W.ret ?_)))
       refine E.inr ?_
       refine E.thr ?_
       refine E.f1 [(3, 2), (4, 1)] ?_ ?_
       ·rw [(ask_e20 (s := s) (x := x)  ha0 ha1 ha2 ha3).1]; rfl
       · rw [(ask_e20 (s := s) (x := x)  ha0 ha1 ha2 ha3).2]; exact SubS.v3
      have ha3 : ¬ ((queS s x.work).length = 60) := by omega
      refine W.skip (E.inn (E.to (W.seq ?_)))
      refine W.dr [pW 101, pX 101, pW 101, pX 101, pW 101, pX 101, pW 0, pW 0, pW 0, pX 0, pO, ⟨[103], [103], [103], []⟩, ⟨[103], [103], [], []⟩] ?_
      refine WH.v (O.fr 4 0 u38) ?_
      refine WH.v (O.l1 u3) ?_
      refine WH.v (O.fr 3 0 u38) ?_
      refine WH.v (O.l1 u3) ?_
      refine WH.v (O.fr 5 0 u38) ?_
      refine WH.v (O.l1 u3) ?_
      refine WH.o rfl ?_
      refine WH.v (O.nc) ?_
      refine WH.v (O.fr 0 0 u33) ?_
      refine WH.v (O.l1 u3) ?_
      refine WH.v (O.bd1 u96) ?_
      refine WH.al1 103 ?_
      refine WH.st5_5 103 ?_
      refine WH.nil (E.to (W.seq (W.rg (SL.o ?_))))
      refine SL.v (O.nc) ?_
      refine SL.v (O.fr 1 0 u33) ?_
      refine SL.v (O.l1 u30) ?_
      refine SL.v (O.lenE (SlOf.own rfl rfl) yB u30 rfl Taken.no) ?_
      refine SL.o (E.fo ?_)
      refine W.pk [(0,_),(3,_),(4,_),(5,_),(6,_),(84,_),(85,_)] [(0,_),(1,_),(2,_),(101,_),(103,_)] ?_
      refine W.block ?_
      refine W.lq (fun (k : Nat) => [(85, vI (k : Int))]) (fun (k : Nat) => []) (fun (k : Nat) => k ≤ s.cps.length ∧ ∀ j, j < k → (fun c : Cp => decide (c.work = x.work ∧ c.place = 1)) s.cps[j]! = false) (fun (k : Nat) => s.cps.length - k) (0) [] [(0, _), (3, _), (5, _), (6, _), (84, _)] [(0, _), (1, _), (2, _), (101, _), (103, _)] ?_ ?_
      ·exact yG
      intro k hinv
      obtain ⟨hk, hp⟩ := hinv
      refine W.rg ?_
      refine SL.v (O.lss) ?_
      refine E.fo (W.seq ?_)
      refine W.cc rfl (fun hc10 => ?_) fun hc10 => ?_
      ·refine W.skip (E.to (W.seq (W.block (W.rg (SL.o (SL.a (E.fo (W.rg (SL.o ?_)))))))))
       refine SL.v (O.nc) ?_
       refine SL.v (O.fr 1 0 u33) ?_
       refine SL.v (O.l1 u30) ?_
       refine SL.o ?_
       refine SL.v (O.idx_own (i := k) rfl rfl rfl (rfl) xS u30 hi55 hs55 rfl Taken.no) ?_
       refine SL.a (E.fo (W.seq ?_))
       refine W.dr [pW 1, pW 1, pW 1, pX 1, pW 101, pX 101, pO, pO, pW 1, pW 1, pW 1, pX 1, pO, pO] ?_
       refine WH.o rfl ?_
       refine WH.v (O.nc) ?_
       refine WH.v (O.fe 1 0 u55) ?_
       refine WH.v (O.ld1 (PtI.ofU (PtU.el rfl rfl (row_get xA))) rfl u3 rfl rfl Taken.no) ?_
       refine WH.v (O.fr 2 0 u38) ?_
       refine WH.v (O.l1 u3) ?_
       refine WH.v (O.eql) ?_
       refine WH.o rfl ?_
       refine WH.cs 7 true (fun hg11 => ?_) fun hg11 => ?_
       ·have hg11p := gP hg11
        refine WH.v (O.mo (tY hg11)) ?_
        refine WH.v (O.nc (tY hg11)) ?_
        refine WH.v (O.fe 3 0 u55 (tY hg11)) ?_
        refine WH.v (O.ld1 (PtI.ofU (PtU.el rfl rfl (row_get xA))) rfl u3 rfl rfl (Taken.yes rfl rfl hg11)) ?_
        refine WH.v (O.eql (tY hg11)) ?_
        refine WH.v (O.pt hg11) ?_
        refine WH.nil (E.to ?_)
        refine W.pk [(0,_),(3,_),(5,_),(6,_),(8,_),(84,_),(85,_),(107,_)] [(0,_),(1,_),(2,_),(101,_),(103,_)] ?_
        refine W.cc rfl (fun hc12 => ?_) fun hc12 => ?_
        ·have hsk : shlI s x.work = (k : Int) := idxF_here (p := (fun c : Cp => decide (c.work = x.work ∧ c.place = 1))) xA hp (decide_eq_true ⟨xA, xA⟩)
         have hst : (shlI s x.work).toNat = k := by omega
         refine W.rg (SL.o (SL.o ?_))
         refine SL.v (O.n5 u96) ?_
         refine SL.cl [(0, 0), (1, 1), (2, 2)] [] (.tup []) ((0, .cells _ [.u _, .own 1, .own 2]) :: (1, .data _ _ _) :: (2, .data _ _ _) :: _) (q := waits_h (s := s) (i := k) (h := hldX s x) xA hn)  (h := ?_)
         refine E.fo (W.rg (SL.a (E.fo (W.ret ?_))))
         refine E.inr ?_
         refine E.thr (E.thr ?_)
         refine E.inr ?_
         refine E.thr ?_
         refine E.f1 [(3, 2), (4, 1)] ?_ ?_
         ·rw [(ask_e0 (s := s) (x := x)  ha0 ha1 ha2 ha3).1]; rfl
         · rw [(ask_e0 (s := s) (x := x)  ha0 ha1 ha2 ha3).2, if_pos xA, hst]; exact SubS.v3
        refine W.skip (E.inn (E.to (W.region ?_)))
        refine SL.v (O.ad) ?_
        refine SL.o (SL.nil ?_)
        refine E.ai (k + 1) [] ?_
        ·try dsimp only
         exact yZ
       have hg11p := gP hg11
       refine WH.k hg11 (WH.k hg11 (WH.k hg11 (WH.k hg11 (WH.k hg11 ?_))))
       refine WH.v (O.pf (G.ne_t hg11)) ?_
       refine WH.nil (E.to ?_)
       refine W.pk [(0,_),(3,_),(5,_),(6,_),(8,_),(84,_),(85,_),(107,_)] [(0,_),(1,_),(2,_),(101,_),(103,_)] ?_
       refine W.cond_f rfl ?_
       refine W.skip (E.inn (E.to (W.region ?_)))
       refine SL.v (O.ad) ?_
       refine SL.o (SL.nil ?_)
       refine E.ai (k + 1) [] ?_
       ·try dsimp only
        exact yZ
      have hns : ¬ 0 ≤ shlI s x.work := by have z := idxF_none (p := (fun c : Cp => decide (c.work = x.work ∧ c.place = 1))) (l := s.cps) (k := k) xA hp; unfold shlI; omega
      refine W.exit (E.th (E.th (E.hit (E.to (W.rg (SL.o ?_))))))
      refine SL.v (O.n5 u96) ?_
      refine SL.cl [] [] (.tup [.u _, .u _]) _ (q := holdPut_h (q := queS s x.work) (h := hldX s x))  (h := ?_)
      refine SL.o ?_
      refine SL.v (O.ex) ?_
      refine SL.v (O.ex) ?_
      refine SL.a (E.fo (W.rg (SL.o ?_)))
      refine SL.v (O.fr 2 0 u38) ?_
      refine SL.v (O.l1 u3) ?_
      refine SL.o ?_
      refine SL.cl [(0, 0), (1, 1), (2, 2), (3, 104)] [] (.tup []) ((0, .cells _ [.u _, .own 1, .own 104]) :: (1, .data _ _ _) :: (104, .data _ _ _) :: (2, .dead) :: _) (q := setQueue_h (s := s) (wk := x.work) (q := putQ (queS s x.work) (hldX s x)) hok.1 (by have := hok.2.1; omega))  (h := ?_)
      refine E.fo (W.rg (SL.o ?_))
      refine SL.v (O.fr 2 0 u38) ?_
      refine SL.v (O.l1 u3) ?_
      refine SL.cl [(0, 0), (1, 1), (2, 104)] [] (.tup []) ((0, .cells _ [.u _, .own 1, .own 104]) :: (1, .data _ _ _) :: (104, .data _ _ _) :: _) (q := recall_h (s := putS s x) (wk := x.work) hn (show s.cps.length ≤ 1000000 by omega))  (h := ?_)
      refine E.fo (W.rg (SL.a (E.fo (W.ret ?_))))
      refine E.f1 [(3, 104), (4, 1)] ?_ ?_
      ·rw [(ask_e0 (s := s) (x := x)  ha0 ha1 ha2 ha3).1]; rfl
      · exact (SubS.val rfl (by rw [(ask_e0 (s := s) (x := x)  ha0 ha1 ha2 ha3).2, if_neg hns, recS_now] <;> rfl) (SubS.val rfl (by exact sb_data (by rw [(ask_e0 (s := s) (x := x)  ha0 ha1 ha2 ha3).2, if_neg hns] <;> rfl)) (SubS.val rfl (by exact sb_data (by rw [(ask_e0 (s := s) (x := x)  ha0 ha1 ha2 ha3).2, if_neg hns, recS_lns] <;> rfl)) SubS.nil)))
     have hg7p := gP hg7
     have ha2 : useB s x.hold = true ∨ 0 ≤ ownI s x.pat x.work ∨ 0 ≤ patI (queS s x.work) x.pat := by simp_all
     refine SL.k hg7 (SL.k hg7 (SL.k hg7 ?_))
     refine SL.v (O.pt (G.ne_f hg7)) ?_
     refine SL.a (E.fo ?_)
     refine W.pk [(0,_),(3,_),(4,_),(5,_),(47,_)] [(0,_),(1,_),(2,_),(101,_)] ?_
     refine W.cond_t rfl ?_
     refine W.rg (SL.a (E.fo (W.ret ?_)))
     refine E.inr ?_
     refine E.thr ?_
     refine E.f1 [(3, 2), (4, 1)] ?_ ?_
     ·rw [(ask_e10 (s := s) (x := x)  ha0 ha1 ha2).1]; rfl
     · rw [(ask_e10 (s := s) (x := x)  ha0 ha1 ha2).2]; exact SubS.v3
    have hg6p := gP hg6
    have ha2 : useB s x.hold = true ∨ 0 ≤ ownI s x.pat x.work ∨ 0 ≤ patI (queS s x.work) x.pat := by simp_all
    refine SL.k hg6 (SL.k hg6 (SL.k hg6 (SL.k hg6 (SL.k hg6 (SL.k hg6 ?_)))))
    refine SL.v (O.pt (G.ne_f hg6)) ?_
    refine SL.o ?_
    have hg13 := G.ntf
    refine SL.k hg13 (SL.k hg13 (SL.k hg13 ?_))
    refine SL.v (O.pt rfl) ?_
    refine SL.a (E.fo ?_)
    refine W.pk [(0,_),(3,_),(4,_),(5,_),(47,_)] [(0,_),(1,_),(2,_),(101,_)] ?_
    refine W.cond_t rfl ?_
    refine W.rg (SL.a (E.fo (W.ret ?_)))
    refine E.inr ?_
    refine E.thr ?_
    refine E.f1 [(3, 2), (4, 1)] ?_ ?_
    ·rw [(ask_e10 (s := s) (x := x)  ha0 ha1 ha2).1]; rfl
    · rw [(ask_e10 (s := s) (x := x)  ha0 ha1 ha2).2]; exact SubS.v3
   have hg3p := gP hg3
   have ha0 : ¬ (idB x.work ∧ idB x.pat ∧ idB x.hold ∧ inB x.cls 1 3) := by intro z; simp_all
   refine SL.k hg3 (SL.k hg3 (SL.k hg3 (SL.k hg3 ?_)))
   refine SL.v (O.pt (G.ne_f hg3)) ?_
   refine SL.a (E.fo ?_)
   refine W.pk [(0,_),(3,_),(4,_),(5,_),(15,_)] [(0,_),(1,_),(2,_),(101,_)] ?_
   refine W.cond_t rfl ?_
   refine W.rg (SL.a (E.fo (W.ret ?_)))
   refine E.inr ?_
   refine E.thr ?_
   refine E.f1 [(3, 2), (4, 1)] ?_ ?_
   ·rw [(ask_e2 (s := s) (x := x)  ha0).1]; rfl
   · rw [(ask_e2 (s := s) (x := x)  ha0).2]; exact SubS.v3
  have hg2p := gP hg2
  have ha0 : ¬ (idB x.work ∧ idB x.pat ∧ idB x.hold ∧ inB x.cls 1 3) := by intro z; simp_all
  refine SL.k hg2 (SL.k hg2 (SL.k hg2 (SL.k hg2 ?_)))
  refine SL.v (O.pt (G.ne_f hg2)) ?_
  refine SL.o ?_
  have hg14 := G.ntf
  refine SL.k hg14 (SL.k hg14 (SL.k hg14 (SL.k hg14 ?_)))
  refine SL.v (O.pt rfl) ?_
  refine SL.a (E.fo ?_)
  refine W.pk [(0,_),(3,_),(4,_),(5,_),(15,_)] [(0,_),(1,_),(2,_),(101,_)] ?_
  refine W.cond_t rfl ?_
  refine W.rg (SL.a (E.fo (W.ret ?_)))
  refine E.inr ?_
  refine E.thr ?_
  refine E.f1 [(3, 2), (4, 1)] ?_ ?_
  ·rw [(ask_e2 (s := s) (x := x)  ha0).1]; rfl
  · rw [(ask_e2 (s := s) (x := x)  ha0).2]; exact SubS.v3
 have hg1p := gP hg1
 have ha0 : ¬ (idB x.work ∧ idB x.pat ∧ idB x.hold ∧ inB x.cls 1 3) := by intro z; simp_all
 refine SL.k hg1 (SL.k hg1 (SL.k hg1 (SL.k hg1 ?_)))
 refine SL.v (O.pt (G.ne_f hg1)) ?_
 refine SL.o ?_
 have hg15 := G.ntf
 refine SL.k hg15 (SL.k hg15 (SL.k hg15 (SL.k hg15 ?_)))
 refine SL.v (O.pt rfl) ?_
 refine SL.o ?_
 have hg16 := G.ntf
 refine SL.k hg16 (SL.k hg16 (SL.k hg16 (SL.k hg16 ?_)))
 refine SL.v (O.pt rfl) ?_
 refine SL.a (E.fo ?_)
 refine W.pk [(0,_),(3,_),(4,_),(5,_),(15,_)] [(0,_),(1,_),(2,_),(101,_)] ?_
 refine W.cond_t rfl ?_
 refine W.rg (SL.a (E.fo (W.ret ?_)))
 refine E.inr ?_
 refine E.thr ?_
 refine E.f1 [(3, 2), (4, 1)] ?_ ?_
 ·rw [(ask_e2 (s := s) (x := x)  ha0).1]; rfl
 · rw [(ask_e2 (s := s) (x := x)  ha0).2]; exact SubS.v3

end Go.Proofs.YtmekkjehkcjpdaaGreat
end
section
namespace Go.D58
open Go Go.RowKit Go.H Go.D57
def likeL (a b : List Cp) : Prop := b.length = a.length ∧ ∀ i, i < a.length → b[i]!.id = a[i]!.id ∧ b[i]!.work = a[i]!.work ∧ b[i]!.lib = a[i]!.lib
theorem like_refl (a : List Cp) : likeL a a := ⟨rfl, fun _ _ => ⟨rfl, rfl, rfl⟩⟩
theorem like_trans {a b c : List Cp} (h1 : likeL a b) (h2 : likeL b c) : likeL a c := ⟨h2.1.trans h1.1, fun i hi => by
  obtain ⟨p1, p2, p3⟩ := h1.2 i hi
  obtain ⟨q1, q2, q3⟩ := h2.2 i (by rw [h1.1]; exact hi)
  exact ⟨q1.trans p1, q2.trans p2, q3.trans p3⟩⟩
theorem like_set {a : List Cp} {k : Nat} {c : Cp} (h : c.id = a[k]!.id ∧ c.work = a[k]!.work ∧ c.lib = a[k]!.lib) : likeL a (a.set k c) := ⟨List.length_set, fun i hi => by
  rw [get_set hi]
  split
  · rename_i e; subst e; exact h
  · exact ⟨rfl, rfl, rfl⟩⟩
theorem free_like (s : St) (i : Nat) : likeL s.cps (freeS s i).cps := by
  unfold freeS
  split
  · exact like_set ⟨rfl, rfl, rfl⟩
  · exact like_set ⟨rfl, rfl, rfl⟩
theorem mem_at {α : Type} [Inhabited α] {l : List α} {x : α} (h : x ∈ l) : ∃ i, i < l.length ∧ l[i]! = x := by
  obtain ⟨i, hi, rfl⟩ := List.getElem_of_mem h
  exact ⟨i, hi, getElem!_pos l i hi⟩
theorem cpI_mem {s : St} {i : Int} (h : 0 ≤ cpI s i) : atC s i ∈ s.cps ∧ (atC s i).id = i ∧ (cpI s i).toNat < s.cps.length := by
  have := idxF_lt (p := fun c : Cp => decide (c.id = i)) (l := s.cps) h
  exact ⟨at_mem this.1, of_decide_eq_true this.2, this.1⟩
theorem cpI_no {s : St} {i : Int} (h : ¬ 0 ≤ cpI s i) {c : Cp} (hc : c ∈ s.cps) : c.id ≠ i := fun e => h (any_iff.1 ⟨c, hc, decide_eq_true e⟩)
theorem do_ok {s : St} {x : Sp} (h : doE s x = 0) : validS s ∧ (1 ≤ x.kind ∧ x.kind ≤ 8) ∧ fldS x = x ∧ stE s x = 0 ∧ doS s x = stS s x := by
  have e : doS s x = stS s x := by rw [doS, if_pos h]
  unfold doE at h
  split at h
  · rename_i q; exact ⟨q.1, q.2.1, q.2.2, h, e⟩
  · cases h
theorem filt_cut {α : Type} [Inhabited α] {p : α → Bool} {l : List α} {i : Nat} (hi : i < l.length) (h1 : ∀ j, j < l.length → j ≠ i → p l[j]! = true) (h2 : p l[i]! = false) : l.filter p = l.take i ++ l.drop (i + 1) := by
  have e : l = l.take i ++ l[i]! :: l.drop (i + 1) := by rw [← drop_at hi, List.take_append_drop]
  have t1 : (l.take i).filter p = l.take i := List.filter_eq_self.2 fun a ha => by
    obtain ⟨j, hj, rfl⟩ := List.getElem_of_mem ha
    have hj2 : j < i := by rw [List.length_take] at hj; omega
    have := h1 j xA xA
    rw [getElem!_pos l j xA] at this
    rw [List.getElem_take]; exact this
  have t2 : (l.drop (i + 1)).filter p = l.drop (i + 1) := List.filter_eq_self.2 fun a ha => by
    obtain ⟨j, hj, rfl⟩ := List.getElem_of_mem ha
    have hj2 : i + 1 + j < l.length := by rw [List.length_drop] at hj; omega
    have := h1 (i + 1 + j) hj2 xA
    rw [getElem!_pos l _ hj2] at this
    rw [List.getElem_drop]; exact this
  calc l.filter p = (l.take i ++ l[i]! :: l.drop (i + 1)).filter p := by rw [← e]
    _ = _ := by rw [List.filter_append, List.filter_cons, if_neg (by rw [h2]; decide), t1, t2]
theorem rem_cut {s : St} (h : asc (·.id) s.cps) {i : Int} (hi : 0 ≤ cpI s i) : s.cps.filter (fun c => !decide (c.id = i)) = s.cps.take (cpI s i).toNat ++ s.cps.drop ((cpI s i).toNat + 1) := by
  obtain ⟨_, h2, h3⟩ := cpI_mem hi
  have h4 : s.cps[(cpI s i).toNat]!.id = i := h2
  refine filt_cut h3 (fun j hj hne => ?_) (by rw [decide_eq_true h4]; rfl)
  rw [decide_eq_false]; rfl
  intro e
  rcases Nat.lt_or_gt_of_ne hne with q | q
  · have : s.cps[j]!.id < s.cps[(cpI s i).toNat]!.id := h _ _ q h3; omega
  · have : s.cps[(cpI s i).toNat]!.id < s.cps[j]!.id := h _ _ q hj; omega
section
variable {s : St} {x : Sp}
theorem stS_1 (h : x.kind = 1) : stS s x = addS s x ∧ stE s x = addE s x := by unfold stS stE; rw [if_pos h, if_pos h]; exact ⟨rfl, rfl⟩
theorem stS_2 (h : x.kind = 2) : stS s x = remS s x ∧ stE s x = remE s x := by unfold stS stE; rw [if_neg xA, if_pos h, if_neg xA, if_pos h]; exact ⟨rfl, rfl⟩
theorem stS_3 (h : x.kind = 3) : stS s x = lenS s x ∧ stE s x = lenE s x := by unfold stS stE; rw [if_neg xA, if_neg xA, if_pos h, if_neg xA, if_neg xA, if_pos h]; exact ⟨rfl, rfl⟩
theorem stS_4 (h : x.kind = 4) : stS s x = bakS s x ∧ stE s x = bakE s x := by unfold stS stE; rw [if_neg xA, if_neg xA, if_neg xA, if_pos h, if_neg xA, if_neg xA, if_neg xA, if_pos h]; exact ⟨rfl, rfl⟩
theorem stS_5 (h : x.kind = 5) : stS s x = renS s x ∧ stE s x = renE s x := by unfold stS stE; simp [h]
theorem stS_6 (h : x.kind = 6) : stS s x = askS s x ∧ stE s x = askE s x := by unfold stS stE; simp [h]
theorem stS_7 (h : x.kind = 7) : stS s x = clcS s x ∧ stE s x = clcE s x := by unfold stS stE; simp [h]
theorem stS_8 (h : x.kind = 8) : stS s x = waiS s x ∧ stE s x = waiE s x := by unfold stS stE; simp [h]
end
theorem ins_asc {s : St} {x : Sp} (h : asc (·.id) s.cps) (hn : ¬ 0 ≤ cpI s x.copy) : asc (·.id) (insC s x).cps := by
  refine asc_ins (key := fun c : Cp => c.id) (x := newC x) h ?_
  cases e : kfnd (·.id) s.cps x.copy with
  | false => exact e
  | true =>
    have := (kfnd_iff h).1 e
    exact absurd this.2 (cpI_no hn (at_mem this.1))
theorem ins_at {s : St} {x : Sp} : (insC s x).cps[kpos (·.id) s.cps x.copy]! = newC x ∧ kpos (·.id) s.cps x.copy < (insC s x).cps.length ∧ (insC s x).cps.length = s.cps.length + 1 := by
  have hk := kpos_le (key := fun c : Cp => c.id) s.cps x.copy
  have hl : (insC s x).cps.length = s.cps.length + 1 := by simp [insC]; omega
  refine ⟨?_, xA, hl⟩
  unfold insC
  rw [get_ins hk xA, if_neg xA, if_pos rfl]
theorem add_ok {s : St} {x : Sp} (h : addE s x = 0) : idB x.copy ∧ idB x.work ∧ nmOk x.lib ∧ ¬ 0 ≤ cpI s x.copy ∧ s.cps.length ≠ 60 ∧ addS s x = freeS (insC s x) (kpos (·.id) s.cps x.copy) := by
  have e : addS s x = freeS (insC s x) (kpos (·.id) s.cps x.copy) := by rw [addS, if_pos h]
  unfold addE at h
  split at h
  · cases h
  · split at h
    · cases h
    · split at h
      · cases h
      · split at h
        · cases h
        · rename_i h1 h2 h3 h4
          exact ⟨(Decidable.not_not.1 h1).1, (Decidable.not_not.1 h1).2, Decidable.not_not.1 h2, h3, h4, e⟩
theorem rem_ok {s : St} {x : Sp} (h : remE s x = 0) : 0 ≤ cpI s x.copy ∧ (atC s x.copy).place = 1 ∧ remS s x = ⟨s.now, s.cps.filter (fun c => !decide (c.id = x.copy)), s.lns⟩ := by
  have e : remS s x = ⟨s.now, s.cps.filter (fun c => !decide (c.id = x.copy)), s.lns⟩ := by rw [remS, if_pos h]
  unfold remE at h
  split at h
  · cases h
  · split at h
    · cases h
    · rename_i h1 h2
      exact ⟨Decidable.not_not.1 h1, Decidable.not_not.1 h2, e⟩
def goneB (x : Sp) (c : Cp) : Bool := decide (x.kind = 2) && decide (x.copy = c.id)
def wantN (x : Sp) (n : Int) : Int := if x.kind = 1 then n + 1 else if x.kind = 2 then n - 1 else n
theorem do_arg {s : St} {x : Sp} (h : ¬ doOk s x) : doE s x = 1 ∧ doS s x = zeroS := by
  have e : doE s x = 1 := by rw [doE, if_neg h]
  exact ⟨e, by rw [doS, e, if_neg xI]⟩
theorem do_bad {s : St} {x : Sp} (h : doOk s x) (hn : ¬ stE s x = 0) : doE s x = stE s x ∧ doS s x = zeroS := by
  have e : doE s x = stE s x := by rw [doE, if_pos h]
  exact ⟨e, by rw [doS, e, if_neg hn]⟩
theorem do_good {s : St} {x : Sp} (h : doOk s x) (hn : stE s x = 0) : doE s x = 0 ∧ doS s x = stS s x := by
  have e : doE s x = 0 := by rw [doE, if_pos h, hn]
  exact ⟨e, by rw [doS, if_pos e]⟩
def runR (s : St) : List Sp → Nat → St × Nat × Int
  | [], i => (s, i, 0)
  | x :: l, i => if doE s x = 0 then runR (doS s x) l (i + 1) else (s, i, doE s x)
def runF (s : St) (l : List Sp) : St × Nat × Int := if validS s then runR s l 0 else (zeroS, 0, 1)
theorem run_at {s : St} {l : List Sp} {k : Nat} (h : k < l.length) (e : doE s l[k]! = 0) : runR s (l.drop k) k = runR (doS s l[k]!) (l.drop (k + 1)) (k + 1) := by
  rw [drop_at h, runR, if_pos e]
theorem run_stop {s : St} {l : List Sp} {k : Nat} (h : k < l.length) (e : ¬ doE s l[k]! = 0) : runR s (l.drop k) k = (s, k, doE s l[k]!) := by
  rw [drop_at h, runR, if_neg e]
theorem run_end {s : St} {l : List Sp} {k : Nat} (h : l.length ≤ k) : runR s (l.drop k) k = (s, k, 0) := by
  rw [List.drop_eq_nil_of_le h, runR]
def inT (now : Int) (c : Cp) : Prop := c.place = 3 → now ≤ c.due
theorem wt_inT {c : Cp} {h : Hd} {now : Int} (hn : now ≤ 1000000) : inT now (wtC c h now) := fun _ => by
  show now ≤ if now + 7 ≤ 1000000 then now + 7 else 1000000
  split <;> omega
theorem all_set {s : List Cp} {now : Int} (h : ∀ c ∈ s, inT now c) {k : Nat} {c : Cp} (hc : inT now c) : ∀ d ∈ s.set k c, inT now d := fun d hd => (List.mem_or_eq_of_mem_set hd).elim (h d) (fun e => by rw [e]; exact hc)
theorem free_inT {s : St} {i : Nat} (hn : s.now ≤ 1000000) (h : ∀ c ∈ s.cps, inT s.now c) : ∀ c ∈ (freeS s i).cps, inT s.now c := by
  unfold freeS
  split
  · exact all_set h fun e => absurd (show (1 : Int) = 3 from e) xI
  · exact all_set h (wt_inT hn)
theorem free_get {s : St} {i j : Nat} (hj : j < s.cps.length) (hne : i ≠ j) : (freeS s i).cps[j]! = s.cps[j]! := by
  unfold freeS
  split <;> (show (List.set _ _ _)[j]! = _; rw [get_set hj, if_neg hne])
theorem free_atT {s : St} {i : Nat} (hn : s.now ≤ 1000000) (hi : i < s.cps.length) : inT s.now (freeS s i).cps[i]! := by
  unfold freeS
  split
  · show inT s.now (List.set _ _ _)[i]!
    rw [get_set hi, if_pos rfl]
    exact fun e => absurd (show (1 : Int) = 3 from e) xI
  · show inT s.now (List.set _ _ _)[i]!
    rw [get_set hi, if_pos rfl]
    exact wt_inT hn
theorem late_inT {s : St} (hn : s.now ≤ 1000000) : ∀ k, k ≤ s.cps.length → (∀ j, j < k → inT s.now (lateS s k).cps[j]!) ∧ ∀ j, k ≤ j → j < s.cps.length → (lateS s k).cps[j]! = s.cps[j]!
  | 0, _ => ⟨fun j hj => xA, fun _ _ _ => rfl⟩
  | k + 1, hk => by
    obtain ⟨h1, h2⟩ := late_inT hn k xA
    have hl := late_len s k
    have hnow := late_now s k
    by_cases e : lateC (lateS s k) k = true
    · rw [late_y e]
      refine ⟨fun j hj => ?_, fun j hj hl2 => by rw [free_get xA xA]; exact h2 j xA hl2⟩
      by_cases ej : j = k
      · subst ej
        have := free_atT (s := lateS s j) (i := j) xA xA
        rwa [hnow] at this
      · rw [free_get xA (fun q => ej q.symm)]; exact h1 j xA
    · rw [late_n e]
      refine ⟨fun j hj => ?_, fun j hj hl2 => h2 j xA hl2⟩
      by_cases ej : j = k
      · subst ej
        intro hp
        unfold lateC at e
        rw [decide_eq_true_eq] at e
        have : ¬ (lateS s j).cps[j]!.due < (lateS s j).now := fun q => e ⟨hp, q⟩
        omega
      · exact h1 j xA
theorem valid_inT {s : St} (h : validS s) : ∀ c ∈ s.cps, inT s.now c := fun c hc hp => by
  obtain ⟨i, hi, rfl⟩ := mem_at hc
  have := (h.2.2.2.1 i hi).1.2.2.2
  unfold inB at this
  omega
theorem fld_days {x : Sp} (hf : fldS x = x) (hk : x.kind ≠ 8) : x.days = 0 := by
  rw [← hf]
  unfold fldS
  split
  · rfl
  · split
    · rfl
    · split
      · rfl
      · split
        · rfl
        · split
          · rfl
          · first | rfl | (rw [if_neg hk])
theorem len_ok {s : St} {x : Sp} (h : lenE s x = 0) : idB x.pat ∧ 0 ≤ cpI s x.copy ∧ ¬ ((atC s x.copy).place = 2 ∨ ((atC s x.copy).place = 3 ∧ (atC s x.copy).pat ≠ x.pat)) ∧ ¬ ((atC s x.copy).place = 1 ∧ 0 ≤ ownI s x.pat (atC s x.copy).work) ∧ ¬ 5 ≤ (idsF (fun c => decide (c.place = 2 ∧ c.pat = x.pat)) s.cps).length ∧ ¬ 1000000 < s.now + 28 ∧ lenS s x = ⟨s.now, s.cps.set (cpI s x.copy).toNat (lentC (atC s x.copy) x.pat s.now), s.lns⟩ := by
  have e : lenS s x = ⟨s.now, s.cps.set (cpI s x.copy).toNat (lentC (atC s x.copy) x.pat s.now), s.lns⟩ := by rw [lenS, if_pos h]
  unfold lenE at h
  split at h
  · cases h
  split at h
  · cases h
  split at h
  · cases h
  split at h
  · cases h
  split at h
  · cases h
  split at h
  · cases h
  rename_i h1 h2 h3 h4 h5 h6
  exact ⟨Decidable.not_not.1 h1, Decidable.not_not.1 h2, h3, h4, h5, h6, e⟩
theorem bak_ok {s : St} {x : Sp} (h : bakE s x = 0) : 0 ≤ cpI s x.copy ∧ (atC s x.copy).place = 2 ∧ bakS s x = freeS s (cpI s x.copy).toNat := by
  have e : bakS s x = freeS s (cpI s x.copy).toNat := by rw [bakS, if_pos h]
  unfold bakE at h
  split at h
  · cases h
  split at h
  · cases h
  rename_i h1 h2
  exact ⟨Decidable.not_not.1 h1, Decidable.not_not.1 h2, e⟩
theorem ren_ok {s : St} {x : Sp} (h : renE s x = 0) : 0 ≤ cpI s x.copy ∧ (atC s x.copy).place = 2 ∧ (atC s x.copy).rc = false ∧ (queS s (atC s x.copy).work).length = 0 ∧ ¬ 1000000 < s.now + 28 ∧ renS s x = ⟨s.now, s.cps.set (cpI s x.copy).toNat (rnwC (atC s x.copy) s.now), s.lns⟩ := by
  have e : renS s x = ⟨s.now, s.cps.set (cpI s x.copy).toNat (rnwC (atC s x.copy) s.now), s.lns⟩ := by rw [renS, if_pos h]
  unfold renE at h
  split at h
  · cases h
  split at h
  · cases h
  split at h
  · cases h
  split at h
  · cases h
  rename_i h1 h2 h3 h4
  refine ⟨Decidable.not_not.1 h1, Decidable.not_not.1 h2, ?_, xA, h4, e⟩
  cases hr : (atC s x.copy).rc with
  | false => rfl
  | true => exact absurd (.inl hr) h3
theorem ask_ok {s : St} {x : Sp} (h : askE s x = 0) : (idB x.work ∧ idB x.pat ∧ idB x.hold ∧ inB x.cls 1 3) ∧ ¬ (cntP s.cps x.work 1 = 0 ∧ cntP s.cps x.work 2 = 0 ∧ cntP s.cps x.work 3 = 0) ∧ useB s x.hold = false ∧ ¬ 0 ≤ ownI s x.pat x.work ∧ ¬ 0 ≤ patI (queS s x.work) x.pat ∧ (queS s x.work).length ≠ 60 ∧ askS s x = (if 0 ≤ shlI s x.work then ⟨s.now, s.cps.set (shlI s x.work).toNat (wtC s.cps[(shlI s x.work).toNat]! (hldX s x) s.now), s.lns⟩ else recS (putS s x) x.work) := by
  have e : askS s x = (if 0 ≤ shlI s x.work then ⟨s.now, s.cps.set (shlI s x.work).toNat (wtC s.cps[(shlI s x.work).toNat]! (hldX s x) s.now), s.lns⟩ else recS (putS s x) x.work) := by rw [askS, if_pos h]
  unfold askE at h
  split at h
  · cases h
  split at h
  · cases h
  split at h
  · cases h
  split at h
  · cases h
  rename_i h1 h2 h3 h4
  refine ⟨Decidable.not_not.1 h1, h2, ?_, fun q => h3 (.inr (.inl q)), fun q => h3 (.inr (.inr q)), h4, e⟩
  cases hr : useB s x.hold with
  | false => rfl
  | true => exact absurd (.inl hr) h3
theorem wai_ok {s : St} {x : Sp} (h : waiE s x = 0) : inB x.days 1 1000 ∧ s.now + x.days ≤ 1000000 ∧ waiS s x = lateS ⟨s.now + x.days, s.cps, s.lns⟩ s.cps.length := by
  have e : waiS s x = lateS ⟨s.now + x.days, s.cps, s.lns⟩ s.cps.length := by rw [waiS, if_pos h]
  unfold waiE at h
  split at h
  · cases h
  split at h
  · cases h
  rename_i h1 h2
  exact ⟨Decidable.not_not.1 h1, xA, e⟩
theorem rec_now (s : St) (w : Int) : (recS s w).now = s.now := by unfold recS; split <;> rfl
theorem rec_inT {s : St} {w : Int} (h : ∀ c ∈ s.cps, inT s.now c) : ∀ c ∈ (recS s w).cps, inT s.now c := by
  unfold recS
  split
  · exact h
  · rename_i i hi
    exact all_set h fun e => absurd ((rec_lt hi).2.2.1.symm.trans (show s.cps[i]!.place = 3 from e)) xI
theorem time_now {s : St} {x : Sp} (he : doE s x = 0) : (doS s x).now = s.now + x.days ∧ ∀ c ∈ (doS s x).cps, inT (doS s x).now c := by
  obtain ⟨hv, hk, hf, he2, hd⟩ := do_ok he
  have hn := hv.1
  unfold inB at hn
  have hT := valid_inT hv
  rw [hd]
  by_cases h8 : x.kind = 8
  · rw [(stS_8 h8).2] at he2
    obtain ⟨h1, h2, e⟩ := wai_ok he2
    rw [(stS_8 h8).1, e]
    refine ⟨late_now _ _, fun c hc => ?_⟩
    rw [late_now]
    obtain ⟨j, hj, rfl⟩ := mem_at hc
    rw [late_len] at hj
    exact (late_inT (s := ⟨s.now + x.days, s.cps, s.lns⟩) h2 _ (Nat.le_refl _)).1 j hj
  · rw [fld_days hf h8, Int.add_zero]
    have key : ∀ t : St, t.now = s.now → (∀ c ∈ t.cps, inT s.now c) → t.now = s.now ∧ ∀ c ∈ t.cps, inT t.now c := fun t h1 h2 => ⟨h1, by rw [h1]; exact h2⟩
    rcases (show x.kind = 1 ∨ x.kind = 2 ∨ x.kind = 3 ∨ x.kind = 4 ∨ x.kind = 5 ∨ x.kind = 6 ∨ x.kind = 7 by omega) with h | h | h | h | h | h | h
    · rw [(stS_1 h).2] at he2
      obtain ⟨_, _, _, hn2, _, e⟩ := add_ok he2
      rw [(stS_1 h).1, e]
      refine key _ (free_now _ _) (free_inT (s := insC s x) hn.2 fun c hc => ?_)
      rcases List.mem_append.1 hc with m | m
      · exact hT c (List.mem_of_mem_take m)
      · rcases List.mem_cons.1 m with m | m
        · rw [m]; exact fun e => absurd (show (1 : Int) = 3 from e) xI
        · exact hT c (List.mem_of_mem_drop m)
    · rw [(stS_2 h).2] at he2
      obtain ⟨_, _, e⟩ := rem_ok he2
      rw [(stS_2 h).1, e]
      exact key _ rfl fun c hc => hT c (List.mem_filter.1 hc).1
    · rw [(stS_3 h).2] at he2
      obtain ⟨_, _, _, _, _, _, e⟩ := len_ok he2
      rw [(stS_3 h).1, e]
      exact key _ rfl (all_set hT fun e => absurd (show (2 : Int) = 3 from e) xI)
    · rw [(stS_4 h).2] at he2
      obtain ⟨_, _, e⟩ := bak_ok he2
      rw [(stS_4 h).1, e]
      exact key _ (free_now _ _) (free_inT hn.2 hT)
    · rw [(stS_5 h).2] at he2
      obtain ⟨_, hp, _, _, _, e⟩ := ren_ok he2
      rw [(stS_5 h).1, e]
      exact key _ rfl (all_set hT fun e => absurd (hp.symm.trans (show (atC s x.copy).place = 3 from e)) xI)
    · rw [(stS_6 h).2] at he2
      obtain ⟨_, _, _, _, _, _, e⟩ := ask_ok he2
      rw [(stS_6 h).1, e]
      split
      · exact key _ rfl (all_set hT (wt_inT hn.2))
      · exact key _ (rec_now _ _) (rec_inT (s := putS s x) hT)
    · rw [(stS_7 h).1]
      unfold clcS
      split
      · exact key _ (free_now _ _) (free_inT hn.2 hT)
      · split
        · exact key _ rfl hT
        · exact key _ rfl hT
end Go.D58
end
section
namespace Go.Proofs.YtmekkjehkcjpdaaGreat
open Go Go.RowKit Go.H Go.D57 Go.D58

theorem hinf38 : ∃ i, Tryz.prog.info? 38 = some i ∧ i.zero = some (.agg #[.int .i64 0, .int .i64 0, .int .i64 0, .int .i64 0, .int .i64 0, .int .i64 0, .int .i64 0, .string ByteArray.empty]) ∧ i.size = 8 ∧ i.bytes = 72 := G.info_of xG
theorem hinf72 : ∃ i, Tryz.prog.info? 72 = some i ∧ i.zero = some (.nilFunc) ∧ i.size = 1 ∧ i.bytes = 8 := G.info_of xG

def spV (x : Sp) : List Value := [.int .i64 x.kind, .int .i64 x.copy, .int .i64 x.work, .int .i64 x.pat, .int .i64 x.hold, .int .i64 x.cls, .int .i64 x.days, .string (G.bs x.lib)]
theorem bs_list (l : List UInt8) : (G.bs l).toList = l := by rw [ByteArray.toList_eq]
theorem eqSp (a b : Sp) : eqvL (spV a) (spV b) = decide (a = b) := by
  cases a; cases b
  rw [Bool.eq_iff_iff]
  simp only [spV, eqvL, eqv, bs_list]
  simp

set_option maxRecDepth 8000 in
theorem do_h {s : St} {x : Sp} :
    Con Tryz.prog 8 [vA [uI s.now, .sl 8 (s.cps.map eCp), .sl 2 (s.lns.map eLn)], vA (eSp x)] [] (.tup [.agg [vI (doS s x).now, vL 8 ((doS s x).cps.map eCp), vL 2 ((doS s x).lns.map eLn)], vI (doE s x)]) [] := by
 obtain ⟨i72, hi72, hz72, hs72, hb72⟩ := hinf72
 refine Con.en 39 Tryz.func8 fun τ w ok vs hin => ?_
 have hl0_1 := hin.lenA (i := 0) (j := 1) rfl rfl
 try rw [List.length_map] at hl0_1
 have hl0_2 := hin.lenA (i := 0) (j := 2) rfl rfl
 try rw [List.length_map] at hl0_2
 clear hin
 refine W.rg ?_
 refine SL.bx3 101 ?_
 refine SL.bx8 102 ?_
 refine SL.al9 103 ?_
 refine SL.a (E.fo (W.seq (W.seq ?_)))
 refine W.dr [pX 101, pO, pO, pO, pW 102, pX 102, pO, pO, pO, pO, pX 102, pO, pX 102, pO, pO] ?_
 refine WH.v (O.n3 u33) ?_
 refine WH.v (O.cp (q := stvalid_h (s := s))) ?_
 refine WH.v (O.nt) ?_
 refine WH.o rfl ?_
 refine WH.cs 3 false (fun hg1 => ?_) fun hg1 => ?_
 ·have hg1p := gP hg1
  refine WH.v (O.fr 0 0 u38 (tY hg1)) ?_
  refine WH.v (O.l1 u3 (tY hg1)) ?_
  refine WH.v (O.cp (q := in_h) (hg := (tY hg1))) ?_
  refine WH.v (O.nt (tY hg1)) ?_
  refine WH.v (O.pf hg1) ?_
  refine WH.o rfl ?_
  refine WH.cs 9 false (fun hg2 => ?_) fun hg2 => ?_
  ·have hg2p := gP hg2
   refine WH.v (O.n8 u38 (tY hg2)) ?_
   refine WH.cl [] [] (.agg [.u _, .u _, .u _, .u _, .u _, .u _, .u _, .u _]) _ (q := fields_h (x := x))  (hg := tY hg2) (h := ?_)
   refine WH.v (O.n8 u38 (tY hg2)) ?_
   refine WH.v (O.neAgg (ls := (spV (fldS x))) (ms := (spV x)) (r := (!decide (fldS x = x))) (.inr rfl) (.inr rfl) xG xG xG xG zW rfl (Taken.yes rfl rfl hg2)) ?_
   refine WH.v (O.pf hg2) ?_
   refine WH.nil (E.to ?_)
   refine W.cc rfl (fun hc3 => ?_) fun hc3 => ?_
   ·have hdo : ¬ doOk s x := fun z => by have := z.2.2; simp_all
    refine W.rg ?_
    refine SL.v (O.bd6 u33) ?_
    refine SL.st3_3 103 ?_
    refine SL.a (E.fo (W.ret (E.thr ?_)))
    refine E.nilslC 103 1 8 (is' := [_, _, _]) rfl rfl rfl ?_
    refine E.nilslC 103 2 2 (is' := [_, _, _]) rfl rfl rfl ?_
    refine E.j2 [] rfl (ResOne.c3 u33) (ResOne.tmp rfl) ?_
    ·rw [(do_arg hdo).1, (do_arg hdo).2]; rfl
   have hdo : doOk s x := ⟨by first | assumption | simp_all, by first | assumption | simp_all, by first | assumption | simp_all⟩
   have hv := hdo.1
   have hok := valid_ok hv
   have hk18 : 1 ≤ x.kind ∧ x.kind ≤ 8 := hdo.2.1
   refine W.skip (E.to (W.rg ?_))
   refine SL.v (O.buildA (m := 1) (res := [_, _, _, _, _, _, _, _, _]) (z := .agg #[.nilFunc, .nilFunc, .nilFunc, .nilFunc, .nilFunc, .nilFunc, .nilFunc, .nilFunc, .nilFunc]) rfl rfl u75 xG hi72 hs72 rfl rfl Taken.no) ?_
   refine SL.al10 104 ?_
   refine SL.st9_9 104 ?_
   refine E.fo (W.rg ?_)
   refine SL.v (O.n3 u33) ?_
   refine SL.cl [(0, 105), (1, 106)] [] (.agg [.u _, .own 105, .own 106]) ((105, .data _ _ _) :: (106, .data _ _ _) :: _) (q := cloned_h (s := s) (by have := hv.2.1; omega) (by have := hok.2.1; omega) (fun l hl => by have := hok.2.2 l hl; omega))  (h := ?_)
   refine SL.al9 107 ?_
   refine SL.st3_3 107 ?_
   refine E.fo ?_
   refine W.pk [(3,_),(4,_),(5,_),(6,_),(7,_)] [(101,_),(102,_),(103,_),(104,_),(105,_),(106,_),(107,_)] ?_
   refine W.seq (W.seq ?_)
   rcases (show x.kind = 1 ∨ x.kind = 2 ∨ x.kind = 3 ∨ x.kind = 4 ∨ x.kind = 5 ∨ x.kind = 6 ∨ x.kind = 7 ∨ x.kind = 8 by omega) with hk | hk | hk | hk | hk | hk | hk | hk
   ·have hse : stE s x = addE s x := (stS_1 hk).2
    have hss : stS s x = addS s x := (stS_1 hk).1
    refine W.dr [pW 102, pX 102, pW 104, pX 104, pX 102, ⟨[105, 106, 107, 108, 109], [105, 106, 107, 108, 109], [108, 109], []⟩, pO] ?_
    refine WH.v (O.fr 0 0 u38) ?_
    refine WH.v (O.l1 u3) ?_
    refine WH.v (O.idx_ref (i := 1) (m := 1) rfl rfl xA xI u75 xG rfl rfl Taken.no) ?_
    refine WH.v (O.l1 u72) ?_
    refine WH.v (O.n8 u38) ?_
    refine WH.cl [(0, 107), (1, 105), (2, 106), (3, 109), (4, 108)] [] (.u _) ((107, .cells _ [.u _, .own 108, .own 109]) :: (108, .data _ _ _) :: (109, .data _ _ _) :: (105, .dead) :: (106, .dead) :: _) (q := add_m hdo.1)  (h := ?_)
    refine WH.v (O.as1) ?_
    refine WH.nil (E.to (W.rg (SL.o ?_)))
    refine SL.v (O.neq) ?_
    refine E.fo ?_
    refine W.cc rfl (fun hc4 => ?_) fun hc4 => ?_
    ·have hne : ¬ stE s x = 0 := by rw [hse]; first | assumption | omega
     refine W.rg ?_
     refine SL.v (O.bd6 u33) ?_
     refine SL.o ?_
     refine SL.st3_3 103 ?_
     refine SL.a (E.fo (W.ret (E.thr ?_)))
     refine E.nilslC 103 1 8 (is' := [_, _, _]) rfl rfl rfl ?_
     refine E.nilslC 103 2 2 (is' := [_, _, _]) rfl rfl rfl ?_
     refine E.j2 [] rfl (ResOne.c3 u33) (ResOne.tmp rfl) ?_
     ·exact xF
    have hz : stE s x = 0 := by rw [hse]; first | assumption | omega
    refine W.skip (E.to (W.rg ?_))
    refine SL.v (O.n3 u33) ?_
    refine SL.st3_3 103 ?_
    refine SL.a (E.fo (W.ret ?_))
    refine E.freezeC 103 1 108 (is' := [_, _, _]) rfl rfl rfl rfl ?_
    refine E.freezeC 103 2 109 (is' := [_, _, _]) rfl rfl rfl rfl ?_
    refine E.j2 [] rfl (ResOne.c3 u33) (ResOne.tmp rfl) ?_
    ·exact xF
   ·have hse : stE s x = remE s x := (stS_2 hk).2
    have hss : stS s x = remS s x := (stS_2 hk).1
    refine W.dr [pW 102, pX 102, pW 104, pX 104, pX 102, ⟨[105, 106, 107, 110, 111], [105, 106, 107, 110, 111], [110, 111], []⟩, pO] ?_
    refine WH.v (O.fr 0 0 u38) ?_
    refine WH.v (O.l1 u3) ?_
    refine WH.v (O.idx_ref (i := 2) (m := 1) rfl rfl xA xI u75 xG rfl rfl Taken.no) ?_
    refine WH.v (O.l1 u72) ?_
    refine WH.v (O.n8 u38) ?_
    refine WH.cl [(0, 107), (1, 105), (2, 106), (3, 111), (4, 110)] [] (.u _) ((107, .cells _ [.u _, .own 110, .own 111]) :: (110, .data _ _ _) :: (111, .data _ _ _) :: (105, .dead) :: (106, .dead) :: _) (q := remove_m hdo.1)  (h := ?_)
    refine WH.v (O.as1) ?_
    refine WH.nil (E.to (W.rg (SL.o ?_)))
    refine SL.v (O.neq) ?_
    refine E.fo ?_
    refine W.cc rfl (fun hc5 => ?_) fun hc5 => ?_
    ·have hne : ¬ stE s x = 0 := by rw [hse]; first | assumption | omega
     refine W.rg ?_
     refine SL.v (O.bd6 u33) ?_
     refine SL.o ?_
     refine SL.st3_3 103 ?_
     refine SL.a (E.fo (W.ret (E.thr ?_)))
     refine E.nilslC 103 1 8 (is' := [_, _, _]) rfl rfl rfl ?_
     refine E.nilslC 103 2 2 (is' := [_, _, _]) rfl rfl rfl ?_
     refine E.j2 [] rfl (ResOne.c3 u33) (ResOne.tmp rfl) ?_
     ·exact xF
    have hz : stE s x = 0 := by rw [hse]; first | assumption | omega
    refine W.skip (E.to (W.rg ?_))
    refine SL.v (O.n3 u33) ?_
    refine SL.st3_3 103 ?_
    refine SL.a (E.fo (W.ret ?_))
    refine E.freezeC 103 1 110 (is' := [_, _, _]) rfl rfl rfl rfl ?_
    refine E.freezeC 103 2 111 (is' := [_, _, _]) rfl rfl rfl rfl ?_
    refine E.j2 [] rfl (ResOne.c3 u33) (ResOne.tmp rfl) ?_
    ·exact xF
   ·have hse : stE s x = lenE s x := (stS_3 hk).2
    have hss : stS s x = lenS s x := (stS_3 hk).1
    refine W.dr [pW 102, pX 102, pW 104, pX 104, pX 102, ⟨[105, 106, 107, 112, 113], [105, 106, 107, 112, 113], [112, 113], []⟩, pO] ?_
    refine WH.v (O.fr 0 0 u38) ?_
    refine WH.v (O.l1 u3) ?_
    refine WH.v (O.idx_ref (i := 3) (m := 1) rfl rfl xA xI u75 xG rfl rfl Taken.no) ?_
    refine WH.v (O.l1 u72) ?_
    refine WH.v (O.n8 u38) ?_
    refine WH.cl [(0, 107), (1, 105), (2, 106), (3, 113), (4, 112)] [] (.u _) ((107, .cells _ [.u _, .own 112, .own 113]) :: (112, .data _ _ _) :: (113, .data _ _ _) :: (105, .dead) :: (106, .dead) :: _) (q := lend_m hdo.1)  (h := ?_)
    refine WH.v (O.as1) ?_
    refine WH.nil (E.to (W.rg (SL.o ?_)))
    refine SL.v (O.neq) ?_
    refine E.fo ?_
    refine W.cc rfl (fun hc6 => ?_) fun hc6 => ?_
    ·have hne : ¬ stE s x = 0 := by rw [hse]; first | assumption | omega
     refine W.rg ?_
     refine SL.v (O.bd6 u33) ?_
     refine SL.o ?_
     refine SL.st3_3 103 ?_
     refine SL.a (E.fo (W.ret (E.thr ?_)))
     refine E.nilslC 103 1 8 (is' := [_, _, _]) rfl rfl rfl ?_
     refine E.nilslC 103 2 2 (is' := [_, _, _]) rfl rfl rfl ?_
     refine E.j2 [] rfl (ResOne.c3 u33) (ResOne.tmp rfl) ?_
     ·exact xF
    have hz : stE s x = 0 := by rw [hse]; first | assumption | omega
    refine W.skip (E.to (W.rg ?_))
    refine SL.v (O.n3 u33) ?_
    refine SL.st3_3 103 ?_
    refine SL.a (E.fo (W.ret ?_))
    refine E.freezeC 103 1 112 (is' := [_, _, _]) rfl rfl rfl rfl ?_
    refine E.freezeC 103 2 113 (is' := [_, _, _]) rfl rfl rfl rfl ?_
    refine E.j2 [] rfl (ResOne.c3 u33) (ResOne.tmp rfl) ?_
    ·exact xF
   ·have hse : stE s x = bakE s x := (stS_4 hk).2
    have hss : stS s x = bakS s x := (stS_4 hk).1
    refine W.dr [pW 102, pX 102, pW 104, pX 104, pX 102, ⟨[105, 106, 107, 114, 115], [105, 106, 107, 114, 115], [114, 115], []⟩, pO] ?_
    refine WH.v (O.fr 0 0 u38) ?_
    refine WH.v (O.l1 u3) ?_
    refine WH.v (O.idx_ref (i := 4) (m := 1) rfl rfl xA xI u75 xG rfl rfl Taken.no) ?_
    refine WH.v (O.l1 u72) ?_
    refine WH.v (O.n8 u38) ?_
    refine WH.cl [(0, 107), (1, 105), (2, 106), (3, 115), (4, 114)] [] (.u _) ((107, .cells _ [.u _, .own 114, .own 115]) :: (114, .data _ _ _) :: (115, .data _ _ _) :: (105, .dead) :: (106, .dead) :: _) (q := giveBack_m hdo.1)  (h := ?_)
    refine WH.v (O.as1) ?_
    refine WH.nil (E.to (W.rg (SL.o ?_)))
    refine SL.v (O.neq) ?_
    refine E.fo ?_
    refine W.cc rfl (fun hc7 => ?_) fun hc7 => ?_
    ·have hne : ¬ stE s x = 0 := by rw [hse]; first | assumption | omega
     refine W.rg ?_
     refine SL.v (O.bd6 u33) ?_
     refine SL.o ?_
     refine SL.st3_3 103 ?_
     refine SL.a (E.fo (W.ret (E.thr ?_)))
     refine E.nilslC 103 1 8 (is' := [_, _, _]) rfl rfl rfl ?_
     refine E.nilslC 103 2 2 (is' := [_, _, _]) rfl rfl rfl ?_
     refine E.j2 [] rfl (ResOne.c3 u33) (ResOne.tmp rfl) ?_
     ·exact xF
    have hz : stE s x = 0 := by rw [hse]; first | assumption | omega
    refine W.skip (E.to (W.rg ?_))
    refine SL.v (O.n3 u33) ?_
    refine SL.st3_3 103 ?_
    refine SL.a (E.fo (W.ret ?_))
    refine E.freezeC 103 1 114 (is' := [_, _, _]) rfl rfl rfl rfl ?_
    refine E.freezeC 103 2 115 (is' := [_, _, _]) rfl rfl rfl rfl ?_
    refine E.j2 [] rfl (ResOne.c3 u33) (ResOne.tmp rfl) ?_
    ·exact xF
   ·have hse : stE s x = renE s x := (stS_5 hk).2
    have hss : stS s x = renS s x := (stS_5 hk).1
    refine W.dr [pW 102, pX 102, pW 104, pX 104, pX 102, ⟨[105, 106, 107, 116, 117], [105, 106, 107, 116, 117], [116, 117], []⟩, pO] ?_
    refine WH.v (O.fr 0 0 u38) ?_
    refine WH.v (O.l1 u3) ?_
    refine WH.v (O.idx_ref (i := 5) (m := 1) rfl rfl xA xI u75 xG rfl rfl Taken.no) ?_
    refine WH.v (O.l1 u72) ?_
    refine WH.v (O.n8 u38) ?_
    refine WH.cl [(0, 107), (1, 105), (2, 106), (3, 117), (4, 116)] [] (.u _) ((107, .cells _ [.u _, .own 116, .own 117]) :: (116, .data _ _ _) :: (117, .data _ _ _) :: (105, .dead) :: (106, .dead) :: _) (q := renew_m hdo.1)  (h := ?_)
    refine WH.v (O.as1) ?_
    refine WH.nil (E.to (W.rg (SL.o ?_)))
    refine SL.v (O.neq) ?_
    refine E.fo ?_
    refine W.cc rfl (fun hc8 => ?_) fun hc8 => ?_
    ·have hne : ¬ stE s x = 0 := by rw [hse]; first | assumption | omega
     refine W.rg ?_
     refine SL.v (O.bd6 u33) ?_
     refine SL.o ?_
     refine SL.st3_3 103 ?_
     refine SL.a (E.fo (W.ret (E.thr ?_)))
     refine E.nilslC 103 1 8 (is' := [_, _, _]) rfl rfl rfl ?_
     refine E.nilslC 103 2 2 (is' := [_, _, _]) rfl rfl rfl ?_
     refine E.j2 [] rfl (ResOne.c3 u33) (ResOne.tmp rfl) ?_
     ·exact xF
    have hz : stE s x = 0 := by rw [hse]; first | assumption | omega
    refine W.skip (E.to (W.rg ?_))
    refine SL.v (O.n3 u33) ?_
    refine SL.st3_3 103 ?_
    refine SL.a (E.fo (W.ret ?_))
    refine E.freezeC 103 1 116 (is' := [_, _, _]) rfl rfl rfl rfl ?_
    refine E.freezeC 103 2 117 (is' := [_, _, _]) rfl rfl rfl rfl ?_
    refine E.j2 [] rfl (ResOne.c3 u33) (ResOne.tmp rfl) ?_
    ·exact xF
   ·have hse : stE s x = askE s x := (stS_6 hk).2
    have hss : stS s x = askS s x := (stS_6 hk).1
    refine W.dr [pW 102, pX 102, pW 104, pX 104, pX 102, ⟨[105, 106, 107, 118, 119], [105, 106, 107, 118, 119], [118, 119], []⟩, pO] ?_
    refine WH.v (O.fr 0 0 u38) ?_
    refine WH.v (O.l1 u3) ?_
    refine WH.v (O.idx_ref (i := 6) (m := 1) rfl rfl xA xI u75 xG rfl rfl Taken.no) ?_
    refine WH.v (O.l1 u72) ?_
    refine WH.v (O.n8 u38) ?_
    refine WH.cl [(0, 107), (1, 105), (2, 106), (3, 119), (4, 118)] [] (.u _) ((107, .cells _ [.u _, .own 118, .own 119]) :: (118, .data _ _ _) :: (119, .data _ _ _) :: (105, .dead) :: (106, .dead) :: _) (q := ask_m hdo.1)  (h := ?_)
    refine WH.v (O.as1) ?_
    refine WH.nil (E.to (W.rg (SL.o ?_)))
    refine SL.v (O.neq) ?_
    refine E.fo ?_
    refine W.cc rfl (fun hc9 => ?_) fun hc9 => ?_
    ·have hne : ¬ stE s x = 0 := by rw [hse]; first | assumption | omega
     refine W.rg ?_
     refine SL.v (O.bd6 u33) ?_
     refine SL.o ?_
     refine SL.st3_3 103 ?_
     refine SL.a (E.fo (W.ret (E.thr ?_)))
     refine E.nilslC 103 1 8 (is' := [_, _, _]) rfl rfl rfl ?_
     refine E.nilslC 103 2 2 (is' := [_, _, _]) rfl rfl rfl ?_
     refine E.j2 [] rfl (ResOne.c3 u33) (ResOne.tmp rfl) ?_
     ·exact xF
    have hz : stE s x = 0 := by rw [hse]; first | assumption | omega
    refine W.skip (E.to (W.rg ?_))
    refine SL.v (O.n3 u33) ?_
    refine SL.st3_3 103 ?_
    refine SL.a (E.fo (W.ret ?_))
    refine E.freezeC 103 1 118 (is' := [_, _, _]) rfl rfl rfl rfl ?_
    refine E.freezeC 103 2 119 (is' := [_, _, _]) rfl rfl rfl rfl ?_
    refine E.j2 [] rfl (ResOne.c3 u33) (ResOne.tmp rfl) ?_
    ·exact xF
   ·have hse : stE s x = clcE s x := (stS_7 hk).2
    have hss : stS s x = clcS s x := (stS_7 hk).1
    refine W.dr [pW 102, pX 102, pW 104, pX 104, pX 102, ⟨[105, 106, 107, 120, 121], [105, 106, 107, 120, 121], [120, 121], []⟩, pO] ?_
    refine WH.v (O.fr 0 0 u38) ?_
    refine WH.v (O.l1 u3) ?_
    refine WH.v (O.idx_ref (i := 7) (m := 1) rfl rfl xA xI u75 xG rfl rfl Taken.no) ?_
    refine WH.v (O.l1 u72) ?_
    refine WH.v (O.n8 u38) ?_
    refine WH.cl [(0, 107), (1, 105), (2, 106), (3, 121), (4, 120)] [] (.u _) ((107, .cells _ [.u _, .own 120, .own 121]) :: (120, .data _ _ _) :: (121, .data _ _ _) :: (105, .dead) :: (106, .dead) :: _) (q := cancel_m hdo.1)  (h := ?_)
    refine WH.v (O.as1) ?_
    refine WH.nil (E.to (W.rg (SL.o ?_)))
    refine SL.v (O.neq) ?_
    refine E.fo ?_
    refine W.cc rfl (fun hc10 => ?_) fun hc10 => ?_
    ·have hne : ¬ stE s x = 0 := by rw [hse]; first | assumption | omega
     refine W.rg ?_
     refine SL.v (O.bd6 u33) ?_
     refine SL.o ?_
     refine SL.st3_3 103 ?_
     refine SL.a (E.fo (W.ret (E.thr ?_)))
     refine E.nilslC 103 1 8 (is' := [_, _, _]) rfl rfl rfl ?_
     refine E.nilslC 103 2 2 (is' := [_, _, _]) rfl rfl rfl ?_
     refine E.j2 [] rfl (ResOne.c3 u33) (ResOne.tmp rfl) ?_
     ·exact xF
    have hz : stE s x = 0 := by rw [hse]; first | assumption | omega
    refine W.skip (E.to (W.rg ?_))
    refine SL.v (O.n3 u33) ?_
    refine SL.st3_3 103 ?_
    refine SL.a (E.fo (W.ret ?_))
    refine E.freezeC 103 1 120 (is' := [_, _, _]) rfl rfl rfl rfl ?_
    refine E.freezeC 103 2 121 (is' := [_, _, _]) rfl rfl rfl rfl ?_
    refine E.j2 [] rfl (ResOne.c3 u33) (ResOne.tmp rfl) ?_
    ·exact xF
   have hse : stE s x = waiE s x := (stS_8 hk).2
   have hss : stS s x = waiS s x := (stS_8 hk).1
   refine W.dr [pW 102, pX 102, pW 104, pX 104, pX 102, ⟨[105, 106, 107, 122, 123], [105, 106, 107, 122, 123], [122, 123], []⟩, pO] ?_
   refine WH.v (O.fr 0 0 u38) ?_
   refine WH.v (O.l1 u3) ?_
   refine WH.v (O.idx_ref (i := 8) (m := 1) rfl rfl xA xI u75 xG rfl rfl Taken.no) ?_
   refine WH.v (O.l1 u72) ?_
   refine WH.v (O.n8 u38) ?_
   refine WH.cl [(0, 107), (1, 105), (2, 106), (3, 123), (4, 122)] [] (.u _) ((107, .cells _ [.u _, .own 122, .own 123]) :: (122, .data _ _ _) :: (123, .data _ _ _) :: (105, .dead) :: (106, .dead) :: _) (q := wait_m hdo.1)  (h := ?_)
   refine WH.v (O.as1) ?_
   refine WH.nil (E.to (W.rg (SL.o ?_)))
   refine SL.v (O.neq) ?_
   refine E.fo ?_
   refine W.cc rfl (fun hc11 => ?_) fun hc11 => ?_
   ·have hne : ¬ stE s x = 0 := by rw [hse]; first | assumption | omega
    refine W.rg ?_
    refine SL.v (O.bd6 u33) ?_
    refine SL.o ?_
    refine SL.st3_3 103 ?_
    refine SL.a (E.fo (W.ret (E.thr ?_)))
    refine E.nilslC 103 1 8 (is' := [_, _, _]) rfl rfl rfl ?_
    refine E.nilslC 103 2 2 (is' := [_, _, _]) rfl rfl rfl ?_
    refine E.j2 [] rfl (ResOne.c3 u33) (ResOne.tmp rfl) ?_
    ·exact xF
   have hz : stE s x = 0 := by rw [hse]; first | assumption | omega
   refine W.skip (E.to (W.rg ?_))
   refine SL.v (O.n3 u33) ?_
   refine SL.st3_3 103 ?_
   refine SL.a (E.fo (W.ret ?_))
   refine E.freezeC 103 1 122 (is' := [_, _, _]) rfl rfl rfl rfl ?_
   refine E.freezeC 103 2 123 (is' := [_, _, _]) rfl rfl rfl rfl ?_
   refine E.j2 [] rfl (ResOne.c3 u33) (ResOne.tmp rfl) ?_
   ·exact xF
  have hg2p := gP hg2
  have hdo : ¬ doOk s x := fun z => by have := z.2.1; simp_all
  refine WH.k hg2 (WH.k hg2 (WH.k hg2 (WH.k hg2 ?_)))
  refine WH.v (O.pt (G.ne_f hg2)) ?_
  refine WH.nil (E.to ?_)
  refine W.cond_t rfl ?_
  refine W.rg ?_
  refine SL.v (O.bd6 u33) ?_
  refine SL.st3_3 103 ?_
  refine SL.a (E.fo (W.ret (E.thr ?_)))
  refine E.nilslC 103 1 8 (is' := [_, _, _]) rfl rfl rfl ?_
  refine E.nilslC 103 2 2 (is' := [_, _, _]) rfl rfl rfl ?_
  refine E.j2 [] rfl (ResOne.c3 u33) (ResOne.tmp rfl) ?_
  ·rw [(do_arg hdo).1, (do_arg hdo).2]; rfl
 have hg1p := gP hg1
 have hdo : ¬ doOk s x := fun z => by have := z.1; simp_all
 refine WH.k hg1 (WH.k hg1 (WH.k hg1 (WH.k hg1 ?_)))
 refine WH.v (O.pt (G.ne_f hg1)) ?_
 refine WH.o rfl ?_
 have hg12 := G.ntf
 refine WH.k hg12 (WH.k hg12 (WH.k hg12 (WH.k hg12 ?_)))
 refine WH.v (O.pt rfl) ?_
 refine WH.nil (E.to ?_)
 refine W.cond_t rfl ?_
 refine W.rg ?_
 refine SL.v (O.bd6 u33) ?_
 refine SL.st3_3 103 ?_
 refine SL.a (E.fo (W.ret (E.thr ?_)))
 refine E.nilslC 103 1 8 (is' := [_, _, _]) rfl rfl rfl ?_
 refine E.nilslC 103 2 2 (is' := [_, _, _]) rfl rfl rfl ?_
 refine E.j2 [] rfl (ResOne.c3 u33) (ResOne.tmp rfl) ?_
 ·rw [(do_arg hdo).1, (do_arg hdo).2]; rfl

set_option maxRecDepth 8000 in
theorem run_h {s : St} {l : List Sp} :
    Con Tryz.prog 14 [vA [uI s.now, .sl 8 (s.cps.map eCp), .sl 2 (s.lns.map eLn)], vL 8 (l.map eSp)] [] (.tup [.agg [vI ((runF s l).1).now, vL 8 (((runF s l).1).cps.map eCp), vL 2 (((runF s l).1).lns.map eLn)], vI ((runF s l).2.1 : Nat), vI (runF s l).2.2]) [] := by
 obtain ⟨i38, hi38, hz38, hs38, hb38⟩ := hinf38
 refine Con.en 40 Tryz.func14 fun τ w ok vs hin => ?_
 have hl0_1 := hin.lenA (i := 0) (j := 1) rfl rfl
 try rw [List.length_map] at hl0_1
 have hl0_2 := hin.lenA (i := 0) (j := 2) rfl rfl
 try rw [List.length_map] at hl0_2
 have hl1 := hin.len (i := 1) rfl
 try rw [List.length_map] at hl1
 clear hin
 refine W.rg ?_
 refine SL.bx3 101 ?_
 refine SL.al9 102 ?_
 refine SL.a (SL.a (E.fo (W.seq (W.rg ?_))))
 refine SL.v (O.n3 u33) ?_
 refine SL.v (O.cp (q := stvalid_h (s := s))) ?_
 refine SL.v (O.nt) ?_
 refine E.fo ?_
 refine W.cc rfl (fun hc1 => ?_) fun hc1 => ?_
 ·refine W.rg ?_
  refine SL.v (O.bd6 u33) ?_
  refine SL.st3_3 102 ?_
  refine SL.a (SL.a (E.fo (W.ret (E.thr ?_))))
  refine E.nilslC 102 1 8 (is' := [_, _, _]) rfl rfl rfl ?_
  refine E.nilslC 102 2 2 (is' := [_, _, _]) rfl rfl rfl ?_
  refine E.j3 [] rfl (ResOne.c3 u33) (ResOne.tmp rfl) (ResOne.tmp rfl) ?_
  ·rw [runF, if_neg xV]; rfl
 have hv : validS s := by first | assumption | simp_all
 have hok := valid_ok hv
 have hrf : runF s l = runR s (l.drop 0) 0 := if_pos hv
 refine W.skip (E.to (W.rg ?_))
 refine SL.v (O.n3 u33) ?_
 refine SL.cl [(0, 103), (1, 104)] [] (.agg [.u _, .own 103, .own 104]) ((103, .data _ _ _) :: (104, .data _ _ _) :: _) (q := cloned_h (s := s) (by have := hv.2.1; omega) (by have := hok.2.1; omega) (fun l hl => by have := hok.2.2 l hl; omega))  (h := ?_)
 refine SL.st3_3 101 ?_
 refine E.fo (W.seq (W.rg (SL.o ?_)))
 refine SL.v (O.le u48) ?_
 refine SL.o (E.fo (W.block ?_))
 refine W.freezeC 101 1 103 (is' := [_, _, _]) rfl rfl rfl rfl ?_
 refine W.freezeC 101 2 104 (is' := [_, _, _]) rfl rfl rfl rfl ?_
 refine W.loopx2 (fun (k : Nat) (t : St) => [(19, vI (k : Int))]) (fun (k : Nat) (t : St) => [(101, .cells 33 [vI t.now, vL 8 (t.cps.map eCp), vL 2 (t.lns.map eLn)])]) (fun (k : Nat) (t : St) => k ≤ l.length ∧ runF s l = runR t (l.drop k) k) (fun (k : Nat) (t : St) => l.length - k) (0) (s) (rn []) (.cons (t := 1) rfl (.cons (t := 2) rfl (.cons (t := 4) rfl (.cons (t := 17) rfl (.cons (t := 18) rfl .nil))))) (.cons (t := 102) rfl .nil) rfl ?_ ?_ rfl rfl ?_ ?_
 · exact zH
 · exact wW
 ·exact ⟨xA, hrf⟩
 intro k t hinv
 obtain ⟨hk, hr⟩ := hinv
 refine W.rg ?_
 refine SL.v (O.lss) ?_
 refine E.fo (W.seq ?_)
 refine W.cc rfl (fun hc2 => ?_) fun hc2 => ?_
 ·refine W.skip (E.to (W.seq (W.block (W.rg (SL.o ?_)))))
  refine SL.v (O.ix u48 hi38 hs38) ?_
  refine SL.v (O.lU 8 u38) ?_
  refine SL.al8 105 ?_
  refine SL.a ?_
  refine SL.st8_8 105 ?_
  refine E.fo (W.rg ?_)
  refine SL.v (O.n3 u33) ?_
  refine SL.v (O.n8 u38) ?_
  refine SL.cl [] [] (.tup [.agg [.u _, .u _, .u _], .u _]) _ (q := do_h (s := t) (x := l[k]!))  (h := ?_)
  refine SL.o ?_
  refine SL.v (O.ex) ?_
  refine SL.v (O.ex) ?_
  refine SL.al9 106 ?_
  refine SL.st3_3 106 ?_
  refine SL.a (E.fo (W.seq (W.rg (SL.o ?_))))
  refine SL.v (O.neq) ?_
  refine E.fo ?_
  refine W.cc rfl (fun hc3 => ?_) fun hc3 => ?_
  ·refine W.rg ?_
   refine SL.v (O.n3 u33) ?_
   refine SL.o (SL.o ?_)
   refine SL.st3_3 102 ?_
   refine SL.a (SL.a (E.fo ?_))
   refine W.pk [(1,_),(2,_),(4,_),(5,_),(6,_),(9,_),(17,_),(18,_),(19,_)] [(101,_),(102,_),(105,_),(106,_)] ?_
   refine W.ret (E.thr ?_)
   refine E.inr ?_
   refine E.thr (E.thr ?_)
   refine E.inr ?_
   refine E.thr ?_
   refine E.j3 [] rfl (ResOne.c3 u33) (ResOne.tmp rfl) (ResOne.tmp rfl) ?_
   ·rw [hr, run_stop xA xA]; rfl
  refine W.skip (E.to (W.region ?_))
  refine SL.v (O.n3 u33) ?_
  refine SL.st3_3 101 ?_
  refine SL.nil (E.inn (E.to (W.region ?_)))
  refine SL.v (O.ad) ?_
  refine SL.o (SL.nil ?_)
  refine E.ai ((k + 1), (doS t l[k]!)) [] ?_
  ·try dsimp only
   exact ⟨xA, hr.trans (run_at xA xA)⟩
 refine W.exit (E.th (E.th (E.hit (E.to (W.rg ?_)))))
 refine SL.v (O.n3 u33) ?_
 refine SL.o ?_
 refine SL.v (O.le u48) ?_
 refine SL.st3_3 102 ?_
 refine SL.a (SL.a (E.fo (W.ret ?_)))
 refine E.j3 [] rfl (ResOne.c3 u33) (ResOne.tmp rfl) (ResOne.tmp rfl) ?_
 ·rw [hr, run_end xA]
  obtain rfl : k = l.length := by omega
  rfl

end Go.Proofs.YtmekkjehkcjpdaaGreat
end
section
namespace Go.D58
open Go Go.RowKit Go.H Go.D57
theorem valid_nil : validQ [] := ⟨fun i hi => absurd hi yE, by simp⟩
def okV (ls : List Ln) : Prop := ∀ l ∈ ls, validQ l.q
theorem valid_okV {s : St} (h : validS s) : okV s.lns := fun l hl => by
  obtain ⟨i, hi, rfl⟩ := mem_at hl
  exact (h.2.2.2.2.1 i hi).1.2.1
theorem que_okV {s : St} (h : okV s.lns) (w : Int) : validQ (queS s w) := by
  unfold queS
  split
  · rename_i e; exact h _ (at_mem (idxF_lt e).1)
  · exact valid_nil
theorem setQ_okV {ls : List Ln} (h : okV ls) (w : Int) {q : List Hd} (hq : validQ q) : okV (setQ ls w q) := by
  cases hf : kfnd (·.work) ls w with
  | true =>
    by_cases h0 : q.length = 0
    · rw [setQ_del hf h0]
      exact fun l hl => (List.mem_append.1 hl).elim (fun m => h l (List.mem_of_mem_take m)) (fun m => h l (List.mem_of_mem_drop m))
    · rw [setQ_set hf h0]
      exact fun l hl => (List.mem_or_eq_of_mem_set hl).elim (h l) (fun e => by rw [e]; exact hq)
  | false =>
    by_cases h0 : q.length = 0
    · rw [setQ_no hf h0]; exact h
    · rw [setQ_ins hf h0]
      refine fun l hl => (List.mem_append.1 hl).elim (fun m => h l (List.mem_of_mem_take m)) (fun m => ?_)
      rcases List.mem_cons.1 m with e | m
      · rw [e]; exact hq
      · exact h l (List.mem_of_mem_drop m)
theorem srv_okV {q : List Hd} (h : validQ q) (hl : ¬ q.length = 0) : validQ (srvQ q) := srvQ_valid (srv_0 h xA).1
theorem free_okV {s : St} (h : okV s.lns) (i : Nat) : okV (freeS s i).lns := by
  by_cases e : (queS s s.cps[i]!.work).length = 0
  · rw [free_0 e]; exact h
  · rw [free_1 e]; exact setQ_okV h _ (srv_okV (que_okV h _) e)
theorem put_okV {q : List Hd} {h : Hd} : validQ (putQ q h) := by
  unfold putQ
  split
  · rename_i e; exact put_valid e
  · exact valid_nil
theorem que_mem {s : St} (h : asc (·.work) s.lns) {l : Ln} (hl : l ∈ s.lns) : queS s l.work = l.q := by
  obtain ⟨j, hj, rfl⟩ := mem_at hl
  have e : idxF (fun x : Ln => decide (x.work = s.lns[j]!.work)) s.lns = j := idxF_here hj (fun i hi => decide_eq_false (by have : s.lns[i]!.work < s.lns[j]!.work := h i j hi hj; omega)) (decide_eq_true rfl)
  rw [queS_y xA, e]; rfl
theorem que_no {s : St} {w : Int} (h : ∀ l ∈ s.lns, l.work ≠ w) : queS s w = [] := queS_no fun q => by
  obtain ⟨l, hl, e⟩ := any_iff.2 q
  exact h l hl (of_decide_eq_true e)
theorem que_setQ {s : St} (h : asc (·.work) s.lns) (w : Int) (q : List Hd) (n : Int) (cs : List Cp) : queS ⟨n, cs, setQ s.lns w q⟩ w = q := by
  have hk := kpos_le (key := fun l : Ln => l.work) s.lns w
  cases hf : kfnd (·.work) s.lns w with
  | true =>
    obtain ⟨hlt, hw⟩ := (kfnd_iff h).1 hf
    by_cases h0 : q.length = 0
    · rw [setQ_del hf h0, List.eq_nil_of_length_eq_zero h0]
      refine que_no fun l hl => ?_
      obtain ⟨j, hj, rfl⟩ := mem_at hl
      have hl2 : (s.lns.take (kpos (·.work) s.lns w) ++ s.lns.drop (kpos (·.work) s.lns w + 1)).length = s.lns.length - 1 := by simp; omega
      show (s.lns.take (kpos (·.work) s.lns w) ++ s.lns.drop (kpos (·.work) s.lns w + 1))[j]!.work ≠ w
      rw [get_cut hlt (by rw [← hl2]; exact hj)]
      have hj2 : j < s.lns.length - 1 := by rw [← hl2]; exact hj
      split
      · rename_i e
        have : s.lns[j]!.work < s.lns[kpos (·.work) s.lns w]!.work := h _ _ e hlt
        omega
      · have : s.lns[kpos (·.work) s.lns w]!.work < s.lns[j + 1]!.work := h _ _ xA xA
        omega
    · rw [setQ_set hf h0]
      have := que_mem (s := ⟨n, cs, s.lns.set (kpos (·.work) s.lns w) ⟨s.lns[kpos (·.work) s.lns w]!.work, q⟩⟩) (asc_set h rfl) (List.mem_set hlt _)
      have hw2 : s.lns[kpos (·.work) s.lns w]!.work = w := hw
      refine Eq.trans ?_ this
      show queS ⟨n, cs, s.lns.set (kpos (·.work) s.lns w) ⟨s.lns[kpos (·.work) s.lns w]!.work, q⟩⟩ w = queS ⟨n, cs, s.lns.set (kpos (·.work) s.lns w) ⟨s.lns[kpos (·.work) s.lns w]!.work, q⟩⟩ s.lns[kpos (·.work) s.lns w]!.work
      rw [hw2]
  | false =>
    by_cases h0 : q.length = 0
    · rw [setQ_no hf h0, List.eq_nil_of_length_eq_zero h0]
      refine que_no fun l hl => ?_
      obtain ⟨j, hj, rfl⟩ := mem_at hl
      exact kfnd_no h hf hj
    · rw [setQ_ins hf h0]
      exact que_mem (s := ⟨n, cs, s.lns.take (kpos (·.work) s.lns w) ++ ⟨w, q⟩ :: s.lns.drop (kpos (·.work) s.lns w)⟩) (l := ⟨w, q⟩) (asc_ins (x := (⟨w, q⟩ : Ln)) h hf) (List.mem_append_right _ List.mem_cons_self)
def fairP (s n : St) (i : Int) : Prop := 0 ≤ cpI n i ∧ ((queS s (finD n i).work).length = 0 → (finD n i).place = 1) ∧
  (0 < (queS s (finD n i).work).length → (finD n i).place = 3 ∧ (finD n i).hold = (nextH (queS s (finD n i).work)).id ∧ (finD n i).pat = (nextH (queS s (finD n i).work)).pat ∧ (queS n (finD n i).work).length + 1 = (queS s (finD n i).work).length)
def rcF (w : Int) (c : Cp) : Bool := decide (c.work = w ∧ c.place = 2 ∧ c.rc = true)
def rcN (cs : List Cp) (w : Int) : Nat := (cs.filter (rcF w)).length
theorem cnt_set {p : Cp → Bool} {l : List Cp} {i : Nat} {c : Cp} (hi : i < l.length) : ((l.set i c).filter p).length + (if p l[i]! = true then 1 else 0) = (l.filter p).length + (if p c = true then 1 else 0) := by
  have e : l = l.take i ++ l[i]! :: l.drop (i + 1) := by rw [← drop_at hi, List.take_append_drop]
  have e2 : l.set i c = l.take i ++ c :: l.drop (i + 1) := by rw [List.set_eq_take_append_cons_drop, if_pos hi]
  have e3 : (l.filter p).length = ((l.take i ++ l[i]! :: l.drop (i + 1)).filter p).length := by rw [← e]
  rw [e3, e2, List.filter_append, List.filter_append, List.filter_cons, List.filter_cons]
  cases p l[i]! <;> cases p c <;> simp <;> omega
theorem ask_put {s : St} {x : Sp} (hv : validS s) (he : askE s x = 0) : putE (queS s x.work) (hldX s x) = 0 := by
  obtain ⟨⟨_, h2, h3, h4⟩, _, hu, _, hp, h60, _⟩ := ask_ok he
  have hn := hv.1
  have g : validQ (queS s x.work) ∧ goodH (h0 (hldX s x)) := by
    refine ⟨que_okV (valid_okV hv) _, ?_⟩
    unfold idB inB at h2 h3
    unfold inB at h4 hn
    show 1 ≤ x.hold ∧ x.hold ≤ 1000000000 ∧ 1 ≤ x.pat ∧ x.pat ≤ 1000000000 ∧ 1 ≤ x.cls ∧ x.cls ≤ 3 ∧ 0 ≤ s.now ∧ s.now ≤ 1000000 ∧ (0 : Int) ≤ 0 ∧ (0 : Int) ≤ 2
    omega
  have l : ¬ likeQ (queS s x.work) (h0 (hldX s x)) := by
    rintro ⟨j, hj, e⟩
    have hm : (queS s x.work)[j]! ∈ queS s x.work := at_mem hj
    rcases e with e | e
    · unfold useB at hu
      rw [Bool.or_eq_false_iff] at hu
      refine of_decide_eq_false hu.2 (any_iff.1 ?_)
      obtain ⟨y, hm, e⟩ : ∃ y ∈ queS s x.work, y.id = x.hold := ⟨_, hm, e⟩
      unfold queS at hm
      split at hm
      · rename_i q
        exact ⟨_, at_mem (idxF_lt q).1, decide_eq_true (any_iff.1 ⟨_, hm, decide_eq_true e⟩)⟩
      · cases hm
    · exact hp (any_iff.1 ⟨_, hm, decide_eq_true e⟩)
  exact (put_0 g l h60).1
def jena : List UInt8 := [106, 101, 110, 97]
def exL : List Sp := [⟨1, 1, 9, 0, 0, 0, 0, jena⟩, ⟨3, 1, 0, 5, 0, 0, 0, []⟩, ⟨8, 0, 0, 0, 0, 0, 10, []⟩, ⟨6, 0, 9, 6, 3, 2, 0, []⟩]
def exS : St := ⟨10, [⟨1, 9, jena, 2, 5, 17, 0, true⟩], [⟨9, [⟨3, 6, 2, 10, 0⟩]⟩]⟩
def exT : St := ⟨12, [⟨1, 9, jena, 2, 5, 17, 0, true⟩], [⟨9, [⟨3, 6, 2, 10, 0⟩]⟩]⟩
def exU : St := ⟨12, [⟨1, 9, jena, 3, 6, 19, 3, false⟩], []⟩
set_option maxRecDepth 100000 in
theorem ex_run : runF zeroS exL = (exS, 4, 0) := by kernel_rfl
theorem ex_t : doS exS ⟨8, 0, 0, 0, 0, 0, 2, []⟩ = exT ∧ doE exS ⟨8, 0, 0, 0, 0, 0, 2, []⟩ = 0 := ⟨by kernel_rfl, by kernel_rfl⟩
theorem ex_u : doS exT ⟨4, 1, 0, 0, 0, 0, 0, []⟩ = exU ∧ doE exT ⟨4, 1, 0, 0, 0, 0, 0, []⟩ = 0 := ⟨by kernel_rfl, by kernel_rfl⟩
theorem ex_valid : decide (validS exU) = true := by kernel_rfl
end Go.D58
end
section
namespace Go.Proofs.YtmekkjehkcjpdaaGreat
open Go Go.RowKit Go.H Go.D57 Go.D58

theorem hinf27 : ∃ i, Tryz.prog.info? 27 = some i ∧ i.zero = some (.agg #[.int .i64 0, .int .i64 0, .int .i64 0, .int .i64 0, .int .i64 0, .int .i64 0, .int .i64 0, .string ByteArray.empty]) ∧ i.size = 8 ∧ i.bytes = 72 := G.info_of xG

def fewL (l : List Sp) : Prop := (∀ j, j < l.length → l[j]!.lib.length ≤ 50) ∧ l.length ≤ 30
instance (l : List Sp) : Decidable (fewL l) := by unfold fewL; infer_instance

set_option maxRecDepth 8000 in
theorem fewSteps_h {l : List Sp} :
    Con Tryz.prog 13 [vL 8 (l.map eSp)] [] (vB (decide (fewL l))) [] := by
 obtain ⟨i27, hi27, hz27, hs27, hb27⟩ := hinf27
 refine Con.en 19 Tryz.func13 fun τ w ok vs hin => ?_
 have hl0 := hin.len (i := 0) rfl
 try rw [List.length_map] at hl0
 clear hin
 refine W.rg (SL.a (E.fo (W.seq (W.rg (SL.o ?_)))))
 refine SL.v (O.le u44) ?_
 refine SL.o (E.fo (W.block ?_))
 refine W.lq (fun (k : Nat) => [(7, vI (k : Int))]) (fun (k : Nat) => []) (fun (k : Nat) => k ≤ l.length ∧ ∀ j, j < k → l[j]!.lib.length ≤ 50) (fun (k : Nat) => l.length - k) (0) [] [(0, _), (5, _), (6, _)] [] ?_ ?_
 ·exact yG
 intro k hinv
 obtain ⟨hk, hp⟩ := hinv
 refine W.rg ?_
 refine SL.v (O.lss) ?_
 refine E.fo (W.seq ?_)
 refine W.cc rfl (fun hc1 => ?_) fun hc1 => ?_
 ·refine W.skip (E.to (W.seq (W.block (W.rg ?_))))
  refine SL.v (O.ix u44 hi27 hs27) ?_
  refine SL.v (O.lU 8 u27) ?_
  refine SL.al8 101 ?_
  refine SL.st8_8 101 ?_
  refine E.fo (W.rg ?_)
  refine SL.v (O.fr 7 0 u27) ?_
  refine SL.v (O.l1 u9) ?_
  refine SL.v (O.det (fun _ => G.R.lenL rfl u9) rfl Taken.no) ?_
  refine SL.v (O.gtr) ?_
  refine E.fo ?_
  refine W.cc rfl (fun hc2 => ?_) fun hc2 => ?_
  ·refine W.rg (SL.a (E.fo (W.ret ?_)))
   refine E.inr ?_
   refine E.thr (E.thr ?_)
   refine E.inr ?_
   refine E.thr ?_
   refine E.h1 [] ?_
   ·exact iv_bool (dec_f fun z => by have := z.1 k xA; omega)
  refine W.skip (E.inn (E.to (W.region ?_)))
  refine SL.v (O.ad) ?_
  refine SL.o (SL.nil ?_)
  refine E.ai (k + 1) [] ?_
  ·try dsimp only
   exact ⟨xA, upto_s hp xA⟩
 refine W.exit (E.th (E.th (E.hit (E.to (W.rg (SL.o ?_))))))
 refine SL.v (O.le u44) ?_
 refine SL.v (O.leq) ?_
 refine SL.a (E.fo (W.ret ?_))
 refine E.h1 [] ?_
 ·exact iv_bool (dec_iff ⟨fun z => by have := z.2; omega, fun z => ⟨fun j hj => hp j xA, xA⟩⟩)

set_option maxRecDepth 8000 in
theorem awake_h  :
    Con Tryz.prog 6 [] [] (vB true) [] := by
 obtain ⟨i38, hi38, hz38, hs38, hb38⟩ := hinf38
 refine Con.en 90 Tryz.func6 fun τ w ok vs hin => ?_
 clear hin
 refine W.rg (SL.a (E.fo (W.rg ?_)))
 refine SL.v (O.bd4 u38) ?_
 refine SL.v (O.bd4 u38) ?_
 refine SL.v (O.bd4 u38) ?_
 refine SL.v (O.bd4 u38) ?_
 refine SL.memS (O.buildSlice 101 (rows := exL.map eSp) rfl rfl u48 hi38 hz38 hs38 xI rfl xI rfl rfl rfl Taken.no) rfl rfl (S' := (101, .data 38 8 (exL.map eSp)) :: _) rfl ?_
 refine SL.a (E.fo (W.rg ?_))
 refine SL.v (O.bd6 u33) ?_
 refine SL.o ?_
 refine SL.freeze 101 rfl (F' := [(17, _), (1, _), (20, _)]) (⟨⟨_, rfl, rfl⟩, ⟨_, rfl, rfl⟩, ⟨_, rfl, rfl⟩, trivial⟩) ?_
 refine SL.cl [] [] (.tup [.agg [.u _, .u _, .u _], .u _, .u _]) _ (q := run_h (s := zeroS) (l := exL))  (h := ?_)
 refine SL.as (i' := .tup [.agg [vI (exS).now, vL 8 ((exS).cps.map eCp), vL 2 ((exS).lns.map eLn)], vI 4, vI 0]) 21 rfl (by rw [ex_run]; rfl) ?_
 refine SL.o ?_
 refine SL.v (O.ex) ?_
 refine SL.v (O.ex) ?_
 refine SL.v (O.ex) ?_
 refine SL.al9 102 ?_
 refine SL.st3_3 102 ?_
 refine SL.a (SL.a (E.fo (W.rg ?_)))
 refine SL.v (O.n3 u33) ?_
 refine SL.cl [] [] (.tup [.agg [.u _, .u _, .u _, .u _, .u _, .u _, .u _, .u _], .u _]) _ (q := find_h (s := exS) (i := 1))  (h := ?_)
 refine SL.as (i' := .tup [.agg [vI 1, vI 9, vT jena, vI 2, vI 5, vI 17, vI 0, vB true], vB true]) 27 rfl yT ?_
 refine SL.o ?_
 refine SL.v (O.ex) ?_
 refine SL.v (O.ex) ?_
 refine SL.al3 103 ?_
 refine SL.st8_8 103 ?_
 refine SL.a (E.fo ?_)
 refine W.pk [(0,_),(2,_),(3,_),(4,_),(5,_),(6,_)] [(102,_),(103,_)] ?_
 refine W.rg ?_
 refine SL.v (O.n3 u33) ?_
 refine SL.v (O.bd4 u38) ?_
 refine SL.cl [] [] (.tup [.agg [.u _, .u _, .u _], .u _]) _ (q := do_h (s := exS) (x := ⟨8, 0, 0, 0, 0, 0, 2, []⟩))  (h := ?_)
 refine SL.as (i' := .tup [.agg [vI (exT).now, vL 8 ((exT).cps.map eCp), vL 2 ((exT).lns.map eLn)], vI 0]) 33 rfl (by rw [ex_t.1, ex_t.2]) ?_
 refine SL.o ?_
 refine SL.v (O.ex) ?_
 refine SL.v (O.ex) ?_
 refine SL.al9 104 ?_
 refine SL.st3_3 104 ?_
 refine SL.a (E.fo (W.rg ?_))
 refine SL.v (O.n3 u33) ?_
 refine SL.v (O.bd4 u38) ?_
 refine SL.cl [] [] (.tup [.agg [.u _, .u _, .u _], .u _]) _ (q := do_h (s := exT) (x := ⟨4, 1, 0, 0, 0, 0, 0, []⟩))  (h := ?_)
 refine SL.as (i' := .tup [.agg [vI (exU).now, vL 8 ((exU).cps.map eCp), vL 2 ((exU).lns.map eLn)], vI 0]) 39 rfl (by rw [ex_u.1, ex_u.2]) ?_
 refine SL.o ?_
 refine SL.v (O.ex) ?_
 refine SL.v (O.ex) ?_
 refine SL.al9 105 ?_
 refine SL.st3_3 105 ?_
 refine SL.a (E.fo (W.rg ?_))
 refine SL.v (O.n3 u33) ?_
 refine SL.cl [] [] (.tup [.agg [.u _, .u _, .u _, .u _, .u _, .u _, .u _, .u _], .u _]) _ (q := find_h (s := exU) (i := 1))  (h := ?_)
 refine SL.as (i' := .tup [.agg [vI 1, vI 9, vT jena, vI 3, vI 6, vI 19, vI 3, vB false], vB true]) 44 rfl yT ?_
 refine SL.o ?_
 refine SL.v (O.ex) ?_
 refine SL.v (O.ex) ?_
 refine SL.al3 106 ?_
 refine SL.st8_8 106 ?_
 refine SL.a (E.fo ?_)
 refine W.pk [(0,_),(3,_),(4,_),(5,_),(6,_),(8,_),(9,_),(10,_),(11,_),(12,_)] [(102,_),(103,_),(104,_),(105,_),(106,_)] ?_
 refine W.rg (SL.o ?_)
 refine SL.v (O.det (fun _ => G.R.mv (G.R.eql rfl rfl) (congrArg Value.bool (decide_eq_true yT))) rfl Taken.no) ?_
 refine SL.o ?_
 have hg1 : true = true := by decide
 refine SL.v (O.mo (tY hg1)) ?_
 refine SL.v (O.det (fun _ => G.R.mv (G.R.eql rfl rfl) (congrArg Value.bool (decide_eq_true yT))) rfl (Taken.yes rfl rfl hg1)) ?_
 refine SL.v (O.pt rfl) ?_
 refine SL.o ?_
 have hg2 : true = true := by decide
 refine SL.v (O.mo (tY hg2)) ?_
 refine SL.v (O.det (fun _ => G.R.mv (G.R.eql rfl rfl) (congrArg Value.bool (decide_eq_true yT))) rfl (Taken.yes rfl rfl hg2)) ?_
 refine SL.v (O.pt rfl) ?_
 refine SL.o ?_
 have hg3 : true = true := by decide
 refine SL.v (O.mo (tY hg3)) ?_
 refine SL.v (O.det (fun _ => G.R.mv (G.R.eql rfl rfl) (congrArg Value.bool (decide_eq_true yT))) rfl (Taken.yes rfl rfl hg3)) ?_
 refine SL.v (O.pt rfl) ?_
 refine SL.o ?_
 have hg4 : true = true := by decide
 refine SL.v (O.mo (tY hg4)) ?_
 refine SL.v (O.pt rfl) ?_
 refine SL.o ?_
 have hg5 : true = true := by decide
 refine SL.v (O.mo (tY hg5)) ?_
 refine SL.v (O.pt rfl) ?_
 refine SL.o ?_
 have hg6 : true = true := by decide
 refine SL.v (O.fr 5 0 u55 (tY hg6)) ?_
 refine SL.v (O.l1 u3 (tY hg6)) ?_
 refine SL.v (O.det (fun _ => G.R.mv (G.R.eql rfl rfl) (congrArg Value.bool (decide_eq_true yT))) rfl (Taken.yes rfl rfl hg6)) ?_
 refine SL.v (O.pt rfl) ?_
 refine SL.o ?_
 have hg7 : true = true := by decide
 refine SL.v (O.fr 7 0 u55 (tY hg7)) ?_
 refine SL.v (O.l1 u4 (tY hg7)) ?_
 refine SL.v (O.pt rfl) ?_
 refine SL.o ?_
 have hg8 : true = true := by decide
 refine SL.v (O.fr 3 0 u55 (tY hg8)) ?_
 refine SL.v (O.l1 u3 (tY hg8)) ?_
 refine SL.v (O.det (fun _ => G.R.mv (G.R.eql rfl rfl) (congrArg Value.bool (decide_eq_true yT))) rfl (Taken.yes rfl rfl hg8)) ?_
 refine SL.v (O.pt rfl) ?_
 refine SL.o ?_
 have hg9 : true = true := by decide
 refine SL.v (O.fr 5 0 u55 (tY hg9)) ?_
 refine SL.v (O.l1 u3 (tY hg9)) ?_
 refine SL.v (O.det (fun _ => G.R.mv (G.R.eql rfl rfl) (congrArg Value.bool (decide_eq_true yT))) rfl (Taken.yes rfl rfl hg9)) ?_
 refine SL.v (O.pt rfl) ?_
 refine SL.o ?_
 have hg10 : true = true := by decide
 refine SL.v (O.n3 u33 (tY hg10)) ?_
 refine SL.v (O.cp (q := stvalid_h (s := exU)) (hg := (tY hg10))) ?_
 refine SL.as (i' := vB true) 88 rfl (by exact iv_bool (ex_valid)) ?_
 refine SL.v (O.pt rfl) ?_
 refine SL.a (E.fo ?_)
 refine W.pk [(0,_)] [(102,_),(103,_),(104,_),(105,_),(106,_)] ?_
 refine W.ret ?_
 refine E.h1 [] ?_
 ·rfl

end Go.Proofs.YtmekkjehkcjpdaaGreat
end
section
namespace Go.D58
open Go Go.RowKit Go.H Go.D57
abbrev Ev := Int × Int × Int
def pw (e : Ev) : Int × Int := (e.1, e.2.1)
def hsE (l : List Ev) : List Int := (l.map (·.2.2)).filter fun h => decide (h ≠ 0)
def evC (cs : List Cp) : List Ev := (cs.filter fun c => decide (c.place ≠ 1)).map fun c => (c.pat, c.work, c.hold)
def evQ (w : Int) (q : List Hd) : List Ev := q.map fun h => (h.pat, w, h.id)
def evL (ls : List Ln) : List Ev := ls.flatMap fun l => evQ l.work l.q
def tks : List Ev → Tk → Option Tk
  | [], t => some t
  | e :: l, t => if (tkF t e.1 e.2.1 e.2.2).isSome then tks l (tkN t e.1 e.2.1 e.2.2) else none
theorem tks_app : ∀ (a b : List Ev) (t : Tk), tks (a ++ b) t = (tks a t).bind (tks b)
  | [], b, t => rfl
  | e :: a, b, t => by
    rw [List.cons_append, tks, tks]
    split
    · exact tks_app a b _
    · rfl
theorem apQ_tks (w : Int) : ∀ (q : List Hd) (t : Tk), apQ w q t = tks (evQ w q) t
  | [], t => rfl
  | h :: q, t => by
    rw [apQ, evQ, List.map_cons, tks]
    split
    · exact apQ_tks w q _
    · rfl
theorem apLs_tks : ∀ (ls : List Ln) (t : Tk), apLs ls t = tks (evL ls) t
  | [], t => rfl
  | l :: ls, t => by
    rw [apLs, evL, List.flatMap_cons, tks_app, apQ_tks]
    congr 1
    funext u
    exact apLs_tks ls u
def lnC (cs : List Cp) (p : Int) : Nat := (cs.filter fun c => decide (c.place = 2 ∧ c.pat = p)).length
def lnOkC (cs : List Cp) (m : List (Int × Int)) : Prop := ∀ p, 0 < lnC cs p → mget m p 0 + lnC cs p ≤ 5
theorem lnC_cons (c : Cp) (cs : List Cp) (p : Int) : lnC (c :: cs) p = lnC cs p + if c.place = 2 ∧ c.pat = p then 1 else 0 := by
  unfold lnC
  rw [List.filter_cons]
  by_cases e : c.place = 2 ∧ c.pat = p
  · rw [if_pos (decide_eq_true e), if_pos e]; rfl
  · rw [if_neg wU, if_neg e]; rfl
theorem lnC_app (a b : List Cp) (p : Int) : lnC (a ++ b) p = lnC a p + lnC b p := by
  unfold lnC; rw [List.filter_append, List.length_append]
theorem apCs_iff (ls : List Ln) : ∀ (cs : List Cp) (t : Tk) (m : List (Int × Int)), ((apCs cs (t, m)).bind fun x => apLs ls x.1).isSome = true ↔ (tks (evC cs ++ evL ls) t).isSome = true ∧ lnOkC cs m
  | [], t, m => by
    show (apLs ls t).isSome = true ↔ _
    rw [apLs_tks]
    exact ⟨fun h => ⟨h, fun p hp => absurd hp (Nat.lt_irrefl 0)⟩, fun h => h.1⟩
  | c :: cs, t, m => by
    rw [apCs]
    have hev1 : c.place = 1 → evC (c :: cs) = evC cs := fun e => by unfold evC; rw [List.filter_cons, if_neg (by rw [decide_eq_false (fun q => q e)]; decide)]
    have hev : ¬ c.place = 1 → evC (c :: cs) = (c.pat, c.work, c.hold) :: evC cs := fun e => by unfold evC; rw [List.filter_cons, if_pos (decide_eq_true e)]; rfl
    have hln : ¬ c.place = 2 → (lnOkC (c :: cs) m ↔ lnOkC cs m) := fun e => by
      have : ∀ p, lnC (c :: cs) p = lnC cs p := fun p => by rw [lnC_cons, if_neg (fun q => e q.1)]; rfl
      unfold lnOkC
      simp only [this]
    unfold apC
    by_cases e1 : c.place = 1
    · rw [if_pos e1, hev1 e1]
      show ((apCs cs (t, m)).bind _).isSome = true ↔ _
      rw [apCs_iff ls cs t m, hln xA]
    · rw [if_neg e1, hev e1, List.cons_append, tks]
      by_cases e2 : (tkF t c.pat c.work c.hold).isSome = true
      · rw [if_pos e2, if_pos e2]
        by_cases e3 : c.place = 2
        · rw [if_pos e3]
          by_cases e4 : mget (apM m c.pat) c.pat 0 > 5
          · rw [if_pos e4]
            refine ⟨fun h => (by cases h), fun h => ?_⟩
            have h1 := h.2 c.pat (by rw [lnC_cons, if_pos ⟨e3, rfl⟩]; omega)
            rw [lnC_cons, if_pos ⟨e3, rfl⟩] at h1
            rw [apM_get] at e4
            omega
          · rw [if_neg e4]
            show ((apCs cs (tkN t c.pat c.work c.hold, apM m c.pat)).bind _).isSome = true ↔ _
            rw [apCs_iff ls cs _ _]
            refine and_congr_right fun _ => ?_
            rw [apM_get] at e4
            constructor
            · intro h p hp
              by_cases ep : c.pat = p
              · subst ep
                rw [lnC_cons, if_pos ⟨e3, rfl⟩]
                by_cases h0 : 0 < lnC cs c.pat
                · have := h c.pat h0
                  rw [apM_get] at this; omega
                · omega
              · rw [lnC_cons, if_neg (fun q => ep q.2)] at hp ⊢
                have := h p hp
                rw [apM, mget_mset, if_neg (fun q => ep q.symm)] at this
                exact this
            · intro h p hp
              by_cases ep : c.pat = p
              · subst ep
                have := h c.pat (by rw [lnC_cons, if_pos ⟨e3, rfl⟩]; omega)
                rw [lnC_cons, if_pos ⟨e3, rfl⟩] at this
                rw [apM_get]; omega
              · have := h p (by rw [lnC_cons, if_neg (fun q => ep q.2)]; exact hp)
                rw [lnC_cons, if_neg (fun q => ep q.2)] at this
                rw [apM, mget_mset, if_neg (fun q => ep q.symm)]
                exact this
        · rw [if_neg e3]
          show ((apCs cs (tkN t c.pat c.work c.hold, m)).bind _).isSome = true ↔ _
          rw [apCs_iff ls cs _ _, hln e3]
      · rw [if_neg e2, if_neg e2]
        exact ⟨fun h => (by cases h), fun h => (by cases h.1)⟩
def rep (t : Tk) (A : List (Int × Int)) (B : List Int) : Prop := (∀ a, mget t.has a false = true ↔ a ∈ A) ∧ (∀ h, mget t.hol h false = true ↔ h ∈ B)
theorem mget_nil {α β : Type} [DecidableEq α] (a : α) (d : β) : mget ([] : List (α × β)) a d = d := rfl
theorem rep_nil : rep ⟨[], []⟩ [] [] := ⟨fun a => by rw [mget_nil]; simp, fun h => by rw [mget_nil]; simp⟩
theorem hsE_cons (e : Ev) (l : List Ev) : hsE (e :: l) = if e.2.2 ≠ 0 then e.2.2 :: hsE l else hsE l := by
  unfold hsE
  rw [List.map_cons, List.filter_cons]
  by_cases h : e.2.2 ≠ 0
  · rw [if_pos (decide_eq_true h), if_pos h]
  · rw [if_neg (by rw [decide_eq_false h]; decide), if_neg h]
theorem tks_iff : ∀ (l : List Ev) (t : Tk) (A : List (Int × Int)) (B : List Int), rep t A B → ((tks l t).isSome = true ↔ ((l.map pw).Nodup ∧ ∀ a ∈ l.map pw, a ∉ A) ∧ ((hsE l).Nodup ∧ ∀ h ∈ hsE l, h ∉ B))
  | [], t, A, B, _ => ⟨fun _ => ⟨⟨List.nodup_nil, fun _ h => by cases h⟩, ⟨List.nodup_nil, fun _ h => by cases h⟩⟩, fun _ => rfl⟩
  | e :: l, t, A, B, hr => by
    rw [tks]
    by_cases hb : mget t.has (e.1, e.2.1) false = true ∨ (e.2.2 ≠ 0 ∧ mget t.hol e.2.2 false = true)
    · rw [if_neg (by rw [(tk_no hb).1]; decide)]
      refine ⟨fun h => (by cases h), fun h => ?_⟩
      rcases hb with hb | ⟨h0, hb⟩
      · exact absurd ((hr.1 _).1 hb) (h.1.2 _ (List.mem_map_of_mem List.mem_cons_self))
      · refine absurd ((hr.2 _).1 hb) (h.2.2 _ ?_)
        rw [hsE_cons, if_pos h0]; exact List.mem_cons_self
    · obtain ⟨q1, q2, q3, q4⟩ := tk_y hb
      rw [if_pos (by rw [q1]; rfl)]
      have hA : pw e ∉ A := fun m => hb (.inl ((hr.1 _).2 m))
      by_cases h0 : e.2.2 ≠ 0
      · have hB : e.2.2 ∉ B := fun m => hb (.inr ⟨h0, (hr.2 _).2 m⟩)
        have hr2 : rep (tkN t e.1 e.2.1 e.2.2) (pw e :: A) (e.2.2 :: B) := by
          refine ⟨fun a => ?_, fun h => ?_⟩
          · rw [q2, mget_mset, List.mem_cons, ← hr.1 a]
            split
            · rename_i z; exact ⟨fun _ => .inl z, fun _ => rfl⟩
            · rename_i z; exact ⟨.inr, fun q => q.resolve_left fun y => z y⟩
          · rw [q3 h0, mget_mset, List.mem_cons, ← hr.2 h]
            split
            · rename_i z; exact ⟨fun _ => .inl z, fun _ => rfl⟩
            · rename_i z; exact ⟨.inr, fun q => q.resolve_left fun y => z y⟩
        rw [tks_iff l _ _ _ hr2, hsE_cons, if_pos h0, List.map_cons]
        simp only [List.nodup_cons, List.mem_cons, not_or, forall_eq_or_imp]
        constructor
        · rintro ⟨⟨a1, a2⟩, a3, a4⟩
          exact ⟨⟨⟨fun m => (a2 _ m).1 rfl, a1⟩, hA, fun a m => (a2 a m).2⟩, ⟨fun m => (a4 _ m).1 rfl, a3⟩, hB, fun h m => (a4 h m).2⟩
        · rintro ⟨⟨⟨a1, a2⟩, _, a3⟩, ⟨a4, a5⟩, _, a6⟩
          exact ⟨⟨a2, fun a m => ⟨fun z => a1 (z ▸ m), a3 a m⟩⟩, a5, fun h m => ⟨fun z => a4 (z ▸ m), a6 h m⟩⟩
      · have hr2 : rep (tkN t e.1 e.2.1 e.2.2) (pw e :: A) B := by
          refine ⟨fun a => ?_, fun h => by rw [q4 h0]; exact hr.2 h⟩
          rw [q2, mget_mset, List.mem_cons, ← hr.1 a]
          split
          · rename_i z; exact ⟨fun _ => .inl z, fun _ => rfl⟩
          · rename_i z; exact ⟨.inr, fun q => q.resolve_left fun y => z y⟩
        rw [tks_iff l _ _ _ hr2, hsE_cons, if_neg h0, List.map_cons]
        simp only [List.nodup_cons, List.mem_cons, not_or, forall_eq_or_imp]
        constructor
        · rintro ⟨⟨a1, a2⟩, a3, a4⟩
          exact ⟨⟨⟨fun m => (a2 _ m).1 rfl, a1⟩, hA, fun a m => (a2 a m).2⟩, a3, a4⟩
        · rintro ⟨⟨⟨a1, a2⟩, _, a3⟩, a5, a6⟩
          exact ⟨⟨a2, fun a m => ⟨fun z => a1 (z ▸ m), a3 a m⟩⟩, a5, a6⟩
def evA (s : St) : List Ev := evC s.cps ++ evL s.lns
def apt (s : St) : Prop := ((evA s).map pw).Nodup ∧ (hsE (evA s)).Nodup ∧ ∀ p, lnC s.cps p ≤ 5
theorem apart_iff (s : St) : apartB s = true ↔ apt s := by
  unfold apartB
  rw [apCs_iff, tks_iff _ _ _ _ rep_nil]
  unfold apt
  constructor
  · rintro ⟨⟨⟨h1, _⟩, h2, _⟩, h3⟩
    refine ⟨h1, h2, fun p => ?_⟩
    by_cases h0 : 0 < lnC s.cps p
    · have := h3 p h0
      rw [mget_nil] at this
      omega
    · omega
  · rintro ⟨h1, h2, h3⟩
    refine ⟨⟨⟨h1, fun a _ h => by cases h⟩, h2, fun a _ h => by cases h⟩, fun p _ => ?_⟩
    have := h3 p
    rw [mget_nil]
    omega
end Go.D58
end
section
namespace Go.D58
open Go Go.RowKit Go.H Go.D57
theorem evC_app (a b : List Cp) : evC (a ++ b) = evC a ++ evC b := by unfold evC; rw [List.filter_append, List.map_append]
theorem evL_app (a b : List Ln) : evL (a ++ b) = evL a ++ evL b := by unfold evL; rw [List.flatMap_append]
theorem evL_cons (l : Ln) (a : List Ln) : evL (l :: a) = evQ l.work l.q ++ evL a := by unfold evL; rw [List.flatMap_cons]
theorem evC_one {c : Cp} (h : c.place = 1) : evC [c] = [] := by unfold evC; rw [List.filter_cons, if_neg (by rw [decide_eq_false (fun q => q h)]; decide)]; rfl
theorem evC_two {c : Cp} (h : c.place ≠ 1) : evC [c] = [(c.pat, c.work, c.hold)] := by unfold evC; rw [List.filter_cons, if_pos (decide_eq_true h)]; rfl
theorem split_at {α : Type} [Inhabited α] {l : List α} {i : Nat} (hi : i < l.length) : l = l.take i ++ [l[i]!] ++ l.drop (i + 1) := by
  rw [List.append_assoc, List.singleton_append, ← drop_at hi, List.take_append_drop]
theorem set_split {α : Type} {l : List α} {i : Nat} {c : α} (hi : i < l.length) : l.set i c = l.take i ++ [c] ++ l.drop (i + 1) := by
  rw [List.set_eq_take_append_cons_drop, if_pos hi, List.append_assoc]; rfl
theorem evC_set {cs : List Cp} {i : Nat} {c : Cp} (hi : i < cs.length) : evC (cs.set i c) = evC (cs.take i) ++ evC [c] ++ evC (cs.drop (i + 1)) := by rw [set_split hi, evC_app, evC_app]
theorem evC_at {cs : List Cp} {i : Nat} (hi : i < cs.length) : evC cs = evC (cs.take i) ++ evC [cs[i]!] ++ evC (cs.drop (i + 1)) := by
  conv => lhs; rw [split_at hi]
  rw [evC_app, evC_app]
def subE (a b : List Ev) : Prop := ∃ c : List Ev, a.Perm c ∧ c.Sublist b
theorem subE.sub {a b : List Ev} (h : a.Sublist b) : subE a b := ⟨a, List.Perm.refl a, h⟩
theorem subE.pw {a b : List Ev} (h : subE a b) (hb : (b.map pw).Nodup) : (a.map pw).Nodup := by
  obtain ⟨c, h1, h2⟩ := h
  exact ((h1.map D58.pw).nodup_iff).2 (hb.sublist (h2.map D58.pw))
theorem subE.hs {a b : List Ev} (h : subE a b) (hb : (hsE b).Nodup) : (hsE a).Nodup := by
  obtain ⟨c, h1, h2⟩ := h
  unfold hsE at *
  exact (((h1.map _).filter _).nodup_iff).2 (hb.sublist ((h2.map _).filter _))
theorem subE.perm_r {a b c : List Ev} (h : subE a b) (hp : b.Perm c) : (c.map D58.pw).Nodup → (hsE c).Nodup → (a.map D58.pw).Nodup ∧ (hsE a).Nodup := fun h1 h2 => by
  refine ⟨h.pw (((hp.map D58.pw).nodup_iff).2 h1), h.hs ?_⟩
  unfold hsE at *
  exact (((hp.map _).filter _).nodup_iff).2 h2
theorem setQ_mem {ls : List Ln} (h : asc (·.work) ls) {w : Int} {q : List Hd} {l : Ln} (hl : l ∈ setQ ls w q) : (l ∈ ls ∧ l.work ≠ w) ∨ (l = ⟨w, q⟩ ∧ q.length ≠ 0) := by
  have hk := kpos_le (key := fun l : Ln => l.work) ls w
  cases hf : kfnd (·.work) ls w with
  | true =>
    obtain ⟨hlt, hw⟩ := (kfnd_iff h).1 hf
    have hw2 : ls[kpos (·.work) ls w]!.work = w := hw
    have other : ∀ j, j < ls.length → j ≠ kpos (·.work) ls w → ls[j]!.work ≠ w := fun j hj hne => by
      rcases Nat.lt_or_gt_of_ne hne with q | q
      · have : ls[j]!.work < ls[kpos (·.work) ls w]!.work := h _ _ q hlt
        omega
      · have : ls[kpos (·.work) ls w]!.work < ls[j]!.work := h _ _ q hj
        omega
    by_cases h0 : q.length = 0
    · rw [setQ_del hf h0] at hl
      obtain ⟨j, hj, rfl⟩ := mem_at hl
      have hl2 : (ls.take (kpos (·.work) ls w) ++ ls.drop (kpos (·.work) ls w + 1)).length = ls.length - 1 := by simp; omega
      rw [get_cut hlt xA]
      exact .inl ⟨at_mem (by split <;> omega), other _ (by split <;> omega) (by split <;> omega)⟩
    · rw [setQ_set hf h0] at hl
      obtain ⟨j, hj, rfl⟩ := mem_at hl
      rw [List.length_set] at hj
      rw [get_set hj]
      by_cases e : kpos (·.work) ls w = j
      · rw [if_pos e, hw2]; exact .inr ⟨rfl, h0⟩
      · rw [if_neg e]; exact .inl ⟨at_mem hj, other j hj fun z => e z.symm⟩
  | false =>
    by_cases h0 : q.length = 0
    · rw [setQ_no hf h0] at hl
      obtain ⟨j, hj, rfl⟩ := mem_at hl
      exact .inl ⟨at_mem hj, kfnd_no h hf hj⟩
    · rw [setQ_ins hf h0] at hl
      have other : ∀ x ∈ ls, x.work ≠ w := fun x hx => by
        obtain ⟨j, hj, rfl⟩ := mem_at hx
        exact kfnd_no h hf hj
      rcases List.mem_append.1 hl with m | m
      · exact .inl ⟨List.mem_of_mem_take m, other _ (List.mem_of_mem_take m)⟩
      · rcases List.mem_cons.1 m with m | m
        · exact .inr ⟨m, h0⟩
        · exact .inl ⟨List.mem_of_mem_drop m, other _ (List.mem_of_mem_drop m)⟩
theorem setQ_asc {ls : List Ln} (h : asc (·.work) ls) (w : Int) (q : List Hd) : asc (·.work) (setQ ls w q) := by
  cases hf : kfnd (·.work) ls w with
  | true =>
    by_cases h0 : q.length = 0
    · rw [setQ_del hf h0]; exact asc_cut h ((kfnd_iff h).1 hf).1
    · rw [setQ_set hf h0]; exact asc_set h rfl
  | false =>
    by_cases h0 : q.length = 0
    · rw [setQ_no hf h0]; exact h
    · rw [setQ_ins hf h0]; exact asc_ins (x := (⟨w, q⟩ : Ln)) h hf
theorem evQ_nil {w : Int} {q : List Hd} (h : q.length = 0) : evQ w q = [] := by rw [List.eq_nil_of_length_eq_zero h]; rfl
theorem perm_mid (a b c : List Ev) : (a ++ (b ++ c)).Perm (b ++ (a ++ c)) := by
  rw [← List.append_assoc, ← List.append_assoc]
  exact (List.perm_append_comm).append_right c
theorem evL_setQ {ls : List Ln} (h : asc (·.work) ls) (w : Int) (q : List Hd) : (evL (setQ ls w q)).Perm (evQ w q ++ evL (setQ ls w [])) := by
  have hk := kpos_le (key := fun l : Ln => l.work) ls w
  cases hf : kfnd (·.work) ls w with
  | true =>
    obtain ⟨hlt, hw⟩ := (kfnd_iff h).1 hf
    have hw2 : ls[kpos (·.work) ls w]!.work = w := hw
    rw [setQ_del (q := []) hf rfl]
    by_cases h0 : q.length = 0
    · rw [setQ_del hf h0, evQ_nil h0]; exact List.Perm.refl _
    · rw [setQ_set hf h0, set_split hlt, List.append_assoc, List.singleton_append, evL_app, evL_cons, evL_app, hw2]
      exact perm_mid _ _ _
  | false =>
    rw [setQ_no (q := []) hf rfl]
    by_cases h0 : q.length = 0
    · rw [setQ_no hf h0, evQ_nil h0]; exact List.Perm.refl _
    · rw [setQ_ins hf h0, evL_app, evL_cons]
      conv => rhs; rw [← List.take_append_drop (kpos (·.work) ls w) ls, evL_app]
      exact perm_mid _ _ _
theorem setQ_same {s : St} (h : asc (·.work) s.lns) (w : Int) (hne : (queS s w).length ≠ 0) : setQ s.lns w (queS s w) = s.lns := by
  have hx : ∃ l ∈ s.lns, l.work = w := by
    refine Classical.byContradiction fun hc => hne ?_
    rw [que_no (fun l hl e => hc ⟨l, hl, e⟩)]; rfl
  obtain ⟨l, hl, e⟩ := hx
  have hf : kfnd (·.work) s.lns w = true := by
    cases hf : kfnd (·.work) s.lns w with
    | true => rfl
    | false =>
      obtain ⟨j, hj, rfl⟩ := mem_at hl
      exact absurd e (kfnd_no h hf hj)
  obtain ⟨hlt, hw⟩ := (kfnd_iff h).1 hf
  have hq := que_mem h (at_mem hlt)
  have hw2 : s.lns[kpos (·.work) s.lns w]!.work = w := hw
  rw [hw2] at hq
  rw [setQ_set hf hne, hq]
  apply List.ext_getElem
  · rw [List.length_set]
  · intro i h1 h2
    rw [List.getElem_set]
    split
    · rename_i z; subst z; rw [getElem!_pos s.lns _ h2]
    · rfl
theorem evL_que {s : St} (h : asc (·.work) s.lns) (w : Int) : (evL s.lns).Perm (evQ w (queS s w) ++ evL (setQ s.lns w [])) := by
  by_cases hne : (queS s w).length = 0
  · rw [evQ_nil hne]
    have hno : kfnd (·.work) s.lns w = false ∨ (queS s w).length = 0 := .inr hne
    cases hf : kfnd (·.work) s.lns w with
    | false => rw [setQ_no (q := []) hf rfl]; exact List.Perm.refl _
    | true =>
      obtain ⟨hlt, hw⟩ := (kfnd_iff h).1 hf
      have hw2 : s.lns[kpos (·.work) s.lns w]!.work = w := hw
      have hq := que_mem h (at_mem hlt)
      rw [hw2] at hq
      rw [setQ_del (q := []) hf rfl]
      conv => lhs; rw [split_at hlt, List.append_assoc, List.singleton_append, evL_app, evL_cons, ← hq, evQ_nil hne]
      rw [evL_app]; exact List.Perm.refl _
  · have := evL_setQ h w (queS s w)
    rwa [setQ_same h w hne] at this
theorem evQ_srv {q : List Hd} {n : Nat} (w : Int) (h : n < q.length) : (evQ w q).Perm ((q[n]!.pat, w, q[n]!.id) :: evQ w (srvL q n)) := by
  have e : evQ w (srvL q n) = evQ w (q.take n) ++ evQ w (q.drop (n + 1)) := by
    unfold srvL evQ
    rw [List.map_append, List.map_map]; rfl
  rw [e]
  conv => lhs; rw [split_at h]
  unfold evQ
  rw [List.map_append, List.map_append, List.append_assoc]
  exact (List.perm_middle)
theorem evQ_can {q : List Hd} (w : Int) (n : Nat) : (evQ w (canL q n)).Sublist (evQ w q) := by
  unfold canL evQ
  refine List.Sublist.map _ ?_
  conv => rhs; rw [← List.take_append_drop n q]
  exact (List.Sublist.refl _).append (List.drop_sublist_drop_left q xA)
theorem evQ_put {q : List Hd} {h : Hd} (w : Int) : (evQ w (putL q h)).Perm ((h.pat, w, h.id) :: evQ w q) := by
  unfold putL evQ
  conv => rhs; rw [← List.take_append_drop (posI q (h0 h)) q]
  rw [List.map_append, List.map_append, List.map_append, List.append_assoc]
  exact List.perm_middle
def evX (s : St) (i : Nat) : List Ev := evC (s.cps.take i) ++ evC (s.cps.drop (i + 1)) ++ evL s.lns
theorem evX_sub {s : St} {i : Nat} (hi : i < s.cps.length) : (evX s i).Sublist (evA s) := by
  unfold evX evA
  refine List.Sublist.append ?_ (List.Sublist.refl _)
  rw [evC_at hi]
  exact (List.sublist_append_left _ _).append (List.Sublist.refl _)
theorem free_ev {s : St} {i : Nat} (hi : i < s.cps.length) (ha : asc (·.work) s.lns) (hV : okV s.lns) : (evA (freeS s i)).Perm (evX s i) := by
  by_cases e : (queS s s.cps[i]!.work).length = 0
  · rw [free_0 e]
    unfold evA evX
    rw [show evC (s.cps.set i (shC s.cps[i]!)) = _ from evC_set hi, evC_one (c := shC s.cps[i]!) rfl, List.append_nil]
  · rw [free_1 e]
    have hv := que_okV hV s.cps[i]!.work
    have hl : 0 < (queS s s.cps[i]!.work).length := by omega
    have hn := nextI_lt hl
    unfold evA evX
    rw [show evC (s.cps.set i (wtC s.cps[i]! (nextH (queS s s.cps[i]!.work)) s.now)) = _ from evC_set hi, evC_two (c := wtC s.cps[i]! (nextH (queS s s.cps[i]!.work)) s.now) (show (3 : Int) ≠ 1 by decide)]
    have h1 := evL_setQ ha s.cps[i]!.work (srvQ (queS s s.cps[i]!.work))
    have h2 := evL_que (s := s) ha s.cps[i]!.work
    rw [(srv_0 hv hl).2.1] at h1 ⊢
    have h3 := evQ_srv s.cps[i]!.work hn
    rw [nextH_yes ⟨hv, hl⟩]
    show (_ ++ [((queS s s.cps[i]!.work)[nextI (queS s s.cps[i]!.work)]!.pat, s.cps[i]!.work, (queS s s.cps[i]!.work)[nextI (queS s s.cps[i]!.work)]!.id)] ++ _ ++ evL _).Perm _
    refine ((h1.append_left _).trans ?_)
    refine List.Perm.trans ?_ ((h2.trans (h3.append_right _)).symm.append_left _)
    rw [List.append_assoc, List.append_assoc, List.append_assoc]
    refine List.Perm.append_left _ ?_
    simp only [List.cons_append, List.nil_append]
    exact List.perm_middle.symm
theorem lnC_set {cs : List Cp} {i : Nat} {c : Cp} (hi : i < cs.length) (p : Int) : lnC (cs.set i c) p + (if cs[i]!.place = 2 ∧ cs[i]!.pat = p then 1 else 0) = lnC cs p + (if c.place = 2 ∧ c.pat = p then 1 else 0) := by
  have := cnt_set (p := fun c : Cp => decide (c.place = 2 ∧ c.pat = p)) (l := cs) (c := c) hi
  simp only [decide_eq_true_eq] at this
  exact this
theorem cntP_set {cs : List Cp} {i : Nat} {c : Cp} (hi : i < cs.length) (w p : Int) : cntP (cs.set i c) w p + (if cs[i]!.work = w ∧ cs[i]!.place = p then 1 else 0) = cntP cs w p + (if c.work = w ∧ c.place = p then 1 else 0) := by
  have := cnt_set (p := fun c : Cp => decide (c.work = w ∧ c.place = p)) (l := cs) (c := c) hi
  simp only [decide_eq_true_eq] at this
  exact this
def cnOk (cs : List Cp) (w : Int) : Prop := cntP cs w 1 = 0 ∧ ¬ cntP cs w 2 + cntP cs w 3 = 0
structure vld (s : St) (n0 : Int) : Prop where
  now : 0 ≤ n0 ∧ n0 ≤ s.now ∧ s.now ≤ 1000000
  len : s.cps.length ≤ 60
  cp : ∀ c ∈ s.cps, cpOk c n0
  ca : asc (·.id) s.cps
  ln : ∀ l ∈ s.lns, lnOk l s.now
  la : asc (·.work) s.lns
  cn : ∀ l ∈ s.lns, cnOk s.cps l.work
  ap : apt s
theorem nodup_le {l : List Int} : ∀ {m : List Int}, l.Nodup → (∀ x ∈ l, x ∈ m) → l.length ≤ m.length := by
  induction l with
  | nil => intro m _ _; simp
  | cons a l ih =>
    intro m hn hs
    have hm : a ∈ m := hs a List.mem_cons_self
    rw [List.nodup_cons] at hn
    have := ih (m := m.erase a) hn.2 fun x hx => (List.mem_erase_of_ne (fun e => hn.1 (by rw [← e]; exact hx))).2 (hs x (List.mem_cons_of_mem _ hx))
    rw [List.length_erase_of_mem hm] at this
    have := List.length_pos_of_mem hm
    rw [List.length_cons]; omega
theorem cnt_pos {cs : List Cp} {w : Int} (h : cnOk cs w) : ∃ c ∈ cs, c.work = w := by
  have hp : 0 < cntP cs w 2 ∨ 0 < cntP cs w 3 := by have := h.2; omega
  rcases hp with hp | hp
  · obtain ⟨c, hc⟩ := List.exists_mem_of_length_pos hp
    exact ⟨c, (List.mem_filter.1 hc).1, (of_decide_eq_true (List.mem_filter.1 hc).2).1⟩
  · obtain ⟨c, hc⟩ := List.exists_mem_of_length_pos hp
    exact ⟨c, (List.mem_filter.1 hc).1, (of_decide_eq_true (List.mem_filter.1 hc).2).1⟩
theorem vld.lines {s : St} {n0 : Int} (h : vld s n0) : s.lns.length ≤ s.cps.length := by
  have h1 : (s.lns.map (·.work)).Nodup := by
    rw [List.nodup_iff_pairwise_ne, List.pairwise_map, List.pairwise_iff_getElem]
    intro i j hi hj hij e
    have : s.lns[i]!.work < s.lns[j]!.work := h.la i j hij hj
    rw [getElem!_pos s.lns i hi, getElem!_pos s.lns j hj] at this
    omega
  have := nodup_le (m := s.cps.map (·.work)) h1 fun x hx => by
    obtain ⟨l, hl, rfl⟩ := List.mem_map.1 hx
    obtain ⟨c, hc, e⟩ := cnt_pos (h.cn l hl)
    exact List.mem_map.2 ⟨c, hc, e⟩
  rwa [List.length_map, List.length_map] at this
theorem valid_vld {s : St} : validS s ↔ vld s s.now := by
  constructor
  · intro h
    have hn := h.1
    unfold inB at hn
    refine ⟨⟨xA, xA, xA⟩, h.2.1, fun c hc => ?_, valid_asc h, fun l hl => ?_, (valid_ok h).1, fun l hl => ?_, (apart_iff s).1 h.2.2.2.2.2⟩
    · obtain ⟨i, hi, rfl⟩ := mem_at hc; exact (h.2.2.2.1 i hi).1
    · obtain ⟨i, hi, rfl⟩ := mem_at hl; exact (h.2.2.2.2.1 i hi).1
    · obtain ⟨i, hi, rfl⟩ := mem_at hl; exact (h.2.2.2.2.1 i hi).2.2
  · intro h
    have hl := h.lines
    have h60 := h.len
    have hn := h.now
    refine ⟨⟨xA, xA⟩, h.len, xA, fun k hk => ⟨h.cp _ (at_mem hk), fun k0 => h.ca (k - 1) k xA hk⟩, fun i hi => ⟨h.ln _ (at_mem hi), fun i0 => h.la (i - 1) i xA hi, h.cn _ (at_mem hi)⟩, (apart_iff s).2 h.ap⟩
theorem vld.okV {s : St} {n0 : Int} (h : vld s n0) : okV s.lns := fun l hl => (h.ln l hl).2.1
end Go.D58
end
section
namespace Go.D58
open Go Go.RowKit Go.H Go.D57
theorem cntP_pos {cs : List Cp} {w p : Int} {c : Cp} (hc : c ∈ cs) (h : c.work = w ∧ c.place = p) : 0 < cntP cs w p := List.length_pos_of_mem (List.mem_filter.2 ⟨hc, decide_eq_true h⟩)
theorem cntP_app (a b : List Cp) (w p : Int) : cntP (a ++ b) w p = cntP a w p + cntP b w p := by unfold cntP; rw [List.filter_append, List.length_append]
theorem cntP_cons (c : Cp) (cs : List Cp) (w p : Int) : cntP (c :: cs) w p = cntP cs w p + if c.work = w ∧ c.place = p then 1 else 0 := by
  unfold cntP
  rw [List.filter_cons]
  by_cases e : c.work = w ∧ c.place = p
  · rw [if_pos (decide_eq_true e), if_pos e]; rfl
  · rw [if_neg wU, if_neg e]; rfl
theorem cntP_ins {cs : List Cp} {c : Cp} (k : Nat) (w p : Int) : cntP (cs.take k ++ c :: cs.drop k) w p = cntP cs w p + if c.work = w ∧ c.place = p then 1 else 0 := by
  have : cntP cs w p = cntP (cs.take k) w p + cntP (cs.drop k) w p := by rw [← cntP_app, List.take_append_drop]
  rw [cntP_app, cntP_cons, this]; omega
theorem lnC_ins {cs : List Cp} {c : Cp} (k : Nat) (p : Int) : lnC (cs.take k ++ c :: cs.drop k) p = lnC cs p + if c.place = 2 ∧ c.pat = p then 1 else 0 := by
  have : lnC cs p = lnC (cs.take k) p + lnC (cs.drop k) p := by rw [← lnC_app, List.take_append_drop]
  rw [lnC_app, lnC_cons, this]; omega
theorem cntP_cut {cs : List Cp} {k : Nat} (hk : k < cs.length) (w p : Int) : cntP (cs.take k ++ cs.drop (k + 1)) w p + (if cs[k]!.work = w ∧ cs[k]!.place = p then 1 else 0) = cntP cs w p := by
  have : cntP cs w p = cntP (cs.take k) w p + cntP (cs[k]! :: cs.drop (k + 1)) w p := by rw [← drop_at hk, ← cntP_app, List.take_append_drop]
  rw [cntP_cons] at this
  rw [cntP_app]; omega
theorem lnC_cut {cs : List Cp} {k : Nat} (hk : k < cs.length) (p : Int) : lnC (cs.take k ++ cs.drop (k + 1)) p ≤ lnC cs p := by
  have : lnC cs p = lnC (cs.take k) p + lnC (cs[k]! :: cs.drop (k + 1)) p := by rw [← drop_at hk, ← lnC_app, List.take_append_drop]
  rw [lnC_cons] at this
  rw [lnC_app]; omega
theorem mem_set {α : Type} {l : List α} {i : Nat} {c : α} {P : α → Prop} (h : ∀ x ∈ l, P x) (hc : P c) : ∀ x ∈ l.set i c, P x := fun x hx => (List.mem_or_eq_of_mem_set hx).elim (h x) (fun e => by rw [e]; exact hc)
theorem cnOk_other {cs : List Cp} {i : Nat} {c : Cp} (hi : i < cs.length) (hw : c.work = cs[i]!.work) {w : Int} (hne : w ≠ cs[i]!.work) (h : cnOk cs w) : cnOk (cs.set i c) w := by
  have q : ∀ p, cntP (cs.set i c) w p = cntP cs w p := fun p => by
    have := cntP_set (c := c) hi w p
    rw [if_neg (fun z => hne z.1.symm), if_neg (fun z => hne (z.1.symm.trans hw))] at this
    exact this
  unfold cnOk
  rw [q, q, q]; exact h
theorem srvL_tim {q : List Hd} {n : Nat} {b : Int} (h : ∀ x ∈ q, x.tim ≤ b) : ∀ x ∈ srvL q n, x.tim ≤ b := fun x hx => by
  unfold srvL at hx
  rcases List.mem_append.1 hx with m | m
  · obtain ⟨y, hy, rfl⟩ := List.mem_map.1 m
    exact h y (List.mem_of_mem_take hy)
  · exact h x (List.mem_of_mem_drop m)
theorem vfree {t : St} {n0 : Int} {i : Nat} (hi : i < t.cps.length) (hn : 0 ≤ n0 ∧ n0 ≤ t.now ∧ t.now ≤ 1000000) (hl : t.cps.length ≤ 60) (hc : ∀ c ∈ t.cps, cpOk c n0) (ca : asc (·.id) t.cps)
    (ln : ∀ l ∈ t.lns, lnOk l t.now) (la : asc (·.work) t.lns) (cn1 : ∀ l ∈ t.lns, l.work ≠ t.cps[i]!.work → cnOk t.cps l.work)
    (cn2 : ∀ l ∈ t.lns, l.work = t.cps[i]!.work → cntP t.cps t.cps[i]!.work 1 = if t.cps[i]!.place = 1 then 1 else 0)
    (ap1 : ((evX t i).map pw).Nodup) (ap2 : (hsE (evX t i)).Nodup) (lc : ∀ p, lnC t.cps p ≤ 5) : vld (freeS t i) n0 := by
  have hV : okV t.lns := fun l hl => (ln l hl).2.1
  have hci := hc _ (at_mem hi)
  have hev := free_ev hi la hV
  have hap : ((evA (freeS t i)).map pw).Nodup ∧ (hsE (evA (freeS t i))).Nodup := by
    refine ⟨(((hev.map pw).nodup_iff).2 ap1), ?_⟩
    unfold hsE at *
    exact (((hev.map _).filter _).nodup_iff).2 ap2
  by_cases e : (queS t t.cps[i]!.work).length = 0
  · rw [free_0 e] at hap ⊢
    have hno : ∀ l ∈ t.lns, l.work ≠ t.cps[i]!.work := fun l hl e2 => by
      have h1 := que_mem la hl
      rw [e2] at h1
      have h2 := (ln l hl).2.2.1
      rw [← h1] at h2; omega
    refine ⟨hn, by simpa using hl, mem_set hc ⟨hci.1, hci.2.1, hci.2.2.1, .inl ⟨rfl, rfl, rfl, rfl, rfl⟩⟩, asc_set ca rfl, ln, la, fun l hl => cnOk_other (c := shC t.cps[i]!) hi rfl (hno l hl) (cn1 l hl (hno l hl)), hap.1, hap.2, fun p => ?_⟩
    have := lnC_set (c := shC t.cps[i]!) hi p
    rw [if_neg (show ¬ ((shC t.cps[i]!).place = 2 ∧ (shC t.cps[i]!).pat = p) from fun z => absurd (show (1 : Int) = 2 from z.1) xI)] at this
    have := lc p
    show lnC (t.cps.set i (shC t.cps[i]!)) p ≤ 5
    omega
  · rw [free_1 e] at hap ⊢
    have hl0 : 0 < (queS t t.cps[i]!.work).length := by omega
    have hv := que_okV hV t.cps[i]!.work
    have hnx := nextI_lt hl0
    have hx : ∃ l ∈ t.lns, l.work = t.cps[i]!.work := by
      refine Classical.byContradiction fun hc => e ?_
      rw [que_no (fun l hl e => hc ⟨l, hl, e⟩)]; rfl
    obtain ⟨l0, hl0m, hl0w⟩ := hx
    have hq := que_mem la hl0m
    rw [hl0w] at hq
    have hln := ln l0 hl0m
    have hg : goodH (nextH (queS t t.cps[i]!.work)) := by rw [nextH_yes ⟨hv, hl0⟩]; exact (hv.1 _ hnx).1
    unfold goodH at hg
    refine ⟨hn, by simpa using hl, mem_set hc ⟨hci.1, hci.2.1, hci.2.2.1, .inr (.inr ⟨rfl, ⟨hg.2.2.1, hg.2.2.2.1⟩, ⟨hg.1, hg.2.1⟩, ?_, rfl⟩)⟩, asc_set ca rfl, fun l hl => ?_, setQ_asc la _ _, fun l hl => ?_, hap.1, hap.2, fun p => ?_⟩
    · show inB (if t.now + 7 ≤ 1000000 then t.now + 7 else 1000000) n0 1000000
      unfold inB
      split <;> omega
    · rcases setQ_mem la hl with ⟨m, _⟩ | ⟨rfl, h0⟩
      · exact ln l m
      · refine ⟨hci.2.1, srv_okV hv e, by show 0 < (srvQ (queS t t.cps[i]!.work)).length; omega, ?_⟩
        show ∀ h ∈ srvQ (queS t t.cps[i]!.work), h.tim ≤ t.now
        rw [(srv_0 hv hl0).2.1]
        exact srvL_tim (by rw [hq]; exact hln.2.2.2)
    · rcases setQ_mem la hl with ⟨m, hne⟩ | ⟨rfl, h0⟩
      · exact cnOk_other (c := wtC t.cps[i]! (nextH (queS t t.cps[i]!.work)) t.now) hi rfl hne (cn1 l m hne)
      · have h1 := cntP_set (c := wtC t.cps[i]! (nextH (queS t t.cps[i]!.work)) t.now) hi t.cps[i]!.work 1
        rw [if_neg (show ¬ ((wtC t.cps[i]! (nextH (queS t t.cps[i]!.work)) t.now).work = t.cps[i]!.work ∧ (wtC t.cps[i]! (nextH (queS t t.cps[i]!.work)) t.now).place = 1) from fun z => absurd (show (3 : Int) = 1 from z.2) xI), cn2 l0 hl0m hl0w] at h1
        have h3 : 0 < cntP (t.cps.set i (wtC t.cps[i]! (nextH (queS t t.cps[i]!.work)) t.now)) t.cps[i]!.work 3 := cntP_pos (List.mem_set hi _) ⟨rfl, rfl⟩
        refine ⟨?_, by show ¬ cntP (t.cps.set i (wtC t.cps[i]! (nextH (queS t t.cps[i]!.work)) t.now)) t.cps[i]!.work 2 + cntP (t.cps.set i (wtC t.cps[i]! (nextH (queS t t.cps[i]!.work)) t.now)) t.cps[i]!.work 3 = 0; omega⟩
        show cntP (t.cps.set i (wtC t.cps[i]! (nextH (queS t t.cps[i]!.work)) t.now)) t.cps[i]!.work 1 = 0
        by_cases ep : t.cps[i]!.place = 1
        · rw [if_pos ⟨rfl, ep⟩, if_pos ep] at h1; omega
        · rw [if_neg (fun z => ep z.2), if_neg ep] at h1; omega
    · have := lnC_set (c := wtC t.cps[i]! (nextH (queS t t.cps[i]!.work)) t.now) hi p
      rw [if_neg (show ¬ ((wtC t.cps[i]! (nextH (queS t t.cps[i]!.work)) t.now).place = 2 ∧ (wtC t.cps[i]! (nextH (queS t t.cps[i]!.work)) t.now).pat = p) from fun z => absurd (show (3 : Int) = 2 from z.1) xI)] at this
      have := lc p
      show lnC (t.cps.set i (wtC t.cps[i]! (nextH (queS t t.cps[i]!.work)) t.now)) p ≤ 5
      omega
theorem vld.free {s : St} {n0 : Int} (h : vld s n0) {i : Nat} (hi : i < s.cps.length) (hp : s.cps[i]!.place ≠ 1) : vld (freeS s i) n0 := by
  refine vfree hi h.now h.len h.cp h.ca h.ln h.la (fun l hl _ => h.cn l hl) (fun l hl e => ?_) ((subE.sub (evX_sub hi)).pw h.ap.1) ((subE.sub (evX_sub hi)).hs h.ap.2.1) h.ap.2.2
  rw [if_neg hp, ← e]; exact (h.cn l hl).1
theorem vadd {s : St} {x : Sp} (h : vld s s.now) (he : addE s x = 0) : vld (addS s x) s.now := by
  obtain ⟨h1, h2, h3, h4, h5, e⟩ := add_ok he
  rw [e]
  obtain ⟨a1, a2, a3⟩ := ins_at (s := s) (x := x)
  have hk := kpos_le (key := fun c : Cp => c.id) s.cps x.copy
  have hlen := h.len
  have ht : (s.cps.take (kpos (·.id) s.cps x.copy)).length = kpos (·.id) s.cps x.copy := by rw [List.length_take]; omega
  have hX : evX (insC s x) (kpos (·.id) s.cps x.copy) = evA s := by
    unfold evX evA insC
    show evC ((s.cps.take _ ++ newC x :: s.cps.drop _).take _) ++ evC ((s.cps.take _ ++ newC x :: s.cps.drop _).drop _) ++ evL s.lns = _
    rw [List.take_left' ht, List.drop_append, ht, Nat.add_sub_cancel_left, List.drop_eq_nil_of_le xA, List.nil_append, List.drop_succ_cons, List.drop_zero, ← evC_app, List.take_append_drop]
  refine vfree (t := insC s x) a2 h.now xA (fun c hc => ?_) (ins_asc h.ca h4) h.ln h.la (fun l hl hne => ?_) (fun l hl e2 => ?_) (by rw [hX]; exact h.ap.1) (by rw [hX]; exact h.ap.2.1) (fun p => ?_)
  · rcases List.mem_append.1 hc with m | m
    · exact h.cp c (List.mem_of_mem_take m)
    · rcases List.mem_cons.1 m with m | m
      · rw [m]; exact ⟨h1, h2, h3, .inl ⟨rfl, rfl, rfl, rfl, rfl⟩⟩
      · exact h.cp c (List.mem_of_mem_drop m)
  · rw [a1] at hne
    have q : ∀ p, cntP (insC s x).cps l.work p = cntP s.cps l.work p := fun p => by
      have := cntP_ins (cs := s.cps) (c := newC x) (kpos (·.id) s.cps x.copy) l.work p
      rw [if_neg (fun z => hne z.1.symm)] at this
      exact this
    unfold cnOk
    rw [q, q, q]; exact h.cn l hl
  · rw [a1] at e2 ⊢
    have := cntP_ins (cs := s.cps) (c := newC x) (kpos (·.id) s.cps x.copy) (newC x).work 1
    rw [if_pos ⟨rfl, rfl⟩, ← e2, (h.cn l hl).1, e2] at this
    exact this
  · have := lnC_ins (cs := s.cps) (c := newC x) (kpos (·.id) s.cps x.copy) p
    rw [if_neg (fun z => absurd (show (1 : Int) = 2 from z.1) xI)] at this
    have := h.ap.2.2 p
    show lnC (s.cps.take _ ++ newC x :: s.cps.drop _) p ≤ 5
    omega
theorem vrem {s : St} {x : Sp} (h : vld s s.now) (he : remE s x = 0) : vld (remS s x) s.now := by
  obtain ⟨h1, h2, e⟩ := rem_ok he
  obtain ⟨_, _, hi⟩ := cpI_mem h1
  rw [e, rem_cut h.ca h1]
  have hlen := h.len
  have hsub : (evA ⟨s.now, s.cps.take (cpI s x.copy).toNat ++ s.cps.drop ((cpI s x.copy).toNat + 1), s.lns⟩).Sublist (evA s) := by
    have := evX_sub hi
    unfold evX at this
    unfold evA
    rw [show evC (s.cps.take (cpI s x.copy).toNat ++ s.cps.drop ((cpI s x.copy).toNat + 1)) = _ from evC_app _ _]
    exact this
  refine ⟨h.now, by simp only [List.length_append, List.length_take, List.length_drop]; omega, fun c hc => (List.mem_append.1 hc).elim (fun m => h.cp c (List.mem_of_mem_take m)) (fun m => h.cp c (List.mem_of_mem_drop m)), asc_cut h.ca hi, h.ln, h.la, fun l hl => ?_, (subE.sub hsub).pw h.ap.1, (subE.sub hsub).hs h.ap.2.1, fun p => ?_⟩
  · have hc := h.cn l hl
    have hp : s.cps[(cpI s x.copy).toNat]!.place = 1 := h2
    have q1 := cntP_cut hi l.work 1
    have q2 := cntP_cut hi l.work 2
    have q3 := cntP_cut hi l.work 3
    rw [if_neg (fun z => by rw [hp] at z; exact absurd z.2 xI)] at q2 q3
    unfold cnOk at hc ⊢
    show cntP (s.cps.take _ ++ s.cps.drop _) l.work 1 = 0 ∧ ¬ cntP (s.cps.take _ ++ s.cps.drop _) l.work 2 + cntP (s.cps.take _ ++ s.cps.drop _) l.work 3 = 0
    omega
  · have := lnC_cut hi p
    have := h.ap.2.2 p
    show lnC (s.cps.take _ ++ s.cps.drop _) p ≤ 5
    omega
theorem pw_evC {cs : List Cp} {a b : Int} : (a, b) ∈ (evC cs).map pw ↔ ∃ c ∈ cs, c.place ≠ 1 ∧ c.pat = a ∧ c.work = b := by
  unfold evC
  simp only [List.mem_map, List.mem_filter, decide_eq_true_eq]
  constructor
  · rintro ⟨e, ⟨c, ⟨h1, h2⟩, rfl⟩, h3⟩
    cases h3
    exact ⟨c, h1, h2, rfl, rfl⟩
  · rintro ⟨c, h1, h2, rfl, rfl⟩
    exact ⟨_, ⟨c, ⟨h1, h2⟩, rfl⟩, rfl⟩
theorem pw_evL {ls : List Ln} {a b : Int} : (a, b) ∈ (evL ls).map pw ↔ ∃ l ∈ ls, l.work = b ∧ ∃ h ∈ l.q, h.pat = a := by
  unfold evL evQ
  simp only [List.mem_map, List.mem_flatMap]
  constructor
  · rintro ⟨e, ⟨l, h1, h, h2, rfl⟩, h3⟩
    cases h3
    exact ⟨l, h1, rfl, h, h2, rfl⟩
  · rintro ⟨l, h1, rfl, h, h2, rfl⟩
    exact ⟨_, ⟨l, h1, h, h2, rfl⟩, rfl⟩
theorem hs_app (a b : List Ev) : hsE (a ++ b) = hsE a ++ hsE b := by unfold hsE; rw [List.map_append, List.filter_append]
theorem hs_evC {cs : List Cp} {h : Int} (hm : h ∈ hsE (evC cs)) : h ≠ 0 ∧ ∃ c ∈ cs, c.place ≠ 1 ∧ c.hold = h := by
  unfold hsE evC at hm
  simp only [List.mem_map, List.mem_filter, decide_eq_true_eq] at hm
  obtain ⟨⟨e, ⟨c, ⟨h1, h2⟩, rfl⟩, rfl⟩, h0⟩ := hm
  exact ⟨h0, c, h1, h2, rfl⟩
theorem hs_evL {ls : List Ln} {h : Int} (hm : h ∈ hsE (evL ls)) : ∃ l ∈ ls, ∃ x ∈ l.q, x.id = h := by
  unfold hsE evL evQ at hm
  simp only [List.mem_map, List.mem_filter, List.mem_flatMap] at hm
  obtain ⟨⟨e, ⟨l, h1, x, h2, rfl⟩, rfl⟩, _⟩ := hm
  exact ⟨l, h1, x, h2, rfl⟩
theorem apt_more {a b : List Ev} {e : Ev} (hp : a.Perm (e :: b)) (h1 : (b.map pw).Nodup) (h2 : (hsE b).Nodup) (h3 : pw e ∉ b.map pw) (h4 : e.2.2 ≠ 0 → e.2.2 ∉ hsE b) : (a.map pw).Nodup ∧ (hsE a).Nodup := by
  refine ⟨((hp.map pw).nodup_iff).2 (by rw [List.map_cons, List.nodup_cons]; exact ⟨h3, h1⟩), ?_⟩
  have : (hsE (e :: b)).Nodup := by
    rw [hsE_cons]
    split
    · rename_i h0; exact List.nodup_cons.2 ⟨h4 h0, h2⟩
    · exact h2
  unfold hsE at *
  exact (((hp.map _).filter _).nodup_iff).2 this
theorem set_ev {s : St} {i : Nat} {c : Cp} (hi : i < s.cps.length) (hp : c.place ≠ 1) (n : Int) : (evA ⟨n, s.cps.set i c, s.lns⟩).Perm ((c.pat, c.work, c.hold) :: evX s i) := by
  unfold evA evX
  rw [show evC (s.cps.set i c) = _ from evC_set hi, evC_two hp, List.append_assoc, List.append_assoc, List.append_assoc]
  exact List.perm_middle
theorem vset {s : St} {n0 : Int} {i : Nat} {c : Cp} (h : vld s n0) (hi : i < s.cps.length) (h1 : c.id = s.cps[i]!.id) (h2 : c.work = s.cps[i]!.work) (hc : cpOk c n0) (hcn : ∀ l ∈ s.lns, l.work = s.cps[i]!.work → cnOk (s.cps.set i c) l.work)
    (ap : ((evA ⟨s.now, s.cps.set i c, s.lns⟩).map pw).Nodup ∧ (hsE (evA ⟨s.now, s.cps.set i c, s.lns⟩)).Nodup) (lc : ∀ p, lnC (s.cps.set i c) p ≤ 5) : vld ⟨s.now, s.cps.set i c, s.lns⟩ n0 :=
  ⟨h.now, by simpa using h.len, mem_set h.cp hc, asc_set h.ca h1, h.ln, h.la, fun l hl => by
    by_cases e : l.work = s.cps[i]!.work
    · exact hcn l hl e
    · exact cnOk_other hi h2 e (h.cn l hl), ap.1, ap.2, lc⟩
theorem vsame {s : St} {n0 : Int} {i : Nat} {c : Cp} (h : vld s n0) (hi : i < s.cps.length) (h1 : c.id = s.cps[i]!.id) (h2 : c.work = s.cps[i]!.work) (h3 : c.place = s.cps[i]!.place) (h4 : c.pat = s.cps[i]!.pat) (h5 : c.hold = s.cps[i]!.hold) (hc : cpOk c n0) : vld ⟨s.now, s.cps.set i c, s.lns⟩ n0 := by
  have hev : evA ⟨s.now, s.cps.set i c, s.lns⟩ = evA s := by
    unfold evA
    rw [show evC (s.cps.set i c) = _ from evC_set hi, evC_at hi]
    by_cases e : c.place = 1
    · rw [evC_one e, evC_one (h3 ▸ e)]
    · rw [evC_two e, evC_two (h3 ▸ e), h2, h4, h5]
  have hcnt : ∀ w p, cntP (s.cps.set i c) w p = cntP s.cps w p := fun w p => by
    have := cntP_set (c := c) hi w p
    rw [h2, h3] at this; omega
  refine vset h hi h1 h2 hc (fun l hl _ => ?_) (by rw [hev]; exact ⟨h.ap.1, h.ap.2.1⟩) (fun p => ?_)
  · unfold cnOk; rw [hcnt, hcnt, hcnt]; exact h.cn l hl
  · have := lnC_set (c := c) hi p
    rw [h3, h4] at this
    have := h.ap.2.2 p
    omega
theorem not_line {s : St} {n0 : Int} (h : vld s n0) {c : Cp} (hc : c ∈ s.cps) (hp : c.place = 1) : ∀ l ∈ s.lns, l.work ≠ c.work := fun l hl e => by
  have := cntP_pos hc ⟨e.symm, hp⟩
  have := (h.cn l hl).1
  omega
theorem old_ev {s : St} {i : Nat} (hi : i < s.cps.length) (hp : s.cps[i]!.place ≠ 1) : (evA s).Perm ((s.cps[i]!.pat, s.cps[i]!.work, s.cps[i]!.hold) :: evX s i) := by
  unfold evA evX
  rw [evC_at hi, evC_two hp, List.append_assoc, List.append_assoc, List.append_assoc]
  exact List.perm_middle
theorem old_no {s : St} (h : apt s) {i : Nat} (hi : i < s.cps.length) (hp : s.cps[i]!.place ≠ 1) {a : Int} (ha : s.cps[i]!.pat = a) : (a, s.cps[i]!.work) ∉ (evX s i).map pw := by
  have := (((old_ev hi hp).map pw).nodup_iff).1 h.1
  rw [List.map_cons, List.nodup_cons] at this
  rw [← ha]
  exact this.1
theorem vlen {s : St} {x : Sp} (h : vld s s.now) (he : lenE s x = 0) : vld (lenS s x) s.now := by
  obtain ⟨h1, h2, h3, h4, h5, h6, e⟩ := len_ok he
  obtain ⟨hm, _, hi⟩ := cpI_mem h2
  rw [e]
  have hat : s.cps[(cpI s x.copy).toNat]! = atC s x.copy := rfl
  have hc := h.cp _ hm
  have hnow := h.now
  have hpl : (atC s x.copy).place = 1 ∨ (atC s x.copy).place = 3 ∧ (atC s x.copy).pat = x.pat := by
    have q := hc.2.2.2
    by_cases e1 : (atC s x.copy).place = 1
    · exact .inl e1
    · by_cases e2 : (atC s x.copy).pat = x.pat
      · refine .inr ⟨?_, e2⟩
        rcases q with q | q | q
        · exact absurd q.1 e1
        · exact absurd (.inl q.1) h3
        · exact q.1
      · exfalso
        rcases q with q | q | q
        · exact e1 q.1
        · exact h3 (.inl q.1)
        · exact h3 (.inr ⟨q.1, e2⟩)
  refine vset h hi rfl rfl ⟨hc.1, hc.2.1, hc.2.2.1, .inr (.inl ⟨rfl, h1, ⟨by show 1 ≤ s.now + 28; omega, by show s.now + 28 ≤ 1000000; omega⟩, rfl⟩)⟩ (fun l hl el => ?_) ?_ (fun p => ?_)
  · rw [hat] at el
    rcases hpl with hp | ⟨hp, _⟩
    · exact absurd el (not_line h hm hp l hl)
    · have hcn := h.cn l hl
      have q1 := cntP_set (c := lentC (atC s x.copy) x.pat s.now) hi l.work 1
      have h2' : 0 < cntP (s.cps.set (cpI s x.copy).toNat (lentC (atC s x.copy) x.pat s.now)) l.work 2 := cntP_pos (List.mem_set hi _) ⟨el.symm, rfl⟩
      rw [hat, if_neg (fun z => by rw [hp] at z; exact absurd z.2 xI), if_neg (fun z => absurd (show (2 : Int) = 1 from z.2) xI)] at q1
      unfold cnOk at hcn ⊢
      omega
  · refine apt_more (set_ev hi (show (lentC (atC s x.copy) x.pat s.now).place ≠ 1 from by show (2 : Int) ≠ 1; decide) s.now) ((subE.sub (evX_sub hi)).pw h.ap.1) ((subE.sub (evX_sub hi)).hs h.ap.2.1) ?_ (fun z => absurd rfl z)
    rcases hpl with hp | ⟨hp, hpp⟩
    · have ho : ¬ 0 ≤ ownI s x.pat (atC s x.copy).work := fun q => h4 ⟨hp, q⟩
      intro hmem
      have hmem2 : (x.pat, (atC s x.copy).work) ∈ (evA s).map pw := ((evX_sub hi).map pw).subset hmem
      unfold evA at hmem2
      rw [List.map_append] at hmem2
      rcases List.mem_append.1 hmem2 with m | m
      · obtain ⟨c, c1, c2, c3, c4⟩ := pw_evC.1 m
        exact ho (any_iff.1 ⟨c, c1, decide_eq_true ⟨c2, c4, c3⟩⟩)
      · obtain ⟨l, l1, l2, _⟩ := pw_evL.1 m
        exact not_line h hm hp l l1 l2
    · exact old_no h.ap hi (by rw [hat, hp]; decide) (by rw [hat, hpp]; rfl)
  · have q := lnC_set (c := lentC (atC s x.copy) x.pat s.now) hi p
    rw [hat, if_neg (fun z => h3 (.inl z.1))] at q
    have q5 := h.ap.2.2 p
    by_cases ep : x.pat = p
    · subst ep
      have : lnC s.cps x.pat = (idsF (fun c => decide (c.place = 2 ∧ c.pat = x.pat)) s.cps).length := by
        unfold lnC idsF
        rw [List.length_map]
      rw [if_pos ⟨rfl, rfl⟩] at q
      omega
    · rw [if_neg (fun z => ep z.2)] at q
      omega
theorem vren {s : St} {x : Sp} (h : vld s s.now) (he : renE s x = 0) : vld (renS s x) s.now := by
  obtain ⟨h1, h2, _, _, h5, e⟩ := ren_ok he
  obtain ⟨hm, _, hi⟩ := cpI_mem h1
  rw [e]
  have hc := h.cp _ hm
  have hnow := h.now
  refine vsame h hi rfl rfl rfl rfl rfl ⟨hc.1, hc.2.1, hc.2.2.1, .inr (.inl ?_)⟩
  rcases hc.2.2.2 with q | q | q
  · exact absurd (h2.symm.trans q.1) xI
  · exact ⟨h2, q.2.1, ⟨by show 1 ≤ s.now + 28; omega, by show s.now + 28 ≤ 1000000; omega⟩, q.2.2.2⟩
  · exact absurd (h2.symm.trans q.1) xI
theorem vbak {s : St} {x : Sp} (h : vld s s.now) (he : bakE s x = 0) : vld (bakS s x) s.now := by
  obtain ⟨h1, h2, e⟩ := bak_ok he
  obtain ⟨_, _, hi⟩ := cpI_mem h1
  rw [e]
  exact h.free hi (by show (atC s x.copy).place ≠ 1; rw [h2]; decide)
theorem new_pw {s : St} {p w : Int} (ho : ¬ 0 ≤ ownI s p w) (hq : ∀ l ∈ s.lns, l.work = w → ∀ h ∈ l.q, h.pat ≠ p) : (p, w) ∉ (evA s).map pw := fun hm => by
  unfold evA at hm
  rw [List.map_append] at hm
  rcases List.mem_append.1 hm with m | m
  · obtain ⟨c, c1, c2, c3, c4⟩ := pw_evC.1 m
    exact ho (any_iff.1 ⟨c, c1, decide_eq_true ⟨c2, c4, c3⟩⟩)
  · obtain ⟨l, l1, l2, y, l3, l4⟩ := pw_evL.1 m
    exact hq l l1 l2 y l3 l4
theorem new_hs {s : St} {n0 h : Int} (hv : vld s n0) (hu : useB s h = false) : h ∉ hsE (evA s) := fun hm => by
  unfold useB at hu
  rw [Bool.or_eq_false_iff] at hu
  unfold evA at hm
  rw [hs_app] at hm
  rcases List.mem_append.1 hm with m | m
  · obtain ⟨h0, c, c1, c2, c3⟩ := hs_evC m
    refine of_decide_eq_false hu.1 (any_iff.1 ⟨c, c1, decide_eq_true ⟨?_, c3⟩⟩)
    rcases (hv.cp c c1).2.2.2 with q | q | q
    · exact absurd q.1 c2
    · exact absurd (c3.symm.trans q.2.2.2) h0
    · exact q.1
  · obtain ⟨l, l1, y, l2, l3⟩ := hs_evL m
    exact of_decide_eq_false hu.2 (any_iff.1 ⟨l, l1, decide_eq_true (any_iff.1 ⟨y, l2, decide_eq_true l3⟩)⟩)
theorem vrec {s : St} {n0 : Int} (h : vld s n0) (w : Int) : vld (recS s w) n0 := by
  unfold recS
  split
  · exact h
  · rename_i i hi
    obtain ⟨h1, h2, h3, h4⟩ := rec_lt hi
    have hc := h.cp _ (at_mem h1)
    have hn := h.now
    refine vsame h h1 rfl rfl rfl rfl rfl ⟨hc.1, hc.2.1, hc.2.2.1, .inr (.inl ?_)⟩
    rcases hc.2.2.2 with q | q | q
    · exact absurd (h3.symm.trans q.1) xI
    · have := q.2.2.1
      unfold inB at this
      exact ⟨h3, q.2.1, ⟨by show 1 ≤ min (min s.cps[i]!.due (s.now + 7)) 1000000; omega, by show min (min s.cps[i]!.due (s.now + 7)) 1000000 ≤ 1000000; omega⟩, q.2.2.2⟩
    · exact absurd (h3.symm.trans q.1) xI
theorem vask {s : St} {x : Sp} (hv : validS s) (he : askE s x = 0) : vld (askS s x) s.now := by
  have h := valid_vld.1 hv
  obtain ⟨⟨g1, g2, g3, g4⟩, hc0, hu, ho, hp, h60, e⟩ := ask_ok he
  have hpe := ask_put hv he
  have hnow := h.now
  rw [e]
  have hb : (x.pat, x.work) ∉ (evA s).map pw := new_pw ho fun l hl e2 y hy e3 => by
    have := que_mem h.la hl
    rw [e2] at this
    rw [← this] at hy
    exact hp (any_iff.1 ⟨y, hy, decide_eq_true e3⟩)
  have hh := new_hs h hu
  by_cases hs : 0 ≤ shlI s x.work
  · rw [if_pos hs]
    obtain ⟨hi, hd⟩ := idxF_lt hs
    have hd := of_decide_eq_true hd
    change (shlI s x.work).toNat < s.cps.length at hi
    change s.cps[(shlI s x.work).toNat]!.work = x.work ∧ s.cps[(shlI s x.work).toNat]!.place = 1 at hd
    have hm := at_mem hi
    have hc := h.cp _ hm
    refine vset h hi rfl rfl ⟨hc.1, hc.2.1, hc.2.2.1, .inr (.inr ⟨rfl, g2, g3, ?_, rfl⟩)⟩ (fun l hl el => absurd el (not_line h hm hd.2 l hl)) ?_ (fun p => ?_)
    · show inB (if s.now + 7 ≤ 1000000 then s.now + 7 else 1000000) s.now 1000000
      unfold inB
      split <;> omega
    · refine apt_more (set_ev hi (show (wtC s.cps[(shlI s x.work).toNat]! (hldX s x) s.now).place ≠ 1 from by show (3 : Int) ≠ 1; decide) s.now) ((subE.sub (evX_sub hi)).pw h.ap.1) ((subE.sub (evX_sub hi)).hs h.ap.2.1) (fun hm => ?_) (fun _ hm => ?_)
      · have hm2 := ((evX_sub hi).map pw).subset hm
        refine hb ?_
        rw [← hd.1]; exact hm2
      · refine hh ?_
        have : (hsE (evX s (shlI s x.work).toNat)).Sublist (hsE (evA s)) := ((evX_sub hi).map _).filter _
        exact this.subset hm
    · have q := lnC_set (c := wtC s.cps[(shlI s x.work).toNat]! (hldX s x) s.now) hi p
      rw [if_neg (fun z => absurd (hd.2.symm.trans z.1) xI), if_neg (fun z => absurd (show (3 : Int) = 2 from z.1) xI)] at q
      have := h.ap.2.2 p
      omega
  · rw [if_neg hs]
    refine vrec ?_ _
    have hq0 : (putQ (queS s x.work) (hldX s x)).length ≠ 0 := by rw [(put_ok hpe).2.2.2.2, putL_len]; omega
    have hev : (evA (putS s x)).Perm ((x.pat, x.work, x.hold) :: evA s) := by
      have h1 := evL_setQ h.la x.work (putQ (queS s x.work) (hldX s x))
      rw [(put_ok hpe).2.2.2.2] at h1
      have h2 := evQ_put (q := queS s x.work) (h := hldX s x) x.work
      have h3 := evL_que h.la x.work
      unfold evA putS
      rw [(put_ok hpe).2.2.2.2]
      refine ((h1.trans (h2.append_right _)).append_left _).trans ?_
      refine List.Perm.trans ?_ ((h3.symm.append_left _).cons _)
      exact List.perm_middle
    have hap := apt_more hev h.ap.1 h.ap.2.1 hb (fun _ => hh)
    refine ⟨h.now, h.len, h.cp, h.ca, fun l hl => ?_, setQ_asc h.la _ _, fun l hl => ?_, hap.1, hap.2, h.ap.2.2⟩
    · rcases setQ_mem h.la hl with ⟨m, _⟩ | ⟨rfl, h0⟩
      · exact h.ln l m
      · refine ⟨g1, put_okV, by show 0 < (putQ (queS s x.work) (hldX s x)).length; omega, fun y hy => ?_⟩
        change y ∈ putQ (queS s x.work) (hldX s x) at hy
        rw [(put_ok hpe).2.2.2.2] at hy
        unfold putL at hy
        have old : ∀ y ∈ queS s x.work, y.tim ≤ s.now := fun y hy => by
          unfold queS at hy
          split at hy
          · rename_i q; exact (h.ln _ (at_mem (idxF_lt q).1)).2.2.2 y hy
          · cases hy
        rcases List.mem_append.1 hy with m | m
        · rcases List.mem_append.1 m with m | m
          · exact old y (List.mem_of_mem_take m)
          · rw [List.mem_singleton.1 m]; exact Int.le_refl _
        · exact old y (List.mem_of_mem_drop m)
    · rcases setQ_mem h.la hl with ⟨m, _⟩ | ⟨rfl, h0⟩
      · exact h.cn l m
      · have h1 : cntP s.cps x.work 1 = 0 := by
          rcases Nat.eq_zero_or_pos (cntP s.cps x.work 1) with z | z
          · exact z
          · obtain ⟨c, hc⟩ := List.exists_mem_of_length_pos z
            exact absurd (any_iff.1 ⟨c, (List.mem_filter.1 hc).1, (List.mem_filter.1 hc).2⟩) hs
        exact ⟨h1, fun z => hc0 (by have z2 : cntP s.cps x.work 2 + cntP s.cps x.work 3 = 0 := z; omega)⟩
theorem vclc {s : St} {x : Sp} (h : vld s s.now) (he : clcE s x = 0) : vld (clcS s x) s.now := by
  unfold clcE at he
  unfold clcS
  split at he
  · rename_i hw
    rw [if_pos hw]
    obtain ⟨hi, hd⟩ := idxF_lt hw
    have hd := of_decide_eq_true hd
    exact h.free hi (by show s.cps[(idxF _ s.cps).toNat]!.place ≠ 1; rw [hd.1]; decide)
  · rename_i hw
    split at he
    · rename_i hl
      rw [if_neg hw, if_pos hl]
      obtain ⟨hi, hd⟩ := idxF_lt hl
      have hd := of_decide_eq_true hd
      change (lnI s x.hold).toNat < s.lns.length at hi
      change canE s.lns[(lnI s x.hold).toNat]!.q x.hold = 0 at hd
      have hm := at_mem hi
      obtain ⟨l0, hl0⟩ : ∃ l0, l0 = s.lns[(lnI s x.hold).toNat]! := ⟨_, rfl⟩
      rw [← hl0] at hd hm ⊢
      have hln := h.ln l0 hm
      have hcan : ∃ n, n < l0.q.length ∧ canQ l0.q x.hold = canL l0.q n := by
        unfold canE at hd
        split at hd
        · cases hd
        · rename_i k1
          split at hd
          · cases hd
          · rename_i k2
            have := ixI_range l0.q x.hold
            exact ⟨(ixI l0.q x.hold).toNat, xA, (can_0 (Decidable.not_not.1 k1) k2).2⟩
      obtain ⟨n, hn, hcn⟩ := hcan
      rw [hcn]
      have hq := que_mem h.la hm
      have hsub : subE (evA ⟨s.now, s.cps, setQ s.lns l0.work (canL l0.q n)⟩) (evC s.cps ++ (evQ l0.work (queS s l0.work) ++ evL (setQ s.lns l0.work []))) := by
        refine ⟨evC s.cps ++ (evQ l0.work (canL l0.q n) ++ evL (setQ s.lns l0.work [])), (evL_setQ h.la l0.work _).append_left _, ?_⟩
        rw [hq]
        exact (List.Sublist.refl _).append ((evQ_can _ _).append (List.Sublist.refl _))
      have hap := hsub.perm_r ((evL_que h.la l0.work).symm.append_left (evC s.cps)) h.ap.1 h.ap.2.1
      refine ⟨h.now, h.len, h.cp, h.ca, fun l hl => ?_, setQ_asc h.la _ _, fun l hl => ?_, hap.1, hap.2, h.ap.2.2⟩
      · rcases setQ_mem h.la hl with ⟨m, _⟩ | ⟨rfl, h0⟩
        · exact h.ln l m
        · refine ⟨hln.1, canL_valid hln.2.1 hn, by show 0 < (canL l0.q n).length; omega, fun y hy => ?_⟩
          change y ∈ canL l0.q n at hy
          unfold canL at hy
          rcases List.mem_append.1 hy with m | m
          · exact hln.2.2.2 y (List.mem_of_mem_take m)
          · exact hln.2.2.2 y (List.mem_of_mem_drop m)
      · rcases setQ_mem h.la hl with ⟨m, _⟩ | ⟨rfl, h0⟩
        · exact h.cn l m
        · exact h.cn l0 hm
    · cases he
theorem vlate {s : St} {n0 : Int} (h : vld s n0) : ∀ k, k ≤ s.cps.length → vld (lateS s k) n0
  | 0, _ => h
  | k + 1, hk => by
    have ih := vlate h k xA
    rw [lateS]
    split
    · rename_i e
      have := of_decide_eq_true e
      exact ih.free (by rw [late_len]; omega) (by rw [this.1]; decide)
    · exact ih
theorem vwai {s : St} {x : Sp} (h : vld s s.now) (he : waiE s x = 0) : vld (waiS s x) (s.now + x.days) := by
  obtain ⟨h1, h2, e⟩ := wai_ok he
  unfold inB at h1
  have hn := h.now
  rw [e]
  have h0 : vld ⟨s.now + x.days, s.cps, s.lns⟩ s.now := ⟨⟨xA, by show s.now ≤ s.now + x.days; omega, h2⟩, h.len, h.cp, h.ca, fun l hl => ⟨(h.ln l hl).1, (h.ln l hl).2.1, (h.ln l hl).2.2.1, fun y hy => by have := (h.ln l hl).2.2.2 y hy; show y.tim ≤ s.now + x.days; omega⟩, h.la, h.cn, h.ap⟩
  have h3 := vlate h0 s.cps.length (Nat.le_refl _)
  have hnw : (lateS ⟨s.now + x.days, s.cps, s.lns⟩ s.cps.length).now = s.now + x.days := late_now _ _
  have h4 := (late_inT (s := ⟨s.now + x.days, s.cps, s.lns⟩) h2 s.cps.length (Nat.le_refl _)).1
  have hlen : (lateS ⟨s.now + x.days, s.cps, s.lns⟩ s.cps.length).cps.length = s.cps.length := late_len _ _
  refine ⟨⟨xA, xA, h3.now.2.2⟩, h3.len, fun c hc => ?_, h3.ca, h3.ln, h3.la, h3.cn, h3.ap⟩
  have hcp := h3.cp c hc
  obtain ⟨j, hj, rfl⟩ := mem_at hc
  refine ⟨hcp.1, hcp.2.1, hcp.2.2.1, ?_⟩
  rcases hcp.2.2.2 with q | q | q
  · exact .inl q
  · exact .inr (.inl q)
  · refine .inr (.inr ⟨q.1, q.2.1, q.2.2.1, ⟨?_, q.2.2.2.1.2⟩, q.2.2.2.2⟩)
    exact h4 j xA q.1
theorem do_valid {s : St} {x : Sp} (he : doE s x = 0) : validS (doS s x) := by
  obtain ⟨hv, hk, hf, he2, hd⟩ := do_ok he
  have h := valid_vld.1 hv
  have hn := (time_now he).1
  rw [valid_vld, hn, hd]
  by_cases h8 : x.kind = 8
  · rw [(stS_8 h8).2] at he2
    rw [(stS_8 h8).1]; exact vwai h he2
  · rw [fld_days hf h8, Int.add_zero]
    rcases (show x.kind = 1 ∨ x.kind = 2 ∨ x.kind = 3 ∨ x.kind = 4 ∨ x.kind = 5 ∨ x.kind = 6 ∨ x.kind = 7 by omega) with k | k | k | k | k | k | k
    · rw [(stS_1 k).2] at he2; rw [(stS_1 k).1]; exact vadd h he2
    · rw [(stS_2 k).2] at he2; rw [(stS_2 k).1]; exact vrem h he2
    · rw [(stS_3 k).2] at he2; rw [(stS_3 k).1]; exact vlen h he2
    · rw [(stS_4 k).2] at he2; rw [(stS_4 k).1]; exact vbak h he2
    · rw [(stS_5 k).2] at he2; rw [(stS_5 k).1]; exact vren h he2
    · rw [(stS_6 k).2] at he2; rw [(stS_6 k).1]; exact vask hv he2
    · rw [(stS_7 k).2] at he2; rw [(stS_7 k).1]; exact vclc h he2
end Go.D58
end
