/-
  What the proof rests on: part 13 of 14.
-/
import Derived.Test.YtmekkjehkcjpdaaCirculateRecallsP12
import Derived.Test.YtmekkjehkcjpdaaRows
import Derived.WalkKit
import Derived.Shelf.RegionOpenPlain
import Derived.Shelf.Spec.SlicesInsert
import Derived.Lib.AppendZerosOnto
import Derived.Lib.Overlaps
section
namespace Go.Proofs.Ytmekkjehkcjpdaa
open Go Go.RowKit Go.H Go.Lib
theorem run_copyM {P : Program} {w : World} {t t' e ty tb : TypeId} {inf : TypeInfo} {g o m cc l c' q : Nat} {a' : Addr} {cs : List Value} {cur : Array Value} (ht : P.underlying t = some (.slice e)) (hi : P.info? e = some inf) (hq : Nat.min l m = q) (hl : cs.length = q * inf.size)
    (hs : G.At w a' cs) (hg : w.heap[g]? = some (.cells cur tb (0, 0))) (hfit : o + cs.length ≤ cur.size) (h1 : ∀ v ∈ cs, v.oneCell' = true) :
    (Builtin.copy_ #[t, t'] ty #[.slice (some ⟨g, o, none⟩) m cc, .slice (some a') l c']).run P w = .ok (.int .i64 q) (w.setRow g (cur.toList.take o ++ cs ++ cur.toList.drop (o + cs.length)).toArray) := by
  have hld := run_loadCells_list (P := P) w a' cs hs
  have hst := run_storeCells_at P g o tb cs 0 cur w hg (by simpa using hfit) h1
  rw [hl] at hld
  simp only [Nat.add_zero] at hst
  simp [Builtin.copy_, run_underlying ht, Builtin.lenOf, Builtin.firstCells, sizeOf, typeInfo, hi, hq, hld, hst, goInt]
def InsAside (p : Prop) : Prop := p
theorem insInfo : (Try.prog.info? 43).map (fun i => (i.zero, i.size, i.bytes)) = some (some (.agg #[.int .i64 0, .int .i64 0, .string ByteArray.empty, .int .i64 0, .int .i64 0, .int .i64 0, .int .i64 0, .bool false]), 8, 72) := by kernel_rfl
set_option maxHeartbeats 4000000 in
set_option maxRecDepth 100000 in
theorem ins_shift (w : World) (b n c i vb vc : Nat) (cur vcur : Array Value) (hi : i < n) (hroom : n + 1 ≤ c) (hc63 : c ≤ 9223372036854775807) (hvb : vb ≠ b) (hb : w.heap[b]? = some (.cells cur 43 (0, 0))) (hcur : cur.size = c * 8)
    (hv : w.heap[vb]? = some (.cells vcur 43 (0, 0))) (hvs : 8 ≤ vcur.size) (h1c : ∀ v ∈ cur.toList.take (n * 8), v.oneCell' = true) (h1v : ∀ v ∈ vcur.toList.take 8, v.oneCell' = true) :
    Calls Try.prog 47 #[.slice (some ⟨b, 0, none⟩) n c, .int .i64 i, .slice (some ⟨vb, 0, none⟩) 1 vc] w fun e w' =>
      e = .returned (.slice (some ⟨b, 0, none⟩) (n + 1) c) ∧ ∃ (w1 : World) (X : Array Value), w' = w1.setRow b X ∧ w1.heap = w.heap ∧ w1.os = w.os ∧ w1.tape = w.tape ∧ w1.output = w.output ∧ X.size = cur.size ∧
        X.toList.take ((n + 1) * 8) = cur.toList.take (i * 8) ++ vcur.toList.take 8 ++ (cur.toList.take (n * 8)).drop (i * 8) := by
  obtain ⟨i0, hi0, hz0, hzs, hzb⟩ := info_parts insInfo
  have hz1 : ¬ ((1 : Int) = 0) := by decide
  have hz2 : ¬ ((i : Int) = (n : Int)) := by omega
  have hsz : ∀ w, (Go.sizeOf 43).run Try.prog w = .ok 8 w := fun w => by simp [Go.sizeOf, typeInfo, hi0, hzs]
  have hsa : w.shape? vb = some (43, vcur.size) := by simp [World.shape?, hv]
  have hsb : w.shape? b = some (43, cur.size) := by simp [World.shape?, hb]
  have hfa : w.frozen? ⟨vb, 0, none⟩ = false := by simp [World.frozen?, hv]
  have hfe : w.frozen? ⟨vb, vcur.size, none⟩ = false := by simp [World.frozen?, hv]
  have hov : ∀ lb cb, (callFunc 72 #[.slice (some ⟨vb, 0, none⟩) 1 vc, .slice (some ⟨b, (i + 1) * 8, none⟩) lb cb]).run Try.prog w = .ok (.value (.bool false)) w := fun lb cb => by
    rw [run_callFunc_extern Try.func72 (by kernel_rfl) (by kernel_rfl) (by kernel_rfl) (e := Extern.SlicesOverlaps.overlaps #[25, 25] #[4]) (by kernel_rfl),
      Lib.run_overlaps_apart w 25 4 43 Try.underlying25 8 hsz ⟨vb, 0, none⟩ ⟨b, (i + 1) * 8, none⟩ 1 vc lb cb hvb 43 43 vcur.size cur.size hsa hsb (by omega) hfa hfe]
    rfl
  obtain ⟨cs, hcs⟩ : ∃ cs, cs = (cur.toList.take (n * 8)).drop (i * 8) := ⟨_, rfl⟩
  have hcl : cs.length = (n - i) * 8 := by rw [hcs, List.length_drop, List.length_take, Array.length_toList]; omega
  obtain ⟨vs, hvsd⟩ : ∃ vs, vs = vcur.toList.take 8 := ⟨_, rfl⟩
  have hvl : vs.length = 1 * 8 := by rw [hvsd, List.length_take, Array.length_toList]; omega
  obtain ⟨X1, hX1⟩ : ∃ X1, X1 = (cur.toList.take ((i + 1) * 8) ++ cs ++ cur.toList.drop ((i + 1) * 8 + cs.length)).toArray := ⟨_, rfl⟩
  have hX1s : X1.size = cur.size := by
    rw [hX1]
    simp only [List.size_toArray, List.length_append, List.length_take, List.length_drop, Array.length_toList]; omega
  obtain ⟨X2, hX2⟩ : ∃ X2, X2 = (X1.toList.take (i * 8) ++ vs ++ X1.toList.drop (i * 8 + vs.length)).toArray := ⟨_, rfl⟩
  have hcat : ∀ (W : World), W.heap = w.heap → G.At W ⟨b, i * 8, none⟩ cs := fun W hW j v hj => by
    have hj' : (cur.toList.take (n * 8))[i * 8 + j]? = some v := by rw [hcs, List.getElem?_drop] at hj; exact hj
    rw [List.getElem?_take] at hj'
    split at hj'
    · rw [Addr.add_lit]
      simp only [World.cell?, hW, hb]
      simpa using hj'
    · cases hj'
  have hcp1 : ∀ ty dc sc, (Builtin.copy_ #[25, 25] ty #[.slice (some ⟨b, (i + 1) * 8, none⟩) (n - i) dc, .slice (some ⟨b, i * 8, none⟩) (n + 1 - i) sc]).run Try.prog w.drew = .ok (.int .i64 ((n - i : Nat) : Int)) (w.drew.setRow b X1) := fun ty dc sc => by
    rw [hX1]
    exact run_copyM (q := n - i) Try.underlying25 hi0 (by simp only [Nat.min_def]; split <;> omega) (by rw [hcl, hzs]) (hcat _ rfl) hb (by rw [hcl, hcur]; omega) (fun v hv => h1c v (List.mem_of_mem_drop (hcs ▸ hv)))
  have hX1h : (w.drew.setRow b X1).heap[b]? = some (.cells X1 43 (0, 0)) := setRow_heap _ _ _ _ _ _ hb
  have hvat : G.At (w.drew.setRow b X1) ⟨vb, 0, none⟩ vs := fun j v hj => by
    rw [hvsd, List.getElem?_take] at hj
    split at hj
    · rw [Addr.add_lit, cell_setRow_other _ _ _ _ hvb]
      have hv' : w.drew.heap[vb]? = some (.cells vcur 43 (0, 0)) := hv
      simp only [World.cell?, hv']
      simpa using hj
    · cases hj
  have hcp2 : ∀ ty dc, (Builtin.copy_ #[25, 25] ty #[.slice (some ⟨b, i * 8, none⟩) (n + 1 - i) dc, .slice (some ⟨vb, 0, none⟩) 1 vc]).run Try.prog (w.drew.setRow b X1) = .ok (.int .i64 ((1 : Nat) : Int)) ((w.drew.setRow b X1).setRow b X2) := fun ty dc => by
    rw [hX2]
    exact run_copyM (q := 1) Try.underlying25 hi0 (by simp only [Nat.min_def]; split <;> omega) (by rw [hvl, hzs]) hvat hX1h (by rw [hvl, hX1s, hcur]; omega) (fun v hv => h1v v (hvsd ▸ hv))
  have mixed : Try.prog.follows .mixedOrders = true := by kernel_rfl
  have hw1 : IntKind.i64.wrap ((i : Int) + 1) = (i : Int) + 1 := by rw [IntKind.wrap_i64]; omega
  have hb1 : (0 : Int) ≤ (i : Int) + 1 := by omega
  have hin : i ≤ n := by omega
  have htn : ((i : Int) + 1).toNat = i + 1 := by omega
  have hb2 : ¬ (c = i + 1) := by omega
  have hb3 : (i : Int) ≤ (n : Int) + 1 := by omega
  have hb4 : ¬ (c = i) := by omega
  have hX2s : X2.size = cur.size := by
    rw [hX2]
    simp only [List.size_toArray, List.length_append, List.length_take, List.length_drop, Array.length_toList]; omega
  have hfin : X2.toList.take ((n + 1) * 8) = cur.toList.take (i * 8) ++ vcur.toList.take 8 ++ (cur.toList.take (n * 8)).drop (i * 8) := by
    have hA : (cur.toList.take ((i + 1) * 8)).length = (i + 1) * 8 := by rw [List.length_take, Array.length_toList]; omega
    have e1 : X1.toList.take (i * 8) = cur.toList.take (i * 8) := by
      rw [hX1, List.append_assoc]
      show (cur.toList.take ((i + 1) * 8) ++ _).take (i * 8) = _
      rw [List.take_append_of_le_length (by omega), List.take_take, Nat.min_eq_left (by omega)]
    have e2 : X1.toList.drop (i * 8 + vs.length) = cs ++ cur.toList.drop ((i + 1) * 8 + cs.length) := by
      rw [hX1, List.append_assoc]
      show (cur.toList.take ((i + 1) * 8) ++ _).drop (i * 8 + vs.length) = _
      rw [show i * 8 + vs.length = (cur.toList.take ((i + 1) * 8)).length by omega, List.drop_left]
    rw [← hvsd, ← hcs, hX2]
    show (X1.toList.take (i * 8) ++ vs ++ X1.toList.drop (i * 8 + vs.length)).take _ = _
    rw [e1, e2, ← List.append_assoc]
    apply List.take_left'
    rw [List.length_append, List.length_append, List.length_take, Array.length_toList]
    omega
  clear hX1 hX2 hcs hvsd
  go_enter Try.func47, Try.ntmps47
  go_wp2_with (simp only [hov])
  go_region_law_o (refine step_copy_runI rfl _ _ 25 25 rfl _ _ (by simp [Act.eval, Act.put]) (by simp [Act.eval, Act.put]) (hcp1 _ _ _) ?_)
  go_wp2_with (at_builtin; refine wpList_copy_runI _ rfl _ _ 25 25 rfl _ _ rfl rfl (hcp2 _ _) ?_)
  go_ret
  exact ⟨rfl, w.drew, X2, setRow_setRow _ _ _ _, rfl, rfl, rfl, rfl, hX2s, hfin⟩
set_option maxHeartbeats 4000000 in
set_option maxRecDepth 100000 in
theorem ins_grow (w : World) (b n c i vb vc : Nat) (cur vcur : Array Value) (hi : i < n) (hnc : n ≤ c) (hroom : c < n + 1) (hbig : (n + 1) * 72 ≤ 140737488355328) (hb : w.heap[b]? = some (.cells cur 43 (0, 0))) (hcur : cur.size = c * 8)
    (hv : w.heap[vb]? = some (.cells vcur 43 (0, 0))) (hvs : 8 ≤ vcur.size) (h1c : ∀ v ∈ cur.toList.take (n * 8), v.oneCell' = true) (h1v : ∀ v ∈ vcur.toList.take 8, v.oneCell' = true) :
    Calls Try.prog 47 #[.slice (some ⟨b, 0, none⟩) n c, .int .i64 i, .slice (some ⟨vb, 0, none⟩) 1 vc] w fun e w' =>
      ∃ (GG : Nat) (w1 : World) (X0 X : Array Value), e = .returned (.slice (some ⟨w.heap.size, 0, none⟩) (n + 1) GG) ∧ n + 1 ≤ GG ∧ GG ≤ maxLen ∧ w' = w1.setRow w.heap.size X ∧ w1.heap = (w.alloc (.cells X0 43)).heap ∧ w1.os = w.os ∧ w1.tape = w.tape ∧ w1.output = w.output ∧ X.size = GG * 8 ∧
        X.toList.take ((n + 1) * 8) = cur.toList.take (i * 8) ++ vcur.toList.take 8 ++ (cur.toList.take (n * 8)).drop (i * 8) := by
  obtain ⟨i0, hi0, hz0, hzs, hzb⟩ := info_parts insInfo
  have hz1 : ¬ ((1 : Int) = 0) := by decide
  have hz2 : ¬ ((i : Int) = (n : Int)) := by omega
  have hz3 : (c : Int) < (n : Int) + 1 := by omega
  have hbw : b < w.heap.size := (Array.getElem?_eq_some_iff.1 hb).1
  have hvw : vb < w.heap.size := (Array.getElem?_eq_some_iff.1 hv).1
  have hkk : (n : Int) + 1 - (i : Int) = ((n + 1 - i : Nat) : Int) := by omega
  have hik : i + (n + 1 - i) = n + 1 := by omega
  obtain ⟨cs, hcs⟩ : ∃ cs, cs = (cur.toList.take (n * 8)).drop (i * 8) := ⟨_, rfl⟩
  have hcl : cs.length = (n - i) * 8 := by rw [hcs, List.length_drop, List.length_take, Array.length_toList]; omega
  obtain ⟨vs, hvsd⟩ : ∃ vs, vs = vcur.toList.take 8 := ⟨_, rfl⟩
  have hvl : vs.length = 1 * 8 := by rw [hvsd, List.length_take, Array.length_toList]; omega
  obtain ⟨ah, hah⟩ : ∃ ah, ah = cur.toList.take (i * 8) := ⟨_, rfl⟩
  have hal : ah.length = i * 8 := by rw [hah, List.length_take, Array.length_toList]; omega
  have hcell : ∀ j, w.cell? ⟨b, j, none⟩ = cur[j]? := fun j => by simp [World.cell?, hb]
  have hold : (Builtin.firstCells i0.size i (.slice (some ⟨b, 0, none⟩) i c)).run Try.prog w.drew = .ok ah.toArray w.drew := by
    rw [hzs]
    exact run_firstCells_some w.drew 8 i ⟨b, 0, none⟩ i c ah hal (fun j v hj => by
      rw [Addr.add_lit, Nat.zero_add]
      rw [hah, List.getElem?_take] at hj
      split at hj
      · show w.cell? ⟨b, j, none⟩ = _
        rw [hcell]; simpa using hj
      · cases hj)
  obtain ⟨z, hz⟩ : ∃ z : Value, i0.zero = some z ∧ z.cells.size = 8 := ⟨_, hz0, rfl⟩
  obtain ⟨GG, hG⟩ : ∃ GG, GG = grownCap w (n + 1) c 43 := ⟨_, rfl⟩
  have hGn : n + 1 ≤ GG := by rw [hG]; exact grownCap_ge w _ _ _
  have hGm : GG ≤ maxLen := by rw [hG]; exact grownCap_le_maxLen w (n + 1) c 43 (by unfold maxLen; omega)
  have hG63 : GG ≤ 9223372036854775807 := by
    have := hGm
    unfold maxLen at this; omega
  obtain ⟨X0, hX0⟩ : ∃ X0 : Array Value, X0 = ah.toArray ++ Builtin.zeroCells z.cells (n + 1 - i) ++ Builtin.zeroCells z.cells (GG - (n + 1)) := ⟨_, rfl⟩
  have hX0s : X0.size = GG * 8 := by
    rw [hX0]
    simp only [Array.size_append, size_zeroCells, hz.2, List.size_toArray, hal]; omega
  have hrz : ∀ ty, (Builtin.append_ #[25, 3] ty #[.slice (some ⟨b, 0, none⟩) i c, .int .i64 ((n : Int) + 1 - (i : Int))]).run Try.prog w = .ok (.slice (some ⟨w.heap.size, 0, none⟩) (n + 1) GG) (w.drew.alloc (.cells X0 43)) := fun ty => by
    have h := Lib.run_append_grow_zeros w 25 3 ty 43 i0 z .i64 .i64 Try.underlying25 Try.underlying3 hi0 hz.1 (some ⟨b, 0, none⟩) i c ah hold (n + 1 - i) (by omega) (by omega) (by omega) (by omega) (by rw [hzb]; omega) (by rw [hzb, hik]; exact growslice_fits hroom hbig)
    rw [hik] at h
    rw [hkk, h, hX0, hG]
  obtain ⟨W1, hW1⟩ : ∃ W1, W1 = w.drew.alloc (.cells X0 43) := ⟨_, rfl⟩
  have hW1n : W1.heap[w.heap.size]? = some (.cells X0 43 (0, 0)) := by rw [hW1]; exact heap_alloc_new w.drew _
  have hW1o : ∀ k, k < w.heap.size → W1.heap[k]? = w.heap[k]? := fun k hk => by rw [hW1]; exact heap_alloc_old w.drew _ hk
  obtain ⟨X1, hX1⟩ : ∃ X1, X1 = (X0.toList.take (i * 8) ++ vs ++ X0.toList.drop (i * 8 + vs.length)).toArray := ⟨_, rfl⟩
  have hX1s : X1.size = X0.size := by
    rw [hX1]
    simp only [List.size_toArray, List.length_append, List.length_take, List.length_drop, Array.length_toList]; omega
  obtain ⟨X2, hX2⟩ : ∃ X2, X2 = (X1.toList.take ((i + 1) * 8) ++ cs ++ X1.toList.drop ((i + 1) * 8 + cs.length)).toArray := ⟨_, rfl⟩
  have hX2s : X2.size = X0.size := by
    rw [hX2]
    simp only [List.size_toArray, List.length_append, List.length_take, List.length_drop, Array.length_toList]; omega
  have hvat : G.At W1 ⟨vb, 0, none⟩ vs := fun j v hj => by
    rw [hvsd, List.getElem?_take] at hj
    split at hj
    · rw [Addr.add_lit]
      simp only [World.cell?, hW1o vb hvw, hv]
      simpa using hj
    · cases hj
  have hcp1 : ∀ ty dc, (Builtin.copy_ #[25, 25] ty #[.slice (some ⟨w.heap.size, i * 8, none⟩) (n + 1 - i) dc, .slice (some ⟨vb, 0, none⟩) 1 vc]).run Try.prog W1 = .ok (.int .i64 ((1 : Nat) : Int)) (W1.setRow w.heap.size X1) := fun ty dc => by
    rw [hX1]
    exact run_copyM (q := 1) Try.underlying25 hi0 (by simp only [Nat.min_def]; split <;> omega) (by rw [hvl, hzs]) hvat hW1n (by rw [hvl, hX0s]; omega) (fun v hv => h1v v (hvsd ▸ hv))
  have hcat : G.At (W1.setRow w.heap.size X1).drew ⟨b, i * 8, none⟩ cs := fun j v hj => by
    have hj' : (cur.toList.take (n * 8))[i * 8 + j]? = some v := by rw [hcs, List.getElem?_drop] at hj; exact hj
    rw [List.getElem?_take] at hj'
    split at hj'
    · rw [Addr.add_lit]
      show (W1.setRow w.heap.size X1).cell? _ = _
      rw [cell_setRow_other _ _ _ _ (show b ≠ w.heap.size by omega)]
      simp only [World.cell?, hW1o b hbw, hb]
      simpa using hj'
    · cases hj'
  have hcp2 : ∀ ty dc sc, (Builtin.copy_ #[25, 25] ty #[.slice (some ⟨w.heap.size, (i + 1) * 8, none⟩) (n - i) dc, .slice (some ⟨b, i * 8, none⟩) (n - i) sc]).run Try.prog (W1.setRow w.heap.size X1).drew = .ok (.int .i64 ((n - i : Nat) : Int)) ((W1.setRow w.heap.size X1).drew.setRow w.heap.size X2) := fun ty dc sc => by
    rw [hX2]
    exact run_copyM (q := n - i) Try.underlying25 hi0 (Nat.min_self _) (by rw [hcl, hzs]) hcat (setRow_heap _ _ _ _ _ _ hW1n) (by rw [hcl, hX1s, hX0s]; omega) (fun v hv => h1c v (List.mem_of_mem_drop (hcs ▸ hv)))
  have hfin : X2.toList.take ((n + 1) * 8) = cur.toList.take (i * 8) ++ vcur.toList.take 8 ++ (cur.toList.take (n * 8)).drop (i * 8) := by
    have e0 : X0.toList.take (i * 8) = ah := by
      rw [hX0, Array.append_assoc, Array.toList_append]
      show (ah ++ _).take (i * 8) = ah
      exact List.take_left' hal
    have e1 : X1.toList.take ((i + 1) * 8) = ah ++ vs := by
      rw [hX1, e0]
      show (ah ++ vs ++ _).take ((i + 1) * 8) = ah ++ vs
      exact List.take_left' (by rw [List.length_append, hal, hvl]; omega)
    rw [← hah, ← hvsd, ← hcs, hX2, e1]
    show (ah ++ vs ++ cs ++ _).take ((n + 1) * 8) = ah ++ vs ++ cs
    exact List.take_left' (by rw [List.length_append, List.length_append, hal, hvl, hcl]; omega)
  have mixed : Try.prog.follows .mixedOrders = true := by kernel_rfl
  have hw1 : IntKind.i64.wrap ((i : Int) + 1) = (i : Int) + 1 := by rw [IntKind.wrap_i64]; omega
  have hb1 : (0 : Int) ≤ (i : Int) + 1 := by omega
  have hin : i ≤ n := by omega
  have htn : ((i : Int) + 1).toNat = i + 1 := by omega
  have hb3 : (i : Int) ≤ (n : Int) := by omega
  have hGi : ¬ (GG = i) := by omega
  have hGim : ¬ (GG = i + 1) := by omega
  have hci : ¬ (c = i) := by omega
  have hX2g : X2.size = GG * 8 := by rw [hX2s, hX0s]
  rw [← hW1] at hrz
  have hE : InsAside ((W1.setRow w.heap.size X1).drew.setRow w.heap.size X2 = (w.alloc (.cells X0 43)).drew.drew.setRow w.heap.size X2) := by
    subst hW1
    show ((w.alloc (.cells X0 43)).drew.drew.setRow w.heap.size X1).setRow w.heap.size X2 = _
    exact setRow_setRow _ _ _ _
  clear hkk hik hold hX0 hG hX1 hX2 hcs hvsd hah hW1 hvat hcat
  go_enter Try.func47, Try.ntmps47
  go_wp2_with (first
    | (at_builtin; refine Lib.wpList_append_run _ rfl _ _ _ _ rfl _ _ rfl rfl _ _ (hrz _) ?_)
    | (at_builtin; refine wpList_copy_runI _ rfl _ _ 25 25 rfl _ _ rfl rfl (hcp1 _ _) ?_))
  go_region_law_o (refine step_copy_runI rfl _ _ 25 25 rfl (.slice (some ⟨w.heap.size, (i + 1) * 8, none⟩) (n - i) (GG - (i + 1))) (.slice (some ⟨b, i * 8, none⟩) (n - i) (c - i)) (by simp [Act.eval, Act.put]) (by simp [Act.eval, Act.put]) (hcp2 3 (GG - (i + 1)) (c - i)) ?_)
  go_wp2
  go_ret
  exact ⟨GG, (w.alloc (.cells X0 43)).drew.drew, X0, X2, rfl, hGn, hGm, hE, rfl, rfl, rfl, rfl, hX2g, hfin⟩
section
open Go.G (Ext Gr)
variable {τ : Nat → Value} {w : World} {ok : Nat → Prop}
theorem ins_args {i : IV} {vs : List Value} (h : AllI τ w ok [.own 0, i, .own 1] vs) : ∃ u, vs = [τ 0, u, τ 1] ∧ RepI τ w ok i u := by
  obtain ⟨hl, hg⟩ := h
  match vs, hl with
  | [a, b, c], _ =>
    have h0 := hg 0 (.own 0) a rfl rfl
    have h1 := hg 1 i b rfl rfl
    have h2 := hg 2 (.own 1) c rfl rfl
    cases h0; cases h2
    exact ⟨b, rfl, h1⟩
theorem ins_data {k : Nat} {rows : List (List UV)} (h : RepB τ w ok k (.data 43 8 rows)) (hp : 0 < rows.length) : ∃ g cap cur, τ k = .slice (some ⟨g, 0, none⟩) rows.length cap ∧ w.heap[g]? = some (.cells cur 43 (0, 0)) ∧ rows.length ≤ cap ∧ cap ≤ maxLen ∧ cur.size = cap * 8 ∧
    AllU w ok rows.flatten (cur.toList.take (rows.length * 8)) ∧ (∀ r ∈ rows, r.length = 8) ∧ (∀ u ∈ rows.flatten, u.one = true) ∧ ∀ v ∈ cur.toList.take (rows.length * 8), v.oneCell' = true := by
  obtain ⟨vs, ⟨hl, h0 | ⟨g, cap, cur, h1, _, h2, h3, h4, h5, h6⟩⟩, hu, hr, _, ho⟩ := h
  · omega
  · subst h6
    refine ⟨g, cap, cur, h1, h2, h3, h4, h5, hu, hr, ho, fun v hv => ?_⟩
    obtain ⟨j, hj, e⟩ := List.mem_iff_getElem.1 hv
    have hj2 : j < rows.flatten.length := by rw [hu.1]; exact hj
    have := hu.2 j rows.flatten[j] v (List.getElem?_eq_getElem hj2) (by rw [List.getElem?_eq_getElem hj, e])
    exact (RepI.u (τ := τ) this).isOne (ho _ (List.getElem_mem hj2))
theorem ins_all {rows : List (List UV)} {row : List UV} {i : Nat} {xs ys : List Value} (hi : i ≤ rows.length) (hr : ∀ r ∈ rows, r.length = 8) (hx : AllU w ok rows.flatten xs) (hy : AllU w ok row ys) :
    AllU w ok (rows.take i ++ row :: rows.drop i).flatten (xs.take (i * 8) ++ ys ++ xs.drop (i * 8)) := by
  have e : rows.flatten = (rows.take i).flatten ++ (rows.drop i).flatten := by rw [← List.flatten_append, List.take_append_drop]
  have hl : (rows.take i).flatten.length = i * 8 := by
    rw [flat_len (sz := 8) (fun r hr' => hr r (List.mem_of_mem_take hr')), List.length_take, Nat.min_eq_left hi]
  have hxl := hx.1
  rw [e, List.length_append, hl] at hxl
  rw [← List.take_append_drop (i * 8) xs, e] at hx
  obtain ⟨h1, h2⟩ := hx.split (by rw [hl, List.length_take]; omega)
  rw [List.flatten_append, List.flatten_cons, ← List.append_assoc]
  exact (h1.app hy).app h2
end
open Go.G (Ext Gr) in
theorem insMid_con {rows : List (List UV)} {row : List UV} {i : Nat} (hi : i < rows.length) (hl : rows.length ≤ 1000000) :
    Con Try.prog 47 [.own 0, .u (.sc (.int .i64 (i : Int))), .own 1] [(0, .data 43 8 rows), (1, .data 43 8 [row])] (.own 2) [(2, .data 43 8 (rows.take i ++ row :: rows.drop i))] := by
  intro τ w vs ok hin
  obtain ⟨u, rfl, hu⟩ := ins_args hin.args
  obtain rfl : u = .int .i64 (i : Int) := by
    cases hu with
    | u h => cases h; rfl
  have b0 := hin.sto 0 _ rfl
  have b1 := hin.sto 1 _ rfl
  obtain ⟨g, cap, cur, t0, hg, c1, c2, c3, c4, c5, c6, c7⟩ := ins_data b0 (by omega)
  obtain ⟨g1, cap1, cur1, t1, hg1, d1, d2, d3, d4, d5, d6, d7⟩ := ins_data b1 (by simp)
  have hne : g1 ≠ g := fun e => by
    have := hin.inj 0 1 _ _ g rfl rfl (by rw [t0]; rfl) (by rw [t1, e]; rfl)
    cases this
  have hM : ∀ b, b = g → MOf τ [(0, SB.data 43 8 rows), (1, .data 43 8 [row])] b := fun b e => ⟨0, _, rfl, by rw [t0, e]; rfl⟩
  have hrl : row.length = 8 := d5 row (by simp)
  have hfl : ([row] : List (List UV)).flatten = row := by simp
  rw [hfl] at d4 d6
  have d4' : AllU w ok row (cur1.toList.take 8) := d4
  have d7' : ∀ v ∈ cur1.toList.take 8, v.oneCell' = true := d7
  have hall := ins_all (Nat.le_of_lt hi) c5 c4 d4'
  rw [List.take_take, Nat.min_eq_left (by omega)] at hall
  have hr' : ∀ r ∈ rows.take i ++ row :: rows.drop i, r.length = 8 := fun r hr => by
    rcases List.mem_append.1 hr with m | m
    · exact c5 r (List.mem_of_mem_take m)
    · rcases List.mem_cons.1 m with m | m
      · rw [m]; exact hrl
      · exact c5 r (List.mem_of_mem_drop m)
  have ho' : ∀ u ∈ (rows.take i ++ row :: rows.drop i).flatten, u.one = true := fun u hu => by
    obtain ⟨r, hr, hu⟩ := List.mem_flatten.1 hu
    rcases List.mem_append.1 hr with m | m
    · exact c6 u (List.mem_flatten.2 ⟨r, List.mem_of_mem_take m, hu⟩)
    · rcases List.mem_cons.1 m with m | m
      · rw [m] at hu; exact d6 u hu
      · exact c6 u (List.mem_flatten.2 ⟨r, List.mem_of_mem_drop m, hu⟩)
  have hlen' : (rows.take i ++ row :: rows.drop i).length = rows.length + 1 := by
    rw [List.length_append, List.length_take, List.length_cons, List.length_drop]; omega
  have hvl : (cur.toList.take (i * 8) ++ cur1.toList.take 8 ++ (cur.toList.take (rows.length * 8)).drop (i * 8)).length = (rows.length + 1) * 8 := by
    simp only [List.length_append, List.length_take, List.length_drop, Array.length_toList]
    have : ([row] : List (List UV)).length = 1 := rfl
    omega
  have hcap1 : 8 ≤ cur1.size := by
    have : ([row] : List (List UV)).length = 1 := rfl
    omega
  show Calls Try.prog 47 #[τ 0, .int .i64 (i : Int), τ 1] w _
  rw [t0, t1]
  by_cases hroom : rows.length + 1 ≤ cap
  · refine Calls.mono (ins_shift w g rows.length cap i g1 cap1 cur cur1 hi hroom (by unfold maxLen at c2; omega) hne hg c3 hg1 hcap1 c7 d7') ?_
    rintro e w' ⟨rfl, w1, X, rfl, hh, ho, htp, hou, hXs, hX⟩
    have hbk : ∀ k, k ≠ g → (w1.setRow g X).heap[k]? = w.heap[k]? := fun k hk => by rw [setRow_other _ _ _ _ hk, hh]
    have hg' : w1.heap[g]? = some (.cells cur 43 (0, 0)) := by rw [hh]; exact hg
    have hsz : (w1.setRow g X).heap.size = w.heap.size := by rw [setRow_size, hh]
    refine ⟨_, fun k => if k = 2 then .slice (some ⟨g, 0, none⟩) (rows.length + 1) cap else τ k, rfl, ⟨ho, htp, hou, by omega, fun k _ hn => hbk k (fun e => hn (hM k e))⟩, fun k hk => ?_, ?_, fun k sb hk => ?_, fun k k' sb sb' b hk hk' _ _ => ?_, fun k sb b hk hb => ?_⟩
    · have : k = 0 ∨ k = 1 := by simpa [keysS] using hk
      rcases this with rfl | rfl <;> rfl
    · exact RepI.own (τ := fun k => if k = 2 then .slice (some ⟨g, 0, none⟩) (rows.length + 1) cap else τ k) 2 rfl
    · by_cases e : 2 = k
      · subst e
        rw [lookS_data] at hk; cases hk
        refine ⟨_, ⟨?_, .inr ⟨g, cap, X, by rw [hlen']; rfl, Nat.zero_le _, setRow_heap _ _ _ _ _ _ hg', by rw [hlen']; exact hroom, c2, by rw [hXs, c3], by rw [hlen']; exact hX⟩⟩, hall.mono (by omega) (fun b hb hlt => ⟨⟨.inl hb, fun k sb hk hv => ?_⟩, hbk b (fun e => hin.ap b hb (hM b e))⟩), hr', by decide, ho'⟩
        · rw [hlen']; exact hvl
        · by_cases e : 2 = k
          · subst e
            rw [lookS_data] at hk; cases hk
            change vblk _ = some b at hv
            simp [vblk] at hv
            exact hin.ap b hb (hM b hv.symm)
          · rw [lookS_ne e] at hk; cases hk
      · rw [lookS_ne e] at hk; cases hk
    · by_cases e : 2 = k
      · by_cases e' : 2 = k'
        · omega
        · rw [lookS_ne e'] at hk'; cases hk'
      · rw [lookS_ne e] at hk; cases hk
    · by_cases e : 2 = k
      · subst e
        rw [lookS_data] at hk; cases hk
        change vblk _ = some b at hb
        simp [vblk] at hb
        exact .inl (hM b hb.symm)
      · rw [lookS_ne e] at hk; cases hk
  · refine Calls.mono (ins_grow w g rows.length cap i g1 cap1 cur cur1 hi c1 (by omega) (by omega) hg c3 hg1 hcap1 c7 d7') ?_
    rintro e w' ⟨GG, w1, X0, X, rfl, hG1, hG2, rfl, hh, ho, htp, hou, hXs, hX⟩
    have hgs : g < w.heap.size := (Array.getElem?_eq_some_iff.1 hg).1
    have hn' : w1.heap[w.heap.size]? = some (.cells X0 43 (0, 0)) := by rw [hh]; exact heap_alloc_new w _
    have hbk : ∀ k, k < w.heap.size → (w1.setRow w.heap.size X).heap[k]? = w.heap[k]? := fun k hk => by rw [setRow_other _ _ _ _ (by omega), hh]; exact heap_alloc_old w _ hk
    have hsz : (w1.setRow w.heap.size X).heap.size = w.heap.size + 1 := by rw [setRow_size, hh, World.size_alloc]
    refine ⟨_, fun k => if k = 2 then .slice (some ⟨w.heap.size, 0, none⟩) (rows.length + 1) GG else τ k, rfl, ⟨ho, htp, hou, by omega, fun k hk _ => hbk k hk⟩, fun k hk => ?_, ?_, fun k sb hk => ?_, fun k k' sb sb' b hk hk' _ _ => ?_, fun k sb b hk hb => ?_⟩
    · have : k = 0 ∨ k = 1 := by simpa [keysS] using hk
      rcases this with rfl | rfl <;> rfl
    · exact RepI.own (τ := fun k => if k = 2 then .slice (some ⟨w.heap.size, 0, none⟩) (rows.length + 1) GG else τ k) 2 rfl
    · by_cases e : 2 = k
      · subst e
        rw [lookS_data] at hk; cases hk
        refine ⟨_, ⟨?_, .inr ⟨w.heap.size, GG, X, by rw [hlen']; rfl, Nat.zero_le _, setRow_heap _ _ _ _ _ _ hn', by rw [hlen']; exact hG1, hG2, hXs, by rw [hlen']; exact hX⟩⟩, hall.mono (by omega) (fun b hb hlt => ⟨⟨.inl hb, fun k sb hk hv => ?_⟩, hbk b hlt⟩), hr', by decide, ho'⟩
        · rw [hlen']; exact hvl
        · by_cases e : 2 = k
          · subst e
            rw [lookS_data] at hk; cases hk
            change vblk _ = some b at hv
            simp [vblk] at hv
            omega
          · rw [lookS_ne e] at hk; cases hk
      · rw [lookS_ne e] at hk; cases hk
    · by_cases e : 2 = k
      · by_cases e' : 2 = k'
        · omega
        · rw [lookS_ne e'] at hk'; cases hk'
      · rw [lookS_ne e] at hk; cases hk
    · by_cases e : 2 = k
      · subst e
        rw [lookS_data] at hk; cases hk
        change vblk _ = some b at hb
        simp [vblk] at hb
        exact .inr (by omega)
      · rw [lookS_ne e] at hk; cases hk
end Go.Proofs.Ytmekkjehkcjpdaa
end
section
namespace Go.D58
open Go Go.RowKit Go.H Go.D57
variable {s : St} {x : Sp}
theorem add_e2 (h : ¬ (idB x.copy ∧ idB x.work)) : addE s x = 2 ∧ addS s x = s := by
  have e : addE s x = 2 := by rw [addE, if_pos h]
  exact ⟨e, by rw [addS, e, if_neg (by decide)]⟩
theorem add_e8 (h0 : ¬ (¬ (idB x.copy ∧ idB x.work))) (h : ¬ nmOk x.lib) : addE s x = 8 ∧ addS s x = s := by
  have e : addE s x = 8 := by rw [addE, if_neg h0, if_pos h]
  exact ⟨e, by rw [addS, e, if_neg (by decide)]⟩
theorem add_e10 (h0 : ¬ (¬ (idB x.copy ∧ idB x.work))) (h1 : ¬ (¬ nmOk x.lib)) (h : 0 ≤ cpI s x.copy) : addE s x = 10 ∧ addS s x = s := by
  have e : addE s x = 10 := by rw [addE, if_neg h0, if_neg h1, if_pos h]
  exact ⟨e, by rw [addS, e, if_neg (by decide)]⟩
theorem add_e20 (h0 : ¬ (¬ (idB x.copy ∧ idB x.work))) (h1 : ¬ (¬ nmOk x.lib)) (h2 : ¬ (0 ≤ cpI s x.copy)) (h : s.cps.length = 60) : addE s x = 20 ∧ addS s x = s := by
  have e : addE s x = 20 := by rw [addE, if_neg h0, if_neg h1, if_neg h2, if_pos h]
  exact ⟨e, by rw [addS, e, if_neg (by decide)]⟩
theorem add_e0 (h0 : ¬ (¬ (idB x.copy ∧ idB x.work))) (h1 : ¬ (¬ nmOk x.lib)) (h2 : ¬ (0 ≤ cpI s x.copy)) (h3 : ¬ (s.cps.length = 60)) : addE s x = 0 ∧ addS s x = freeS (insC s x) (kpos (·.id) s.cps x.copy) := by
  have e : addE s x = 0 := by rw [addE, if_neg h0, if_neg h1, if_neg h2, if_neg h3]
  exact ⟨e, by rw [addS, if_pos e]⟩
theorem rem_e9 (h : ¬ 0 ≤ cpI s x.copy) : remE s x = 9 ∧ remS s x = s := by
  have e : remE s x = 9 := by rw [remE, if_pos h]
  exact ⟨e, by rw [remS, e, if_neg (by decide)]⟩
theorem rem_e26 (h0 : ¬ (¬ 0 ≤ cpI s x.copy)) (h : (atC s x.copy).place ≠ 1) : remE s x = 26 ∧ remS s x = s := by
  have e : remE s x = 26 := by rw [remE, if_neg h0, if_pos h]
  exact ⟨e, by rw [remS, e, if_neg (by decide)]⟩
theorem rem_e0 (h0 : ¬ (¬ 0 ≤ cpI s x.copy)) (h1 : ¬ ((atC s x.copy).place ≠ 1)) : remE s x = 0 ∧ remS s x = ⟨s.now, s.cps.filter (fun c => !decide (c.id = x.copy)), s.lns⟩ := by
  have e : remE s x = 0 := by rw [remE, if_neg h0, if_neg h1]
  exact ⟨e, by rw [remS, if_pos e]⟩
theorem len_e2 (h : ¬ idB x.pat) : lenE s x = 2 ∧ lenS s x = s := by
  have e : lenE s x = 2 := by rw [lenE, if_pos h]
  exact ⟨e, by rw [lenS, e, if_neg (by decide)]⟩
theorem len_e9 (h0 : ¬ (¬ idB x.pat)) (h : ¬ 0 ≤ cpI s x.copy) : lenE s x = 9 ∧ lenS s x = s := by
  have e : lenE s x = 9 := by rw [lenE, if_neg h0, if_pos h]
  exact ⟨e, by rw [lenS, e, if_neg (by decide)]⟩
theorem len_e26 (h0 : ¬ (¬ idB x.pat)) (h1 : ¬ (¬ 0 ≤ cpI s x.copy)) (h : (atC s x.copy).place = 2 ∨ ((atC s x.copy).place = 3 ∧ (atC s x.copy).pat ≠ x.pat)) : lenE s x = 26 ∧ lenS s x = s := by
  have e : lenE s x = 26 := by rw [lenE, if_neg h0, if_neg h1, if_pos h]
  exact ⟨e, by rw [lenS, e, if_neg (by decide)]⟩
theorem len_e10 (h0 : ¬ (¬ idB x.pat)) (h1 : ¬ (¬ 0 ≤ cpI s x.copy)) (h2 : ¬ ((atC s x.copy).place = 2 ∨ ((atC s x.copy).place = 3 ∧ (atC s x.copy).pat ≠ x.pat))) (h : (atC s x.copy).place = 1 ∧ 0 ≤ ownI s x.pat (atC s x.copy).work) : lenE s x = 10 ∧ lenS s x = s := by
  have e : lenE s x = 10 := by rw [lenE, if_neg h0, if_neg h1, if_neg h2, if_pos h]
  exact ⟨e, by rw [lenS, e, if_neg (by decide)]⟩
theorem len_e3 (h0 : ¬ (¬ idB x.pat)) (h1 : ¬ (¬ 0 ≤ cpI s x.copy)) (h2 : ¬ ((atC s x.copy).place = 2 ∨ ((atC s x.copy).place = 3 ∧ (atC s x.copy).pat ≠ x.pat))) (h3 : ¬ ((atC s x.copy).place = 1 ∧ 0 ≤ ownI s x.pat (atC s x.copy).work)) (h : 5 ≤ (idsF (fun c => decide (c.place = 2 ∧ c.pat = x.pat)) s.cps).length) : lenE s x = 3 ∧ lenS s x = s := by
  have e : lenE s x = 3 := by rw [lenE, if_neg h0, if_neg h1, if_neg h2, if_neg h3, if_pos h]
  exact ⟨e, by rw [lenS, e, if_neg (by decide)]⟩
theorem len_e25 (h0 : ¬ (¬ idB x.pat)) (h1 : ¬ (¬ 0 ≤ cpI s x.copy)) (h2 : ¬ ((atC s x.copy).place = 2 ∨ ((atC s x.copy).place = 3 ∧ (atC s x.copy).pat ≠ x.pat))) (h3 : ¬ ((atC s x.copy).place = 1 ∧ 0 ≤ ownI s x.pat (atC s x.copy).work)) (h4 : ¬ (5 ≤ (idsF (fun c => decide (c.place = 2 ∧ c.pat = x.pat)) s.cps).length)) (h : 1000000 < s.now + 28) : lenE s x = 25 ∧ lenS s x = s := by
  have e : lenE s x = 25 := by rw [lenE, if_neg h0, if_neg h1, if_neg h2, if_neg h3, if_neg h4, if_pos h]
  exact ⟨e, by rw [lenS, e, if_neg (by decide)]⟩
theorem len_e0 (h0 : ¬ (¬ idB x.pat)) (h1 : ¬ (¬ 0 ≤ cpI s x.copy)) (h2 : ¬ ((atC s x.copy).place = 2 ∨ ((atC s x.copy).place = 3 ∧ (atC s x.copy).pat ≠ x.pat))) (h3 : ¬ ((atC s x.copy).place = 1 ∧ 0 ≤ ownI s x.pat (atC s x.copy).work)) (h4 : ¬ (5 ≤ (idsF (fun c => decide (c.place = 2 ∧ c.pat = x.pat)) s.cps).length)) (h5 : ¬ (1000000 < s.now + 28)) : lenE s x = 0 ∧ lenS s x = ⟨s.now, s.cps.set (cpI s x.copy).toNat (lentC (atC s x.copy) x.pat s.now), s.lns⟩ := by
  have e : lenE s x = 0 := by rw [lenE, if_neg h0, if_neg h1, if_neg h2, if_neg h3, if_neg h4, if_neg h5]
  exact ⟨e, by rw [lenS, if_pos e]⟩
theorem bak_e9 (h : ¬ 0 ≤ cpI s x.copy) : bakE s x = 9 ∧ bakS s x = s := by
  have e : bakE s x = 9 := by rw [bakE, if_pos h]
  exact ⟨e, by rw [bakS, e, if_neg (by decide)]⟩
theorem bak_e11 (h0 : ¬ (¬ 0 ≤ cpI s x.copy)) (h : (atC s x.copy).place ≠ 2) : bakE s x = 11 ∧ bakS s x = s := by
  have e : bakE s x = 11 := by rw [bakE, if_neg h0, if_pos h]
  exact ⟨e, by rw [bakS, e, if_neg (by decide)]⟩
theorem bak_e0 (h0 : ¬ (¬ 0 ≤ cpI s x.copy)) (h1 : ¬ ((atC s x.copy).place ≠ 2)) : bakE s x = 0 ∧ bakS s x = freeS s (cpI s x.copy).toNat := by
  have e : bakE s x = 0 := by rw [bakE, if_neg h0, if_neg h1]
  exact ⟨e, by rw [bakS, if_pos e]⟩
theorem ren_e9 (h : ¬ 0 ≤ cpI s x.copy) : renE s x = 9 ∧ renS s x = s := by
  have e : renE s x = 9 := by rw [renE, if_pos h]
  exact ⟨e, by rw [renS, e, if_neg (by decide)]⟩
theorem ren_e11 (h0 : ¬ (¬ 0 ≤ cpI s x.copy)) (h : (atC s x.copy).place ≠ 2) : renE s x = 11 ∧ renS s x = s := by
  have e : renE s x = 11 := by rw [renE, if_neg h0, if_pos h]
  exact ⟨e, by rw [renS, e, if_neg (by decide)]⟩
theorem ren_e26 (h0 : ¬ (¬ 0 ≤ cpI s x.copy)) (h1 : ¬ ((atC s x.copy).place ≠ 2)) (h : (atC s x.copy).rc = true ∨ 0 < (queS s (atC s x.copy).work).length) : renE s x = 26 ∧ renS s x = s := by
  have e : renE s x = 26 := by rw [renE, if_neg h0, if_neg h1, if_pos h]
  exact ⟨e, by rw [renS, e, if_neg (by decide)]⟩
theorem ren_e25 (h0 : ¬ (¬ 0 ≤ cpI s x.copy)) (h1 : ¬ ((atC s x.copy).place ≠ 2)) (h2 : ¬ ((atC s x.copy).rc = true ∨ 0 < (queS s (atC s x.copy).work).length)) (h : 1000000 < s.now + 28) : renE s x = 25 ∧ renS s x = s := by
  have e : renE s x = 25 := by rw [renE, if_neg h0, if_neg h1, if_neg h2, if_pos h]
  exact ⟨e, by rw [renS, e, if_neg (by decide)]⟩
theorem ren_e0 (h0 : ¬ (¬ 0 ≤ cpI s x.copy)) (h1 : ¬ ((atC s x.copy).place ≠ 2)) (h2 : ¬ ((atC s x.copy).rc = true ∨ 0 < (queS s (atC s x.copy).work).length)) (h3 : ¬ (1000000 < s.now + 28)) : renE s x = 0 ∧ renS s x = ⟨s.now, s.cps.set (cpI s x.copy).toNat (rnwC (atC s x.copy) s.now), s.lns⟩ := by
  have e : renE s x = 0 := by rw [renE, if_neg h0, if_neg h1, if_neg h2, if_neg h3]
  exact ⟨e, by rw [renS, if_pos e]⟩
theorem ask_e2 (h : ¬ (idB x.work ∧ idB x.pat ∧ idB x.hold ∧ inB x.cls 1 3)) : askE s x = 2 ∧ askS s x = s := by
  have e : askE s x = 2 := by rw [askE, if_pos h]
  exact ⟨e, by rw [askS, e, if_neg (by decide)]⟩
theorem ask_e9 (h0 : ¬ (¬ (idB x.work ∧ idB x.pat ∧ idB x.hold ∧ inB x.cls 1 3))) (h : cntP s.cps x.work 1 = 0 ∧ cntP s.cps x.work 2 = 0 ∧ cntP s.cps x.work 3 = 0) : askE s x = 9 ∧ askS s x = s := by
  have e : askE s x = 9 := by rw [askE, if_neg h0, if_pos h]
  exact ⟨e, by rw [askS, e, if_neg (by decide)]⟩
theorem ask_e10 (h0 : ¬ (¬ (idB x.work ∧ idB x.pat ∧ idB x.hold ∧ inB x.cls 1 3))) (h1 : ¬ (cntP s.cps x.work 1 = 0 ∧ cntP s.cps x.work 2 = 0 ∧ cntP s.cps x.work 3 = 0)) (h : useB s x.hold = true ∨ 0 ≤ ownI s x.pat x.work ∨ 0 ≤ patI (queS s x.work) x.pat) : askE s x = 10 ∧ askS s x = s := by
  have e : askE s x = 10 := by rw [askE, if_neg h0, if_neg h1, if_pos h]
  exact ⟨e, by rw [askS, e, if_neg (by decide)]⟩
theorem ask_e20 (h0 : ¬ (¬ (idB x.work ∧ idB x.pat ∧ idB x.hold ∧ inB x.cls 1 3))) (h1 : ¬ (cntP s.cps x.work 1 = 0 ∧ cntP s.cps x.work 2 = 0 ∧ cntP s.cps x.work 3 = 0)) (h2 : ¬ (useB s x.hold = true ∨ 0 ≤ ownI s x.pat x.work ∨ 0 ≤ patI (queS s x.work) x.pat)) (h : (queS s x.work).length = 60) : askE s x = 20 ∧ askS s x = s := by
  have e : askE s x = 20 := by rw [askE, if_neg h0, if_neg h1, if_neg h2, if_pos h]
  exact ⟨e, by rw [askS, e, if_neg (by decide)]⟩
theorem ask_e0 (h0 : ¬ (¬ (idB x.work ∧ idB x.pat ∧ idB x.hold ∧ inB x.cls 1 3))) (h1 : ¬ (cntP s.cps x.work 1 = 0 ∧ cntP s.cps x.work 2 = 0 ∧ cntP s.cps x.work 3 = 0)) (h2 : ¬ (useB s x.hold = true ∨ 0 ≤ ownI s x.pat x.work ∨ 0 ≤ patI (queS s x.work) x.pat)) (h3 : ¬ ((queS s x.work).length = 60)) : askE s x = 0 ∧ askS s x = (if 0 ≤ shlI s x.work then ⟨s.now, s.cps.set (shlI s x.work).toNat (wtC s.cps[(shlI s x.work).toNat]! (hldX s x) s.now), s.lns⟩ else recS (putS s x) x.work) := by
  have e : askE s x = 0 := by rw [askE, if_neg h0, if_neg h1, if_neg h2, if_neg h3]
  exact ⟨e, by rw [askS, if_pos e]⟩
theorem wai_e2 (h : ¬ inB x.days 1 1000) : waiE s x = 2 ∧ waiS s x = s := by
  have e : waiE s x = 2 := by rw [waiE, if_pos h]
  exact ⟨e, by rw [waiS, e, if_neg (by decide)]⟩
theorem wai_e25 (h0 : ¬ (¬ inB x.days 1 1000)) (h : 1000000 < s.now + x.days) : waiE s x = 25 ∧ waiS s x = s := by
  have e : waiE s x = 25 := by rw [waiE, if_neg h0, if_pos h]
  exact ⟨e, by rw [waiS, e, if_neg (by decide)]⟩
theorem wai_e0 (h0 : ¬ (¬ inB x.days 1 1000)) (h1 : ¬ (1000000 < s.now + x.days)) : waiE s x = 0 ∧ waiS s x = lateS ⟨s.now + x.days, s.cps, s.lns⟩ s.cps.length := by
  have e : waiE s x = 0 := by rw [waiE, if_neg h0, if_neg h1]
  exact ⟨e, by rw [waiS, if_pos e]⟩
theorem clc_w (h : 0 ≤ wtI s x.hold) : clcE s x = 0 ∧ clcS s x = freeS s (wtI s x.hold).toNat := ⟨by rw [clcE, if_pos h], by rw [clcS, if_pos h]⟩
theorem clc_l (h0 : ¬ 0 ≤ wtI s x.hold) (h : 0 ≤ lnI s x.hold) : clcE s x = 0 ∧ clcS s x = ⟨s.now, s.cps, setQ s.lns s.lns[(lnI s x.hold).toNat]!.work (canQ s.lns[(lnI s x.hold).toNat]!.q x.hold)⟩ := ⟨by rw [clcE, if_neg h0, if_pos h], by rw [clcS, if_neg h0, if_pos h]⟩
theorem clc_n (h0 : ¬ 0 ≤ wtI s x.hold) (h : ¬ 0 ≤ lnI s x.hold) : clcE s x = 9 ∧ clcS s x = s := ⟨by rw [clcE, if_neg h0, if_neg h], by rw [clcS, if_neg h0, if_neg h]⟩
def keepF (l : List Cp) (p : Cp → Bool) (j : Nat) : List Cp := (l.take j).filter fun c => !p c
def dlR (l : List Cp) (p : Cp → Bool) (j : Nat) : List Cp := keepF l p j ++ l.drop (keepF l p j).length
section
variable {l : List Cp} {p : Cp → Bool} {j : Nat}
theorem keep_le (l : List Cp) (p : Cp → Bool) (j : Nat) : (keepF l p j).length ≤ j := by
  unfold keepF
  have := List.length_filter_le (fun c : Cp => !p c) (l.take j)
  rw [List.length_take] at this; omega
theorem dl_len (h : j ≤ l.length) : (dlR l p j).length = l.length := by
  have := keep_le l p j
  simp only [dlR, List.length_append, List.length_drop]; omega
theorem dl_get (h : j < l.length) : (dlR l p j)[j]! = l[j]! := by
  have h1 := keep_le l p j
  rw [getElem!_pos _ j (by rw [dl_len (by omega)]; exact h), getElem!_pos l j h]
  simp only [dlR]
  rw [List.getElem_append_right h1, List.getElem_drop]
  congr 1; omega
theorem keep_n (h : j < l.length) (e : p l[j]! = true) : keepF l p (j + 1) = keepF l p j := filt_n h (by rw [e]; decide)
theorem keep_y (h : j < l.length) (e : p l[j]! = false) : keepF l p (j + 1) = keepF l p j ++ [l[j]!] := filt_y h (by rw [e]; rfl)
theorem dl_n (h : j < l.length) (e : p l[j]! = true) : dlR l p (j + 1) = dlR l p j := by unfold dlR; rw [keep_n h e]
theorem dl_y (h : j < l.length) (e : p l[j]! = false) : dlR l p (j + 1) = (dlR l p j).set (keepF l p j).length l[j]! := by
  have h1 := keep_le l p j
  unfold dlR
  rw [keep_y h e, List.set_append_right _ _ (Nat.le_refl _), Nat.sub_self, List.length_append, List.length_singleton, List.append_assoc]
  rw [List.drop_eq_getElem_cons (show (keepF l p j).length < l.length by omega), List.set_cons_zero]; rfl
theorem keep_0 {i : Nat} (hi : i < l.length) (h1 : ∀ k, k < i → p l[k]! = false) (h2 : p l[i]! = true) : keepF l p (i + 1) = l.take i := by
  rw [keep_n hi h2]
  refine List.filter_eq_self.2 fun a ha => ?_
  obtain ⟨k, hk, rfl⟩ := List.getElem_of_mem ha
  have hk2 : k < i := by rw [List.length_take] at hk; omega
  have := h1 k hk2
  rw [getElem!_pos l k (by omega)] at this
  rw [List.getElem_take, this]; rfl
theorem dl_0 {i : Nat} (hi : i < l.length) (h1 : ∀ k, k < i → p l[k]! = false) (h2 : p l[i]! = true) : (keepF l p (i + 1)).length = i ∧ dlR l p (i + 1) = l := by
  have e := keep_0 hi h1 h2
  have e2 : (keepF l p (i + 1)).length = i := by rw [e, List.length_take]; omega
  exact ⟨e2, by rw [dlR, e2, e, List.take_append_drop]⟩
theorem keep_all : keepF l p l.length = l.filter fun c => !p c := by unfold keepF; rw [List.take_length]
theorem idx_first {α : Type} [Inhabited α] {p : α → Bool} {l : List α} (h : 0 ≤ idxF p l) : ∀ k, k < (idxF p l).toNat → p l[k]! = false := by
  unfold idxF at h ⊢
  split at h
  · rename_i i hi
    obtain ⟨h1, _, h3⟩ := List.findIdx?_eq_some_iff_getElem.1 hi
    intro k hk
    have hk2 : k < i := hk
    have := h3 k hk2
    rw [getElem!_pos l k (by omega)]
    cases e : p l[k] with
    | false => rfl
    | true => rw [e] at this; exact absurd rfl this
  · omega
theorem filt_none {p : Cp → Bool} {l : List Cp} (h : ¬ 0 ≤ idxF p l) : l.filter (fun c => !p c) = l := List.filter_eq_self.2 fun a ha => by
  cases e : p a with
  | false => rfl
  | true => exact absurd (any_iff.1 ⟨a, ha, e⟩) h
end
end Go.D58
end
section
namespace Go.Proofs.Ytmekkjehkcjpdaa
open Go Go.RowKit Go.H Go.D57 Go.D58



set_option maxRecDepth 8000 in
theorem insertEndC {rows : List (List UV)} {row : List UV} (hl : rows.length ≤ 1000000) :
    Con Try.prog 47 [.own 0, vI (rows.length : Int), .own 1] [(0, .data 43 8 (rows)), (1, .data 43 8 ([row]))] (.own 2) [(2, .data 43 8 (rows ++ [row]))] := by
 obtain ⟨i43, hi43, hz43, hs43, hb43⟩ := hinf43
 refine Con.enterL (n := 95) Try.func47 rfl rfl rfl (fun τ w ok vs hin => ?_)
 clear hin
 refine W.rg (SL.an rfl rfl (E.fo (W.rg (SL.mv rfl rfl (SL.mv rfl rfl ?_)))))
 refine SL.val (O.sub_own (i := rows.length) rfl rfl (Bnd.at rfl (by first | rfl | omega)) Bnd.no (by exact Nat.le_refl _) (by exact Nat.le_refl _) Try.underlying25 hi43 hs43 rfl Taken.no) ?_
 refine E.fo (W.rg (SL.mv rfl rfl ?_))
 refine SL.val (O.lenE (n := 1) (SlOf.own rfl rfl) (by rfl) Try.underlying25 rfl Taken.no) ?_
 refine SL.an rfl rfl (E.fo (W.seq (W.rg (SL.mv rfl rfl ?_))))
 refine SL.val (O.det (fun _ => G.R.mv (G.R.eql rfl rfl) (congrArg Value.bool (decide_eq_false (by decide)))) rfl Taken.no) ?_
 refine E.fo ?_
 refine W.cond_f rfl ?_
 refine W.skip (E.to (W.rg (SL.mv rfl rfl ?_)))
 refine SL.val (O.lenE (SlOf.own rfl rfl) (by first | exact List.length_map _ | rfl) Try.underlying25 rfl Taken.no) ?_
 refine SL.an rfl rfl (E.fo (W.seq (W.rg (SL.mv rfl rfl (SL.mv rfl rfl ?_)))))
 refine SL.val (O.det (fun _ => G.R.mv (G.R.eql rfl rfl) (congrArg Value.bool (decide_eq_true (by rfl)))) rfl Taken.no) ?_
 refine E.fo ?_
 refine W.cond_t rfl ?_
 refine W.rg (SL.mv rfl rfl (SL.mv rfl rfl ?_))
 refine SL.memS (O.app (k' := 101) rfl rfl (SlOf.own rfl rfl) Try.underlying25 hi43 hz43 hs43 rfl rfl (rfl) (by rw [hb43]; rw [List.length_singleton]; omega) (by rw [List.length_singleton]; omega) rfl Taken.no) rfl rfl (S' := (101, _) :: (0, .dead) :: _) rfl ?_
 refine SL.an rfl rfl (E.fo (W.ret (E.thr ?_)))
 refine E.fin (rs := [_]) (rn [(2, 101)]) (.inl rfl) rfl (.cons (ResOne.tmp rfl) .nil) ?_ ?_ rfl (fixL_spec rfl)
 ·skip
  rfl
 · exact (SubS.cons rfl SubS.nil)

theorem insertC {ks : List Cp} {k : Cp} {row : List UV} (hr : row = eCp k) {i : Nat} (hi : i ≤ ks.length) (hl : ks.length ≤ 1000000) :
    Con Try.prog 47 [.own 0, vI (i : Int), .own 1] [(0, .data 43 8 (ks.map eCp)), (1, .data 43 8 [row])] (.own 2) [(2, .data 43 8 ((ks.take i ++ k :: ks.drop i).map eCp))] := by
  subst hr
  rcases Nat.lt_or_eq_of_le hi with h | h
  · have := insMid_con (rows := ks.map eCp) (row := eCp k) (i := i) (by rw [List.length_map]; exact h) (by rw [List.length_map]; exact hl)
    rw [List.map_append, List.map_cons, List.map_take, List.map_drop]; exact this
  · subst h
    have := insertEndC (rows := ks.map eCp) (row := eCp k) (by rw [List.length_map]; exact hl)
    rw [List.length_map] at this
    rw [List.take_length, List.drop_length, List.map_append]; exact this
theorem dl_row {l : List Cp} {p : Cp → Bool} {j : Nat} (h : j < l.length) : ((dlR l p j).map eCp)[j]? = some (eCp l[j]!) := by
  have e : ((dlR l p j).map eCp)[j]? = some (eCp (dlR l p j)[j]!) := by
    have hl := dl_len (p := p) (Nat.le_of_lt h)
    rw [List.getElem?_map, List.getElem?_eq_getElem (by omega), getElem!_pos _ j (by omega)]; rfl
  rw [e, dl_get h]
theorem clr_rows {l k : List Cp} {z : List UV} (h : k.length ≤ l.length) : ((k ++ l.drop k.length).map eCp).take k.length ++ List.replicate (l.length - k.length) z ++ ((k ++ l.drop k.length).map eCp).drop l.length = k.map eCp ++ List.replicate (l.length - k.length) z := by
  have h1 : ((k ++ l.drop k.length).map eCp).length = l.length := by simp; omega
  rw [List.drop_eq_nil_of_le (show ((k ++ l.drop k.length).map eCp).length ≤ l.length by omega), List.append_nil, ← List.map_take, List.take_left' rfl]

set_option maxRecDepth 8000 in
theorem deleteFuncC {f : Nat} {caps : List UV} {pr : Cp → Bool} {q : List Cp} (hok : G.callOk Try.prog f = true) (hpr : ∀ x, Con Try.prog f ([vA (eCp x)] ++ caps.map .u) [] (vB (pr x)) []) (hql : q.length ≤ 1000000) :
    Con Try.prog 49 [.own 0, .u (.clo (.func f) [] caps)] [(0, .data 43 8 (q.map eCp))] (.own 1) [(1, .data 43 8 ((q.filter fun c => !pr c).map eCp))] := by
 obtain ⟨i43, hi43, hz43, hs43, hb43⟩ := hinf43
 refine Con.enterL (n := 42) Try.func49 rfl rfl rfl (fun τ w ok vs hin => ?_)
 clear hin
 refine W.rg (SL.an rfl rfl (E.fo (W.rg (SL.mv rfl rfl (SL.mv rfl rfl ?_)))))
 refine SL.memS (O.call (rn []) [0] rfl rfl rfl (indexFuncCp (q := q) (f := f) (caps := caps) (pr := pr) hok (fun x _ => hpr x)) (.cons (ArgOk.own rfl rfl) (.cons (ArgOk.same rfl) .nil)) SubS.nil rfl rfl rfl rfl rfl (.inr ⟨rfl, fun x hx => by simp at hx⟩) hcallOk31 (r' := .u _) rfl rfl Taken.no) rfl rfl (S' := _) rfl ?_
 refine SL.an rfl rfl (E.fo (W.seq (W.rg (SL.mv rfl rfl ?_))))
 refine SL.val (O.det (fun _ => G.R.eql rfl rfl) rfl Taken.no) ?_
 refine E.fo ?_
 first | refine W.cond_d rfl (fun hc1 => ?_) (fun hc1 => ?_) | refine W.cond_nd rfl (fun hc1 => ?_) (fun hc1 => ?_) | refine W.cond rfl (fun hc1 => ?_) (fun hc1 => ?_)
 ·skip
  have hno : ¬ 0 ≤ idxF pr q := by omega
  refine W.rg (SL.mv rfl rfl (SL.an rfl rfl (E.fo (W.ret (E.thr ?_)))))
  refine E.fin (rs := [_]) (rn [(1, 0)]) (.inl rfl) rfl (.cons (ResOne.tmp rfl) .nil) ?_ ?_ rfl (fixL_spec rfl)
  ·skip
   rfl
  · exact (SubS.val rfl (by exact sb_data (by rw [filt_none hno])) SubS.nil)
 have hrg := idxF_range pr q
 have hge : 0 ≤ idxF pr q := by omega
 have hlt := idxF_lt hge
 have hfi := idx_first hge
 have hz := dl_0 hlt.1 hfi hlt.2
 generalize hi0 : (idxF pr q).toNat = i0 at hlt hfi hz
 refine W.skip (E.to (W.seq (W.rg (SL.mv rfl rfl ?_))))
 refine SL.val (O.det (fun _ => by first | exact G.R.add64 rfl rfl (by omega) | exact G.R.add rfl rfl) rfl Taken.no) ?_
 refine SL.an rfl rfl (E.fo (W.block ?_))
 refine W.loopx1 (fun (k : Nat) => [(0, .own 101), (5, vI ((keepF q pr k).length : Nat)), (6, vI (k : Int))]) (fun (k : Nat) => [(101, .data 43 8 ((dlR q pr k).map eCp))]) (fun (k : Nat) => k ≤ q.length) (fun (k : Nat) => q.length - k) (i0 + 1) (rn [(101, 0)]) (.cons (t := 1) rfl (.cons (t := 4) rfl .nil)) .nil rfl ?_ ?_ rfl rfl ?_ ?_
 · exact (SubF.cons rfl (SubF.val rfl (by exact iv_int (by omega)) (SubF.val rfl (by exact iv_int (by omega)) SubF.nil)))
 · exact (SubS.val rfl (by exact sb_data (by rw [hz.2])) SubS.nil)
 ·skip
  omega
 intro k hinv
 have hk := hinv
 have hdl := dl_len (p := pr) hk
 have hkl := keep_le q pr k
 refine W.seq (W.rg (SL.mv rfl rfl (SL.mv rfl rfl ?_)))
 refine SL.val (O.lenE (n := q.length) (SlOf.own rfl rfl) (by rw [List.length_map]; exact hdl) Try.underlying25 rfl Taken.no) ?_
 refine SL.val (O.det (fun _ => G.R.lss rfl rfl) rfl Taken.no) ?_
 refine E.fo ?_
 first | refine W.cond_d rfl (fun hc2 => ?_) (fun hc2 => ?_) | refine W.cond_nd rfl (fun hc2 => ?_) (fun hc2 => ?_) | refine W.cond rfl (fun hc2 => ?_) (fun hc2 => ?_)
 ·skip
  refine W.skip (E.to (W.seq (W.block (W.rg (SL.mv rfl rfl (SL.mv rfl rfl ?_))))))
  refine SL.val (O.idx_own (i := k) rfl rfl rfl (rfl) (by rw [List.length_map]; omega) Try.underlying25 hi43 hs43 rfl Taken.no) ?_
  refine SL.val (O.ldU (m := 8) (PtU.el rfl rfl (dl_row (by omega))) rfl Try.underlying43 rfl (by kernel_rfl) rfl Taken.no) ?_
  refine SL.memS (O.alloc (z := .agg #[.int .i64 0, .int .i64 0, .string ByteArray.empty, .int .i64 0, .int .i64 0, .int .i64 0, .int .i64 0, .bool false]) (is := [.u (.sc (.int .i64 0)), .u (.sc (.int .i64 0)), .u (.sc (.string ByteArray.empty)), .u (.sc (.int .i64 0)), .u (.sc (.int .i64 0)), .u (.sc (.int .i64 0)), .u (.sc (.int .i64 0)), .u (.sc (.bool false))]) 102 (by kernel_rfl) rfl rfl rfl Taken.no) rfl rfl (S' := (102, _) :: _) rfl ?_
  refine SL.effS (O.st_ref (m := 8) rfl rfl rfl (js := [_, _, _, _, _, _, _, _]) rfl rfl (by kernel_rfl) (by simp) (Nat.le_of_ble_eq_true rfl) rfl (is' := [_, _, _, _, _, _, _, _]) rfl Taken.no) (S' := (102, _) :: _) rfl ?_
  refine E.fo (W.rg (SL.mv rfl rfl ?_))
  refine SL.val (O.ldN (m := 8) (PtI.ref rfl rfl) (js := [_, _, _, _, _, _, _, _]) rfl (Nat.le_of_ble_eq_true rfl) Try.underlying43 rfl (by kernel_rfl) rfl Taken.no) ?_
  refine SL.val (O.callp rfl rfl rfl (hpr q[k]!) (.cons (ArgOk.aggU (.cons (ArgOk.same rfl) (.cons (ArgOk.same rfl) (.cons (ArgOk.same rfl) (.cons (ArgOk.same rfl) (.cons (ArgOk.same rfl) (.cons (ArgOk.same rfl) (.cons (ArgOk.same rfl) (.cons (ArgOk.same rfl) .nil))))))))) (ArgsOk.caps caps)) hok rfl Taken.no) ?_
  refine SL.val (O.det (fun _ => G.R.not rfl) rfl Taken.no) ?_
  refine E.fo ?_
  first | refine W.cond_d rfl (fun hc3 => ?_) (fun hc3 => ?_) | refine W.cond_nd rfl (fun hc3 => ?_) (fun hc3 => ?_) | refine W.cond rfl (fun hc3 => ?_) (fun hc3 => ?_)
  ·skip
   have hp0 : pr q[k]! = false := by first | assumption | exact nt_f (by assumption) | simp_all
   refine W.rg (SL.mv rfl rfl (SL.mv rfl rfl ?_))
   refine SL.val (O.ldN (m := 8) (PtI.ref rfl rfl) (js := [_, _, _, _, _, _, _, _]) rfl (Nat.le_of_ble_eq_true rfl) Try.underlying43 rfl (by kernel_rfl) rfl Taken.no) ?_
   refine SL.val (O.idx_own (i := (keepF q pr k).length) rfl rfl rfl (rfl) (by rw [List.length_map]; omega) Try.underlying25 hi43 hs43 rfl Taken.no) ?_
   refine SL.effS (O.st_els (m := 8) rfl rfl rfl (us := [_, _, _, _, _, _, _, _]) rfl rfl (by kernel_rfl) (by simp) (row_get (by omega)) (by exact Nat.le_of_ble_eq_true rfl) rfl rfl (rows' := ((dlR q pr k).set (keepF q pr k).length q[k]!).map eCp) (by exact set_map rfl) Taken.no) (S' := (101, _) :: _) rfl ?_
   refine E.fo (W.region (SL.mv rfl rfl ?_))
   refine SL.val (O.det (fun _ => by first | exact G.R.add64 rfl rfl (by omega) | exact G.R.add rfl rfl) rfl Taken.no) ?_
   refine SL.an rfl rfl (SL.nil (E.inn (E.to ?_)))
   refine W.pick (K:=[(0,_),(1,_),(4,_),(5,_),(6,_)]) (Z:=[(101,_),(102,_)]) ⟨rfl,rfl,rfl,rfl,rfl,trivial⟩ ⟨rfl,rfl,trivial⟩ ?_
   refine W.region (SL.mv rfl rfl ?_)
   refine SL.val (O.det (fun _ => by first | exact G.R.add64 rfl rfl (by omega) | exact G.R.add rfl rfl) rfl Taken.no) ?_
   refine SL.an rfl rfl (SL.nil ?_)
   refine E.again ((k + 1)) (rn []) ?_ ?_ rfl (fixL_spec rfl) ?_ ?_
   · exact (SubF.cons rfl (SubF.val rfl (by (try dsimp only); first | exact iv_int (by rw [keep_n (by omega) hp1]) | exact iv_int (by rw [keep_y (by omega) hp0, List.length_append, List.length_singleton]; omega)) (SubF.cons rfl (SubF.cons rfl (SubF.cons rfl SubF.nil)))))
   · exact (SubS.val rfl (by (try dsimp only); first | exact sb_data (by rw [dl_n (by omega) hp1]) | exact sb_data (by rw [dl_y (by omega) hp0])) SubS.nil)
   ·try dsimp only
    omega
   · (try dsimp only); omega
  have hp1 : pr q[k]! = true := by first | assumption | exact nt_t (by assumption) | exact nt_t2 (by assumption) | simp_all
  refine W.skip (E.inn (E.to (W.region (SL.mv rfl rfl ?_))))
  refine SL.val (O.det (fun _ => by first | exact G.R.add64 rfl rfl (by omega) | exact G.R.add rfl rfl) rfl Taken.no) ?_
  refine SL.an rfl rfl (SL.nil ?_)
  refine E.again ((k + 1)) (rn []) ?_ ?_ rfl (fixL_spec rfl) ?_ ?_
  · exact (SubF.cons rfl (SubF.val rfl (by (try dsimp only); first | exact iv_int (by rw [keep_n (by omega) hp1]) | exact iv_int (by rw [keep_y (by omega) hp0, List.length_append, List.length_singleton]; omega)) (SubF.cons rfl (SubF.cons rfl (SubF.cons rfl SubF.nil)))))
  · exact (SubS.val rfl (by (try dsimp only); first | exact sb_data (by rw [dl_n (by omega) hp1]) | exact sb_data (by rw [dl_y (by omega) hp0])) SubS.nil)
  ·try dsimp only
   omega
  · (try dsimp only); omega
 refine W.exit (E.th (E.th (E.hit (E.to (W.rg (SL.mv rfl rfl ?_))))))
 obtain rfl : k = q.length := by omega
 refine SL.mv rfl rfl ?_
 refine SL.val (O.sub_own (i := (keepF q pr q.length).length) rfl rfl (Bnd.at rfl (by first | rfl | omega)) Bnd.no (by rw [List.length_map]; omega) (by exact Nat.le_refl _) Try.underlying25 hi43 hs43 rfl Taken.no) ?_
 refine SL.effS (O.clear (PartOf.osl rfl (by rw [List.length_map]; omega) (by exact Nat.le_refl _)) rfl Try.underlying25 hi43 hz43 rfl rfl rfl (rows' := (keepF q pr q.length).map eCp ++ List.replicate (q.length - (keepF q pr q.length).length) [uI 0, uI 0, uT [], uI 0, uI 0, uI 0, uI 0, uB false]) (by rw [List.length_map, hdl]; exact clr_rows hkl) Taken.no) (S' := (101, _) :: _) rfl ?_
 refine E.fo (W.rg (SL.mv rfl rfl (SL.mv rfl rfl ?_)))
 refine SL.val (O.sub_own (j := (keepF q pr q.length).length) rfl rfl Bnd.no (Bnd.at rfl (by first | rfl | omega)) (by omega) (by simp <;> omega) Try.underlying25 hi43 hs43 rfl Taken.no) ?_
 refine SL.trunc 41 103 rfl rfl (rows' := (keepF q pr q.length).map eCp) (by rw [List.take_left' (by rw [List.length_map])]) rfl rfl ?_
 refine SL.an rfl rfl (E.fo (W.ret ?_))
 refine E.fin (rs := [_]) (rn [(1, 103)]) (.inl rfl) rfl (.cons (ResOne.tmp rfl) .nil) ?_ ?_ rfl (fixL_spec rfl)
 ·skip
  rfl
 · exact (SubS.val rfl (by exact sb_data (by rw [keep_all])) SubS.nil)

set_option maxRecDepth 8000 in
theorem remove1_h {c : Cp} {x : Sp} :
    Con Try.prog 50 [vA (eCp c), .u (.ptr (eSp x))] [] (vB (decide (c.id = x.copy))) [] := by
 refine Con.enterL (n := 9) Try.func50 rfl rfl rfl (fun τ w ok vs hin => ?_)
 clear hin
 refine W.rg ?_
 refine SL.memS (O.box (is := [_, _, _, _, _, _, _, _]) 101 rfl rfl (by simp) rfl rfl Taken.no) rfl rfl (S' := (101, _) :: _) rfl ?_
 refine SL.an rfl rfl (E.fo (W.rg ?_))
 refine SL.val (O.fld_ref (o' := 0) rfl Try.underlying43 rfl (m := 0) (by kernel_rfl) rfl rfl Taken.no) ?_
 refine SL.val (O.ld1 (PtI.ref rfl rfl) rfl Try.underlying3 rfl rfl Taken.no) ?_
 refine SL.val (O.fld_fz rfl Try.underlying34 rfl (m := 0) (by kernel_rfl) rfl rfl Taken.no) ?_
 refine SL.val (O.ld1 (PtI.ofU (PtU.fz rfl)) rfl Try.underlying3 rfl rfl Taken.no) ?_
 refine SL.val (O.det (fun _ => G.R.eql rfl rfl) rfl Taken.no) ?_
 refine SL.an rfl rfl (E.fo (W.ret ?_))
 refine E.fin (rs := [_]) (rn []) (.inl rfl) rfl (.cons (ResOne.tmp rfl) .nil) ?_ ?_ rfl (fixL_spec rfl)
 ·skip
  rfl
 · exact SubS.nil

end Go.Proofs.Ytmekkjehkcjpdaa
end
section
namespace Go.H
open Go Go.RowKit
section
variable {P : Program} {w : World}
theorem run_partI {t : TypeId} {k : IntKind} {xs : Array Value} {i : Nat} {x : Value} (ht : P.underlying t = some (.int k)) (hx : xs[i]? = some x) : (part t xs i).run P w = .ok x w := by
  simp [part, isAgg, run_underlying ht, hx]
theorem run_eqArr3 {t e : TypeId} {k : IntKind} {inf : TypeInfo} {d : Nat} {a0 a1 a2 b0 b1 b2 : Int} (ht : P.underlying t = some (.array 3 e)) (he : P.underlying e = some (.int k)) (hi : P.info? e = some inf) (hs : inf.size = 1) :
    (Op.equalIn (d + 2) t (.agg #[.int k a0, .int k a1, .int k a2]) (.agg #[.int k b0, .int k b1, .int k b2])).run P w = .ok (a0 == b0 && (a1 == b1 && a2 == b2)) w := by
  have q : ∀ (x y : Int) (w : World), (Op.equalIn (d + 1) e (.int k x) (.int k y)).run P w = .ok (x == y) w := fun x y w => run_equalIn_int w d e _ _ x y he
  have pa : ∀ (i : Nat) (x : Value) (xs : Array Value) (w : World), xs[i]? = some x → (part e xs i).run P w = .ok x w := fun i x xs w hx => run_partI he hx
  rw [Op.equalIn]
  simp only [Sem.run_bind, run_underlying ht, Result.andThen_ok, sizeOf, typeInfo]
  simp [hi, hs, Std.Legacy.Range.forIn_eq_forIn_range', List.range', pa, q]
  cases h0 : (a0 == b0) <;> cases h1 : (a1 == b1) <;> cases h2 : (a2 == b2) <;> simp_all
theorem R.eqArr3 {F : G.Frm} {tx e t' ty : TypeId} {k : IntKind} {inf : TypeInfo} {x y : Operand} {a0 a1 a2 b0 b1 b2 : Int} (hx : G.ev F x = some (.agg #[.int k a0, .int k a1, .int k a2])) (hy : G.ev F y = some (.agg #[.int k b0, .int k b1, .int k b2]))
    (ht : P.underlying tx = some (.array 3 e)) (he : P.underlying e = some (.int k)) (hi : P.info? e = some inf) (hs : inf.size = 1) (hm : P.eqGuardType P.depth tx = false) :
    G.Runs P w F (.binOp .eql tx x y t') ty (.bool (a0 == b0 && (a1 == b1 && a2 == b2))) := fun o ρ ho _ hρ => by
  simp only [execOp, ho, hρ x (by simp [Op.operands]) _ hx, hρ y (by simp [Op.operands]) _ hy]
  have h1 := run_eqGuard_agg (P := P) w .eql tx x y #[.int k a0, .int k a1, .int k a2] #[.int k b0, .int k b1, .int k b2] hm
  have h2 : (Op.equal tx (.agg #[.int k a0, .int k a1, .int k a2]) (.agg #[.int k b0, .int k b1, .int k b2])).run P w = .ok (a0 == b0 && (a1 == b1 && a2 == b2)) w := run_eqArr3 (d := 9998) ht he hi hs
  simp only [Sem.run_bind, h1, binOp, h2, Result.andThen_ok, Sem.run_pure]
end
section
variable {c : Ctx} {P : Program} {F : Frm} {S : Sto} {ops : Array Oper} {d : Nat} {ty : TypeId} {pos : String} {af : Array Edge} {gd : Option (Nat × Bool)}
theorem O.eqArr3 {x y : Operand} {tx e t' : TypeId} {k : IntKind} {inf : TypeInfo} {a0 a1 a2 b0 b1 b2 : Int} {r : Bool} (hx : AggOf F x [.int k a0, .int k a1, .int k a2]) (hy : AggOf F y [.int k b0, .int k b1, .int k b2])
    (ht : P.underlying tx = some (.array 3 e)) (he : P.underlying e = some (.int k)) (hi : P.info? e = some inf) (hs : inf.size = 1) (hm : P.eqGuardType P.depth tx = false) (hr : (a0 == b0 && (a1 == b1 && a2 == b2)) = r) (hd : Nat.blt d c.n = true) (hg : Taken ops F gd) :
    OpOk c P ops ⟨some d, .binOp .eql tx x y t', ty, pos, af, gd⟩ F S [] [] (some (.u (.sc (.bool r)))) [] :=
  OpOk.runs hd hg fun σ τ a w hA hB hst => by
    subst hr
    exact ⟨_, R.eqArr3 (hx.val hst hA (by simp [Op.operands])) (hy.val hst hA (by simp [Op.operands])) ht he hi hs hm, .u (.sc _)⟩
end
end Go.H
end
section
namespace Go.Proofs.Ytmekkjehkcjpdaa
open Go Go.RowKit Go.H Go.D57 Go.D58

theorem hcallOk44 : G.callOk Try.prog 44 = true := by kernel_rfl
theorem hcallOk48 : G.callOk Try.prog 48 = true := by kernel_rfl
theorem hcallOk49 : G.callOk Try.prog 49 = true := by kernel_rfl
theorem hcallOk50 : G.callOk Try.prog 50 = true := by kernel_rfl
theorem hcallOk51 : G.callOk Try.prog 51 = true := by kernel_rfl
theorem hcallOk52 : G.callOk Try.prog 52 = true := by kernel_rfl

theorem flat_C (l : List Cp) {t : TypeId} : (SB.data t 8 (l.map eCp)).flatP := fun u hu => by
  obtain ⟨r, hr, hu⟩ := List.mem_flatten.1 hu
  obtain ⟨x, _, rfl⟩ := List.mem_map.1 hr
  simp [eCp] at hu
  rcases hu with rfl | rfl | rfl | rfl | rfl | rfl | rfl | rfl <;> rfl

set_option maxRecDepth 8000 in
theorem remove_m {s : St} {x : Sp} (hv : validS s) :
    Con Try.prog 20 [.ref 0 0, vA (eSp x)] [(0, .cells 28 [.u (uI s.now), .own 1, .own 2]), (1, .data 43 8 ((s.cps).map eCp)), (2, .data 51 2 ((s.lns).map eLn))] (vI (remE s x)) [(0, .cells 28 [.u (uI (remS s x).now), .own 4, .own 3]), (4, .data 43 8 (((remS s x).cps).map eCp)), (3, .data 51 2 (((remS s x).lns).map eLn))] := by
 have hn := hv.1
 unfold inB at hn
 have hcl := hv.2.1
 have hok := valid_ok hv
 have hid := valid_asc hv
 refine Con.enterL (n := 28) Try.func20 rfl rfl rfl (fun τ w ok vs hin => ?_)
 clear hin
 refine W.rg ?_
 refine SL.memS (O.box (is := [_, _, _, _, _, _, _, _]) 101 rfl rfl (by simp) rfl rfl Taken.no) rfl rfl (S' := (101, _) :: _) rfl ?_
 refine SL.an rfl rfl (E.fo (W.seq ?_))
 by_cases hx : 0 ≤ cpI s x.copy
 ·skip
  have hix : ixC s x.copy < s.cps.length := (idxF_lt hx).1
  refine W.region (SL.mv rfl rfl ?_)
  refine SL.val (O.fld_ref (o' := 1) rfl Try.underlying34 rfl (m := 0) (by kernel_rfl) rfl rfl Taken.no) ?_
  refine SL.val (O.ld1 (PtI.ref rfl rfl) rfl Try.underlying3 rfl rfl Taken.no) ?_
  refine SL.memS (O.call (rn [(0, 0), (1, 1), (2, 2)]) [] rfl rfl rfl (copy_y (by omega) hx) (.cons (ArgOk.same rfl) (.cons (ArgOk.same rfl) .nil)) (SubS.cons rfl (SubS.cons rfl (SubS.cons rfl SubS.nil))) rfl rfl rfl rfl rfl (.inl rfl) hcallOk44 (r' := .el 1 _ _ 0) rfl rfl Taken.no) rfl rfl (S' := (0, .cells _ [.u _, .own 1, .own 2]) :: (1, .data _ _ _) :: (2, .data _ _ _) :: _) rfl ?_
  refine SL.an rfl rfl (E.fo (W.seq (W.block (W.rg (SL.mv rfl rfl ?_)))))
  refine SL.val (O.ptrnil (.inr (.inr ⟨_, _, _, _, rfl⟩)) rfl (by kernel_rfl) rfl Taken.no) ?_
  refine SL.an rfl rfl (E.fo ?_)
  refine W.cond_f rfl ?_
  refine W.rg (SL.mv rfl rfl ?_)
  refine SL.val (O.nilCheck rfl rfl rfl Taken.no) ?_
  refine SL.val (O.fld_el (o' := 3) rfl Try.underlying43 rfl (m := 0) (by kernel_rfl) rfl rfl Taken.no) ?_
  refine SL.val (O.ld1 (PtI.ofU (PtU.el rfl rfl (row_get (by omega)))) rfl Try.underlying3 rfl rfl Taken.no) ?_
  refine SL.val (O.det (fun _ => G.R.neq rfl rfl) rfl Taken.no) ?_
  refine SL.an rfl rfl (E.fo ?_)
  first | refine W.cond_d rfl (fun hc1 => ?_) (fun hc1 => ?_) | refine W.cond_nd rfl (fun hc1 => ?_) (fun hc1 => ?_) | refine W.cond rfl (fun hc1 => ?_) (fun hc1 => ?_)
  ·skip
   have hp : (atC s x.copy).place ≠ 1 := by show s.cps[ixC s x.copy]!.place ≠ 1; first | assumption | omega
   refine W.rg (SL.an rfl rfl (E.fo (W.ret ?_)))
   refine E.inr ?_
   refine E.thr ?_
   refine E.fin (rs := [_]) (rn [(3, 2), (4, 1)]) (.inl rfl) rfl (.cons (ResOne.tmp rfl) .nil) ?_ ?_ rfl (fixL_spec rfl)
   ·skip
    rw [(rem_e26 (s := s) (x := x) (fun z => z hx) hp).1]; rfl
   · exact (SubS.val rfl (by rw [(rem_e26 (s := s) (x := x) (fun z => z hx) hp).2] <;> rfl) (SubS.val rfl (by exact sb_data (by rw [(rem_e26 (s := s) (x := x) (fun z => z hx) hp).2] <;> rfl)) (SubS.val rfl (by exact sb_data (by rw [(rem_e26 (s := s) (x := x) (fun z => z hx) hp).2] <;> rfl)) SubS.nil)))
  have hp : (atC s x.copy).place = 1 := by show s.cps[ixC s x.copy]!.place = 1; first | assumption | omega
  refine W.skip (E.inn (E.to (W.rg (SL.mv rfl rfl (SL.mv rfl rfl ?_)))))
  refine SL.val (O.nilCheck rfl rfl rfl Taken.no) ?_
  refine SL.val (O.fld_ref (o' := 1) rfl Try.underlying28 rfl (m := 0) (by kernel_rfl) rfl rfl Taken.no) ?_
  refine SL.val (O.ld1 (PtI.ref rfl rfl) rfl Try.underlying25 rfl rfl Taken.no) ?_
  refine SL.val (O.makeFunc rfl rfl rfl Taken.no) ?_
  refine SL.memS (O.call (rn [(0, 1), (1, 102)]) [101] rfl rfl rfl (deleteFuncC (q := s.cps) (f := 50) (caps := [.ptr (eSp x)]) (pr := fun c => decide (c.id = x.copy)) hcallOk50 (fun c => remove1_h) (by omega)) (.cons (ArgOk.same rfl) (.cons (ArgOk.cloU .nil (.cons (ArgOk.ref rfl rfl rfl) .nil)) .nil)) (SubS.cons rfl SubS.nil) rfl rfl rfl rfl rfl (.inr ⟨rfl, fun x hx => by rw [List.mem_singleton] at hx; subst hx; exact flat_C _⟩) hcallOk49 (r' := .own 102) rfl rfl Taken.no) rfl rfl (S' := (102, .data _ _ _) :: (1, .dead) :: _) rfl ?_
  refine SL.val (O.nilCheck rfl rfl rfl Taken.no) ?_
  refine SL.val (O.fld_ref (o' := 1) rfl Try.underlying28 rfl (m := 0) (by kernel_rfl) rfl rfl Taken.no) ?_
  refine SL.effS (O.st_ref (m := 1) rfl rfl rfl (js := [_]) rfl rfl (by kernel_rfl) (by simp) (Nat.le_of_ble_eq_true rfl) rfl (is' := [_, _, _]) rfl Taken.no) (S' := (0, _) :: _) rfl ?_
  refine E.fo ?_
  refine W.pick (K:=[(4,_)]) (Z:=[(0,_),(2,_),(101,_),(102,_)]) ⟨rfl,trivial⟩ ⟨rfl,rfl,rfl,rfl,trivial⟩ ?_
  refine W.rg (SL.an rfl rfl (E.fo (W.ret ?_)))
  refine E.fin (rs := [_]) (rn [(3, 2), (4, 102)]) (.inl rfl) rfl (.cons (ResOne.tmp rfl) .nil) ?_ ?_ rfl (fixL_spec rfl)
  ·skip
   rw [(rem_e0 (s := s) (x := x) (fun z => z hx) (fun z => z hp)).1]; rfl
  · exact (SubS.val rfl (by rw [(rem_e0 (s := s) (x := x) (fun z => z hx) (fun z => z hp)).2] <;> rfl) (SubS.val rfl (by exact sb_data (by rw [(rem_e0 (s := s) (x := x) (fun z => z hx) (fun z => z hp)).2] <;> rfl)) (SubS.val rfl (by exact sb_data (by rw [(rem_e0 (s := s) (x := x) (fun z => z hx) (fun z => z hp)).2] <;> rfl)) SubS.nil)))
 refine W.region (SL.mv rfl rfl ?_)
 refine SL.val (O.fld_ref (o' := 1) rfl Try.underlying34 rfl (m := 0) (by kernel_rfl) rfl rfl Taken.no) ?_
 refine SL.val (O.ld1 (PtI.ref rfl rfl) rfl Try.underlying3 rfl rfl Taken.no) ?_
 refine SL.memS (O.call (rn [(0, 0), (1, 1), (2, 2)]) [] rfl rfl rfl (copy_n (by omega) hx) (.cons (ArgOk.same rfl) (.cons (ArgOk.same rfl) .nil)) (SubS.cons rfl (SubS.cons rfl (SubS.cons rfl SubS.nil))) rfl rfl rfl rfl rfl (.inl rfl) hcallOk44 (r' := .u _) rfl rfl Taken.no) rfl rfl (S' := (0, .cells _ [.u _, .own 1, .own 2]) :: (1, .data _ _ _) :: (2, .data _ _ _) :: _) rfl ?_
 refine SL.an rfl rfl (E.fo (W.seq (W.block (W.rg (SL.mv rfl rfl ?_)))))
 refine SL.val (O.det (fun _ => G.R.ptrnil (p := none) rfl rfl (by kernel_rfl)) rfl Taken.no) ?_
 refine SL.an rfl rfl (E.fo ?_)
 refine W.cond_t rfl ?_
 refine W.rg (SL.an rfl rfl (E.fo (W.ret ?_)))
 refine E.inr ?_
 refine E.thr ?_
 refine E.fin (rs := [_]) (rn [(3, 2), (4, 1)]) (.inl rfl) rfl (.cons (ResOne.tmp rfl) .nil) ?_ ?_ rfl (fixL_spec rfl)
 ·skip
  rw [(rem_e9 (s := s) (x := x) hx).1]; rfl
 · exact (SubS.val rfl (by rw [(rem_e9 (s := s) (x := x) hx).2] <;> rfl) (SubS.val rfl (by exact sb_data (by rw [(rem_e9 (s := s) (x := x) hx).2] <;> rfl)) (SubS.val rfl (by exact sb_data (by rw [(rem_e9 (s := s) (x := x) hx).2] <;> rfl)) SubS.nil)))

set_option maxRecDepth 8000 in
theorem giveBack_m {s : St} {x : Sp} (hv : validS s) :
    Con Try.prog 22 [.ref 0 0, vA (eSp x)] [(0, .cells 28 [.u (uI s.now), .own 1, .own 2]), (1, .data 43 8 ((s.cps).map eCp)), (2, .data 51 2 ((s.lns).map eLn))] (vI (bakE s x)) [(0, .cells 28 [.u (uI (bakS s x).now), .own 4, .own 3]), (4, .data 43 8 (((bakS s x).cps).map eCp)), (3, .data 51 2 (((bakS s x).lns).map eLn))] := by
 have hn := hv.1
 unfold inB at hn
 have hcl := hv.2.1
 have hok := valid_ok hv
 have hid := valid_asc hv
 refine Con.enterL (n := 22) Try.func22 rfl rfl rfl (fun τ w ok vs hin => ?_)
 clear hin
 refine W.rg ?_
 refine SL.memS (O.box (is := [_, _, _, _, _, _, _, _]) 101 rfl rfl (by simp) rfl rfl Taken.no) rfl rfl (S' := (101, _) :: _) rfl ?_
 refine SL.an rfl rfl (E.fo (W.seq ?_))
 by_cases hx : 0 ≤ cpI s x.copy
 ·skip
  have hix : ixC s x.copy < s.cps.length := (idxF_lt hx).1
  refine W.region (SL.mv rfl rfl ?_)
  refine SL.val (O.fld_ref (o' := 1) rfl Try.underlying34 rfl (m := 0) (by kernel_rfl) rfl rfl Taken.no) ?_
  refine SL.val (O.ld1 (PtI.ref rfl rfl) rfl Try.underlying3 rfl rfl Taken.no) ?_
  refine SL.memS (O.call (rn [(0, 0), (1, 1), (2, 2)]) [] rfl rfl rfl (copy_y (by omega) hx) (.cons (ArgOk.same rfl) (.cons (ArgOk.same rfl) .nil)) (SubS.cons rfl (SubS.cons rfl (SubS.cons rfl SubS.nil))) rfl rfl rfl rfl rfl (.inl rfl) hcallOk44 (r' := .el 1 _ _ 0) rfl rfl Taken.no) rfl rfl (S' := (0, .cells _ [.u _, .own 1, .own 2]) :: (1, .data _ _ _) :: (2, .data _ _ _) :: _) rfl ?_
  refine SL.an rfl rfl (E.fo (W.seq (W.block (W.rg (SL.mv rfl rfl ?_)))))
  refine SL.val (O.ptrnil (.inr (.inr ⟨_, _, _, _, rfl⟩)) rfl (by kernel_rfl) rfl Taken.no) ?_
  refine SL.an rfl rfl (E.fo ?_)
  refine W.cond_f rfl ?_
  refine W.rg (SL.mv rfl rfl ?_)
  refine SL.val (O.nilCheck rfl rfl rfl Taken.no) ?_
  refine SL.val (O.fld_el (o' := 3) rfl Try.underlying43 rfl (m := 0) (by kernel_rfl) rfl rfl Taken.no) ?_
  refine SL.val (O.ld1 (PtI.ofU (PtU.el rfl rfl (row_get (by omega)))) rfl Try.underlying3 rfl rfl Taken.no) ?_
  refine SL.val (O.det (fun _ => G.R.neq rfl rfl) rfl Taken.no) ?_
  refine SL.an rfl rfl (E.fo ?_)
  first | refine W.cond_d rfl (fun hc1 => ?_) (fun hc1 => ?_) | refine W.cond_nd rfl (fun hc1 => ?_) (fun hc1 => ?_) | refine W.cond rfl (fun hc1 => ?_) (fun hc1 => ?_)
  ·skip
   have hp : (atC s x.copy).place ≠ 2 := by show s.cps[ixC s x.copy]!.place ≠ 2; first | assumption | omega
   refine W.rg (SL.an rfl rfl (E.fo (W.ret ?_)))
   refine E.inr ?_
   refine E.thr ?_
   refine E.fin (rs := [_]) (rn [(3, 2), (4, 1)]) (.inl rfl) rfl (.cons (ResOne.tmp rfl) .nil) ?_ ?_ rfl (fixL_spec rfl)
   ·skip
    rw [(bak_e11 (s := s) (x := x) (fun z => z hx) hp).1]; rfl
   · exact (SubS.val rfl (by rw [(bak_e11 (s := s) (x := x) (fun z => z hx) hp).2] <;> rfl) (SubS.val rfl (by exact sb_data (by rw [(bak_e11 (s := s) (x := x) (fun z => z hx) hp).2] <;> rfl)) (SubS.val rfl (by exact sb_data (by rw [(bak_e11 (s := s) (x := x) (fun z => z hx) hp).2] <;> rfl)) SubS.nil)))
  have hp : (atC s x.copy).place = 2 := by show s.cps[ixC s x.copy]!.place = 2; first | assumption | omega
  refine W.skip (E.inn (E.to (W.rg (SL.mv rfl rfl (SL.mv rfl rfl ?_)))))
  refine SL.memS (O.call (rn [(0, 0), (1, 1), (2, 2), (3, 102)]) [] rfl rfl rfl (free_h (s := s) (i := ixC s x.copy) (n := 60) hix (by omega) hok (by omega)) (.cons (ArgOk.same rfl) (.cons (ArgOk.same rfl) .nil)) (SubS.cons rfl (SubS.cons rfl (SubS.cons rfl SubS.nil))) rfl rfl rfl rfl rfl (.inl rfl) hcallOk48 (r' := .tup []) rfl rfl Taken.no) rfl rfl (S' := (0, .cells _ [.u _, .own 1, .own 102]) :: (1, .data _ _ _) :: (102, .data _ _ _) :: (2, .dead) :: _) rfl ?_
  refine E.fo (W.rg (SL.an rfl rfl (E.fo (W.ret ?_))))
  refine E.fin (rs := [_]) (rn [(3, 102), (4, 1)]) (.inl rfl) rfl (.cons (ResOne.tmp rfl) .nil) ?_ ?_ rfl (fixL_spec rfl)
  ·skip
   rw [(bak_e0 (s := s) (x := x) (fun z => z hx) (fun z => z hp)).1]; rfl
  · exact (SubS.val rfl (by rw [(bak_e0 (s := s) (x := x) (fun z => z hx) (fun z => z hp)).2] <;> rfl) (SubS.val rfl (by exact sb_data (by rw [(bak_e0 (s := s) (x := x) (fun z => z hx) (fun z => z hp)).2] <;> rfl)) (SubS.val rfl (by exact sb_data (by rw [(bak_e0 (s := s) (x := x) (fun z => z hx) (fun z => z hp)).2] <;> rfl)) SubS.nil)))
 refine W.region (SL.mv rfl rfl ?_)
 refine SL.val (O.fld_ref (o' := 1) rfl Try.underlying34 rfl (m := 0) (by kernel_rfl) rfl rfl Taken.no) ?_
 refine SL.val (O.ld1 (PtI.ref rfl rfl) rfl Try.underlying3 rfl rfl Taken.no) ?_
 refine SL.memS (O.call (rn [(0, 0), (1, 1), (2, 2)]) [] rfl rfl rfl (copy_n (by omega) hx) (.cons (ArgOk.same rfl) (.cons (ArgOk.same rfl) .nil)) (SubS.cons rfl (SubS.cons rfl (SubS.cons rfl SubS.nil))) rfl rfl rfl rfl rfl (.inl rfl) hcallOk44 (r' := .u _) rfl rfl Taken.no) rfl rfl (S' := (0, .cells _ [.u _, .own 1, .own 2]) :: (1, .data _ _ _) :: (2, .data _ _ _) :: _) rfl ?_
 refine SL.an rfl rfl (E.fo (W.seq (W.block (W.rg (SL.mv rfl rfl ?_)))))
 refine SL.val (O.det (fun _ => G.R.ptrnil (p := none) rfl rfl (by kernel_rfl)) rfl Taken.no) ?_
 refine SL.an rfl rfl (E.fo ?_)
 refine W.cond_t rfl ?_
 refine W.rg (SL.an rfl rfl (E.fo (W.ret ?_)))
 refine E.inr ?_
 refine E.thr ?_
 refine E.fin (rs := [_]) (rn [(3, 2), (4, 1)]) (.inl rfl) rfl (.cons (ResOne.tmp rfl) .nil) ?_ ?_ rfl (fixL_spec rfl)
 ·skip
  rw [(bak_e9 (s := s) (x := x) hx).1]; rfl
 · exact (SubS.val rfl (by rw [(bak_e9 (s := s) (x := x) hx).2] <;> rfl) (SubS.val rfl (by exact sb_data (by rw [(bak_e9 (s := s) (x := x) hx).2] <;> rfl)) (SubS.val rfl (by exact sb_data (by rw [(bak_e9 (s := s) (x := x) hx).2] <;> rfl)) SubS.nil)))

set_option maxRecDepth 8000 in
theorem loansO_h {s : St} {i : Int} (hl : s.cps.length ≤ 1000000) :
    Con Try.prog 52 [vA [uI s.now, .sl 8 (s.cps.map eCp), .sl 2 (s.lns.map eLn)], vI i] [] (.own 0) [(0, .data 3 1 ((idsF (fun c => decide (c.place = 2 ∧ c.pat = i)) s.cps).map eI))] := by
 refine Con.enterL (n := 8) Try.func52 rfl rfl rfl (fun τ w ok vs hin => ?_)
 have hl0_1 := hin.lenA (i := 0) (j := 1) rfl rfl
 try rw [List.length_map] at hl0_1
 have hl0_2 := hin.lenA (i := 0) (j := 2) rfl rfl
 try rw [List.length_map] at hl0_2
 clear hin
 refine W.rg ?_
 refine SL.memS (O.box (is := [_, _, _]) 101 rfl rfl (by simp) rfl rfl Taken.no) rfl rfl (S' := (101, _) :: _) rfl ?_
 refine SL.memS (O.box (is := [_]) 102 rfl rfl (by simp) rfl rfl Taken.no) rfl rfl (S' := (102, _) :: _) rfl ?_
 refine SL.an rfl rfl (E.fo (W.rg ?_))
 refine SL.val (O.ldN (m := 3) (PtI.ref rfl rfl) (js := [_, _, _]) rfl (Nat.le_of_ble_eq_true rfl) Try.underlying28 rfl (by kernel_rfl) rfl Taken.no) ?_
 refine SL.val (O.makeFunc rfl rfl rfl Taken.no) ?_
 refine SL.memS (O.call (rn [(0, 103)]) [102] rfl rfl rfl (which_h (s := s) (f := 78) (caps := [.ptr [uI i]]) (pr := fun c => decide (c.place = 2 ∧ c.pat = i)) hcallOk78 (fun x => loans1_h) hl) (.cons (ArgOk.aggU (.cons (ArgOk.same rfl) (.cons (ArgOk.same rfl) (.cons (ArgOk.same rfl) .nil)))) (.cons (ArgOk.cloU .nil (.cons (ArgOk.ref rfl rfl rfl) .nil)) .nil)) SubS.nil rfl rfl rfl rfl rfl (.inr ⟨rfl, fun x hx => by rw [List.mem_singleton] at hx; subst hx; exact flat_I _⟩) hcallOk77 (r' := .own 103) rfl rfl Taken.no) rfl rfl (S' := (103, .data _ _ _) :: _) rfl ?_
 refine SL.an rfl rfl (E.fo (W.ret ?_))
 refine E.fin (rs := [_]) (rn [(0, 103)]) (.inl rfl) rfl (.cons (ResOne.tmp rfl) .nil) ?_ ?_ rfl (fixL_spec rfl)
 ·skip
  rfl
 · exact (SubS.cons rfl SubS.nil)

theorem lt_fin {cs : List Cp} {i : Nat} {p now : Int} {a b c d : List UV} : (((((cs.map eCp).set i a).set i b).set i c).set i d).set i [uI cs[i]!.id, uI cs[i]!.work, uT cs[i]!.lib, uI 2, uI p, uI (now + 28), uI 0, uB false] = (cs.set i (lentC cs[i]! p now)).map eCp := by
  rw [List.set_set, List.set_set, List.set_set, List.set_set, List.map_set]; rfl
theorem rn_fin {cs : List Cp} {i : Nat} {now : Int} : (cs.map eCp).set i [uI cs[i]!.id, uI cs[i]!.work, uT cs[i]!.lib, uI cs[i]!.place, uI cs[i]!.pat, uI (now + 28), uI cs[i]!.hold, uB cs[i]!.rc] = (cs.set i (rnwC cs[i]! now)).map eCp := by
  rw [List.map_set]; rfl

set_option maxRecDepth 8000 in
theorem lend_m {s : St} {x : Sp} (hv : validS s) :
    Con Try.prog 21 [.ref 0 0, vA (eSp x)] [(0, .cells 28 [.u (uI s.now), .own 1, .own 2]), (1, .data 43 8 ((s.cps).map eCp)), (2, .data 51 2 ((s.lns).map eLn))] (vI (lenE s x)) [(0, .cells 28 [.u (uI (lenS s x).now), .own 4, .own 3]), (4, .data 43 8 (((lenS s x).cps).map eCp)), (3, .data 51 2 (((lenS s x).lns).map eLn))] := by
 have hn := hv.1
 unfold inB at hn
 have hcl := hv.2.1
 have hok := valid_ok hv
 have hid := valid_asc hv
 refine Con.enterL (n := 94) Try.func21 rfl rfl rfl (fun τ w ok vs hin => ?_)
 clear hin
 refine W.rg ?_
 refine SL.memS (O.box (is := [_, _, _, _, _, _, _, _]) 101 rfl rfl (by simp) rfl rfl Taken.no) rfl rfl (S' := (101, _) :: _) rfl ?_
 refine SL.an rfl rfl (E.fo (W.seq ?_))
 by_cases hx : 0 ≤ cpI s x.copy
 ·skip
  have hix : ixC s x.copy < s.cps.length := (idxF_lt hx).1
  refine W.region (SL.mv rfl rfl ?_)
  refine SL.val (O.fld_ref (o' := 1) rfl Try.underlying34 rfl (m := 0) (by kernel_rfl) rfl rfl Taken.no) ?_
  refine SL.val (O.ld1 (PtI.ref rfl rfl) rfl Try.underlying3 rfl rfl Taken.no) ?_
  refine SL.memS (O.call (rn [(0, 0), (1, 1), (2, 2)]) [] rfl rfl rfl (copy_y (by omega) hx) (.cons (ArgOk.same rfl) (.cons (ArgOk.same rfl) .nil)) (SubS.cons rfl (SubS.cons rfl (SubS.cons rfl SubS.nil))) rfl rfl rfl rfl rfl (.inl rfl) hcallOk44 (r' := .el 1 _ _ 0) rfl rfl Taken.no) rfl rfl (S' := (0, .cells _ [.u _, .own 1, .own 2]) :: (1, .data _ _ _) :: (2, .data _ _ _) :: _) rfl ?_
  refine SL.an rfl rfl (E.fo (W.seq (W.block (W.rg ?_))))
  refine SL.val (O.fld_ref (o' := 3) rfl Try.underlying34 rfl (m := 0) (by kernel_rfl) rfl rfl Taken.no) ?_
  refine SL.val (O.ld1 (PtI.ref rfl rfl) rfl Try.underlying3 rfl rfl Taken.no) ?_
  refine SL.val (O.callp rfl rfl rfl (id_h) (.cons (ArgOk.same rfl) .nil) hcallOk42 rfl Taken.no) ?_
  refine SL.val (O.det (fun _ => G.R.not rfl) rfl Taken.no) ?_
  refine SL.an rfl rfl (E.fo ?_)
  first | refine W.cond_d rfl (fun hc1 => ?_) (fun hc1 => ?_) | refine W.cond_nd rfl (fun hc1 => ?_) (fun hc1 => ?_) | refine W.cond rfl (fun hc1 => ?_) (fun hc1 => ?_)
  ·skip
   have hb : ¬ idB x.pat := by first | assumption | simp_all
   refine W.rg (SL.an rfl rfl (E.fo (W.ret ?_)))
   refine E.inr ?_
   refine E.thr ?_
   refine E.fin (rs := [_]) (rn [(3, 2), (4, 1)]) (.inl rfl) rfl (.cons (ResOne.tmp rfl) .nil) ?_ ?_ rfl (fixL_spec rfl)
   ·skip
    rw [(len_e2 (s := s) (x := x)  hb).1]; rfl
   · exact (SubS.val rfl (by rw [(len_e2 (s := s) (x := x)  hb).2] <;> rfl) (SubS.val rfl (by exact sb_data (by rw [(len_e2 (s := s) (x := x)  hb).2] <;> rfl)) (SubS.val rfl (by exact sb_data (by rw [(len_e2 (s := s) (x := x)  hb).2] <;> rfl)) SubS.nil)))
  have hb : ¬ (¬ idB x.pat) := by first | assumption | simp_all
  refine W.rg (SL.mv rfl rfl ?_)
  refine SL.val (O.ptrnil (.inr (.inr ⟨_, _, _, _, rfl⟩)) rfl (by kernel_rfl) rfl Taken.no) ?_
  refine SL.an rfl rfl (E.fo ?_)
  refine W.cond_f rfl ?_
  refine W.seq ?_
  refine W.draw [⟨[], [], [], [1]⟩, ⟨[], [], [], [1]⟩, ⟨[], [], [], [1]⟩, ⟨[1], [], [], []⟩, ⟨[], [], [], []⟩, ⟨[], [], [], []⟩, ⟨[], [], [], [1]⟩, ⟨[], [], [], [1]⟩, ⟨[], [], [], [1]⟩, ⟨[1], [], [], []⟩, ⟨[], [], [], []⟩, ⟨[], [], [], []⟩, ⟨[], [], [], [1]⟩, ⟨[], [], [], [1]⟩, ⟨[], [], [], [1]⟩, ⟨[1], [], [], []⟩, ⟨[], [], [], [101]⟩, ⟨[101], [], [], []⟩, ⟨[], [], [], []⟩, ⟨[], [], [], []⟩, ⟨[], [], [], []⟩, ⟨[], [], [], []⟩] rfl (by kernel_rfl) (by kernel_rfl) rfl rfl ?_
  refine WH.mv rfl rfl rfl ?_
  refine WH.val (O.nilCheck rfl rfl rfl Taken.no) rfl rfl ?_
  refine WH.val (O.fld_el (o' := 3) rfl Try.underlying43 rfl (m := 0) (by kernel_rfl) rfl rfl Taken.no) rfl rfl ?_
  refine WH.val (O.ld1 (PtI.ofU (PtU.el rfl rfl (row_get (by omega)))) rfl Try.underlying3 rfl rfl Taken.no) rfl rfl ?_
  refine WH.val (O.det (fun _ => G.R.eql rfl rfl) rfl Taken.no) rfl rfl ?_
  refine WH.mv rfl rfl rfl ?_
  refine WH.case (j := 5) (g := 24) (want := false) rfl rfl (fun hg2 => ?_) (fun hg2 => ?_)
  ·skip
   first | have hg2p := G.gA3 hg2 | have hg2p := G.gA4 hg2 | have hg2p := hg2
   refine WH.val (O.move rfl rfl (Taken.yes rfl rfl hg2)) rfl rfl ?_
   refine WH.val (O.nilCheck rfl rfl rfl (Taken.yes rfl rfl hg2)) rfl rfl ?_
   refine WH.val (O.fld_el (o' := 3) rfl Try.underlying43 rfl (m := 0) (by kernel_rfl) rfl rfl (Taken.yes rfl rfl hg2)) rfl rfl ?_
   refine WH.val (O.ld1 (PtI.ofU (PtU.el rfl rfl (row_get (by omega)))) rfl Try.underlying3 rfl rfl (Taken.yes rfl rfl hg2)) rfl rfl ?_
   refine WH.val (O.det (fun _ => G.R.eql rfl rfl) rfl (Taken.yes rfl rfl hg2)) rfl rfl ?_
   refine WH.val (O.move rfl rfl (Taken.yes rfl rfl hg2)) rfl rfl ?_
   refine WH.case (j := 11) (g := 30) (want := true) rfl rfl (fun hg3 => ?_) (fun hg3 => ?_)
   ·skip
    first | have hg3p := G.gA1 hg3 | have hg3p := G.gA2 hg3 | have hg3p := hg3
    refine WH.val (O.move rfl rfl (Taken.yes rfl rfl hg3)) rfl rfl ?_
    refine WH.val (O.nilCheck rfl rfl rfl (Taken.yes rfl rfl hg3)) rfl rfl ?_
    refine WH.val (O.fld_el (o' := 4) rfl Try.underlying43 rfl (m := 0) (by kernel_rfl) rfl rfl (Taken.yes rfl rfl hg3)) rfl rfl ?_
    refine WH.val (O.ld1 (PtI.ofU (PtU.el rfl rfl (row_get (by omega)))) rfl Try.underlying3 rfl rfl (Taken.yes rfl rfl hg3)) rfl rfl ?_
    refine WH.val (O.fld_ref (o' := 3) rfl Try.underlying34 rfl (m := 0) (by kernel_rfl) rfl rfl (Taken.yes rfl rfl hg3)) rfl rfl ?_
    refine WH.val (O.ld1 (PtI.ref rfl rfl) rfl Try.underlying3 rfl rfl (Taken.yes rfl rfl hg3)) rfl rfl ?_
    refine WH.val (O.det (fun _ => G.R.neq rfl rfl) rfl (Taken.yes rfl rfl hg3)) rfl rfl ?_
    refine WH.val (O.pick_t rfl hg3 rfl rfl (Taken.yes rfl rfl hg2)) rfl rfl ?_
    refine WH.val (O.pick_f rfl hg2 rfl rfl Taken.no) rfl rfl ?_
    refine WH.val (O.assign rfl rfl Taken.no) rfl rfl ?_
    refine WH.nil (E.to ?_)
    refine W.pick (K:=[(0,_),(3,_),(4,_),(5,_),(18,_)]) (Z:=[(0,_),(1,_),(2,_),(101,_)]) ⟨rfl,rfl,rfl,rfl,rfl,trivial⟩ ⟨rfl,rfl,rfl,rfl,trivial⟩ ?_
    first | refine W.cond_d rfl (fun hc4 => ?_) (fun hc4 => ?_) | refine W.cond_nd rfl (fun hc4 => ?_) (fun hc4 => ?_) | refine W.cond rfl (fun hc4 => ?_) (fun hc4 => ?_)
    ·skip
     have hbb : (atC s x.copy).place = 2 ∨ ((atC s x.copy).place = 3 ∧ (atC s x.copy).pat ≠ x.pat) := by show s.cps[ixC s x.copy]!.place = 2 ∨ (s.cps[ixC s x.copy]!.place = 3 ∧ s.cps[ixC s x.copy]!.pat ≠ x.pat); first | omega | simp_all
     refine W.rg (SL.an rfl rfl (E.fo (W.ret ?_)))
     refine E.inr ?_
     refine E.thr ?_
     refine E.fin (rs := [_]) (rn [(3, 2), (4, 1)]) (.inl rfl) rfl (.cons (ResOne.tmp rfl) .nil) ?_ ?_ rfl (fixL_spec rfl)
     ·skip
      rw [(len_e26 (s := s) (x := x)  hb (fun z => z hx) hbb).1]; rfl
     · exact (SubS.val rfl (by rw [(len_e26 (s := s) (x := x)  hb (fun z => z hx) hbb).2] <;> rfl) (SubS.val rfl (by exact sb_data (by rw [(len_e26 (s := s) (x := x)  hb (fun z => z hx) hbb).2] <;> rfl)) (SubS.val rfl (by exact sb_data (by rw [(len_e26 (s := s) (x := x)  hb (fun z => z hx) hbb).2] <;> rfl)) SubS.nil)))
    have hbb : ¬ ((atC s x.copy).place = 2 ∨ ((atC s x.copy).place = 3 ∧ (atC s x.copy).pat ≠ x.pat)) := by show ¬ (s.cps[ixC s x.copy]!.place = 2 ∨ (s.cps[ixC s x.copy]!.place = 3 ∧ s.cps[ixC s x.copy]!.pat ≠ x.pat)); first | omega | simp_all
    refine W.seq ?_
    refine W.draw [⟨[], [], [], [1]⟩, ⟨[], [], [], [1]⟩, ⟨[], [], [], [1]⟩, ⟨[1], [], [], []⟩, ⟨[], [], [], []⟩, ⟨[], [], [], []⟩, ⟨[], [], [], [0]⟩, ⟨[], [], [], [101]⟩, ⟨[101], [], [], []⟩, ⟨[], [], [], [1]⟩, ⟨[], [], [], [1]⟩, ⟨[], [], [], [1]⟩, ⟨[1], [], [], []⟩, ⟨[0, 1, 2], [0, 1, 2], [], []⟩, ⟨[], [], [], []⟩, ⟨[], [], [], []⟩] rfl (by kernel_rfl) (by kernel_rfl) rfl rfl ?_
    refine WH.mv rfl rfl rfl ?_
    refine WH.val (O.nilCheck rfl rfl rfl Taken.no) rfl rfl ?_
    refine WH.val (O.fld_el (o' := 3) rfl Try.underlying43 rfl (m := 0) (by kernel_rfl) rfl rfl Taken.no) rfl rfl ?_
    refine WH.val (O.ld1 (PtI.ofU (PtU.el rfl rfl (row_get (by omega)))) rfl Try.underlying3 rfl rfl Taken.no) rfl rfl ?_
    refine WH.val (O.det (fun _ => G.R.eql rfl rfl) rfl Taken.no) rfl rfl ?_
    refine WH.mv rfl rfl rfl ?_
    refine WH.case (j := 5) (g := 46) (want := true) rfl rfl (fun hg5 => ?_) (fun hg5 => ?_)
    ·skip
     first | have hg5p := G.gA1 hg5 | have hg5p := G.gA2 hg5 | have hg5p := hg5
     refine WH.val (O.move rfl rfl (Taken.yes rfl rfl hg5)) rfl rfl ?_
     refine WH.val (O.fld_ref (o' := 3) rfl Try.underlying34 rfl (m := 0) (by kernel_rfl) rfl rfl (Taken.yes rfl rfl hg5)) rfl rfl ?_
     refine WH.val (O.ld1 (PtI.ref rfl rfl) rfl Try.underlying3 rfl rfl (Taken.yes rfl rfl hg5)) rfl rfl ?_
     refine WH.val (O.move rfl rfl (Taken.yes rfl rfl hg5)) rfl rfl ?_
     refine WH.val (O.nilCheck rfl rfl rfl (Taken.yes rfl rfl hg5)) rfl rfl ?_
     refine WH.val (O.fld_el (o' := 1) rfl Try.underlying43 rfl (m := 0) (by kernel_rfl) rfl rfl (Taken.yes rfl rfl hg5)) rfl rfl ?_
     refine WH.val (O.ld1 (PtI.ofU (PtU.el rfl rfl (row_get (by omega)))) rfl Try.underlying3 rfl rfl (Taken.yes rfl rfl hg5)) rfl rfl ?_
     refine WH.memS (O.call (rn [(0, 0), (1, 1), (2, 2)]) [] rfl rfl rfl (owns_h (s := s) (p := x.pat) (wk := s.cps[ixC s x.copy]!.work)) (.cons (ArgOk.same rfl) (.cons (ArgOk.same rfl) (.cons (ArgOk.same rfl) .nil))) (SubS.cons rfl (SubS.cons rfl (SubS.cons rfl SubS.nil))) rfl rfl rfl rfl rfl (.inl rfl) hcallOk51 (r' := .u _) rfl rfl (Taken.yes rfl rfl hg5)) rfl rfl rfl rfl rfl (S' := (0, .cells _ [.u _, .own 1, .own 2]) :: (1, .data _ _ _) :: (2, .data _ _ _) :: _) rfl ?_
     refine WH.val (O.pick_t rfl hg5 rfl rfl Taken.no) rfl rfl ?_
     refine WH.val (O.assign rfl rfl Taken.no) rfl rfl ?_
     refine WH.nil (E.to ?_)
     first | refine W.cond_d rfl (fun hc6 => ?_) (fun hc6 => ?_) | refine W.cond_nd rfl (fun hc6 => ?_) (fun hc6 => ?_) | refine W.cond rfl (fun hc6 => ?_) (fun hc6 => ?_)
     ·skip
      have hbe : (atC s x.copy).place = 1 ∧ 0 ≤ ownI s x.pat (atC s x.copy).work := by show s.cps[ixC s x.copy]!.place = 1 ∧ 0 ≤ ownI s x.pat s.cps[ixC s x.copy]!.work; unfold ownI; first | simp_all | omega
      refine W.rg (SL.an rfl rfl (E.fo (W.ret ?_)))
      refine E.inr ?_
      refine E.thr ?_
      refine E.fin (rs := [_]) (rn [(3, 2), (4, 1)]) (.inl rfl) rfl (.cons (ResOne.tmp rfl) .nil) ?_ ?_ rfl (fixL_spec rfl)
      ·skip
       rw [(len_e10 (s := s) (x := x)  hb (fun z => z hx) hbb hbe).1]; rfl
      · exact (SubS.val rfl (by rw [(len_e10 (s := s) (x := x)  hb (fun z => z hx) hbb hbe).2] <;> rfl) (SubS.val rfl (by exact sb_data (by rw [(len_e10 (s := s) (x := x)  hb (fun z => z hx) hbb hbe).2] <;> rfl)) (SubS.val rfl (by exact sb_data (by rw [(len_e10 (s := s) (x := x)  hb (fun z => z hx) hbb hbe).2] <;> rfl)) SubS.nil)))
     have hbe : ¬ ((atC s x.copy).place = 1 ∧ 0 ≤ ownI s x.pat (atC s x.copy).work) := by show ¬ (s.cps[ixC s x.copy]!.place = 1 ∧ 0 ≤ ownI s x.pat s.cps[ixC s x.copy]!.work); unfold ownI; first | (rintro ⟨z1, z2⟩; first | omega | (simp_all; done) | (simp_all; omega)) | simp_all
     refine W.seq ?_
     refine W.draw [⟨[], [], [], [0]⟩, ⟨[], [], [], [0]⟩, ⟨[0], [], [], [1, 2]⟩, ⟨[], [], [], [101]⟩, ⟨[101], [], [], []⟩, ⟨[1, 2, 102], [102], [102], []⟩, ⟨[102], [], [], []⟩, ⟨[], [], [], []⟩, ⟨[], [], [], []⟩] rfl (by kernel_rfl) (by kernel_rfl) rfl rfl ?_
     refine WH.mv rfl rfl rfl ?_
     refine WH.val (O.nilCheck rfl rfl rfl Taken.no) rfl rfl ?_
     refine WH.val (O.ldN (m := 3) (PtI.ref rfl rfl) (js := [_, _, _]) rfl (Nat.le_of_ble_eq_true rfl) Try.underlying28 rfl (by kernel_rfl) rfl Taken.no) rfl rfl ?_
     refine WH.val (O.fld_ref (o' := 3) rfl Try.underlying34 rfl (m := 0) (by kernel_rfl) rfl rfl Taken.no) rfl rfl ?_
     refine WH.val (O.ld1 (PtI.ref rfl rfl) rfl Try.underlying3 rfl rfl Taken.no) rfl rfl ?_
     refine WH.memS (O.call (rn [(0, 102)]) [1, 2] rfl rfl rfl (loansO_h (s := s) (i := x.pat) (by omega)) (.cons (ArgOk.aggU (.cons (ArgOk.same rfl) (.cons (ArgOk.own rfl rfl) (.cons (ArgOk.own rfl rfl) .nil)))) (.cons (ArgOk.same rfl) .nil)) SubS.nil rfl rfl rfl rfl rfl (.inr ⟨rfl, fun x hx => by rw [List.mem_singleton] at hx; subst hx; exact flat_I _⟩) hcallOk52 (r' := .own 102) rfl rfl Taken.no) rfl rfl rfl rfl rfl (S' := (102, .data _ _ _) :: _) rfl ?_
     refine WH.val (O.lenE (SlOf.own rfl rfl) (by first | exact List.length_map _ | rfl) Try.underlying87 rfl Taken.no) rfl rfl ?_
     refine WH.val (O.det (fun _ => G.R.geq rfl rfl) rfl Taken.no) rfl rfl ?_
     refine WH.val (O.assign rfl rfl Taken.no) rfl rfl ?_
     refine WH.nil (E.to ?_)
     refine W.pick (K:=[(0,_),(3,_),(4,_),(5,_),(56,_)]) (Z:=[(0,_),(1,_),(2,_),(101,_),(102,_)]) ⟨rfl,rfl,rfl,rfl,rfl,trivial⟩ ⟨rfl,rfl,rfl,rfl,rfl,trivial⟩ ?_
     first | refine W.cond_d rfl (fun hc7 => ?_) (fun hc7 => ?_) | refine W.cond_nd rfl (fun hc7 => ?_) (fun hc7 => ?_) | refine W.cond rfl (fun hc7 => ?_) (fun hc7 => ?_)
     ·skip
      have hb5 : 5 ≤ (idsF (fun c => decide (c.place = 2 ∧ c.pat = x.pat)) s.cps).length := by omega
      refine W.rg (SL.an rfl rfl (E.fo (W.ret ?_)))
      refine E.inr ?_
      refine E.thr ?_
      refine E.fin (rs := [_]) (rn [(3, 2), (4, 1)]) (.inl rfl) rfl (.cons (ResOne.tmp rfl) .nil) ?_ ?_ rfl (fixL_spec rfl)
      ·skip
       rw [(len_e3 (s := s) (x := x)  hb (fun z => z hx) hbb hbe hb5).1]; rfl
      · exact (SubS.val rfl (by rw [(len_e3 (s := s) (x := x)  hb (fun z => z hx) hbb hbe hb5).2] <;> rfl) (SubS.val rfl (by exact sb_data (by rw [(len_e3 (s := s) (x := x)  hb (fun z => z hx) hbb hbe hb5).2] <;> rfl)) (SubS.val rfl (by exact sb_data (by rw [(len_e3 (s := s) (x := x)  hb (fun z => z hx) hbb hbe hb5).2] <;> rfl)) SubS.nil)))
     have hb5 : ¬ (5 ≤ (idsF (fun c => decide (c.place = 2 ∧ c.pat = x.pat)) s.cps).length) := by omega
     refine W.rg (SL.mv rfl rfl ?_)
     refine SL.val (O.nilCheck rfl rfl rfl Taken.no) ?_
     refine SL.val (O.fld_ref (o' := 0) rfl Try.underlying28 rfl (m := 0) (by kernel_rfl) rfl rfl Taken.no) ?_
     refine SL.val (O.ld1 (PtI.ref rfl rfl) rfl Try.underlying3 rfl rfl Taken.no) ?_
     refine SL.val (O.det (fun _ => by first | exact G.R.add64 rfl rfl (by omega) | exact G.R.add rfl rfl) rfl Taken.no) ?_
     refine SL.val (O.det (fun _ => G.R.gtr rfl rfl) rfl Taken.no) ?_
     refine SL.an rfl rfl (E.fo ?_)
     first | refine W.cond_d rfl (fun hc8 => ?_) (fun hc8 => ?_) | refine W.cond_nd rfl (fun hc8 => ?_) (fun hc8 => ?_) | refine W.cond rfl (fun hc8 => ?_) (fun hc8 => ?_)
     ·skip
      have hbd : 1000000 < s.now + 28 := by omega
      refine W.rg (SL.an rfl rfl (E.fo (W.ret ?_)))
      refine E.inr ?_
      refine E.thr ?_
      refine E.fin (rs := [_]) (rn [(3, 2), (4, 1)]) (.inl rfl) rfl (.cons (ResOne.tmp rfl) .nil) ?_ ?_ rfl (fixL_spec rfl)
      ·skip
       rw [(len_e25 (s := s) (x := x)  hb (fun z => z hx) hbb hbe hb5 hbd).1]; rfl
      · exact (SubS.val rfl (by rw [(len_e25 (s := s) (x := x)  hb (fun z => z hx) hbb hbe hb5 hbd).2] <;> rfl) (SubS.val rfl (by exact sb_data (by rw [(len_e25 (s := s) (x := x)  hb (fun z => z hx) hbb hbe hb5 hbd).2] <;> rfl)) (SubS.val rfl (by exact sb_data (by rw [(len_e25 (s := s) (x := x)  hb (fun z => z hx) hbb hbe hb5 hbd).2] <;> rfl)) SubS.nil)))
     have hbd : ¬ (1000000 < s.now + 28) := by omega
     refine W.skip (E.inn (E.to (W.seq ?_)))
     refine W.draw [⟨[], [], [], [1]⟩, ⟨[], [], [], [1]⟩, ⟨[], [], [], [1]⟩, ⟨[], [], [], [1]⟩, ⟨[], [], [], [1]⟩, ⟨[], [], [], [101]⟩, ⟨[101], [], [], []⟩, ⟨[], [], [], [0]⟩, ⟨[], [], [], [0]⟩, ⟨[], [], [], [0]⟩, ⟨[0], [], [], []⟩, ⟨[], [], [], []⟩, ⟨[], [], [], [1]⟩, ⟨[], [], [], [1]⟩, ⟨[1], [1], [], []⟩, ⟨[], [], [], [1]⟩, ⟨[], [], [], [1]⟩, ⟨[1], [1], [], []⟩, ⟨[], [], [], [1]⟩, ⟨[], [], [], [1]⟩, ⟨[1], [1], [], []⟩, ⟨[], [], [], [1]⟩, ⟨[], [], [], [1]⟩, ⟨[1], [1], [], []⟩, ⟨[], [], [], [1]⟩, ⟨[], [], [], [1]⟩, ⟨[1], [1], [], []⟩] rfl (by kernel_rfl) (by kernel_rfl) rfl rfl ?_
     refine WH.mv rfl rfl rfl (WH.mv rfl rfl rfl (WH.mv rfl rfl rfl (WH.mv rfl rfl rfl (WH.mv rfl rfl rfl ?_))))
     refine WH.val (O.fld_ref (o' := 3) rfl Try.underlying34 rfl (m := 0) (by kernel_rfl) rfl rfl Taken.no) rfl rfl ?_
     refine WH.val (O.ld1 (PtI.ref rfl rfl) rfl Try.underlying3 rfl rfl Taken.no) rfl rfl ?_
     refine WH.mv rfl rfl rfl ?_
     refine WH.val (O.nilCheck rfl rfl rfl Taken.no) rfl rfl ?_
     refine WH.val (O.fld_ref (o' := 0) rfl Try.underlying28 rfl (m := 0) (by kernel_rfl) rfl rfl Taken.no) rfl rfl ?_
     refine WH.val (O.ld1 (PtI.ref rfl rfl) rfl Try.underlying3 rfl rfl Taken.no) rfl rfl ?_
     refine WH.val (O.det (fun _ => by first | exact G.R.add64 rfl rfl (by omega) | exact G.R.add rfl rfl) rfl Taken.no) rfl rfl ?_
     refine WH.val (O.nilCheck rfl rfl rfl Taken.no) rfl rfl ?_
     refine WH.val (O.fld_el (o' := 3) rfl Try.underlying43 rfl (m := 0) (by kernel_rfl) rfl rfl Taken.no) rfl rfl ?_
     refine WH.effS (O.st_els (m := 1) rfl rfl rfl (us := [_]) rfl rfl (by kernel_rfl) (by simp) (row_get (by omega)) (by exact Nat.le_of_ble_eq_true rfl) rfl rfl (rows' := ((s.cps.map eCp).set (ixC s x.copy) [uI s.cps[ixC s x.copy]!.id, uI s.cps[ixC s x.copy]!.work, uT s.cps[ixC s x.copy]!.lib, uI 2, uI s.cps[ixC s x.copy]!.pat, uI s.cps[ixC s x.copy]!.due, uI s.cps[ixC s x.copy]!.hold, uB s.cps[ixC s x.copy]!.rc])) (by rfl) Taken.no) rfl rfl rfl (S' := (1, _) :: _) rfl ?_
     refine WH.val (O.nilCheck rfl rfl rfl Taken.no) rfl rfl ?_
     refine WH.val (O.fld_el (o' := 4) rfl Try.underlying43 rfl (m := 0) (by kernel_rfl) rfl rfl Taken.no) rfl rfl ?_
     refine WH.effS (O.st_els (m := 1) rfl rfl rfl (us := [_]) rfl rfl (by kernel_rfl) (by simp) (by rw [List.getElem?_set_self (by simp only [List.length_map]; omega)]) (by exact Nat.le_of_ble_eq_true rfl) rfl rfl (rows' := (((s.cps.map eCp).set (ixC s x.copy) [uI s.cps[ixC s x.copy]!.id, uI s.cps[ixC s x.copy]!.work, uT s.cps[ixC s x.copy]!.lib, uI 2, uI s.cps[ixC s x.copy]!.pat, uI s.cps[ixC s x.copy]!.due, uI s.cps[ixC s x.copy]!.hold, uB s.cps[ixC s x.copy]!.rc]).set (ixC s x.copy) [uI s.cps[ixC s x.copy]!.id, uI s.cps[ixC s x.copy]!.work, uT s.cps[ixC s x.copy]!.lib, uI 2, uI x.pat, uI s.cps[ixC s x.copy]!.due, uI s.cps[ixC s x.copy]!.hold, uB s.cps[ixC s x.copy]!.rc])) (by rfl) Taken.no) rfl rfl rfl (S' := (1, _) :: _) rfl ?_
     refine WH.val (O.nilCheck rfl rfl rfl Taken.no) rfl rfl ?_
     refine WH.val (O.fld_el (o' := 5) rfl Try.underlying43 rfl (m := 0) (by kernel_rfl) rfl rfl Taken.no) rfl rfl ?_
     refine WH.effS (O.st_els (m := 1) rfl rfl rfl (us := [_]) rfl rfl (by kernel_rfl) (by simp) (by rw [List.getElem?_set_self (by simp only [List.length_set, List.length_map]; omega)]) (by exact Nat.le_of_ble_eq_true rfl) rfl rfl (rows' := ((((s.cps.map eCp).set (ixC s x.copy) [uI s.cps[ixC s x.copy]!.id, uI s.cps[ixC s x.copy]!.work, uT s.cps[ixC s x.copy]!.lib, uI 2, uI s.cps[ixC s x.copy]!.pat, uI s.cps[ixC s x.copy]!.due, uI s.cps[ixC s x.copy]!.hold, uB s.cps[ixC s x.copy]!.rc]).set (ixC s x.copy) [uI s.cps[ixC s x.copy]!.id, uI s.cps[ixC s x.copy]!.work, uT s.cps[ixC s x.copy]!.lib, uI 2, uI x.pat, uI s.cps[ixC s x.copy]!.due, uI s.cps[ixC s x.copy]!.hold, uB s.cps[ixC s x.copy]!.rc]).set (ixC s x.copy) [uI s.cps[ixC s x.copy]!.id, uI s.cps[ixC s x.copy]!.work, uT s.cps[ixC s x.copy]!.lib, uI 2, uI x.pat, uI (s.now + 28), uI s.cps[ixC s x.copy]!.hold, uB s.cps[ixC s x.copy]!.rc])) (by rfl) Taken.no) rfl rfl rfl (S' := (1, _) :: _) rfl ?_
     refine WH.val (O.nilCheck rfl rfl rfl Taken.no) rfl rfl ?_
     refine WH.val (O.fld_el (o' := 6) rfl Try.underlying43 rfl (m := 0) (by kernel_rfl) rfl rfl Taken.no) rfl rfl ?_
     refine WH.effS (O.st_els (m := 1) rfl rfl rfl (us := [_]) rfl rfl (by kernel_rfl) (by simp) (by rw [List.getElem?_set_self (by simp only [List.length_set, List.length_map]; omega)]) (by exact Nat.le_of_ble_eq_true rfl) rfl rfl (rows' := (((((s.cps.map eCp).set (ixC s x.copy) [uI s.cps[ixC s x.copy]!.id, uI s.cps[ixC s x.copy]!.work, uT s.cps[ixC s x.copy]!.lib, uI 2, uI s.cps[ixC s x.copy]!.pat, uI s.cps[ixC s x.copy]!.due, uI s.cps[ixC s x.copy]!.hold, uB s.cps[ixC s x.copy]!.rc]).set (ixC s x.copy) [uI s.cps[ixC s x.copy]!.id, uI s.cps[ixC s x.copy]!.work, uT s.cps[ixC s x.copy]!.lib, uI 2, uI x.pat, uI s.cps[ixC s x.copy]!.due, uI s.cps[ixC s x.copy]!.hold, uB s.cps[ixC s x.copy]!.rc]).set (ixC s x.copy) [uI s.cps[ixC s x.copy]!.id, uI s.cps[ixC s x.copy]!.work, uT s.cps[ixC s x.copy]!.lib, uI 2, uI x.pat, uI (s.now + 28), uI s.cps[ixC s x.copy]!.hold, uB s.cps[ixC s x.copy]!.rc]).set (ixC s x.copy) [uI s.cps[ixC s x.copy]!.id, uI s.cps[ixC s x.copy]!.work, uT s.cps[ixC s x.copy]!.lib, uI 2, uI x.pat, uI (s.now + 28), uI 0, uB s.cps[ixC s x.copy]!.rc])) (by rfl) Taken.no) rfl rfl rfl (S' := (1, _) :: _) rfl ?_
     refine WH.val (O.nilCheck rfl rfl rfl Taken.no) rfl rfl ?_
     refine WH.val (O.fld_el (o' := 7) rfl Try.underlying43 rfl (m := 0) (by kernel_rfl) rfl rfl Taken.no) rfl rfl ?_
     refine WH.effS (O.st_els (m := 1) rfl rfl rfl (us := [_]) rfl rfl (by kernel_rfl) (by simp) (by rw [List.getElem?_set_self (by simp only [List.length_set, List.length_map]; omega)]) (by exact Nat.le_of_ble_eq_true rfl) rfl rfl (rows' := ((((((s.cps.map eCp).set (ixC s x.copy) [uI s.cps[ixC s x.copy]!.id, uI s.cps[ixC s x.copy]!.work, uT s.cps[ixC s x.copy]!.lib, uI 2, uI s.cps[ixC s x.copy]!.pat, uI s.cps[ixC s x.copy]!.due, uI s.cps[ixC s x.copy]!.hold, uB s.cps[ixC s x.copy]!.rc]).set (ixC s x.copy) [uI s.cps[ixC s x.copy]!.id, uI s.cps[ixC s x.copy]!.work, uT s.cps[ixC s x.copy]!.lib, uI 2, uI x.pat, uI s.cps[ixC s x.copy]!.due, uI s.cps[ixC s x.copy]!.hold, uB s.cps[ixC s x.copy]!.rc]).set (ixC s x.copy) [uI s.cps[ixC s x.copy]!.id, uI s.cps[ixC s x.copy]!.work, uT s.cps[ixC s x.copy]!.lib, uI 2, uI x.pat, uI (s.now + 28), uI s.cps[ixC s x.copy]!.hold, uB s.cps[ixC s x.copy]!.rc]).set (ixC s x.copy) [uI s.cps[ixC s x.copy]!.id, uI s.cps[ixC s x.copy]!.work, uT s.cps[ixC s x.copy]!.lib, uI 2, uI x.pat, uI (s.now + 28), uI 0, uB s.cps[ixC s x.copy]!.rc]).set (ixC s x.copy) [uI s.cps[ixC s x.copy]!.id, uI s.cps[ixC s x.copy]!.work, uT s.cps[ixC s x.copy]!.lib, uI 2, uI x.pat, uI (s.now + 28), uI 0, uB false])) (by rfl) Taken.no) rfl rfl rfl (S' := (1, _) :: _) rfl ?_
     refine WH.nil (E.to ?_)
     refine W.pick (K:=[(4,_)]) (Z:=[(0,_),(1,_),(2,_),(101,_),(102,_)]) ⟨rfl,trivial⟩ ⟨rfl,rfl,rfl,rfl,rfl,trivial⟩ ?_
     refine W.rg (SL.an rfl rfl (E.fo (W.ret ?_)))
     refine E.fin (rs := [_]) (rn [(3, 2), (4, 1)]) (.inl rfl) rfl (.cons (ResOne.tmp rfl) .nil) ?_ ?_ rfl (fixL_spec rfl)
     ·skip
      rw [(len_e0 (s := s) (x := x)  hb (fun z => z hx) hbb hbe hb5 hbd).1]; rfl
     · exact (SubS.val rfl (by rw [(len_e0 (s := s) (x := x)  hb (fun z => z hx) hbb hbe hb5 hbd).2] <;> rfl) (SubS.val rfl (by exact sb_data (by rw [(len_e0 (s := s) (x := x)  hb (fun z => z hx) hbb hbe hb5 hbd).2]; exact lt_fin)) (SubS.val rfl (by exact sb_data (by rw [(len_e0 (s := s) (x := x)  hb (fun z => z hx) hbb hbe hb5 hbd).2] <;> rfl)) SubS.nil)))
    first | have hg5p := G.gA5 hg5 | have hg5p := G.gA6 hg5 | have hg5p := hg5
    have hbe : ¬ ((atC s x.copy).place = 1 ∧ 0 ≤ ownI s x.pat (atC s x.copy).work) := fun z => absurd z.1 (by show ¬ s.cps[ixC s x.copy]!.place = 1; first | assumption | omega)
    refine WH.sk rfl rfl rfl hg5 (WH.sk rfl rfl rfl hg5 (WH.sk rfl rfl rfl hg5 (WH.sk rfl rfl rfl hg5 (WH.sk rfl rfl rfl hg5 (WH.sk rfl rfl rfl hg5 (WH.sk rfl rfl rfl hg5 (WH.sk rfl rfl rfl hg5 ?_)))))))
    refine WH.val (O.pick_f rfl (G.ne_t hg5) rfl rfl Taken.no) rfl rfl ?_
    refine WH.val (O.assign rfl rfl Taken.no) rfl rfl ?_
    refine WH.nil (E.to ?_)
    refine W.cond_f rfl ?_
    refine W.seq ?_
    refine W.draw [⟨[], [], [], [0]⟩, ⟨[], [], [], [0]⟩, ⟨[0], [], [], [1, 2]⟩, ⟨[], [], [], [101]⟩, ⟨[101], [], [], []⟩, ⟨[1, 2, 103], [103], [103], []⟩, ⟨[103], [], [], []⟩, ⟨[], [], [], []⟩, ⟨[], [], [], []⟩] rfl (by kernel_rfl) (by kernel_rfl) rfl rfl ?_
    refine WH.mv rfl rfl rfl ?_
    refine WH.val (O.nilCheck rfl rfl rfl Taken.no) rfl rfl ?_
    refine WH.val (O.ldN (m := 3) (PtI.ref rfl rfl) (js := [_, _, _]) rfl (Nat.le_of_ble_eq_true rfl) Try.underlying28 rfl (by kernel_rfl) rfl Taken.no) rfl rfl ?_
    refine WH.val (O.fld_ref (o' := 3) rfl Try.underlying34 rfl (m := 0) (by kernel_rfl) rfl rfl Taken.no) rfl rfl ?_
    refine WH.val (O.ld1 (PtI.ref rfl rfl) rfl Try.underlying3 rfl rfl Taken.no) rfl rfl ?_
    refine WH.memS (O.call (rn [(0, 103)]) [1, 2] rfl rfl rfl (loansO_h (s := s) (i := x.pat) (by omega)) (.cons (ArgOk.aggU (.cons (ArgOk.same rfl) (.cons (ArgOk.own rfl rfl) (.cons (ArgOk.own rfl rfl) .nil)))) (.cons (ArgOk.same rfl) .nil)) SubS.nil rfl rfl rfl rfl rfl (.inr ⟨rfl, fun x hx => by rw [List.mem_singleton] at hx; subst hx; exact flat_I _⟩) hcallOk52 (r' := .own 103) rfl rfl Taken.no) rfl rfl rfl rfl rfl (S' := (103, .data _ _ _) :: _) rfl ?_
    refine WH.val (O.lenE (SlOf.own rfl rfl) (by first | exact List.length_map _ | rfl) Try.underlying87 rfl Taken.no) rfl rfl ?_
    refine WH.val (O.det (fun _ => G.R.geq rfl rfl) rfl Taken.no) rfl rfl ?_
    refine WH.val (O.assign rfl rfl Taken.no) rfl rfl ?_
    refine WH.nil (E.to ?_)
    refine W.pick (K:=[(0,_),(3,_),(4,_),(5,_),(56,_)]) (Z:=[(0,_),(1,_),(2,_),(101,_),(103,_)]) ⟨rfl,rfl,rfl,rfl,rfl,trivial⟩ ⟨rfl,rfl,rfl,rfl,rfl,trivial⟩ ?_
    first | refine W.cond_d rfl (fun hc9 => ?_) (fun hc9 => ?_) | refine W.cond_nd rfl (fun hc9 => ?_) (fun hc9 => ?_) | refine W.cond rfl (fun hc9 => ?_) (fun hc9 => ?_)
    ·skip
     have hb5 : 5 ≤ (idsF (fun c => decide (c.place = 2 ∧ c.pat = x.pat)) s.cps).length := by omega
     refine W.rg (SL.an rfl rfl (E.fo (W.ret ?_)))
     refine E.inr ?_
     refine E.thr ?_
     refine E.fin (rs := [_]) (rn [(3, 2), (4, 1)]) (.inl rfl) rfl (.cons (ResOne.tmp rfl) .nil) ?_ ?_ rfl (fixL_spec rfl)
     ·skip
      rw [(len_e3 (s := s) (x := x)  hb (fun z => z hx) hbb hbe hb5).1]; rfl
     · exact (SubS.val rfl (by rw [(len_e3 (s := s) (x := x)  hb (fun z => z hx) hbb hbe hb5).2] <;> rfl) (SubS.val rfl (by exact sb_data (by rw [(len_e3 (s := s) (x := x)  hb (fun z => z hx) hbb hbe hb5).2] <;> rfl)) (SubS.val rfl (by exact sb_data (by rw [(len_e3 (s := s) (x := x)  hb (fun z => z hx) hbb hbe hb5).2] <;> rfl)) SubS.nil)))
    have hb5 : ¬ (5 ≤ (idsF (fun c => decide (c.place = 2 ∧ c.pat = x.pat)) s.cps).length) := by omega
    refine W.rg (SL.mv rfl rfl ?_)
    refine SL.val (O.nilCheck rfl rfl rfl Taken.no) ?_
    refine SL.val (O.fld_ref (o' := 0) rfl Try.underlying28 rfl (m := 0) (by kernel_rfl) rfl rfl Taken.no) ?_
    refine SL.val (O.ld1 (PtI.ref rfl rfl) rfl Try.underlying3 rfl rfl Taken.no) ?_
    refine SL.val (O.det (fun _ => by first | exact G.R.add64 rfl rfl (by omega) | exact G.R.add rfl rfl) rfl Taken.no) ?_
    refine SL.val (O.det (fun _ => G.R.gtr rfl rfl) rfl Taken.no) ?_
    refine SL.an rfl rfl (E.fo ?_)
    first | refine W.cond_d rfl (fun hc10 => ?_) (fun hc10 => ?_) | refine W.cond_nd rfl (fun hc10 => ?_) (fun hc10 => ?_) | refine W.cond rfl (fun hc10 => ?_) (fun hc10 => ?_)
    ·skip
     have hbd : 1000000 < s.now + 28 := by omega
     refine W.rg (SL.an rfl rfl (E.fo (W.ret ?_)))
     refine E.inr ?_
     refine E.thr ?_
     refine E.fin (rs := [_]) (rn [(3, 2), (4, 1)]) (.inl rfl) rfl (.cons (ResOne.tmp rfl) .nil) ?_ ?_ rfl (fixL_spec rfl)
     ·skip
      rw [(len_e25 (s := s) (x := x)  hb (fun z => z hx) hbb hbe hb5 hbd).1]; rfl
     · exact (SubS.val rfl (by rw [(len_e25 (s := s) (x := x)  hb (fun z => z hx) hbb hbe hb5 hbd).2] <;> rfl) (SubS.val rfl (by exact sb_data (by rw [(len_e25 (s := s) (x := x)  hb (fun z => z hx) hbb hbe hb5 hbd).2] <;> rfl)) (SubS.val rfl (by exact sb_data (by rw [(len_e25 (s := s) (x := x)  hb (fun z => z hx) hbb hbe hb5 hbd).2] <;> rfl)) SubS.nil)))
    have hbd : ¬ (1000000 < s.now + 28) := by omega
    refine W.skip (E.inn (E.to (W.seq ?_)))
    refine W.draw [⟨[], [], [], [1]⟩, ⟨[], [], [], [1]⟩, ⟨[], [], [], [1]⟩, ⟨[], [], [], [1]⟩, ⟨[], [], [], [1]⟩, ⟨[], [], [], [101]⟩, ⟨[101], [], [], []⟩, ⟨[], [], [], [0]⟩, ⟨[], [], [], [0]⟩, ⟨[], [], [], [0]⟩, ⟨[0], [], [], []⟩, ⟨[], [], [], []⟩, ⟨[], [], [], [1]⟩, ⟨[], [], [], [1]⟩, ⟨[1], [1], [], []⟩, ⟨[], [], [], [1]⟩, ⟨[], [], [], [1]⟩, ⟨[1], [1], [], []⟩, ⟨[], [], [], [1]⟩, ⟨[], [], [], [1]⟩, ⟨[1], [1], [], []⟩, ⟨[], [], [], [1]⟩, ⟨[], [], [], [1]⟩, ⟨[1], [1], [], []⟩, ⟨[], [], [], [1]⟩, ⟨[], [], [], [1]⟩, ⟨[1], [1], [], []⟩] rfl (by kernel_rfl) (by kernel_rfl) rfl rfl ?_
    refine WH.mv rfl rfl rfl (WH.mv rfl rfl rfl (WH.mv rfl rfl rfl (WH.mv rfl rfl rfl (WH.mv rfl rfl rfl ?_))))
    refine WH.val (O.fld_ref (o' := 3) rfl Try.underlying34 rfl (m := 0) (by kernel_rfl) rfl rfl Taken.no) rfl rfl ?_
    refine WH.val (O.ld1 (PtI.ref rfl rfl) rfl Try.underlying3 rfl rfl Taken.no) rfl rfl ?_
    refine WH.mv rfl rfl rfl ?_
    refine WH.val (O.nilCheck rfl rfl rfl Taken.no) rfl rfl ?_
    refine WH.val (O.fld_ref (o' := 0) rfl Try.underlying28 rfl (m := 0) (by kernel_rfl) rfl rfl Taken.no) rfl rfl ?_
    refine WH.val (O.ld1 (PtI.ref rfl rfl) rfl Try.underlying3 rfl rfl Taken.no) rfl rfl ?_
    refine WH.val (O.det (fun _ => by first | exact G.R.add64 rfl rfl (by omega) | exact G.R.add rfl rfl) rfl Taken.no) rfl rfl ?_
    refine WH.val (O.nilCheck rfl rfl rfl Taken.no) rfl rfl ?_
    refine WH.val (O.fld_el (o' := 3) rfl Try.underlying43 rfl (m := 0) (by kernel_rfl) rfl rfl Taken.no) rfl rfl ?_
    refine WH.effS (O.st_els (m := 1) rfl rfl rfl (us := [_]) rfl rfl (by kernel_rfl) (by simp) (row_get (by omega)) (by exact Nat.le_of_ble_eq_true rfl) rfl rfl (rows' := ((s.cps.map eCp).set (ixC s x.copy) [uI s.cps[ixC s x.copy]!.id, uI s.cps[ixC s x.copy]!.work, uT s.cps[ixC s x.copy]!.lib, uI 2, uI s.cps[ixC s x.copy]!.pat, uI s.cps[ixC s x.copy]!.due, uI s.cps[ixC s x.copy]!.hold, uB s.cps[ixC s x.copy]!.rc])) (by rfl) Taken.no) rfl rfl rfl (S' := (1, _) :: _) rfl ?_
    refine WH.val (O.nilCheck rfl rfl rfl Taken.no) rfl rfl ?_
    refine WH.val (O.fld_el (o' := 4) rfl Try.underlying43 rfl (m := 0) (by kernel_rfl) rfl rfl Taken.no) rfl rfl ?_
    refine WH.effS (O.st_els (m := 1) rfl rfl rfl (us := [_]) rfl rfl (by kernel_rfl) (by simp) (by rw [List.getElem?_set_self (by simp only [List.length_map]; omega)]) (by exact Nat.le_of_ble_eq_true rfl) rfl rfl (rows' := (((s.cps.map eCp).set (ixC s x.copy) [uI s.cps[ixC s x.copy]!.id, uI s.cps[ixC s x.copy]!.work, uT s.cps[ixC s x.copy]!.lib, uI 2, uI s.cps[ixC s x.copy]!.pat, uI s.cps[ixC s x.copy]!.due, uI s.cps[ixC s x.copy]!.hold, uB s.cps[ixC s x.copy]!.rc]).set (ixC s x.copy) [uI s.cps[ixC s x.copy]!.id, uI s.cps[ixC s x.copy]!.work, uT s.cps[ixC s x.copy]!.lib, uI 2, uI x.pat, uI s.cps[ixC s x.copy]!.due, uI s.cps[ixC s x.copy]!.hold, uB s.cps[ixC s x.copy]!.rc])) (by rfl) Taken.no) rfl rfl rfl (S' := (1, _) :: _) rfl ?_
    refine WH.val (O.nilCheck rfl rfl rfl Taken.no) rfl rfl ?_
    refine WH.val (O.fld_el (o' := 5) rfl Try.underlying43 rfl (m := 0) (by kernel_rfl) rfl rfl Taken.no) rfl rfl ?_
    refine WH.effS (O.st_els (m := 1) rfl rfl rfl (us := [_]) rfl rfl (by kernel_rfl) (by simp) (by rw [List.getElem?_set_self (by simp only [List.length_set, List.length_map]; omega)]) (by exact Nat.le_of_ble_eq_true rfl) rfl rfl (rows' := ((((s.cps.map eCp).set (ixC s x.copy) [uI s.cps[ixC s x.copy]!.id, uI s.cps[ixC s x.copy]!.work, uT s.cps[ixC s x.copy]!.lib, uI 2, uI s.cps[ixC s x.copy]!.pat, uI s.cps[ixC s x.copy]!.due, uI s.cps[ixC s x.copy]!.hold, uB s.cps[ixC s x.copy]!.rc]).set (ixC s x.copy) [uI s.cps[ixC s x.copy]!.id, uI s.cps[ixC s x.copy]!.work, uT s.cps[ixC s x.copy]!.lib, uI 2, uI x.pat, uI s.cps[ixC s x.copy]!.due, uI s.cps[ixC s x.copy]!.hold, uB s.cps[ixC s x.copy]!.rc]).set (ixC s x.copy) [uI s.cps[ixC s x.copy]!.id, uI s.cps[ixC s x.copy]!.work, uT s.cps[ixC s x.copy]!.lib, uI 2, uI x.pat, uI (s.now + 28), uI s.cps[ixC s x.copy]!.hold, uB s.cps[ixC s x.copy]!.rc])) (by rfl) Taken.no) rfl rfl rfl (S' := (1, _) :: _) rfl ?_
    refine WH.val (O.nilCheck rfl rfl rfl Taken.no) rfl rfl ?_
    refine WH.val (O.fld_el (o' := 6) rfl Try.underlying43 rfl (m := 0) (by kernel_rfl) rfl rfl Taken.no) rfl rfl ?_
    refine WH.effS (O.st_els (m := 1) rfl rfl rfl (us := [_]) rfl rfl (by kernel_rfl) (by simp) (by rw [List.getElem?_set_self (by simp only [List.length_set, List.length_map]; omega)]) (by exact Nat.le_of_ble_eq_true rfl) rfl rfl (rows' := (((((s.cps.map eCp).set (ixC s x.copy) [uI s.cps[ixC s x.copy]!.id, uI s.cps[ixC s x.copy]!.work, uT s.cps[ixC s x.copy]!.lib, uI 2, uI s.cps[ixC s x.copy]!.pat, uI s.cps[ixC s x.copy]!.due, uI s.cps[ixC s x.copy]!.hold, uB s.cps[ixC s x.copy]!.rc]).set (ixC s x.copy) [uI s.cps[ixC s x.copy]!.id, uI s.cps[ixC s x.copy]!.work, uT s.cps[ixC s x.copy]!.lib, uI 2, uI x.pat, uI s.cps[ixC s x.copy]!.due, uI s.cps[ixC s x.copy]!.hold, uB s.cps[ixC s x.copy]!.rc]).set (ixC s x.copy) [uI s.cps[ixC s x.copy]!.id, uI s.cps[ixC s x.copy]!.work, uT s.cps[ixC s x.copy]!.lib, uI 2, uI x.pat, uI (s.now + 28), uI s.cps[ixC s x.copy]!.hold, uB s.cps[ixC s x.copy]!.rc]).set (ixC s x.copy) [uI s.cps[ixC s x.copy]!.id, uI s.cps[ixC s x.copy]!.work, uT s.cps[ixC s x.copy]!.lib, uI 2, uI x.pat, uI (s.now + 28), uI 0, uB s.cps[ixC s x.copy]!.rc])) (by rfl) Taken.no) rfl rfl rfl (S' := (1, _) :: _) rfl ?_
    refine WH.val (O.nilCheck rfl rfl rfl Taken.no) rfl rfl ?_
    refine WH.val (O.fld_el (o' := 7) rfl Try.underlying43 rfl (m := 0) (by kernel_rfl) rfl rfl Taken.no) rfl rfl ?_
    refine WH.effS (O.st_els (m := 1) rfl rfl rfl (us := [_]) rfl rfl (by kernel_rfl) (by simp) (by rw [List.getElem?_set_self (by simp only [List.length_set, List.length_map]; omega)]) (by exact Nat.le_of_ble_eq_true rfl) rfl rfl (rows' := ((((((s.cps.map eCp).set (ixC s x.copy) [uI s.cps[ixC s x.copy]!.id, uI s.cps[ixC s x.copy]!.work, uT s.cps[ixC s x.copy]!.lib, uI 2, uI s.cps[ixC s x.copy]!.pat, uI s.cps[ixC s x.copy]!.due, uI s.cps[ixC s x.copy]!.hold, uB s.cps[ixC s x.copy]!.rc]).set (ixC s x.copy) [uI s.cps[ixC s x.copy]!.id, uI s.cps[ixC s x.copy]!.work, uT s.cps[ixC s x.copy]!.lib, uI 2, uI x.pat, uI s.cps[ixC s x.copy]!.due, uI s.cps[ixC s x.copy]!.hold, uB s.cps[ixC s x.copy]!.rc]).set (ixC s x.copy) [uI s.cps[ixC s x.copy]!.id, uI s.cps[ixC s x.copy]!.work, uT s.cps[ixC s x.copy]!.lib, uI 2, uI x.pat, uI (s.now + 28), uI s.cps[ixC s x.copy]!.hold, uB s.cps[ixC s x.copy]!.rc]).set (ixC s x.copy) [uI s.cps[ixC s x.copy]!.id, uI s.cps[ixC s x.copy]!.work, uT s.cps[ixC s x.copy]!.lib, uI 2, uI x.pat, uI (s.now + 28), uI 0, uB s.cps[ixC s x.copy]!.rc]).set (ixC s x.copy) [uI s.cps[ixC s x.copy]!.id, uI s.cps[ixC s x.copy]!.work, uT s.cps[ixC s x.copy]!.lib, uI 2, uI x.pat, uI (s.now + 28), uI 0, uB false])) (by rfl) Taken.no) rfl rfl rfl (S' := (1, _) :: _) rfl ?_
    refine WH.nil (E.to ?_)
    refine W.pick (K:=[(4,_)]) (Z:=[(0,_),(1,_),(2,_),(101,_),(103,_)]) ⟨rfl,trivial⟩ ⟨rfl,rfl,rfl,rfl,rfl,trivial⟩ ?_
    refine W.rg (SL.an rfl rfl (E.fo (W.ret ?_)))
    refine E.fin (rs := [_]) (rn [(3, 2), (4, 1)]) (.inl rfl) rfl (.cons (ResOne.tmp rfl) .nil) ?_ ?_ rfl (fixL_spec rfl)
    ·skip
     rw [(len_e0 (s := s) (x := x)  hb (fun z => z hx) hbb hbe hb5 hbd).1]; rfl
    · exact (SubS.val rfl (by rw [(len_e0 (s := s) (x := x)  hb (fun z => z hx) hbb hbe hb5 hbd).2] <;> rfl) (SubS.val rfl (by exact sb_data (by rw [(len_e0 (s := s) (x := x)  hb (fun z => z hx) hbb hbe hb5 hbd).2]; exact lt_fin)) (SubS.val rfl (by exact sb_data (by rw [(len_e0 (s := s) (x := x)  hb (fun z => z hx) hbb hbe hb5 hbd).2] <;> rfl)) SubS.nil)))
   first | have hg3p := G.gA5 hg3 | have hg3p := G.gA6 hg3 | have hg3p := hg3
   have hbb : ¬ ((atC s x.copy).place = 2 ∨ ((atC s x.copy).place = 3 ∧ (atC s x.copy).pat ≠ x.pat)) := by show ¬ (s.cps[ixC s x.copy]!.place = 2 ∨ (s.cps[ixC s x.copy]!.place = 3 ∧ s.cps[ixC s x.copy]!.pat ≠ x.pat)); rintro (z | ⟨z, _⟩) <;> omega
   refine WH.sk rfl rfl rfl hg3 (WH.sk rfl rfl rfl hg3 (WH.sk rfl rfl rfl hg3 (WH.sk rfl rfl rfl hg3 (WH.sk rfl rfl rfl hg3 (WH.sk rfl rfl rfl hg3 (WH.sk rfl rfl rfl hg3 ?_))))))
   refine WH.val (O.pick_f rfl (G.ne_t hg3) rfl rfl (Taken.yes rfl rfl hg2)) rfl rfl ?_
   refine WH.val (O.pick_f rfl hg2 rfl rfl Taken.no) rfl rfl ?_
   refine WH.val (O.assign rfl rfl Taken.no) rfl rfl ?_
   refine WH.nil (E.to ?_)
   refine W.pick (K:=[(0,_),(3,_),(4,_),(5,_),(18,_)]) (Z:=[(0,_),(1,_),(2,_),(101,_)]) ⟨rfl,rfl,rfl,rfl,rfl,trivial⟩ ⟨rfl,rfl,rfl,rfl,trivial⟩ ?_
   refine W.cond_f rfl ?_
   refine W.seq ?_
   refine W.draw [⟨[], [], [], [1]⟩, ⟨[], [], [], [1]⟩, ⟨[], [], [], [1]⟩, ⟨[1], [], [], []⟩, ⟨[], [], [], []⟩, ⟨[], [], [], []⟩, ⟨[], [], [], [0]⟩, ⟨[], [], [], [101]⟩, ⟨[101], [], [], []⟩, ⟨[], [], [], [1]⟩, ⟨[], [], [], [1]⟩, ⟨[], [], [], [1]⟩, ⟨[1], [], [], []⟩, ⟨[0, 1, 2], [0, 1, 2], [], []⟩, ⟨[], [], [], []⟩, ⟨[], [], [], []⟩] rfl (by kernel_rfl) (by kernel_rfl) rfl rfl ?_
   refine WH.mv rfl rfl rfl ?_
   refine WH.val (O.nilCheck rfl rfl rfl Taken.no) rfl rfl ?_
   refine WH.val (O.fld_el (o' := 3) rfl Try.underlying43 rfl (m := 0) (by kernel_rfl) rfl rfl Taken.no) rfl rfl ?_
   refine WH.val (O.ld1 (PtI.ofU (PtU.el rfl rfl (row_get (by omega)))) rfl Try.underlying3 rfl rfl Taken.no) rfl rfl ?_
   refine WH.val (O.det (fun _ => G.R.eql rfl rfl) rfl Taken.no) rfl rfl ?_
   refine WH.mv rfl rfl rfl ?_
   refine WH.case (j := 5) (g := 46) (want := true) rfl rfl (fun hg11 => ?_) (fun hg11 => ?_)
   ·skip
    first | have hg11p := G.gA1 hg11 | have hg11p := G.gA2 hg11 | have hg11p := hg11
    refine WH.val (O.move rfl rfl (Taken.yes rfl rfl hg11)) rfl rfl ?_
    refine WH.val (O.fld_ref (o' := 3) rfl Try.underlying34 rfl (m := 0) (by kernel_rfl) rfl rfl (Taken.yes rfl rfl hg11)) rfl rfl ?_
    refine WH.val (O.ld1 (PtI.ref rfl rfl) rfl Try.underlying3 rfl rfl (Taken.yes rfl rfl hg11)) rfl rfl ?_
    refine WH.val (O.move rfl rfl (Taken.yes rfl rfl hg11)) rfl rfl ?_
    refine WH.val (O.nilCheck rfl rfl rfl (Taken.yes rfl rfl hg11)) rfl rfl ?_
    refine WH.val (O.fld_el (o' := 1) rfl Try.underlying43 rfl (m := 0) (by kernel_rfl) rfl rfl (Taken.yes rfl rfl hg11)) rfl rfl ?_
    refine WH.val (O.ld1 (PtI.ofU (PtU.el rfl rfl (row_get (by omega)))) rfl Try.underlying3 rfl rfl (Taken.yes rfl rfl hg11)) rfl rfl ?_
    refine WH.memS (O.call (rn [(0, 0), (1, 1), (2, 2)]) [] rfl rfl rfl (owns_h (s := s) (p := x.pat) (wk := s.cps[ixC s x.copy]!.work)) (.cons (ArgOk.same rfl) (.cons (ArgOk.same rfl) (.cons (ArgOk.same rfl) .nil))) (SubS.cons rfl (SubS.cons rfl (SubS.cons rfl SubS.nil))) rfl rfl rfl rfl rfl (.inl rfl) hcallOk51 (r' := .u _) rfl rfl (Taken.yes rfl rfl hg11)) rfl rfl rfl rfl rfl (S' := (0, .cells _ [.u _, .own 1, .own 2]) :: (1, .data _ _ _) :: (2, .data _ _ _) :: _) rfl ?_
    refine WH.val (O.pick_t rfl hg11 rfl rfl Taken.no) rfl rfl ?_
    refine WH.val (O.assign rfl rfl Taken.no) rfl rfl ?_
    refine WH.nil (E.to ?_)
    first | refine W.cond_d rfl (fun hc12 => ?_) (fun hc12 => ?_) | refine W.cond_nd rfl (fun hc12 => ?_) (fun hc12 => ?_) | refine W.cond rfl (fun hc12 => ?_) (fun hc12 => ?_)
    ·skip
     have hbe : (atC s x.copy).place = 1 ∧ 0 ≤ ownI s x.pat (atC s x.copy).work := by show s.cps[ixC s x.copy]!.place = 1 ∧ 0 ≤ ownI s x.pat s.cps[ixC s x.copy]!.work; unfold ownI; first | simp_all | omega
     refine W.rg (SL.an rfl rfl (E.fo (W.ret ?_)))
     refine E.inr ?_
     refine E.thr ?_
     refine E.fin (rs := [_]) (rn [(3, 2), (4, 1)]) (.inl rfl) rfl (.cons (ResOne.tmp rfl) .nil) ?_ ?_ rfl (fixL_spec rfl)
     ·skip
      rw [(len_e10 (s := s) (x := x)  hb (fun z => z hx) hbb hbe).1]; rfl
     · exact (SubS.val rfl (by rw [(len_e10 (s := s) (x := x)  hb (fun z => z hx) hbb hbe).2] <;> rfl) (SubS.val rfl (by exact sb_data (by rw [(len_e10 (s := s) (x := x)  hb (fun z => z hx) hbb hbe).2] <;> rfl)) (SubS.val rfl (by exact sb_data (by rw [(len_e10 (s := s) (x := x)  hb (fun z => z hx) hbb hbe).2] <;> rfl)) SubS.nil)))
    have hbe : ¬ ((atC s x.copy).place = 1 ∧ 0 ≤ ownI s x.pat (atC s x.copy).work) := by show ¬ (s.cps[ixC s x.copy]!.place = 1 ∧ 0 ≤ ownI s x.pat s.cps[ixC s x.copy]!.work); unfold ownI; first | (rintro ⟨z1, z2⟩; first | omega | (simp_all; done) | (simp_all; omega)) | simp_all
    refine W.seq ?_
    refine W.draw [⟨[], [], [], [0]⟩, ⟨[], [], [], [0]⟩, ⟨[0], [], [], [1, 2]⟩, ⟨[], [], [], [101]⟩, ⟨[101], [], [], []⟩, ⟨[1, 2, 104], [104], [104], []⟩, ⟨[104], [], [], []⟩, ⟨[], [], [], []⟩, ⟨[], [], [], []⟩] rfl (by kernel_rfl) (by kernel_rfl) rfl rfl ?_
    refine WH.mv rfl rfl rfl ?_
    refine WH.val (O.nilCheck rfl rfl rfl Taken.no) rfl rfl ?_
    refine WH.val (O.ldN (m := 3) (PtI.ref rfl rfl) (js := [_, _, _]) rfl (Nat.le_of_ble_eq_true rfl) Try.underlying28 rfl (by kernel_rfl) rfl Taken.no) rfl rfl ?_
    refine WH.val (O.fld_ref (o' := 3) rfl Try.underlying34 rfl (m := 0) (by kernel_rfl) rfl rfl Taken.no) rfl rfl ?_
    refine WH.val (O.ld1 (PtI.ref rfl rfl) rfl Try.underlying3 rfl rfl Taken.no) rfl rfl ?_
    refine WH.memS (O.call (rn [(0, 104)]) [1, 2] rfl rfl rfl (loansO_h (s := s) (i := x.pat) (by omega)) (.cons (ArgOk.aggU (.cons (ArgOk.same rfl) (.cons (ArgOk.own rfl rfl) (.cons (ArgOk.own rfl rfl) .nil)))) (.cons (ArgOk.same rfl) .nil)) SubS.nil rfl rfl rfl rfl rfl (.inr ⟨rfl, fun x hx => by rw [List.mem_singleton] at hx; subst hx; exact flat_I _⟩) hcallOk52 (r' := .own 104) rfl rfl Taken.no) rfl rfl rfl rfl rfl (S' := (104, .data _ _ _) :: _) rfl ?_
    refine WH.val (O.lenE (SlOf.own rfl rfl) (by first | exact List.length_map _ | rfl) Try.underlying87 rfl Taken.no) rfl rfl ?_
    refine WH.val (O.det (fun _ => G.R.geq rfl rfl) rfl Taken.no) rfl rfl ?_
    refine WH.val (O.assign rfl rfl Taken.no) rfl rfl ?_
    refine WH.nil (E.to ?_)
    refine W.pick (K:=[(0,_),(3,_),(4,_),(5,_),(56,_)]) (Z:=[(0,_),(1,_),(2,_),(101,_),(104,_)]) ⟨rfl,rfl,rfl,rfl,rfl,trivial⟩ ⟨rfl,rfl,rfl,rfl,rfl,trivial⟩ ?_
    first | refine W.cond_d rfl (fun hc13 => ?_) (fun hc13 => ?_) | refine W.cond_nd rfl (fun hc13 => ?_) (fun hc13 => ?_) | refine W.cond rfl (fun hc13 => ?_) (fun hc13 => ?_)
    ·skip
     have hb5 : 5 ≤ (idsF (fun c => decide (c.place = 2 ∧ c.pat = x.pat)) s.cps).length := by omega
     refine W.rg (SL.an rfl rfl (E.fo (W.ret ?_)))
     refine E.inr ?_
     refine E.thr ?_
     refine E.fin (rs := [_]) (rn [(3, 2), (4, 1)]) (.inl rfl) rfl (.cons (ResOne.tmp rfl) .nil) ?_ ?_ rfl (fixL_spec rfl)
     ·skip
      rw [(len_e3 (s := s) (x := x)  hb (fun z => z hx) hbb hbe hb5).1]; rfl
     · exact (SubS.val rfl (by rw [(len_e3 (s := s) (x := x)  hb (fun z => z hx) hbb hbe hb5).2] <;> rfl) (SubS.val rfl (by exact sb_data (by rw [(len_e3 (s := s) (x := x)  hb (fun z => z hx) hbb hbe hb5).2] <;> rfl)) (SubS.val rfl (by exact sb_data (by rw [(len_e3 (s := s) (x := x)  hb (fun z => z hx) hbb hbe hb5).2] <;> rfl)) SubS.nil)))
    have hb5 : ¬ (5 ≤ (idsF (fun c => decide (c.place = 2 ∧ c.pat = x.pat)) s.cps).length) := by omega
    refine W.rg (SL.mv rfl rfl ?_)
    refine SL.val (O.nilCheck rfl rfl rfl Taken.no) ?_
    refine SL.val (O.fld_ref (o' := 0) rfl Try.underlying28 rfl (m := 0) (by kernel_rfl) rfl rfl Taken.no) ?_
    refine SL.val (O.ld1 (PtI.ref rfl rfl) rfl Try.underlying3 rfl rfl Taken.no) ?_
    refine SL.val (O.det (fun _ => by first | exact G.R.add64 rfl rfl (by omega) | exact G.R.add rfl rfl) rfl Taken.no) ?_
    refine SL.val (O.det (fun _ => G.R.gtr rfl rfl) rfl Taken.no) ?_
    refine SL.an rfl rfl (E.fo ?_)
    first | refine W.cond_d rfl (fun hc14 => ?_) (fun hc14 => ?_) | refine W.cond_nd rfl (fun hc14 => ?_) (fun hc14 => ?_) | refine W.cond rfl (fun hc14 => ?_) (fun hc14 => ?_)
    ·skip
     have hbd : 1000000 < s.now + 28 := by omega
     refine W.rg (SL.an rfl rfl (E.fo (W.ret ?_)))
     refine E.inr ?_
     refine E.thr ?_
     refine E.fin (rs := [_]) (rn [(3, 2), (4, 1)]) (.inl rfl) rfl (.cons (ResOne.tmp rfl) .nil) ?_ ?_ rfl (fixL_spec rfl)
     ·skip
      rw [(len_e25 (s := s) (x := x)  hb (fun z => z hx) hbb hbe hb5 hbd).1]; rfl
     · exact (SubS.val rfl (by rw [(len_e25 (s := s) (x := x)  hb (fun z => z hx) hbb hbe hb5 hbd).2] <;> rfl) (SubS.val rfl (by exact sb_data (by rw [(len_e25 (s := s) (x := x)  hb (fun z => z hx) hbb hbe hb5 hbd).2] <;> rfl)) (SubS.val rfl (by exact sb_data (by rw [(len_e25 (s := s) (x := x)  hb (fun z => z hx) hbb hbe hb5 hbd).2] <;> rfl)) SubS.nil)))
    have hbd : ¬ (1000000 < s.now + 28) := by omega
    refine W.skip (E.inn (E.to (W.seq ?_)))
    refine W.draw [⟨[], [], [], [1]⟩, ⟨[], [], [], [1]⟩, ⟨[], [], [], [1]⟩, ⟨[], [], [], [1]⟩, ⟨[], [], [], [1]⟩, ⟨[], [], [], [101]⟩, ⟨[101], [], [], []⟩, ⟨[], [], [], [0]⟩, ⟨[], [], [], [0]⟩, ⟨[], [], [], [0]⟩, ⟨[0], [], [], []⟩, ⟨[], [], [], []⟩, ⟨[], [], [], [1]⟩, ⟨[], [], [], [1]⟩, ⟨[1], [1], [], []⟩, ⟨[], [], [], [1]⟩, ⟨[], [], [], [1]⟩, ⟨[1], [1], [], []⟩, ⟨[], [], [], [1]⟩, ⟨[], [], [], [1]⟩, ⟨[1], [1], [], []⟩, ⟨[], [], [], [1]⟩, ⟨[], [], [], [1]⟩, ⟨[1], [1], [], []⟩, ⟨[], [], [], [1]⟩, ⟨[], [], [], [1]⟩, ⟨[1], [1], [], []⟩] rfl (by kernel_rfl) (by kernel_rfl) rfl rfl ?_
    refine WH.mv rfl rfl rfl (WH.mv rfl rfl rfl (WH.mv rfl rfl rfl (WH.mv rfl rfl rfl (WH.mv rfl rfl rfl ?_))))
    refine WH.val (O.fld_ref (o' := 3) rfl Try.underlying34 rfl (m := 0) (by kernel_rfl) rfl rfl Taken.no) rfl rfl ?_
    refine WH.val (O.ld1 (PtI.ref rfl rfl) rfl Try.underlying3 rfl rfl Taken.no) rfl rfl ?_
    refine WH.mv rfl rfl rfl ?_
    refine WH.val (O.nilCheck rfl rfl rfl Taken.no) rfl rfl ?_
    refine WH.val (O.fld_ref (o' := 0) rfl Try.underlying28 rfl (m := 0) (by kernel_rfl) rfl rfl Taken.no) rfl rfl ?_
    refine WH.val (O.ld1 (PtI.ref rfl rfl) rfl Try.underlying3 rfl rfl Taken.no) rfl rfl ?_
    refine WH.val (O.det (fun _ => by first | exact G.R.add64 rfl rfl (by omega) | exact G.R.add rfl rfl) rfl Taken.no) rfl rfl ?_
    refine WH.val (O.nilCheck rfl rfl rfl Taken.no) rfl rfl ?_
    refine WH.val (O.fld_el (o' := 3) rfl Try.underlying43 rfl (m := 0) (by kernel_rfl) rfl rfl Taken.no) rfl rfl ?_
    refine WH.effS (O.st_els (m := 1) rfl rfl rfl (us := [_]) rfl rfl (by kernel_rfl) (by simp) (row_get (by omega)) (by exact Nat.le_of_ble_eq_true rfl) rfl rfl (rows' := ((s.cps.map eCp).set (ixC s x.copy) [uI s.cps[ixC s x.copy]!.id, uI s.cps[ixC s x.copy]!.work, uT s.cps[ixC s x.copy]!.lib, uI 2, uI s.cps[ixC s x.copy]!.pat, uI s.cps[ixC s x.copy]!.due, uI s.cps[ixC s x.copy]!.hold, uB s.cps[ixC s x.copy]!.rc])) (by rfl) Taken.no) rfl rfl rfl (S' := (1, _) :: _) rfl ?_
    refine WH.val (O.nilCheck rfl rfl rfl Taken.no) rfl rfl ?_
    refine WH.val (O.fld_el (o' := 4) rfl Try.underlying43 rfl (m := 0) (by kernel_rfl) rfl rfl Taken.no) rfl rfl ?_
    refine WH.effS (O.st_els (m := 1) rfl rfl rfl (us := [_]) rfl rfl (by kernel_rfl) (by simp) (by rw [List.getElem?_set_self (by simp only [List.length_map]; omega)]) (by exact Nat.le_of_ble_eq_true rfl) rfl rfl (rows' := (((s.cps.map eCp).set (ixC s x.copy) [uI s.cps[ixC s x.copy]!.id, uI s.cps[ixC s x.copy]!.work, uT s.cps[ixC s x.copy]!.lib, uI 2, uI s.cps[ixC s x.copy]!.pat, uI s.cps[ixC s x.copy]!.due, uI s.cps[ixC s x.copy]!.hold, uB s.cps[ixC s x.copy]!.rc]).set (ixC s x.copy) [uI s.cps[ixC s x.copy]!.id, uI s.cps[ixC s x.copy]!.work, uT s.cps[ixC s x.copy]!.lib, uI 2, uI x.pat, uI s.cps[ixC s x.copy]!.due, uI s.cps[ixC s x.copy]!.hold, uB s.cps[ixC s x.copy]!.rc])) (by rfl) Taken.no) rfl rfl rfl (S' := (1, _) :: _) rfl ?_
    refine WH.val (O.nilCheck rfl rfl rfl Taken.no) rfl rfl ?_
    refine WH.val (O.fld_el (o' := 5) rfl Try.underlying43 rfl (m := 0) (by kernel_rfl) rfl rfl Taken.no) rfl rfl ?_
    refine WH.effS (O.st_els (m := 1) rfl rfl rfl (us := [_]) rfl rfl (by kernel_rfl) (by simp) (by rw [List.getElem?_set_self (by simp only [List.length_set, List.length_map]; omega)]) (by exact Nat.le_of_ble_eq_true rfl) rfl rfl (rows' := ((((s.cps.map eCp).set (ixC s x.copy) [uI s.cps[ixC s x.copy]!.id, uI s.cps[ixC s x.copy]!.work, uT s.cps[ixC s x.copy]!.lib, uI 2, uI s.cps[ixC s x.copy]!.pat, uI s.cps[ixC s x.copy]!.due, uI s.cps[ixC s x.copy]!.hold, uB s.cps[ixC s x.copy]!.rc]).set (ixC s x.copy) [uI s.cps[ixC s x.copy]!.id, uI s.cps[ixC s x.copy]!.work, uT s.cps[ixC s x.copy]!.lib, uI 2, uI x.pat, uI s.cps[ixC s x.copy]!.due, uI s.cps[ixC s x.copy]!.hold, uB s.cps[ixC s x.copy]!.rc]).set (ixC s x.copy) [uI s.cps[ixC s x.copy]!.id, uI s.cps[ixC s x.copy]!.work, uT s.cps[ixC s x.copy]!.lib, uI 2, uI x.pat, uI (s.now + 28), uI s.cps[ixC s x.copy]!.hold, uB s.cps[ixC s x.copy]!.rc])) (by rfl) Taken.no) rfl rfl rfl (S' := (1, _) :: _) rfl ?_
    refine WH.val (O.nilCheck rfl rfl rfl Taken.no) rfl rfl ?_
    refine WH.val (O.fld_el (o' := 6) rfl Try.underlying43 rfl (m := 0) (by kernel_rfl) rfl rfl Taken.no) rfl rfl ?_
    refine WH.effS (O.st_els (m := 1) rfl rfl rfl (us := [_]) rfl rfl (by kernel_rfl) (by simp) (by rw [List.getElem?_set_self (by simp only [List.length_set, List.length_map]; omega)]) (by exact Nat.le_of_ble_eq_true rfl) rfl rfl (rows' := (((((s.cps.map eCp).set (ixC s x.copy) [uI s.cps[ixC s x.copy]!.id, uI s.cps[ixC s x.copy]!.work, uT s.cps[ixC s x.copy]!.lib, uI 2, uI s.cps[ixC s x.copy]!.pat, uI s.cps[ixC s x.copy]!.due, uI s.cps[ixC s x.copy]!.hold, uB s.cps[ixC s x.copy]!.rc]).set (ixC s x.copy) [uI s.cps[ixC s x.copy]!.id, uI s.cps[ixC s x.copy]!.work, uT s.cps[ixC s x.copy]!.lib, uI 2, uI x.pat, uI s.cps[ixC s x.copy]!.due, uI s.cps[ixC s x.copy]!.hold, uB s.cps[ixC s x.copy]!.rc]).set (ixC s x.copy) [uI s.cps[ixC s x.copy]!.id, uI s.cps[ixC s x.copy]!.work, uT s.cps[ixC s x.copy]!.lib, uI 2, uI x.pat, uI (s.now + 28), uI s.cps[ixC s x.copy]!.hold, uB s.cps[ixC s x.copy]!.rc]).set (ixC s x.copy) [uI s.cps[ixC s x.copy]!.id, uI s.cps[ixC s x.copy]!.work, uT s.cps[ixC s x.copy]!.lib, uI 2, uI x.pat, uI (s.now + 28), uI 0, uB s.cps[ixC s x.copy]!.rc])) (by rfl) Taken.no) rfl rfl rfl (S' := (1, _) :: _) rfl ?_
    refine WH.val (O.nilCheck rfl rfl rfl Taken.no) rfl rfl ?_
    refine WH.val (O.fld_el (o' := 7) rfl Try.underlying43 rfl (m := 0) (by kernel_rfl) rfl rfl Taken.no) rfl rfl ?_
    refine WH.effS (O.st_els (m := 1) rfl rfl rfl (us := [_]) rfl rfl (by kernel_rfl) (by simp) (by rw [List.getElem?_set_self (by simp only [List.length_set, List.length_map]; omega)]) (by exact Nat.le_of_ble_eq_true rfl) rfl rfl (rows' := ((((((s.cps.map eCp).set (ixC s x.copy) [uI s.cps[ixC s x.copy]!.id, uI s.cps[ixC s x.copy]!.work, uT s.cps[ixC s x.copy]!.lib, uI 2, uI s.cps[ixC s x.copy]!.pat, uI s.cps[ixC s x.copy]!.due, uI s.cps[ixC s x.copy]!.hold, uB s.cps[ixC s x.copy]!.rc]).set (ixC s x.copy) [uI s.cps[ixC s x.copy]!.id, uI s.cps[ixC s x.copy]!.work, uT s.cps[ixC s x.copy]!.lib, uI 2, uI x.pat, uI s.cps[ixC s x.copy]!.due, uI s.cps[ixC s x.copy]!.hold, uB s.cps[ixC s x.copy]!.rc]).set (ixC s x.copy) [uI s.cps[ixC s x.copy]!.id, uI s.cps[ixC s x.copy]!.work, uT s.cps[ixC s x.copy]!.lib, uI 2, uI x.pat, uI (s.now + 28), uI s.cps[ixC s x.copy]!.hold, uB s.cps[ixC s x.copy]!.rc]).set (ixC s x.copy) [uI s.cps[ixC s x.copy]!.id, uI s.cps[ixC s x.copy]!.work, uT s.cps[ixC s x.copy]!.lib, uI 2, uI x.pat, uI (s.now + 28), uI 0, uB s.cps[ixC s x.copy]!.rc]).set (ixC s x.copy) [uI s.cps[ixC s x.copy]!.id, uI s.cps[ixC s x.copy]!.work, uT s.cps[ixC s x.copy]!.lib, uI 2, uI x.pat, uI (s.now + 28), uI 0, uB false])) (by rfl) Taken.no) rfl rfl rfl (S' := (1, _) :: _) rfl ?_
    refine WH.nil (E.to ?_)
    refine W.pick (K:=[(4,_)]) (Z:=[(0,_),(1,_),(2,_),(101,_),(104,_)]) ⟨rfl,trivial⟩ ⟨rfl,rfl,rfl,rfl,rfl,trivial⟩ ?_
    refine W.rg (SL.an rfl rfl (E.fo (W.ret ?_)))
    refine E.fin (rs := [_]) (rn [(3, 2), (4, 1)]) (.inl rfl) rfl (.cons (ResOne.tmp rfl) .nil) ?_ ?_ rfl (fixL_spec rfl)
    ·skip
     rw [(len_e0 (s := s) (x := x)  hb (fun z => z hx) hbb hbe hb5 hbd).1]; rfl
    · exact (SubS.val rfl (by rw [(len_e0 (s := s) (x := x)  hb (fun z => z hx) hbb hbe hb5 hbd).2] <;> rfl) (SubS.val rfl (by exact sb_data (by rw [(len_e0 (s := s) (x := x)  hb (fun z => z hx) hbb hbe hb5 hbd).2]; exact lt_fin)) (SubS.val rfl (by exact sb_data (by rw [(len_e0 (s := s) (x := x)  hb (fun z => z hx) hbb hbe hb5 hbd).2] <;> rfl)) SubS.nil)))
   first | have hg11p := G.gA5 hg11 | have hg11p := G.gA6 hg11 | have hg11p := hg11
   have hbe : ¬ ((atC s x.copy).place = 1 ∧ 0 ≤ ownI s x.pat (atC s x.copy).work) := fun z => absurd z.1 (by show ¬ s.cps[ixC s x.copy]!.place = 1; first | assumption | omega)
   refine WH.sk rfl rfl rfl hg11 (WH.sk rfl rfl rfl hg11 (WH.sk rfl rfl rfl hg11 (WH.sk rfl rfl rfl hg11 (WH.sk rfl rfl rfl hg11 (WH.sk rfl rfl rfl hg11 (WH.sk rfl rfl rfl hg11 (WH.sk rfl rfl rfl hg11 ?_)))))))
   refine WH.val (O.pick_f rfl (G.ne_t hg11) rfl rfl Taken.no) rfl rfl ?_
   refine WH.val (O.assign rfl rfl Taken.no) rfl rfl ?_
   refine WH.nil (E.to ?_)
   refine W.cond_f rfl ?_
   refine W.seq ?_
   refine W.draw [⟨[], [], [], [0]⟩, ⟨[], [], [], [0]⟩, ⟨[0], [], [], [1, 2]⟩, ⟨[], [], [], [101]⟩, ⟨[101], [], [], []⟩, ⟨[1, 2, 105], [105], [105], []⟩, ⟨[105], [], [], []⟩, ⟨[], [], [], []⟩, ⟨[], [], [], []⟩] rfl (by kernel_rfl) (by kernel_rfl) rfl rfl ?_
   refine WH.mv rfl rfl rfl ?_
   refine WH.val (O.nilCheck rfl rfl rfl Taken.no) rfl rfl ?_
   refine WH.val (O.ldN (m := 3) (PtI.ref rfl rfl) (js := [_, _, _]) rfl (Nat.le_of_ble_eq_true rfl) Try.underlying28 rfl (by kernel_rfl) rfl Taken.no) rfl rfl ?_
   refine WH.val (O.fld_ref (o' := 3) rfl Try.underlying34 rfl (m := 0) (by kernel_rfl) rfl rfl Taken.no) rfl rfl ?_
   refine WH.val (O.ld1 (PtI.ref rfl rfl) rfl Try.underlying3 rfl rfl Taken.no) rfl rfl ?_
   refine WH.memS (O.call (rn [(0, 105)]) [1, 2] rfl rfl rfl (loansO_h (s := s) (i := x.pat) (by omega)) (.cons (ArgOk.aggU (.cons (ArgOk.same rfl) (.cons (ArgOk.own rfl rfl) (.cons (ArgOk.own rfl rfl) .nil)))) (.cons (ArgOk.same rfl) .nil)) SubS.nil rfl rfl rfl rfl rfl (.inr ⟨rfl, fun x hx => by rw [List.mem_singleton] at hx; subst hx; exact flat_I _⟩) hcallOk52 (r' := .own 105) rfl rfl Taken.no) rfl rfl rfl rfl rfl (S' := (105, .data _ _ _) :: _) rfl ?_
   refine WH.val (O.lenE (SlOf.own rfl rfl) (by first | exact List.length_map _ | rfl) Try.underlying87 rfl Taken.no) rfl rfl ?_
   refine WH.val (O.det (fun _ => G.R.geq rfl rfl) rfl Taken.no) rfl rfl ?_
   refine WH.val (O.assign rfl rfl Taken.no) rfl rfl ?_
   refine WH.nil (E.to ?_)
   refine W.pick (K:=[(0,_),(3,_),(4,_),(5,_),(56,_)]) (Z:=[(0,_),(1,_),(2,_),(101,_),(105,_)]) ⟨rfl,rfl,rfl,rfl,rfl,trivial⟩ ⟨rfl,rfl,rfl,rfl,rfl,trivial⟩ ?_
   first | refine W.cond_d rfl (fun hc15 => ?_) (fun hc15 => ?_) | refine W.cond_nd rfl (fun hc15 => ?_) (fun hc15 => ?_) | refine W.cond rfl (fun hc15 => ?_) (fun hc15 => ?_)
   ·skip
    have hb5 : 5 ≤ (idsF (fun c => decide (c.place = 2 ∧ c.pat = x.pat)) s.cps).length := by omega
    refine W.rg (SL.an rfl rfl (E.fo (W.ret ?_)))
    refine E.inr ?_
    refine E.thr ?_
    refine E.fin (rs := [_]) (rn [(3, 2), (4, 1)]) (.inl rfl) rfl (.cons (ResOne.tmp rfl) .nil) ?_ ?_ rfl (fixL_spec rfl)
    ·skip
     rw [(len_e3 (s := s) (x := x)  hb (fun z => z hx) hbb hbe hb5).1]; rfl
    · exact (SubS.val rfl (by rw [(len_e3 (s := s) (x := x)  hb (fun z => z hx) hbb hbe hb5).2] <;> rfl) (SubS.val rfl (by exact sb_data (by rw [(len_e3 (s := s) (x := x)  hb (fun z => z hx) hbb hbe hb5).2] <;> rfl)) (SubS.val rfl (by exact sb_data (by rw [(len_e3 (s := s) (x := x)  hb (fun z => z hx) hbb hbe hb5).2] <;> rfl)) SubS.nil)))
   have hb5 : ¬ (5 ≤ (idsF (fun c => decide (c.place = 2 ∧ c.pat = x.pat)) s.cps).length) := by omega
   refine W.rg (SL.mv rfl rfl ?_)
   refine SL.val (O.nilCheck rfl rfl rfl Taken.no) ?_
   refine SL.val (O.fld_ref (o' := 0) rfl Try.underlying28 rfl (m := 0) (by kernel_rfl) rfl rfl Taken.no) ?_
   refine SL.val (O.ld1 (PtI.ref rfl rfl) rfl Try.underlying3 rfl rfl Taken.no) ?_
   refine SL.val (O.det (fun _ => by first | exact G.R.add64 rfl rfl (by omega) | exact G.R.add rfl rfl) rfl Taken.no) ?_
   refine SL.val (O.det (fun _ => G.R.gtr rfl rfl) rfl Taken.no) ?_
   refine SL.an rfl rfl (E.fo ?_)
   first | refine W.cond_d rfl (fun hc16 => ?_) (fun hc16 => ?_) | refine W.cond_nd rfl (fun hc16 => ?_) (fun hc16 => ?_) | refine W.cond rfl (fun hc16 => ?_) (fun hc16 => ?_)
   ·skip
    have hbd : 1000000 < s.now + 28 := by omega
    refine W.rg (SL.an rfl rfl (E.fo (W.ret ?_)))
    refine E.inr ?_
    refine E.thr ?_
    refine E.fin (rs := [_]) (rn [(3, 2), (4, 1)]) (.inl rfl) rfl (.cons (ResOne.tmp rfl) .nil) ?_ ?_ rfl (fixL_spec rfl)
    ·skip
     rw [(len_e25 (s := s) (x := x)  hb (fun z => z hx) hbb hbe hb5 hbd).1]; rfl
    · exact (SubS.val rfl (by rw [(len_e25 (s := s) (x := x)  hb (fun z => z hx) hbb hbe hb5 hbd).2] <;> rfl) (SubS.val rfl (by exact sb_data (by rw [(len_e25 (s := s) (x := x)  hb (fun z => z hx) hbb hbe hb5 hbd).2] <;> rfl)) (SubS.val rfl (by exact sb_data (by rw [(len_e25 (s := s) (x := x)  hb (fun z => z hx) hbb hbe hb5 hbd).2] <;> rfl)) SubS.nil)))
   have hbd : ¬ (1000000 < s.now + 28) := by omega
   refine W.skip (E.inn (E.to (W.seq ?_)))
   refine W.draw [⟨[], [], [], [1]⟩, ⟨[], [], [], [1]⟩, ⟨[], [], [], [1]⟩, ⟨[], [], [], [1]⟩, ⟨[], [], [], [1]⟩, ⟨[], [], [], [101]⟩, ⟨[101], [], [], []⟩, ⟨[], [], [], [0]⟩, ⟨[], [], [], [0]⟩, ⟨[], [], [], [0]⟩, ⟨[0], [], [], []⟩, ⟨[], [], [], []⟩, ⟨[], [], [], [1]⟩, ⟨[], [], [], [1]⟩, ⟨[1], [1], [], []⟩, ⟨[], [], [], [1]⟩, ⟨[], [], [], [1]⟩, ⟨[1], [1], [], []⟩, ⟨[], [], [], [1]⟩, ⟨[], [], [], [1]⟩, ⟨[1], [1], [], []⟩, ⟨[], [], [], [1]⟩, ⟨[], [], [], [1]⟩, ⟨[1], [1], [], []⟩, ⟨[], [], [], [1]⟩, ⟨[], [], [], [1]⟩, ⟨[1], [1], [], []⟩] rfl (by kernel_rfl) (by kernel_rfl) rfl rfl ?_
   refine WH.mv rfl rfl rfl (WH.mv rfl rfl rfl (WH.mv rfl rfl rfl (WH.mv rfl rfl rfl (WH.mv rfl rfl rfl ?_))))
   refine WH.val (O.fld_ref (o' := 3) rfl Try.underlying34 rfl (m := 0) (by kernel_rfl) rfl rfl Taken.no) rfl rfl ?_
   refine WH.val (O.ld1 (PtI.ref rfl rfl) rfl Try.underlying3 rfl rfl Taken.no) rfl rfl ?_
   refine WH.mv rfl rfl rfl ?_
   refine WH.val (O.nilCheck rfl rfl rfl Taken.no) rfl rfl ?_
   refine WH.val (O.fld_ref (o' := 0) rfl Try.underlying28 rfl (m := 0) (by kernel_rfl) rfl rfl Taken.no) rfl rfl ?_
   refine WH.val (O.ld1 (PtI.ref rfl rfl) rfl Try.underlying3 rfl rfl Taken.no) rfl rfl ?_
   refine WH.val (O.det (fun _ => by first | exact G.R.add64 rfl rfl (by omega) | exact G.R.add rfl rfl) rfl Taken.no) rfl rfl ?_
   refine WH.val (O.nilCheck rfl rfl rfl Taken.no) rfl rfl ?_
   refine WH.val (O.fld_el (o' := 3) rfl Try.underlying43 rfl (m := 0) (by kernel_rfl) rfl rfl Taken.no) rfl rfl ?_
   refine WH.effS (O.st_els (m := 1) rfl rfl rfl (us := [_]) rfl rfl (by kernel_rfl) (by simp) (row_get (by omega)) (by exact Nat.le_of_ble_eq_true rfl) rfl rfl (rows' := ((s.cps.map eCp).set (ixC s x.copy) [uI s.cps[ixC s x.copy]!.id, uI s.cps[ixC s x.copy]!.work, uT s.cps[ixC s x.copy]!.lib, uI 2, uI s.cps[ixC s x.copy]!.pat, uI s.cps[ixC s x.copy]!.due, uI s.cps[ixC s x.copy]!.hold, uB s.cps[ixC s x.copy]!.rc])) (by rfl) Taken.no) rfl rfl rfl (S' := (1, _) :: _) rfl ?_
   refine WH.val (O.nilCheck rfl rfl rfl Taken.no) rfl rfl ?_
   refine WH.val (O.fld_el (o' := 4) rfl Try.underlying43 rfl (m := 0) (by kernel_rfl) rfl rfl Taken.no) rfl rfl ?_
   refine WH.effS (O.st_els (m := 1) rfl rfl rfl (us := [_]) rfl rfl (by kernel_rfl) (by simp) (by rw [List.getElem?_set_self (by simp only [List.length_map]; omega)]) (by exact Nat.le_of_ble_eq_true rfl) rfl rfl (rows' := (((s.cps.map eCp).set (ixC s x.copy) [uI s.cps[ixC s x.copy]!.id, uI s.cps[ixC s x.copy]!.work, uT s.cps[ixC s x.copy]!.lib, uI 2, uI s.cps[ixC s x.copy]!.pat, uI s.cps[ixC s x.copy]!.due, uI s.cps[ixC s x.copy]!.hold, uB s.cps[ixC s x.copy]!.rc]).set (ixC s x.copy) [uI s.cps[ixC s x.copy]!.id, uI s.cps[ixC s x.copy]!.work, uT s.cps[ixC s x.copy]!.lib, uI 2, uI x.pat, uI s.cps[ixC s x.copy]!.due, uI s.cps[ixC s x.copy]!.hold, uB s.cps[ixC s x.copy]!.rc])) (by rfl) Taken.no) rfl rfl rfl (S' := (1, _) :: _) rfl ?_
   refine WH.val (O.nilCheck rfl rfl rfl Taken.no) rfl rfl ?_
   refine WH.val (O.fld_el (o' := 5) rfl Try.underlying43 rfl (m := 0) (by kernel_rfl) rfl rfl Taken.no) rfl rfl ?_
   refine WH.effS (O.st_els (m := 1) rfl rfl rfl (us := [_]) rfl rfl (by kernel_rfl) (by simp) (by rw [List.getElem?_set_self (by simp only [List.length_set, List.length_map]; omega)]) (by exact Nat.le_of_ble_eq_true rfl) rfl rfl (rows' := ((((s.cps.map eCp).set (ixC s x.copy) [uI s.cps[ixC s x.copy]!.id, uI s.cps[ixC s x.copy]!.work, uT s.cps[ixC s x.copy]!.lib, uI 2, uI s.cps[ixC s x.copy]!.pat, uI s.cps[ixC s x.copy]!.due, uI s.cps[ixC s x.copy]!.hold, uB s.cps[ixC s x.copy]!.rc]).set (ixC s x.copy) [uI s.cps[ixC s x.copy]!.id, uI s.cps[ixC s x.copy]!.work, uT s.cps[ixC s x.copy]!.lib, uI 2, uI x.pat, uI s.cps[ixC s x.copy]!.due, uI s.cps[ixC s x.copy]!.hold, uB s.cps[ixC s x.copy]!.rc]).set (ixC s x.copy) [uI s.cps[ixC s x.copy]!.id, uI s.cps[ixC s x.copy]!.work, uT s.cps[ixC s x.copy]!.lib, uI 2, uI x.pat, uI (s.now + 28), uI s.cps[ixC s x.copy]!.hold, uB s.cps[ixC s x.copy]!.rc])) (by rfl) Taken.no) rfl rfl rfl (S' := (1, _) :: _) rfl ?_
   refine WH.val (O.nilCheck rfl rfl rfl Taken.no) rfl rfl ?_
   refine WH.val (O.fld_el (o' := 6) rfl Try.underlying43 rfl (m := 0) (by kernel_rfl) rfl rfl Taken.no) rfl rfl ?_
   refine WH.effS (O.st_els (m := 1) rfl rfl rfl (us := [_]) rfl rfl (by kernel_rfl) (by simp) (by rw [List.getElem?_set_self (by simp only [List.length_set, List.length_map]; omega)]) (by exact Nat.le_of_ble_eq_true rfl) rfl rfl (rows' := (((((s.cps.map eCp).set (ixC s x.copy) [uI s.cps[ixC s x.copy]!.id, uI s.cps[ixC s x.copy]!.work, uT s.cps[ixC s x.copy]!.lib, uI 2, uI s.cps[ixC s x.copy]!.pat, uI s.cps[ixC s x.copy]!.due, uI s.cps[ixC s x.copy]!.hold, uB s.cps[ixC s x.copy]!.rc]).set (ixC s x.copy) [uI s.cps[ixC s x.copy]!.id, uI s.cps[ixC s x.copy]!.work, uT s.cps[ixC s x.copy]!.lib, uI 2, uI x.pat, uI s.cps[ixC s x.copy]!.due, uI s.cps[ixC s x.copy]!.hold, uB s.cps[ixC s x.copy]!.rc]).set (ixC s x.copy) [uI s.cps[ixC s x.copy]!.id, uI s.cps[ixC s x.copy]!.work, uT s.cps[ixC s x.copy]!.lib, uI 2, uI x.pat, uI (s.now + 28), uI s.cps[ixC s x.copy]!.hold, uB s.cps[ixC s x.copy]!.rc]).set (ixC s x.copy) [uI s.cps[ixC s x.copy]!.id, uI s.cps[ixC s x.copy]!.work, uT s.cps[ixC s x.copy]!.lib, uI 2, uI x.pat, uI (s.now + 28), uI 0, uB s.cps[ixC s x.copy]!.rc])) (by rfl) Taken.no) rfl rfl rfl (S' := (1, _) :: _) rfl ?_
   refine WH.val (O.nilCheck rfl rfl rfl Taken.no) rfl rfl ?_
   refine WH.val (O.fld_el (o' := 7) rfl Try.underlying43 rfl (m := 0) (by kernel_rfl) rfl rfl Taken.no) rfl rfl ?_
   refine WH.effS (O.st_els (m := 1) rfl rfl rfl (us := [_]) rfl rfl (by kernel_rfl) (by simp) (by rw [List.getElem?_set_self (by simp only [List.length_set, List.length_map]; omega)]) (by exact Nat.le_of_ble_eq_true rfl) rfl rfl (rows' := ((((((s.cps.map eCp).set (ixC s x.copy) [uI s.cps[ixC s x.copy]!.id, uI s.cps[ixC s x.copy]!.work, uT s.cps[ixC s x.copy]!.lib, uI 2, uI s.cps[ixC s x.copy]!.pat, uI s.cps[ixC s x.copy]!.due, uI s.cps[ixC s x.copy]!.hold, uB s.cps[ixC s x.copy]!.rc]).set (ixC s x.copy) [uI s.cps[ixC s x.copy]!.id, uI s.cps[ixC s x.copy]!.work, uT s.cps[ixC s x.copy]!.lib, uI 2, uI x.pat, uI s.cps[ixC s x.copy]!.due, uI s.cps[ixC s x.copy]!.hold, uB s.cps[ixC s x.copy]!.rc]).set (ixC s x.copy) [uI s.cps[ixC s x.copy]!.id, uI s.cps[ixC s x.copy]!.work, uT s.cps[ixC s x.copy]!.lib, uI 2, uI x.pat, uI (s.now + 28), uI s.cps[ixC s x.copy]!.hold, uB s.cps[ixC s x.copy]!.rc]).set (ixC s x.copy) [uI s.cps[ixC s x.copy]!.id, uI s.cps[ixC s x.copy]!.work, uT s.cps[ixC s x.copy]!.lib, uI 2, uI x.pat, uI (s.now + 28), uI 0, uB s.cps[ixC s x.copy]!.rc]).set (ixC s x.copy) [uI s.cps[ixC s x.copy]!.id, uI s.cps[ixC s x.copy]!.work, uT s.cps[ixC s x.copy]!.lib, uI 2, uI x.pat, uI (s.now + 28), uI 0, uB false])) (by rfl) Taken.no) rfl rfl rfl (S' := (1, _) :: _) rfl ?_
   refine WH.nil (E.to ?_)
   refine W.pick (K:=[(4,_)]) (Z:=[(0,_),(1,_),(2,_),(101,_),(105,_)]) ⟨rfl,trivial⟩ ⟨rfl,rfl,rfl,rfl,rfl,trivial⟩ ?_
   refine W.rg (SL.an rfl rfl (E.fo (W.ret ?_)))
   refine E.fin (rs := [_]) (rn [(3, 2), (4, 1)]) (.inl rfl) rfl (.cons (ResOne.tmp rfl) .nil) ?_ ?_ rfl (fixL_spec rfl)
   ·skip
    rw [(len_e0 (s := s) (x := x)  hb (fun z => z hx) hbb hbe hb5 hbd).1]; rfl
   · exact (SubS.val rfl (by rw [(len_e0 (s := s) (x := x)  hb (fun z => z hx) hbb hbe hb5 hbd).2] <;> rfl) (SubS.val rfl (by exact sb_data (by rw [(len_e0 (s := s) (x := x)  hb (fun z => z hx) hbb hbe hb5 hbd).2]; exact lt_fin)) (SubS.val rfl (by exact sb_data (by rw [(len_e0 (s := s) (x := x)  hb (fun z => z hx) hbb hbe hb5 hbd).2] <;> rfl)) SubS.nil)))
  first | have hg2p := G.gA7 hg2 | have hg2p := G.gA8 hg2 | have hg2p := hg2
  have hbb : (atC s x.copy).place = 2 ∨ ((atC s x.copy).place = 3 ∧ (atC s x.copy).pat ≠ x.pat) := .inl (by show s.cps[ixC s x.copy]!.place = 2; first | assumption | omega)
  refine WH.sk rfl rfl rfl hg2 (WH.sk rfl rfl rfl hg2 (WH.sk rfl rfl rfl hg2 (WH.sk rfl rfl rfl hg2 (WH.sk rfl rfl rfl hg2 (WH.sk rfl rfl rfl hg2 ?_)))))
  refine WH.skip (OpOk.not2 rfl rfl rfl) ?_
  refine WH.skip (OpOk.not2 rfl rfl rfl) ?_
  refine WH.skip (OpOk.not2 rfl rfl rfl) ?_
  refine WH.skip (OpOk.not2 rfl rfl rfl) ?_
  refine WH.skip (OpOk.not2 rfl rfl rfl) ?_
  refine WH.skip (OpOk.not2 rfl rfl rfl) ?_
  refine WH.skip (OpOk.not2 rfl rfl rfl) ?_
  refine WH.sk rfl rfl rfl hg2 ?_
  refine WH.val (O.pick_t rfl (G.ne_f hg2) rfl rfl Taken.no) rfl rfl ?_
  refine WH.val (O.assign rfl rfl Taken.no) rfl rfl ?_
  refine WH.nil (E.to ?_)
  refine W.pick (K:=[(0,_),(3,_),(4,_),(5,_),(18,_)]) (Z:=[(0,_),(1,_),(2,_),(101,_)]) ⟨rfl,rfl,rfl,rfl,rfl,trivial⟩ ⟨rfl,rfl,rfl,rfl,trivial⟩ ?_
  refine W.cond_t rfl ?_
  refine W.rg (SL.an rfl rfl (E.fo (W.ret ?_)))
  refine E.inr ?_
  refine E.thr ?_
  refine E.fin (rs := [_]) (rn [(3, 2), (4, 1)]) (.inl rfl) rfl (.cons (ResOne.tmp rfl) .nil) ?_ ?_ rfl (fixL_spec rfl)
  ·skip
   rw [(len_e26 (s := s) (x := x)  hb (fun z => z hx) hbb).1]; rfl
  · exact (SubS.val rfl (by rw [(len_e26 (s := s) (x := x)  hb (fun z => z hx) hbb).2] <;> rfl) (SubS.val rfl (by exact sb_data (by rw [(len_e26 (s := s) (x := x)  hb (fun z => z hx) hbb).2] <;> rfl)) (SubS.val rfl (by exact sb_data (by rw [(len_e26 (s := s) (x := x)  hb (fun z => z hx) hbb).2] <;> rfl)) SubS.nil)))
 refine W.region (SL.mv rfl rfl ?_)
 refine SL.val (O.fld_ref (o' := 1) rfl Try.underlying34 rfl (m := 0) (by kernel_rfl) rfl rfl Taken.no) ?_
 refine SL.val (O.ld1 (PtI.ref rfl rfl) rfl Try.underlying3 rfl rfl Taken.no) ?_
 refine SL.memS (O.call (rn [(0, 0), (1, 1), (2, 2)]) [] rfl rfl rfl (copy_n (by omega) hx) (.cons (ArgOk.same rfl) (.cons (ArgOk.same rfl) .nil)) (SubS.cons rfl (SubS.cons rfl (SubS.cons rfl SubS.nil))) rfl rfl rfl rfl rfl (.inl rfl) hcallOk44 (r' := .u _) rfl rfl Taken.no) rfl rfl (S' := (0, .cells _ [.u _, .own 1, .own 2]) :: (1, .data _ _ _) :: (2, .data _ _ _) :: _) rfl ?_
 refine SL.an rfl rfl (E.fo (W.seq (W.block (W.rg ?_))))
 refine SL.val (O.fld_ref (o' := 3) rfl Try.underlying34 rfl (m := 0) (by kernel_rfl) rfl rfl Taken.no) ?_
 refine SL.val (O.ld1 (PtI.ref rfl rfl) rfl Try.underlying3 rfl rfl Taken.no) ?_
 refine SL.val (O.callp rfl rfl rfl (id_h) (.cons (ArgOk.same rfl) .nil) hcallOk42 rfl Taken.no) ?_
 refine SL.val (O.det (fun _ => G.R.not rfl) rfl Taken.no) ?_
 refine SL.an rfl rfl (E.fo ?_)
 first | refine W.cond_d rfl (fun hc17 => ?_) (fun hc17 => ?_) | refine W.cond_nd rfl (fun hc17 => ?_) (fun hc17 => ?_) | refine W.cond rfl (fun hc17 => ?_) (fun hc17 => ?_)
 ·skip
  have hb : ¬ idB x.pat := by first | assumption | simp_all
  refine W.rg (SL.an rfl rfl (E.fo (W.ret ?_)))
  refine E.inr ?_
  refine E.thr ?_
  refine E.fin (rs := [_]) (rn [(3, 2), (4, 1)]) (.inl rfl) rfl (.cons (ResOne.tmp rfl) .nil) ?_ ?_ rfl (fixL_spec rfl)
  ·skip
   rw [(len_e2 (s := s) (x := x)  hb).1]; rfl
  · exact (SubS.val rfl (by rw [(len_e2 (s := s) (x := x)  hb).2] <;> rfl) (SubS.val rfl (by exact sb_data (by rw [(len_e2 (s := s) (x := x)  hb).2] <;> rfl)) (SubS.val rfl (by exact sb_data (by rw [(len_e2 (s := s) (x := x)  hb).2] <;> rfl)) SubS.nil)))
 have hb : ¬ (¬ idB x.pat) := by first | assumption | simp_all
 refine W.rg (SL.mv rfl rfl ?_)
 refine SL.val (O.det (fun _ => G.R.ptrnil (p := none) rfl rfl (by kernel_rfl)) rfl Taken.no) ?_
 refine SL.an rfl rfl (E.fo ?_)
 refine W.cond_t rfl ?_
 refine W.rg (SL.an rfl rfl (E.fo (W.ret ?_)))
 refine E.inr ?_
 refine E.thr ?_
 refine E.fin (rs := [_]) (rn [(3, 2), (4, 1)]) (.inl rfl) rfl (.cons (ResOne.tmp rfl) .nil) ?_ ?_ rfl (fixL_spec rfl)
 ·skip
  rw [(len_e9 (s := s) (x := x)  hb hx).1]; rfl
 · exact (SubS.val rfl (by rw [(len_e9 (s := s) (x := x)  hb hx).2] <;> rfl) (SubS.val rfl (by exact sb_data (by rw [(len_e9 (s := s) (x := x)  hb hx).2] <;> rfl)) (SubS.val rfl (by exact sb_data (by rw [(len_e9 (s := s) (x := x)  hb hx).2] <;> rfl)) SubS.nil)))

set_option maxRecDepth 8000 in
theorem renew_m {s : St} {x : Sp} (hv : validS s) :
    Con Try.prog 23 [.ref 0 0, vA (eSp x)] [(0, .cells 28 [.u (uI s.now), .own 1, .own 2]), (1, .data 43 8 ((s.cps).map eCp)), (2, .data 51 2 ((s.lns).map eLn))] (vI (renE s x)) [(0, .cells 28 [.u (uI (renS s x).now), .own 4, .own 3]), (4, .data 43 8 (((renS s x).cps).map eCp)), (3, .data 51 2 (((renS s x).lns).map eLn))] := by
 have hn := hv.1
 unfold inB at hn
 have hcl := hv.2.1
 have hok := valid_ok hv
 have hid := valid_asc hv
 refine Con.enterL (n := 51) Try.func23 rfl rfl rfl (fun τ w ok vs hin => ?_)
 clear hin
 refine W.rg ?_
 refine SL.memS (O.box (is := [_, _, _, _, _, _, _, _]) 101 rfl rfl (by simp) rfl rfl Taken.no) rfl rfl (S' := (101, _) :: _) rfl ?_
 refine SL.an rfl rfl (E.fo (W.seq ?_))
 by_cases hx : 0 ≤ cpI s x.copy
 ·skip
  have hix : ixC s x.copy < s.cps.length := (idxF_lt hx).1
  refine W.region (SL.mv rfl rfl ?_)
  refine SL.val (O.fld_ref (o' := 1) rfl Try.underlying34 rfl (m := 0) (by kernel_rfl) rfl rfl Taken.no) ?_
  refine SL.val (O.ld1 (PtI.ref rfl rfl) rfl Try.underlying3 rfl rfl Taken.no) ?_
  refine SL.memS (O.call (rn [(0, 0), (1, 1), (2, 2)]) [] rfl rfl rfl (copy_y (by omega) hx) (.cons (ArgOk.same rfl) (.cons (ArgOk.same rfl) .nil)) (SubS.cons rfl (SubS.cons rfl (SubS.cons rfl SubS.nil))) rfl rfl rfl rfl rfl (.inl rfl) hcallOk44 (r' := .el 1 _ _ 0) rfl rfl Taken.no) rfl rfl (S' := (0, .cells _ [.u _, .own 1, .own 2]) :: (1, .data _ _ _) :: (2, .data _ _ _) :: _) rfl ?_
  refine SL.an rfl rfl (E.fo (W.seq (W.block (W.rg (SL.mv rfl rfl ?_)))))
  refine SL.val (O.ptrnil (.inr (.inr ⟨_, _, _, _, rfl⟩)) rfl (by kernel_rfl) rfl Taken.no) ?_
  refine SL.an rfl rfl (E.fo ?_)
  refine W.cond_f rfl ?_
  refine W.rg (SL.mv rfl rfl ?_)
  refine SL.val (O.nilCheck rfl rfl rfl Taken.no) ?_
  refine SL.val (O.fld_el (o' := 3) rfl Try.underlying43 rfl (m := 0) (by kernel_rfl) rfl rfl Taken.no) ?_
  refine SL.val (O.ld1 (PtI.ofU (PtU.el rfl rfl (row_get (by omega)))) rfl Try.underlying3 rfl rfl Taken.no) ?_
  refine SL.val (O.det (fun _ => G.R.neq rfl rfl) rfl Taken.no) ?_
  refine SL.an rfl rfl (E.fo ?_)
  first | refine W.cond_d rfl (fun hc1 => ?_) (fun hc1 => ?_) | refine W.cond_nd rfl (fun hc1 => ?_) (fun hc1 => ?_) | refine W.cond rfl (fun hc1 => ?_) (fun hc1 => ?_)
  ·skip
   have hp : (atC s x.copy).place ≠ 2 := by show s.cps[ixC s x.copy]!.place ≠ 2; first | assumption | omega
   refine W.rg (SL.an rfl rfl (E.fo (W.ret ?_)))
   refine E.inr ?_
   refine E.thr ?_
   refine E.fin (rs := [_]) (rn [(3, 2), (4, 1)]) (.inl rfl) rfl (.cons (ResOne.tmp rfl) .nil) ?_ ?_ rfl (fixL_spec rfl)
   ·skip
    rw [(ren_e11 (s := s) (x := x)  (fun z => z hx) hp).1]; rfl
   · exact (SubS.val rfl (by rw [(ren_e11 (s := s) (x := x)  (fun z => z hx) hp).2] <;> rfl) (SubS.val rfl (by exact sb_data (by rw [(ren_e11 (s := s) (x := x)  (fun z => z hx) hp).2] <;> rfl)) (SubS.val rfl (by exact sb_data (by rw [(ren_e11 (s := s) (x := x)  (fun z => z hx) hp).2] <;> rfl)) SubS.nil)))
  have hp : (atC s x.copy).place = 2 := by show s.cps[ixC s x.copy]!.place = 2; first | assumption | omega
  refine W.seq ?_
  refine W.draw [⟨[], [], [], [1]⟩, ⟨[], [], [], [1]⟩, ⟨[], [], [], [1]⟩, ⟨[1], [], [], []⟩, ⟨[], [], [], []⟩, ⟨[], [], [], [0]⟩, ⟨[], [], [], [0]⟩, ⟨[0], [], [], [1, 2]⟩, ⟨[], [], [], [1]⟩, ⟨[], [], [], [1]⟩, ⟨[], [], [], [1]⟩, ⟨[1], [], [], []⟩, ⟨[1, 2, 102], [102], [102], []⟩, ⟨[102], [], [], []⟩, ⟨[], [], [], []⟩, ⟨[], [], [], []⟩, ⟨[], [], [], []⟩] rfl (by kernel_rfl) (by kernel_rfl) rfl rfl ?_
  refine WH.mv rfl rfl rfl ?_
  refine WH.val (O.nilCheck rfl rfl rfl Taken.no) rfl rfl ?_
  refine WH.val (O.fld_el (o' := 7) rfl Try.underlying43 rfl (m := 0) (by kernel_rfl) rfl rfl Taken.no) rfl rfl ?_
  refine WH.val (O.ld1 (PtI.ofU (PtU.el rfl rfl (row_get (by omega)))) rfl Try.underlying4 rfl rfl Taken.no) rfl rfl ?_
  refine WH.mv rfl rfl rfl ?_
  refine WH.case (j := 4) (g := 24) (want := false) rfl rfl (fun hg2 => ?_) (fun hg2 => ?_)
  ·skip
   first | have hg2p := G.gA3 hg2 | have hg2p := G.gA4 hg2 | have hg2p := hg2
   have hq60 := queS_len hok s.cps[ixC s x.copy]!.work
   refine WH.val (O.move rfl rfl (Taken.yes rfl rfl hg2)) rfl rfl ?_
   refine WH.val (O.nilCheck rfl rfl rfl (Taken.yes rfl rfl hg2)) rfl rfl ?_
   refine WH.val (O.ldN (m := 3) (PtI.ref rfl rfl) (js := [_, _, _]) rfl (Nat.le_of_ble_eq_true rfl) Try.underlying28 rfl (by kernel_rfl) rfl (Taken.yes rfl rfl hg2)) rfl rfl ?_
   refine WH.val (O.move rfl rfl (Taken.yes rfl rfl hg2)) rfl rfl ?_
   refine WH.val (O.nilCheck rfl rfl rfl (Taken.yes rfl rfl hg2)) rfl rfl ?_
   refine WH.val (O.fld_el (o' := 1) rfl Try.underlying43 rfl (m := 0) (by kernel_rfl) rfl rfl (Taken.yes rfl rfl hg2)) rfl rfl ?_
   refine WH.val (O.ld1 (PtI.ofU (PtU.el rfl rfl (row_get (by omega)))) rfl Try.underlying3 rfl rfl (Taken.yes rfl rfl hg2)) rfl rfl ?_
   refine WH.memS (O.call (rn [(0, 102)]) [1, 2] rfl rfl rfl (queueO_h (s := s) (i := s.cps[ixC s x.copy]!.work) (fun l hl => by have := hok.2.2 l hl; omega)) (.cons (ArgOk.aggU (.cons (ArgOk.same rfl) (.cons (ArgOk.own rfl rfl) (.cons (ArgOk.own rfl rfl) .nil)))) (.cons (ArgOk.same rfl) .nil)) SubS.nil rfl rfl rfl rfl rfl (.inr ⟨rfl, fun x hx => by rw [List.mem_singleton] at hx; subst hx; exact flat_H _⟩) hcallOk12 (r' := .own 102) rfl rfl (Taken.yes rfl rfl hg2)) rfl rfl rfl rfl rfl (S' := (102, .data _ _ _) :: _) rfl ?_
   refine WH.val (O.lenE (SlOf.own rfl rfl) (by first | exact List.length_map _ | rfl) Try.underlying40 rfl (Taken.yes rfl rfl hg2)) rfl rfl ?_
   refine WH.val (O.det (fun _ => G.R.gtr rfl rfl) rfl (Taken.yes rfl rfl hg2)) rfl rfl ?_
   refine WH.val (O.pick_f rfl hg2 rfl rfl Taken.no) rfl rfl ?_
   refine WH.val (O.assign rfl rfl Taken.no) rfl rfl ?_
   refine WH.nil (E.to ?_)
   refine W.pick (K:=[(0,_),(4,_),(5,_),(19,_)]) (Z:=[(0,_),(1,_),(2,_),(101,_),(102,_)]) ⟨rfl,rfl,rfl,rfl,trivial⟩ ⟨rfl,rfl,rfl,rfl,rfl,trivial⟩ ?_
   first | refine W.cond_d rfl (fun hc3 => ?_) (fun hc3 => ?_) | refine W.cond_nd rfl (fun hc3 => ?_) (fun hc3 => ?_) | refine W.cond rfl (fun hc3 => ?_) (fun hc3 => ?_)
   ·skip
    have hbq : (atC s x.copy).rc = true ∨ 0 < (queS s (atC s x.copy).work).length := by show s.cps[ixC s x.copy]!.rc = true ∨ 0 < (queS s s.cps[ixC s x.copy]!.work).length; first | (left; assumption) | (right; omega) | simp_all
    refine W.rg (SL.an rfl rfl (E.fo (W.ret ?_)))
    refine E.inr ?_
    refine E.thr ?_
    refine E.fin (rs := [_]) (rn [(3, 2), (4, 1)]) (.inl rfl) rfl (.cons (ResOne.tmp rfl) .nil) ?_ ?_ rfl (fixL_spec rfl)
    ·skip
     rw [(ren_e26 (s := s) (x := x)  (fun z => z hx) (fun z => z hp) hbq).1]; rfl
    · exact (SubS.val rfl (by rw [(ren_e26 (s := s) (x := x)  (fun z => z hx) (fun z => z hp) hbq).2] <;> rfl) (SubS.val rfl (by exact sb_data (by rw [(ren_e26 (s := s) (x := x)  (fun z => z hx) (fun z => z hp) hbq).2] <;> rfl)) (SubS.val rfl (by exact sb_data (by rw [(ren_e26 (s := s) (x := x)  (fun z => z hx) (fun z => z hp) hbq).2] <;> rfl)) SubS.nil)))
   have hbq : ¬ ((atC s x.copy).rc = true ∨ 0 < (queS s (atC s x.copy).work).length) := by show ¬ (s.cps[ixC s x.copy]!.rc = true ∨ 0 < (queS s s.cps[ixC s x.copy]!.work).length); rintro (z | z) <;> first | omega | (simp_all; done)
   refine W.rg (SL.mv rfl rfl ?_)
   refine SL.val (O.nilCheck rfl rfl rfl Taken.no) ?_
   refine SL.val (O.fld_ref (o' := 0) rfl Try.underlying28 rfl (m := 0) (by kernel_rfl) rfl rfl Taken.no) ?_
   refine SL.val (O.ld1 (PtI.ref rfl rfl) rfl Try.underlying3 rfl rfl Taken.no) ?_
   refine SL.val (O.det (fun _ => by first | exact G.R.add64 rfl rfl (by omega) | exact G.R.add rfl rfl) rfl Taken.no) ?_
   refine SL.val (O.det (fun _ => G.R.gtr rfl rfl) rfl Taken.no) ?_
   refine SL.an rfl rfl (E.fo ?_)
   first | refine W.cond_d rfl (fun hc4 => ?_) (fun hc4 => ?_) | refine W.cond_nd rfl (fun hc4 => ?_) (fun hc4 => ?_) | refine W.cond rfl (fun hc4 => ?_) (fun hc4 => ?_)
   ·skip
    have hbd : 1000000 < s.now + 28 := by omega
    refine W.rg (SL.an rfl rfl (E.fo (W.ret ?_)))
    refine E.inr ?_
    refine E.thr ?_
    refine E.fin (rs := [_]) (rn [(3, 2), (4, 1)]) (.inl rfl) rfl (.cons (ResOne.tmp rfl) .nil) ?_ ?_ rfl (fixL_spec rfl)
    ·skip
     rw [(ren_e25 (s := s) (x := x)  (fun z => z hx) (fun z => z hp) hbq hbd).1]; rfl
    · exact (SubS.val rfl (by rw [(ren_e25 (s := s) (x := x)  (fun z => z hx) (fun z => z hp) hbq hbd).2] <;> rfl) (SubS.val rfl (by exact sb_data (by rw [(ren_e25 (s := s) (x := x)  (fun z => z hx) (fun z => z hp) hbq hbd).2] <;> rfl)) (SubS.val rfl (by exact sb_data (by rw [(ren_e25 (s := s) (x := x)  (fun z => z hx) (fun z => z hp) hbq hbd).2] <;> rfl)) SubS.nil)))
   have hbd : ¬ (1000000 < s.now + 28) := by omega
   refine W.skip (E.inn (E.to (W.rg (SL.mv rfl rfl (SL.mv rfl rfl ?_)))))
   refine SL.val (O.nilCheck rfl rfl rfl Taken.no) ?_
   refine SL.val (O.fld_ref (o' := 0) rfl Try.underlying28 rfl (m := 0) (by kernel_rfl) rfl rfl Taken.no) ?_
   refine SL.val (O.ld1 (PtI.ref rfl rfl) rfl Try.underlying3 rfl rfl Taken.no) ?_
   refine SL.val (O.det (fun _ => by first | exact G.R.add64 rfl rfl (by omega) | exact G.R.add rfl rfl) rfl Taken.no) ?_
   refine SL.val (O.nilCheck rfl rfl rfl Taken.no) ?_
   refine SL.val (O.fld_el (o' := 5) rfl Try.underlying43 rfl (m := 0) (by kernel_rfl) rfl rfl Taken.no) ?_
   refine SL.effS (O.st_els (m := 1) rfl rfl rfl (us := [_]) rfl rfl (by kernel_rfl) (by simp) (row_get (by omega)) (by exact Nat.le_of_ble_eq_true rfl) rfl rfl (rows' := ((s.cps.map eCp).set (ixC s x.copy) [uI s.cps[ixC s x.copy]!.id, uI s.cps[ixC s x.copy]!.work, uT s.cps[ixC s x.copy]!.lib, uI s.cps[ixC s x.copy]!.place, uI s.cps[ixC s x.copy]!.pat, uI (s.now + 28), uI s.cps[ixC s x.copy]!.hold, uB s.cps[ixC s x.copy]!.rc])) (by rfl) Taken.no) (S' := (1, _) :: _) rfl ?_
   refine E.fo (W.rg (SL.an rfl rfl (E.fo (W.ret ?_))))
   refine E.fin (rs := [_]) (rn [(3, 2), (4, 1)]) (.inl rfl) rfl (.cons (ResOne.tmp rfl) .nil) ?_ ?_ rfl (fixL_spec rfl)
   ·skip
    rw [(ren_e0 (s := s) (x := x)  (fun z => z hx) (fun z => z hp) hbq hbd).1]; rfl
   · exact (SubS.val rfl (by rw [(ren_e0 (s := s) (x := x)  (fun z => z hx) (fun z => z hp) hbq hbd).2] <;> rfl) (SubS.val rfl (by exact sb_data (by rw [(ren_e0 (s := s) (x := x)  (fun z => z hx) (fun z => z hp) hbq hbd).2]; exact rn_fin)) (SubS.val rfl (by exact sb_data (by rw [(ren_e0 (s := s) (x := x)  (fun z => z hx) (fun z => z hp) hbq hbd).2] <;> rfl)) SubS.nil)))
  first | have hg2p := G.gA7 hg2 | have hg2p := G.gA8 hg2 | have hg2p := hg2
  have hbq : (atC s x.copy).rc = true ∨ 0 < (queS s (atC s x.copy).work).length := .inl (eq_true_of_ne_false (by show ¬ s.cps[ixC s x.copy]!.rc = false; first | assumption | simp_all))
  refine WH.sk rfl rfl rfl hg2 (WH.sk rfl rfl rfl hg2 (WH.sk rfl rfl rfl hg2 (WH.sk rfl rfl rfl hg2 (WH.sk rfl rfl rfl hg2 (WH.sk rfl rfl rfl hg2 (WH.sk rfl rfl rfl hg2 (WH.sk rfl rfl rfl hg2 (WH.sk rfl rfl rfl hg2 (WH.sk rfl rfl rfl hg2 ?_)))))))))
  refine WH.val (O.pick_t rfl (G.ne_f hg2) rfl rfl Taken.no) rfl rfl ?_
  refine WH.val (O.assign rfl rfl Taken.no) rfl rfl ?_
  refine WH.nil (E.to ?_)
  refine W.pick (K:=[(0,_),(4,_),(5,_),(19,_)]) (Z:=[(0,_),(1,_),(2,_),(101,_)]) ⟨rfl,rfl,rfl,rfl,trivial⟩ ⟨rfl,rfl,rfl,rfl,trivial⟩ ?_
  refine W.cond_t rfl ?_
  refine W.rg (SL.an rfl rfl (E.fo (W.ret ?_)))
  refine E.inr ?_
  refine E.thr ?_
  refine E.fin (rs := [_]) (rn [(3, 2), (4, 1)]) (.inl rfl) rfl (.cons (ResOne.tmp rfl) .nil) ?_ ?_ rfl (fixL_spec rfl)
  ·skip
   rw [(ren_e26 (s := s) (x := x)  (fun z => z hx) (fun z => z hp) hbq).1]; rfl
  · exact (SubS.val rfl (by rw [(ren_e26 (s := s) (x := x)  (fun z => z hx) (fun z => z hp) hbq).2] <;> rfl) (SubS.val rfl (by exact sb_data (by rw [(ren_e26 (s := s) (x := x)  (fun z => z hx) (fun z => z hp) hbq).2] <;> rfl)) (SubS.val rfl (by exact sb_data (by rw [(ren_e26 (s := s) (x := x)  (fun z => z hx) (fun z => z hp) hbq).2] <;> rfl)) SubS.nil)))
 refine W.region (SL.mv rfl rfl ?_)
 refine SL.val (O.fld_ref (o' := 1) rfl Try.underlying34 rfl (m := 0) (by kernel_rfl) rfl rfl Taken.no) ?_
 refine SL.val (O.ld1 (PtI.ref rfl rfl) rfl Try.underlying3 rfl rfl Taken.no) ?_
 refine SL.memS (O.call (rn [(0, 0), (1, 1), (2, 2)]) [] rfl rfl rfl (copy_n (by omega) hx) (.cons (ArgOk.same rfl) (.cons (ArgOk.same rfl) .nil)) (SubS.cons rfl (SubS.cons rfl (SubS.cons rfl SubS.nil))) rfl rfl rfl rfl rfl (.inl rfl) hcallOk44 (r' := .u _) rfl rfl Taken.no) rfl rfl (S' := (0, .cells _ [.u _, .own 1, .own 2]) :: (1, .data _ _ _) :: (2, .data _ _ _) :: _) rfl ?_
 refine SL.an rfl rfl (E.fo (W.seq (W.block (W.rg (SL.mv rfl rfl ?_)))))
 refine SL.val (O.det (fun _ => G.R.ptrnil (p := none) rfl rfl (by kernel_rfl)) rfl Taken.no) ?_
 refine SL.an rfl rfl (E.fo ?_)
 refine W.cond_t rfl ?_
 refine W.rg (SL.an rfl rfl (E.fo (W.ret ?_)))
 refine E.inr ?_
 refine E.thr ?_
 refine E.fin (rs := [_]) (rn [(3, 2), (4, 1)]) (.inl rfl) rfl (.cons (ResOne.tmp rfl) .nil) ?_ ?_ rfl (fixL_spec rfl)
 ·skip
  rw [(ren_e9 (s := s) (x := x)  hx).1]; rfl
 · exact (SubS.val rfl (by rw [(ren_e9 (s := s) (x := x)  hx).2] <;> rfl) (SubS.val rfl (by exact sb_data (by rw [(ren_e9 (s := s) (x := x)  hx).2] <;> rfl)) (SubS.val rfl (by exact sb_data (by rw [(ren_e9 (s := s) (x := x)  hx).2] <;> rfl)) SubS.nil)))

end Go.Proofs.Ytmekkjehkcjpdaa
end
section
namespace Go.Proofs.Ytmekkjehkcjpdaa
open Go Go.RowKit Go.H Go.D57 Go.D58

theorem hcallOk45 : G.callOk Try.prog 45 = true := by kernel_rfl
theorem hcallOk46 : G.callOk Try.prog 46 = true := by kernel_rfl
theorem hcallOk47 : G.callOk Try.prog 47 = true := by kernel_rfl
theorem hcallOk53 : G.callOk Try.prog 53 = true := by kernel_rfl
theorem hcallOk55 : G.callOk Try.prog 55 = true := by kernel_rfl
theorem hcallOk57 : G.callOk Try.prog 57 = true := by kernel_rfl
theorem hcallOk59 : G.callOk Try.prog 59 = true := by kernel_rfl
theorem hcallOk60 : G.callOk Try.prog 60 = true := by kernel_rfl

theorem ins_len {s : St} {x : Sp} : (insC s x).cps.length = s.cps.length + 1 := by
  have hk := kpos_le (key := fun c : Cp => c.id) s.cps x.copy
  simp [insC]; omega
theorem recS_now (s : St) (w : Int) : (recS s w).now = s.now := by unfold recS; split <;> rfl
theorem recS_lns (s : St) (w : Int) : (recS s w).lns = s.lns := by unfold recS; split <;> rfl
theorem cnt3_b {a b c : Nat} : (((a : Int) == 0) && (((b : Int) == 0) && ((c : Int) == 0))) = decide (a = 0 ∧ b = 0 ∧ c = 0) := by
  rw [Bool.eq_iff_iff]; simp

set_option maxRecDepth 8000 in
theorem add_m {s : St} {x : Sp} (hv : validS s) :
    Con Try.prog 19 [.ref 0 0, vA (eSp x)] [(0, .cells 28 [.u (uI s.now), .own 1, .own 2]), (1, .data 43 8 ((s.cps).map eCp)), (2, .data 51 2 ((s.lns).map eLn))] (vI (addE s x)) [(0, .cells 28 [.u (uI (addS s x).now), .own 4, .own 3]), (4, .data 43 8 (((addS s x).cps).map eCp)), (3, .data 51 2 (((addS s x).lns).map eLn))] := by
 have hn := hv.1
 unfold inB at hn
 have hcl := hv.2.1
 have hok := valid_ok hv
 have hid := valid_asc hv
 obtain ⟨i43, hi43, hz43, hs43, hb43⟩ := hinf43
 refine Con.enterL (n := 71) Try.func19 rfl rfl rfl (fun τ w ok vs hin => ?_)
 clear hin
 refine W.rg ?_
 refine SL.memS (O.box (is := [_, _, _, _, _, _, _, _]) 101 rfl rfl (by simp) rfl rfl Taken.no) rfl rfl (S' := (101, _) :: _) rfl ?_
 refine SL.an rfl rfl (E.fo (W.seq (W.block (W.rg ?_))))
 refine SL.val (O.fld_ref (o' := 1) rfl Try.underlying34 rfl (m := 0) (by kernel_rfl) rfl rfl Taken.no) ?_
 refine SL.val (O.ld1 (PtI.ref rfl rfl) rfl Try.underlying3 rfl rfl Taken.no) ?_
 refine SL.val (O.callp rfl rfl rfl (id_h) (.cons (ArgOk.same rfl) .nil) hcallOk42 rfl Taken.no) ?_
 refine SL.val (O.det (fun _ => G.R.not rfl) rfl Taken.no) ?_
 refine SL.mv rfl rfl ?_
 refine SL.case (j := 4) (g := 12) (want := false) rfl rfl (fun hg1 => ?_) (fun hg1 => ?_)
 ·skip
  first | have hg1p := G.gA3 hg1 | have hg1p := G.gA4 hg1 | have hg1p := hg1
  refine SL.val (O.fld_ref (o' := 2) rfl Try.underlying34 rfl (m := 0) (by kernel_rfl) rfl rfl (Taken.yes rfl rfl hg1)) ?_
  refine SL.val (O.ld1 (PtI.ref rfl rfl) rfl Try.underlying3 rfl rfl (Taken.yes rfl rfl hg1)) ?_
  refine SL.val (O.callp rfl rfl rfl (id_h) (.cons (ArgOk.same rfl) .nil) hcallOk42 rfl (Taken.yes rfl rfl hg1)) ?_
  refine SL.val (O.det (fun _ => G.R.not rfl) rfl (Taken.yes rfl rfl hg1)) ?_
  refine SL.val (O.pick_f rfl hg1 rfl rfl Taken.no) ?_
  refine SL.an rfl rfl (E.fo ?_)
  first | refine W.cond_d rfl (fun hc2 => ?_) (fun hc2 => ?_) | refine W.cond_nd rfl (fun hc2 => ?_) (fun hc2 => ?_) | refine W.cond rfl (fun hc2 => ?_) (fun hc2 => ?_)
  ·skip
   have ha0 : ¬ (idB x.copy ∧ idB x.work) := by intro z; simp_all
   refine W.rg (SL.an rfl rfl (E.fo (W.ret ?_)))
   refine E.inr ?_
   refine E.thr ?_
   refine E.fin (rs := [_]) (rn [(3, 2), (4, 1)]) (.inl rfl) rfl (.cons (ResOne.tmp rfl) .nil) ?_ ?_ rfl (fixL_spec rfl)
   ·skip
    rw [(add_e2 (s := s) (x := x)  ha0).1]; rfl
   · exact (SubS.val rfl (by rw [(add_e2 (s := s) (x := x)  ha0).2] <;> rfl) (SubS.val rfl (by exact sb_data (by rw [(add_e2 (s := s) (x := x)  ha0).2] <;> rfl)) (SubS.val rfl (by exact sb_data (by rw [(add_e2 (s := s) (x := x)  ha0).2] <;> rfl)) SubS.nil)))
  have ha0 : ¬ (¬ (idB x.copy ∧ idB x.work)) := by simp_all
  refine W.rg ?_
  refine SL.val (O.fld_ref (o' := 7) rfl Try.underlying34 rfl (m := 0) (by kernel_rfl) rfl rfl Taken.no) ?_
  refine SL.val (O.ld1 (PtI.ref rfl rfl) rfl Try.underlying9 rfl rfl Taken.no) ?_
  refine SL.val (O.callp rfl rfl rfl (name_h) (.cons (ArgOk.same rfl) .nil) hcallOk43 rfl Taken.no) ?_
  refine SL.val (O.det (fun _ => G.R.not rfl) rfl Taken.no) ?_
  refine SL.an rfl rfl (E.fo ?_)
  first | refine W.cond_d rfl (fun hc3 => ?_) (fun hc3 => ?_) | refine W.cond_nd rfl (fun hc3 => ?_) (fun hc3 => ?_) | refine W.cond rfl (fun hc3 => ?_) (fun hc3 => ?_)
  ·skip
   have ha1 : ¬ nmOk x.lib := by first | assumption | simp_all
   refine W.rg (SL.an rfl rfl (E.fo (W.ret ?_)))
   refine E.inr ?_
   refine E.thr ?_
   refine E.fin (rs := [_]) (rn [(3, 2), (4, 1)]) (.inl rfl) rfl (.cons (ResOne.tmp rfl) .nil) ?_ ?_ rfl (fixL_spec rfl)
   ·skip
    rw [(add_e8 (s := s) (x := x)  ha0 ha1).1]; rfl
   · exact (SubS.val rfl (by rw [(add_e8 (s := s) (x := x)  ha0 ha1).2] <;> rfl) (SubS.val rfl (by exact sb_data (by rw [(add_e8 (s := s) (x := x)  ha0 ha1).2] <;> rfl)) (SubS.val rfl (by exact sb_data (by rw [(add_e8 (s := s) (x := x)  ha0 ha1).2] <;> rfl)) SubS.nil)))
  have ha1 : ¬ (¬ nmOk x.lib) := by first | assumption | simp_all
  refine W.seq ?_
  by_cases hx : 0 ≤ cpI s x.copy
  ·skip
   have hix : ixC s x.copy < s.cps.length := (idxF_lt hx).1
   refine W.region (SL.mv rfl rfl ?_)
   refine SL.val (O.fld_ref (o' := 1) rfl Try.underlying34 rfl (m := 0) (by kernel_rfl) rfl rfl Taken.no) ?_
   refine SL.val (O.ld1 (PtI.ref rfl rfl) rfl Try.underlying3 rfl rfl Taken.no) ?_
   refine SL.memS (O.call (rn [(0, 0), (1, 1), (2, 2)]) [] rfl rfl rfl (copy_y (by omega) hx) (.cons (ArgOk.same rfl) (.cons (ArgOk.same rfl) .nil)) (SubS.cons rfl (SubS.cons rfl (SubS.cons rfl SubS.nil))) rfl rfl rfl rfl rfl (.inl rfl) hcallOk44 (r' := .el 1 _ _ 0) rfl rfl Taken.no) rfl rfl (S' := (0, .cells _ [.u _, .own 1, .own 2]) :: (1, .data _ _ _) :: (2, .data _ _ _) :: _) rfl ?_
   refine SL.val (O.ptrnn (.inr (.inr ⟨_, _, _, _, rfl⟩)) rfl (by kernel_rfl) rfl Taken.no) ?_
   refine SL.an rfl rfl (E.fo ?_)
   refine W.pick (K:=[(0,_),(3,_),(4,_),(23,_)]) (Z:=[(0,_),(1,_),(2,_),(101,_)]) ⟨rfl,rfl,rfl,rfl,trivial⟩ ⟨rfl,rfl,rfl,rfl,trivial⟩ ?_
   refine W.cond_t rfl ?_
   refine W.rg (SL.an rfl rfl (E.fo (W.ret ?_)))
   refine E.inr ?_
   refine E.thr ?_
   refine E.fin (rs := [_]) (rn [(3, 2), (4, 1)]) (.inl rfl) rfl (.cons (ResOne.tmp rfl) .nil) ?_ ?_ rfl (fixL_spec rfl)
   ·skip
    rw [(add_e10 (s := s) (x := x)  ha0 ha1 hx).1]; rfl
   · exact (SubS.val rfl (by rw [(add_e10 (s := s) (x := x)  ha0 ha1 hx).2] <;> rfl) (SubS.val rfl (by exact sb_data (by rw [(add_e10 (s := s) (x := x)  ha0 ha1 hx).2] <;> rfl)) (SubS.val rfl (by exact sb_data (by rw [(add_e10 (s := s) (x := x)  ha0 ha1 hx).2] <;> rfl)) SubS.nil)))
  refine W.region (SL.mv rfl rfl ?_)
  refine SL.val (O.fld_ref (o' := 1) rfl Try.underlying34 rfl (m := 0) (by kernel_rfl) rfl rfl Taken.no) ?_
  refine SL.val (O.ld1 (PtI.ref rfl rfl) rfl Try.underlying3 rfl rfl Taken.no) ?_
  refine SL.memS (O.call (rn [(0, 0), (1, 1), (2, 2)]) [] rfl rfl rfl (copy_n (by omega) hx) (.cons (ArgOk.same rfl) (.cons (ArgOk.same rfl) .nil)) (SubS.cons rfl (SubS.cons rfl (SubS.cons rfl SubS.nil))) rfl rfl rfl rfl rfl (.inl rfl) hcallOk44 (r' := .u _) rfl rfl Taken.no) rfl rfl (S' := (0, .cells _ [.u _, .own 1, .own 2]) :: (1, .data _ _ _) :: (2, .data _ _ _) :: _) rfl ?_
  refine SL.val (O.det (fun _ => G.R.ptrnn (p := none) rfl rfl (by kernel_rfl)) rfl Taken.no) ?_
  refine SL.an rfl rfl (E.fo ?_)
  refine W.pick (K:=[(0,_),(3,_),(4,_),(23,_)]) (Z:=[(0,_),(1,_),(2,_),(101,_)]) ⟨rfl,rfl,rfl,rfl,trivial⟩ ⟨rfl,rfl,rfl,rfl,trivial⟩ ?_
  refine W.cond_f rfl ?_
  refine W.rg (SL.mv rfl rfl ?_)
  refine SL.val (O.nilCheck rfl rfl rfl Taken.no) ?_
  refine SL.val (O.fld_ref (o' := 1) rfl Try.underlying28 rfl (m := 0) (by kernel_rfl) rfl rfl Taken.no) ?_
  refine SL.val (O.ld1 (PtI.ref rfl rfl) rfl Try.underlying25 rfl rfl Taken.no) ?_
  refine SL.val (O.lenE (SlOf.own rfl rfl) (by first | exact List.length_map _ | rfl) Try.underlying25 rfl Taken.no) ?_
  refine SL.val (O.det (fun _ => G.R.eql rfl rfl) rfl Taken.no) ?_
  refine SL.an rfl rfl (E.fo ?_)
  first | refine W.cond_d rfl (fun hc4 => ?_) (fun hc4 => ?_) | refine W.cond_nd rfl (fun hc4 => ?_) (fun hc4 => ?_) | refine W.cond rfl (fun hc4 => ?_) (fun hc4 => ?_)
  ·skip
   have ha4 : s.cps.length = 60 := by omega
   refine W.rg (SL.an rfl rfl (E.fo (W.ret ?_)))
   refine E.inr ?_
   refine E.thr ?_
   refine E.fin (rs := [_]) (rn [(3, 2), (4, 1)]) (.inl rfl) rfl (.cons (ResOne.tmp rfl) .nil) ?_ ?_ rfl (fixL_spec rfl)
   ·skip
    rw [(add_e20 (s := s) (x := x)  ha0 ha1 hx ha4).1]; rfl
   · exact (SubS.val rfl (by rw [(add_e20 (s := s) (x := x)  ha0 ha1 hx ha4).2] <;> rfl) (SubS.val rfl (by exact sb_data (by rw [(add_e20 (s := s) (x := x)  ha0 ha1 hx ha4).2] <;> rfl)) (SubS.val rfl (by exact sb_data (by rw [(add_e20 (s := s) (x := x)  ha0 ha1 hx ha4).2] <;> rfl)) SubS.nil)))
  have ha4 : ¬ (s.cps.length = 60) := by omega
  refine W.skip (E.inn (E.to (W.seq ?_)))
  refine W.draw [⟨[], [], [], [0]⟩, ⟨[], [], [], [0]⟩, ⟨[], [], [], [0]⟩, ⟨[0], [], [], [1]⟩, ⟨[], [], [], [101]⟩, ⟨[101], [], [], []⟩, ⟨[1], [], [], []⟩, ⟨[], [], [], []⟩, ⟨[], [], [], []⟩, ⟨[], [], [], []⟩, ⟨[], [], [], []⟩, ⟨[], [], [], []⟩] rfl (by kernel_rfl) (by kernel_rfl) rfl rfl ?_
  have hkp := kpos_le (key := fun c : Cp => c.id) s.cps x.copy
  have hil := ins_len (s := s) (x := x)
  refine WH.mv rfl rfl rfl ?_
  refine WH.val (O.nilCheck rfl rfl rfl Taken.no) rfl rfl ?_
  refine WH.val (O.fld_ref (o' := 1) rfl Try.underlying28 rfl (m := 0) (by kernel_rfl) rfl rfl Taken.no) rfl rfl ?_
  refine WH.val (O.ld1 (PtI.ref rfl rfl) rfl Try.underlying25 rfl rfl Taken.no) rfl rfl ?_
  refine WH.val (O.fld_ref (o' := 1) rfl Try.underlying34 rfl (m := 0) (by kernel_rfl) rfl rfl Taken.no) rfl rfl ?_
  refine WH.val (O.ld1 (PtI.ref rfl rfl) rfl Try.underlying3 rfl rfl Taken.no) rfl rfl ?_
  refine WH.memS (O.call (rn []) [1] rfl rfl rfl (bsCopy_h (f := 46) (caps := []) (q := s.cps) (h := x.copy) hcallOk46 (fun c => add1_h) hid (by omega)) (.cons (ArgOk.own rfl rfl) (.cons (ArgOk.same rfl) (.cons ArgOk.fnc .nil))) SubS.nil rfl rfl rfl rfl rfl (.inr ⟨rfl, fun x hx => by simp at hx⟩) hcallOk45 (r' := .tup [.u _, .u _]) rfl rfl Taken.no) rfl rfl rfl rfl rfl (S' := _) rfl ?_
  refine WH.mv rfl rfl rfl ?_
  refine WH.val (O.extract rfl rfl rfl Taken.no) rfl rfl ?_
  refine WH.val (O.extract rfl rfl rfl Taken.no) rfl rfl ?_
  refine WH.val (O.assign rfl rfl Taken.no) rfl rfl ?_
  refine WH.val (O.assign rfl rfl Taken.no) rfl rfl ?_
  refine WH.nil (E.to (W.seq ?_))
  refine W.draw [⟨[], [], [], [0]⟩, ⟨[], [], [], [0]⟩, ⟨[], [], [], [0]⟩, ⟨[], [], [], [0]⟩, ⟨[0], [], [], [1]⟩, ⟨[], [], [], []⟩, ⟨[], [], [], [101]⟩, ⟨[101], [], [], []⟩, ⟨[], [], [], [101]⟩, ⟨[101], [], [], []⟩, ⟨[], [], [], [101]⟩, ⟨[101], [], [], []⟩, ⟨[], [], [], []⟩, ⟨[102], [102], [102], []⟩, ⟨[1, 102, 103], [1, 102, 103], [103], []⟩, ⟨[], [], [], [0]⟩, ⟨[], [], [], [0]⟩, ⟨[0, 2, 103], [0], [], []⟩] rfl (by kernel_rfl) (by kernel_rfl) rfl rfl ?_
  refine WH.mv rfl rfl rfl (WH.mv rfl rfl rfl ?_)
  refine WH.val (O.nilCheck rfl rfl rfl Taken.no) rfl rfl ?_
  refine WH.val (O.fld_ref (o' := 1) rfl Try.underlying28 rfl (m := 0) (by kernel_rfl) rfl rfl Taken.no) rfl rfl ?_
  refine WH.val (O.ld1 (PtI.ref rfl rfl) rfl Try.underlying25 rfl rfl Taken.no) rfl rfl ?_
  refine WH.mv rfl rfl rfl ?_
  refine WH.val (O.fld_ref (o' := 1) rfl Try.underlying34 rfl (m := 0) (by kernel_rfl) rfl rfl Taken.no) rfl rfl ?_
  refine WH.val (O.ld1 (PtI.ref rfl rfl) rfl Try.underlying3 rfl rfl Taken.no) rfl rfl ?_
  refine WH.val (O.fld_ref (o' := 2) rfl Try.underlying34 rfl (m := 0) (by kernel_rfl) rfl rfl Taken.no) rfl rfl ?_
  refine WH.val (O.ld1 (PtI.ref rfl rfl) rfl Try.underlying3 rfl rfl Taken.no) rfl rfl ?_
  refine WH.val (O.fld_ref (o' := 7) rfl Try.underlying34 rfl (m := 0) (by kernel_rfl) rfl rfl Taken.no) rfl rfl ?_
  refine WH.val (O.ld1 (PtI.ref rfl rfl) rfl Try.underlying9 rfl rfl Taken.no) rfl rfl ?_
  refine WH.val (O.build (res := [_, _, _, _, _, _, _, _]) (z := .agg #[.int .i64 0, .int .i64 0, .string ByteArray.empty, .int .i64 0, .int .i64 0, .int .i64 0, .int .i64 0, .bool false]) (places := [(0, 1), (1, 1), (2, 1), (3, 1), (4, 1), (5, 1), (6, 1), (7, 1)]) rfl rfl Try.underlying43 (by kernel_rfl) (fun _ => by kernel_rfl) rfl rfl Taken.no) rfl rfl ?_
  refine WH.memS (O.buildSlice 102 (rows := [eCp (newC x)]) rfl rfl Try.underlying25 hi43 hz43 hs43 (by decide) rfl (by decide) rfl rfl rfl Taken.no) rfl rfl rfl rfl rfl (S' := (102, .data 43 8 ([eCp (newC x)])) :: _) rfl ?_
  refine WH.memS (O.call (rn [(0, 1), (1, 102), (2, 103)]) [] rfl rfl rfl (insertC (ks := s.cps) (k := newC x) rfl (i := (kpos (fun c : Cp => c.id) s.cps x.copy)) hkp (by omega)) (.cons (ArgOk.same rfl) (.cons (ArgOk.same rfl) (.cons (ArgOk.same rfl) .nil))) (SubS.cons rfl (SubS.cons rfl SubS.nil)) rfl rfl rfl rfl rfl (.inl rfl) hcallOk47 (r' := .own 103) rfl rfl Taken.no) rfl rfl rfl rfl rfl (S' := (103, .data _ _ _) :: (1, .dead) :: (102, .dead) :: _) rfl ?_
  refine WH.val (O.nilCheck rfl rfl rfl Taken.no) rfl rfl ?_
  refine WH.val (O.fld_ref (o' := 1) rfl Try.underlying28 rfl (m := 0) (by kernel_rfl) rfl rfl Taken.no) rfl rfl ?_
  refine WH.effS (O.st_ref (m := 1) rfl rfl rfl (js := [_]) rfl rfl (by kernel_rfl) (by simp) (Nat.le_of_ble_eq_true rfl) rfl (is' := [_, _, _]) rfl Taken.no) rfl rfl rfl (S' := (0, _) :: _) rfl ?_
  refine WH.nil (E.to ?_)
  refine W.pick (K:=[(0,_),(4,_),(5,_)]) (Z:=[(0,_),(2,_),(101,_),(103,_)]) ⟨rfl,rfl,rfl,trivial⟩ ⟨rfl,rfl,rfl,rfl,trivial⟩ ?_
  refine W.rg (SL.mv rfl rfl (SL.mv rfl rfl ?_))
  refine SL.val (O.nilCheck rfl rfl rfl Taken.no) ?_
  refine SL.val (O.fld_ref (o' := 1) rfl Try.underlying28 rfl (m := 0) (by kernel_rfl) rfl rfl Taken.no) ?_
  refine SL.val (O.ld1 (PtI.ref rfl rfl) rfl Try.underlying25 rfl rfl Taken.no) ?_
  refine SL.mv rfl rfl ?_
  refine SL.val (O.idx_own (i := (kpos (fun c : Cp => c.id) s.cps x.copy)) rfl rfl rfl (rfl) (by rw [List.length_map]; show _ < (insC s x).cps.length; omega) Try.underlying25 hi43 hs43 rfl Taken.no) ?_
  refine SL.memS (O.call (rn [(0, 0), (1, 103), (2, 2), (3, 104)]) [] rfl rfl rfl (free_h (s := insC s x) (i := (kpos (fun c : Cp => c.id) s.cps x.copy)) (n := 60) (by omega) hn hok (by omega)) (.cons (ArgOk.same rfl) (.cons (ArgOk.same rfl) .nil)) (SubS.cons rfl (SubS.cons rfl (SubS.cons rfl SubS.nil))) rfl rfl rfl rfl rfl (.inl rfl) hcallOk48 (r' := .tup []) rfl rfl Taken.no) rfl rfl (S' := (0, .cells _ [.u _, .own 103, .own 104]) :: (103, .data _ _ _) :: (104, .data _ _ _) :: (2, .dead) :: _) rfl ?_
  refine E.fo (W.rg (SL.an rfl rfl (E.fo (W.ret ?_))))
  refine E.fin (rs := [_]) (rn [(3, 104), (4, 103)]) (.inl rfl) rfl (.cons (ResOne.tmp rfl) .nil) ?_ ?_ rfl (fixL_spec rfl)
  ·skip
   rw [(add_e0 (s := s) (x := x)  ha0 ha1 hx ha4).1]; rfl
  · exact (SubS.val rfl (by rw [(add_e0 (s := s) (x := x)  ha0 ha1 hx ha4).2] <;> rfl) (SubS.val rfl (by exact sb_data (by rw [(add_e0 (s := s) (x := x)  ha0 ha1 hx ha4).2] <;> rfl)) (SubS.val rfl (by exact sb_data (by rw [(add_e0 (s := s) (x := x)  ha0 ha1 hx ha4).2] <;> rfl)) SubS.nil)))
 first | have hg1p := G.gA7 hg1 | have hg1p := G.gA8 hg1 | have hg1p := hg1
 have ha0 : ¬ (idB x.copy ∧ idB x.work) := by intro z; simp_all
 refine SL.sk rfl rfl rfl hg1 (SL.sk rfl rfl rfl hg1 (SL.sk rfl rfl rfl hg1 (SL.sk rfl rfl rfl hg1 ?_)))
 refine SL.val (O.pick_t rfl (G.ne_f hg1) rfl rfl Taken.no) ?_
 refine SL.an rfl rfl (E.fo ?_)
 refine W.cond_t rfl ?_
 refine W.rg (SL.an rfl rfl (E.fo (W.ret ?_)))
 refine E.inr ?_
 refine E.thr ?_
 refine E.fin (rs := [_]) (rn [(3, 2), (4, 1)]) (.inl rfl) rfl (.cons (ResOne.tmp rfl) .nil) ?_ ?_ rfl (fixL_spec rfl)
 ·skip
  rw [(add_e2 (s := s) (x := x)  ha0).1]; rfl
 · exact (SubS.val rfl (by rw [(add_e2 (s := s) (x := x)  ha0).2] <;> rfl) (SubS.val rfl (by exact sb_data (by rw [(add_e2 (s := s) (x := x)  ha0).2] <;> rfl)) (SubS.val rfl (by exact sb_data (by rw [(add_e2 (s := s) (x := x)  ha0).2] <;> rfl)) SubS.nil)))

set_option maxRecDepth 8000 in
theorem wait_m {s : St} {x : Sp} (hv : validS s) :
    Con Try.prog 26 [.ref 0 0, vA (eSp x)] [(0, .cells 28 [.u (uI s.now), .own 1, .own 2]), (1, .data 43 8 ((s.cps).map eCp)), (2, .data 51 2 ((s.lns).map eLn))] (vI (waiE s x)) [(0, .cells 28 [.u (uI (waiS s x).now), .own 4, .own 3]), (4, .data 43 8 (((waiS s x).cps).map eCp)), (3, .data 51 2 (((waiS s x).lns).map eLn))] := by
 have hn := hv.1
 unfold inB at hn
 have hcl := hv.2.1
 have hok := valid_ok hv
 have hid := valid_asc hv
 obtain ⟨i43, hi43, hz43, hs43, hb43⟩ := hinf43
 refine Con.enterL (n := 64) Try.func26 rfl rfl rfl (fun τ w ok vs hin => ?_)
 clear hin
 refine W.rg ?_
 refine SL.memS (O.box (is := [_, _, _, _, _, _, _, _]) 101 rfl rfl (by simp) rfl rfl Taken.no) rfl rfl (S' := (101, _) :: _) rfl ?_
 refine SL.an rfl rfl (E.fo (W.seq (W.block (W.rg ?_))))
 refine SL.val (O.fld_ref (o' := 6) rfl Try.underlying34 rfl (m := 0) (by kernel_rfl) rfl rfl Taken.no) ?_
 refine SL.val (O.ld1 (PtI.ref rfl rfl) rfl Try.underlying3 rfl rfl Taken.no) ?_
 refine SL.val (O.callp rfl rfl rfl (in_h) (.cons (ArgOk.same rfl) (.cons (ArgOk.same rfl) (.cons (ArgOk.same rfl) .nil))) hcallOk17 rfl Taken.no) ?_
 refine SL.val (O.det (fun _ => G.R.not rfl) rfl Taken.no) ?_
 refine SL.an rfl rfl (E.fo ?_)
 first | refine W.cond_d rfl (fun hc1 => ?_) (fun hc1 => ?_) | refine W.cond_nd rfl (fun hc1 => ?_) (fun hc1 => ?_) | refine W.cond rfl (fun hc1 => ?_) (fun hc1 => ?_)
 ·skip
  have hw0 : ¬ inB x.days 1 1000 := by first | assumption | simp_all
  refine W.rg (SL.an rfl rfl (E.fo (W.ret ?_)))
  refine E.inr ?_
  refine E.thr ?_
  refine E.fin (rs := [_]) (rn [(3, 2), (4, 1)]) (.inl rfl) rfl (.cons (ResOne.tmp rfl) .nil) ?_ ?_ rfl (fixL_spec rfl)
  ·skip
   rw [(wai_e2 (s := s) (x := x)  hw0).1]; rfl
  · exact (SubS.val rfl (by rw [(wai_e2 (s := s) (x := x)  hw0).2] <;> rfl) (SubS.val rfl (by exact sb_data (by rw [(wai_e2 (s := s) (x := x)  hw0).2] <;> rfl)) (SubS.val rfl (by exact sb_data (by rw [(wai_e2 (s := s) (x := x)  hw0).2] <;> rfl)) SubS.nil)))
 have hw0 : ¬ (¬ inB x.days 1 1000) := by first | assumption | simp_all
 have hd : 1 ≤ x.days ∧ x.days ≤ 1000 := Decidable.not_not.1 hw0
 refine W.seq ?_
 refine W.draw [⟨[], [], [], [0]⟩, ⟨[], [], [], [0]⟩, ⟨[], [], [], [0]⟩, ⟨[0], [], [], []⟩, ⟨[], [], [], [101]⟩, ⟨[101], [], [], []⟩, ⟨[], [], [], []⟩, ⟨[], [], [], []⟩, ⟨[], [], [], []⟩] rfl (by kernel_rfl) (by kernel_rfl) rfl rfl ?_
 refine WH.mv rfl rfl rfl ?_
 refine WH.val (O.nilCheck rfl rfl rfl Taken.no) rfl rfl ?_
 refine WH.val (O.fld_ref (o' := 0) rfl Try.underlying28 rfl (m := 0) (by kernel_rfl) rfl rfl Taken.no) rfl rfl ?_
 refine WH.val (O.ld1 (PtI.ref rfl rfl) rfl Try.underlying3 rfl rfl Taken.no) rfl rfl ?_
 refine WH.val (O.fld_ref (o' := 6) rfl Try.underlying34 rfl (m := 0) (by kernel_rfl) rfl rfl Taken.no) rfl rfl ?_
 refine WH.val (O.ld1 (PtI.ref rfl rfl) rfl Try.underlying3 rfl rfl Taken.no) rfl rfl ?_
 refine WH.val (O.det (fun _ => by first | exact G.R.add64 rfl rfl (by omega) | exact G.R.add rfl rfl) rfl Taken.no) rfl rfl ?_
 refine WH.val (O.det (fun _ => G.R.gtr rfl rfl) rfl Taken.no) rfl rfl ?_
 refine WH.val (O.assign rfl rfl Taken.no) rfl rfl ?_
 refine WH.nil (E.to ?_)
 first | refine W.cond_d rfl (fun hc2 => ?_) (fun hc2 => ?_) | refine W.cond_nd rfl (fun hc2 => ?_) (fun hc2 => ?_) | refine W.cond rfl (fun hc2 => ?_) (fun hc2 => ?_)
 ·skip
  have hw1 : 1000000 < s.now + x.days := by omega
  refine W.rg (SL.an rfl rfl (E.fo (W.ret ?_)))
  refine E.inr ?_
  refine E.thr ?_
  refine E.fin (rs := [_]) (rn [(3, 2), (4, 1)]) (.inl rfl) rfl (.cons (ResOne.tmp rfl) .nil) ?_ ?_ rfl (fixL_spec rfl)
  ·skip
   rw [(wai_e25 (s := s) (x := x)  hw0 hw1).1]; rfl
  · exact (SubS.val rfl (by rw [(wai_e25 (s := s) (x := x)  hw0 hw1).2] <;> rfl) (SubS.val rfl (by exact sb_data (by rw [(wai_e25 (s := s) (x := x)  hw0 hw1).2] <;> rfl)) (SubS.val rfl (by exact sb_data (by rw [(wai_e25 (s := s) (x := x)  hw0 hw1).2] <;> rfl)) SubS.nil)))
 have hw1 : ¬ (1000000 < s.now + x.days) := by omega
 refine W.skip (E.inn (E.to (W.seq ?_)))
 refine W.draw [⟨[], [], [], [0]⟩, ⟨[], [], [], [0]⟩, ⟨[], [], [], [0]⟩, ⟨[0], [], [], []⟩, ⟨[], [], [], [101]⟩, ⟨[101], [], [], []⟩, ⟨[], [], [], []⟩, ⟨[], [], [], [0]⟩, ⟨[], [], [], [0]⟩, ⟨[0, 1, 2], [0], [], []⟩] rfl (by kernel_rfl) (by kernel_rfl) rfl rfl ?_
 refine WH.mv rfl rfl rfl ?_
 refine WH.val (O.nilCheck rfl rfl rfl Taken.no) rfl rfl ?_
 refine WH.val (O.fld_ref (o' := 0) rfl Try.underlying28 rfl (m := 0) (by kernel_rfl) rfl rfl Taken.no) rfl rfl ?_
 refine WH.val (O.ld1 (PtI.ref rfl rfl) rfl Try.underlying3 rfl rfl Taken.no) rfl rfl ?_
 refine WH.val (O.fld_ref (o' := 6) rfl Try.underlying34 rfl (m := 0) (by kernel_rfl) rfl rfl Taken.no) rfl rfl ?_
 refine WH.val (O.ld1 (PtI.ref rfl rfl) rfl Try.underlying3 rfl rfl Taken.no) rfl rfl ?_
 refine WH.val (O.det (fun _ => by first | exact G.R.add64 rfl rfl (by omega) | exact G.R.add rfl rfl) rfl Taken.no) rfl rfl ?_
 refine WH.val (O.nilCheck rfl rfl rfl Taken.no) rfl rfl ?_
 refine WH.val (O.fld_ref (o' := 0) rfl Try.underlying28 rfl (m := 0) (by kernel_rfl) rfl rfl Taken.no) rfl rfl ?_
 refine WH.effS (O.st_ref (m := 1) rfl rfl rfl (js := [_]) rfl rfl (by kernel_rfl) (by simp) (Nat.le_of_ble_eq_true rfl) rfl (is' := [_, _, _]) rfl Taken.no) rfl rfl rfl (S' := (0, _) :: _) rfl ?_
 refine WH.nil (E.to ?_)
 refine W.pick (K:=[(0,_),(4,_)]) (Z:=[(0,_),(1,_),(2,_),(101,_)]) ⟨rfl,rfl,trivial⟩ ⟨rfl,rfl,rfl,rfl,trivial⟩ ?_
 refine W.seq (W.rg (SL.mv rfl rfl ?_))
 refine SL.val (O.nilCheck rfl rfl rfl Taken.no) ?_
 refine SL.val (O.fld_ref (o' := 1) rfl Try.underlying28 rfl (m := 0) (by kernel_rfl) rfl rfl Taken.no) ?_
 refine SL.val (O.ld1 (PtI.ref rfl rfl) rfl Try.underlying25 rfl rfl Taken.no) ?_
 refine SL.val (O.lenE (SlOf.own rfl rfl) (by first | exact List.length_map _ | rfl) Try.underlying25 rfl Taken.no) ?_
 refine SL.mv rfl rfl (E.fo (W.block ?_))
 refine W.loopx1 (fun (k : Nat) => [(35, vI (k : Int))]) (fun (k : Nat) => [(102, .data 43 8 ((lateS (⟨s.now + x.days, s.cps, s.lns⟩ : St) k).cps.map eCp)), (103, .data 51 2 ((lateS (⟨s.now + x.days, s.cps, s.lns⟩ : St) k).lns.map eLn)), (0, .cells 28 [vI (lateS (⟨s.now + x.days, s.cps, s.lns⟩ : St) k).now, .own 102, .own 103])]) (fun (k : Nat) => k ≤ s.cps.length) (fun (k : Nat) => s.cps.length - k) (0) (rn [(102, 1), (103, 2)]) (.cons (t := 0) rfl (.cons (t := 4) rfl (.cons (t := 34) rfl .nil))) (.cons (t := 101) rfl .nil) rfl ?_ ?_ rfl rfl ?_ ?_
 · exact (SubF.cons rfl SubF.nil)
 · exact (SubS.cons rfl (SubS.cons rfl (SubS.cons rfl SubS.nil)))
 ·skip
  omega
 intro k hinv
 have hk := hinv
 have hll : (lateS (⟨s.now + x.days, s.cps, s.lns⟩ : St) k).cps.length = s.cps.length := late_len _ _
 have hln : (lateS (⟨s.now + x.days, s.cps, s.lns⟩ : St) k).now = s.now + x.days := late_now _ _
 have hlo := late_ok (s := (⟨s.now + x.days, s.cps, s.lns⟩ : St)) hok k
 refine W.rg ?_
 refine SL.val (O.det (fun _ => G.R.lss rfl rfl) rfl Taken.no) ?_
 refine E.fo (W.seq ?_)
 first | refine W.cond_d rfl (fun hc3 => ?_) (fun hc3 => ?_) | refine W.cond_nd rfl (fun hc3 => ?_) (fun hc3 => ?_) | refine W.cond rfl (fun hc3 => ?_) (fun hc3 => ?_)
 ·skip
  refine W.skip (E.to (W.seq (W.block (W.rg (SL.mv rfl rfl (SL.an rfl rfl (E.fo (W.rg (SL.mv rfl rfl ?_)))))))))
  refine SL.val (O.nilCheck rfl rfl rfl Taken.no) ?_
  refine SL.val (O.fld_ref (o' := 1) rfl Try.underlying28 rfl (m := 0) (by kernel_rfl) rfl rfl Taken.no) ?_
  refine SL.val (O.ld1 (PtI.ref rfl rfl) rfl Try.underlying25 rfl rfl Taken.no) ?_
  refine SL.mv rfl rfl ?_
  refine SL.val (O.idx_own (i := k) rfl rfl rfl (rfl) (by rw [List.length_map]; omega) Try.underlying25 hi43 hs43 rfl Taken.no) ?_
  refine SL.an rfl rfl (E.fo (W.seq ?_))
  refine W.draw [⟨[], [], [], [102]⟩, ⟨[], [], [], [102]⟩, ⟨[], [], [], [102]⟩, ⟨[102], [], [], []⟩, ⟨[], [], [], []⟩, ⟨[], [], [], []⟩, ⟨[], [], [], [102]⟩, ⟨[], [], [], [102]⟩, ⟨[], [], [], [102]⟩, ⟨[102], [], [], []⟩, ⟨[], [], [], [0]⟩, ⟨[], [], [], [0]⟩, ⟨[], [], [], [0]⟩, ⟨[0], [], [], []⟩, ⟨[], [], [], []⟩, ⟨[], [], [], []⟩] rfl (by kernel_rfl) (by kernel_rfl) rfl rfl ?_
  refine WH.mv rfl rfl rfl ?_
  refine WH.val (O.nilCheck rfl rfl rfl Taken.no) rfl rfl ?_
  refine WH.val (O.fld_el (o' := 3) rfl Try.underlying43 rfl (m := 0) (by kernel_rfl) rfl rfl Taken.no) rfl rfl ?_
  refine WH.val (O.ld1 (PtI.ofU (PtU.el rfl rfl (row_get (by omega)))) rfl Try.underlying3 rfl rfl Taken.no) rfl rfl ?_
  refine WH.val (O.det (fun _ => G.R.eql rfl rfl) rfl Taken.no) rfl rfl ?_
  refine WH.mv rfl rfl rfl ?_
  refine WH.case (j := 5) (g := 49) (want := true) rfl rfl (fun hg4 => ?_) (fun hg4 => ?_)
  ·skip
   first | have hg4p := G.gA1 hg4 | have hg4p := G.gA2 hg4 | have hg4p := hg4
   refine WH.val (O.move rfl rfl (Taken.yes rfl rfl hg4)) rfl rfl ?_
   refine WH.val (O.nilCheck rfl rfl rfl (Taken.yes rfl rfl hg4)) rfl rfl ?_
   refine WH.val (O.fld_el (o' := 5) rfl Try.underlying43 rfl (m := 0) (by kernel_rfl) rfl rfl (Taken.yes rfl rfl hg4)) rfl rfl ?_
   refine WH.val (O.ld1 (PtI.ofU (PtU.el rfl rfl (row_get (by omega)))) rfl Try.underlying3 rfl rfl (Taken.yes rfl rfl hg4)) rfl rfl ?_
   refine WH.val (O.move rfl rfl (Taken.yes rfl rfl hg4)) rfl rfl ?_
   refine WH.val (O.nilCheck rfl rfl rfl (Taken.yes rfl rfl hg4)) rfl rfl ?_
   refine WH.val (O.fld_ref (o' := 0) rfl Try.underlying28 rfl (m := 0) (by kernel_rfl) rfl rfl (Taken.yes rfl rfl hg4)) rfl rfl ?_
   refine WH.val (O.ld1 (PtI.ref rfl rfl) rfl Try.underlying3 rfl rfl (Taken.yes rfl rfl hg4)) rfl rfl ?_
   refine WH.val (O.det (fun _ => G.R.lss rfl rfl) rfl (Taken.yes rfl rfl hg4)) rfl rfl ?_
   refine WH.val (O.pick_t rfl hg4 rfl rfl Taken.no) rfl rfl ?_
   refine WH.nil (E.to ?_)
   refine W.pick (K:=[(0,_),(4,_),(6,_),(34,_),(35,_),(59,_)]) (Z:=[(0,_),(101,_),(102,_),(103,_)]) ⟨rfl,rfl,rfl,rfl,rfl,rfl,trivial⟩ ⟨rfl,rfl,rfl,rfl,trivial⟩ ?_
   first | refine W.cond_d rfl (fun hc5 => ?_) (fun hc5 => ?_) | refine W.cond_nd rfl (fun hc5 => ?_) (fun hc5 => ?_) | refine W.cond rfl (fun hc5 => ?_) (fun hc5 => ?_)
   ·skip
    have hla : lateC (lateS (⟨s.now + x.days, s.cps, s.lns⟩ : St) k) k = true := decide_eq_true ⟨by omega, by omega⟩
    refine W.region (SL.mv rfl rfl (SL.mv rfl rfl ?_))
    refine SL.memS (O.call (rn [(0, 0), (1, 102), (2, 103), (3, 104)]) [] rfl rfl rfl (free_h (s := (lateS (⟨s.now + x.days, s.cps, s.lns⟩ : St) k)) (i := k) (n := 60 + k) (by omega) (by omega) hlo (by omega)) (.cons (ArgOk.same rfl) (.cons (ArgOk.same rfl) .nil)) (SubS.cons rfl (SubS.cons rfl (SubS.cons rfl SubS.nil))) rfl rfl rfl rfl rfl (.inl rfl) hcallOk48 (r' := .tup []) rfl rfl Taken.no) rfl rfl (S' := (0, .cells _ [.u _, .own 102, .own 104]) :: (102, .data _ _ _) :: (104, .data _ _ _) :: (103, .dead) :: _) rfl ?_
    refine SL.nil (E.inn (E.to (W.region ?_)))
    refine SL.val (O.det (fun _ => by first | exact G.R.add64 rfl rfl (by omega) | exact G.R.add rfl rfl) rfl Taken.no) ?_
    refine SL.mv rfl rfl (SL.nil ?_)
    refine E.again ((k + 1)) (rn [(103, 104)]) ?_ ?_ rfl (fixL_spec rfl) ?_ ?_
    · exact (SubF.cons rfl (SubF.cons rfl (SubF.cons rfl (SubF.cons rfl SubF.nil))))
    · exact (SubS.val rfl (by (try dsimp only); first | exact sb_data (by rw [late_y hla]) | exact sb_data (by rw [late_n hla])) (SubS.val rfl (by (try dsimp only); first | exact sb_data (by rw [late_y hla]) | exact sb_data (by rw [late_n hla])) (SubS.val rfl (by (try dsimp only); first | (rw [late_y hla] <;> rfl) | (rw [late_n hla] <;> rfl)) (SubS.cons rfl SubS.nil))))
    ·try dsimp only
     omega
    · (try dsimp only); omega
   have hla : ¬ lateC (lateS (⟨s.now + x.days, s.cps, s.lns⟩ : St) k) k = true := fun z => by have := of_decide_eq_true z; omega
   refine W.skip (E.inn (E.to (W.region ?_)))
   refine SL.val (O.det (fun _ => by first | exact G.R.add64 rfl rfl (by omega) | exact G.R.add rfl rfl) rfl Taken.no) ?_
   refine SL.mv rfl rfl (SL.nil ?_)
   refine E.again ((k + 1)) (rn []) ?_ ?_ rfl (fixL_spec rfl) ?_ ?_
   · exact (SubF.cons rfl (SubF.cons rfl (SubF.cons rfl (SubF.cons rfl SubF.nil))))
   · exact (SubS.val rfl (by (try dsimp only); first | exact sb_data (by rw [late_y hla]) | exact sb_data (by rw [late_n hla])) (SubS.val rfl (by (try dsimp only); first | exact sb_data (by rw [late_y hla]) | exact sb_data (by rw [late_n hla])) (SubS.val rfl (by (try dsimp only); first | (rw [late_y hla] <;> rfl) | (rw [late_n hla] <;> rfl)) (SubS.cons rfl SubS.nil))))
   ·try dsimp only
    omega
   · (try dsimp only); omega
  first | have hg4p := G.gA5 hg4 | have hg4p := G.gA6 hg4 | have hg4p := hg4
  have hla : ¬ lateC (lateS (⟨s.now + x.days, s.cps, s.lns⟩ : St) k) k = true := fun z => by have := (of_decide_eq_true z).1; omega
  refine WH.sk rfl rfl rfl hg4 (WH.sk rfl rfl rfl hg4 (WH.sk rfl rfl rfl hg4 (WH.sk rfl rfl rfl hg4 (WH.sk rfl rfl rfl hg4 (WH.sk rfl rfl rfl hg4 (WH.sk rfl rfl rfl hg4 (WH.sk rfl rfl rfl hg4 (WH.sk rfl rfl rfl hg4 ?_))))))))
  refine WH.val (O.pick_f rfl (G.ne_t hg4) rfl rfl Taken.no) rfl rfl ?_
  refine WH.nil (E.to ?_)
  refine W.pick (K:=[(0,_),(4,_),(6,_),(34,_),(35,_),(59,_)]) (Z:=[(0,_),(101,_),(102,_),(103,_)]) ⟨rfl,rfl,rfl,rfl,rfl,rfl,trivial⟩ ⟨rfl,rfl,rfl,rfl,trivial⟩ ?_
  refine W.cond_f rfl ?_
  refine W.skip (E.inn (E.to (W.region ?_)))
  refine SL.val (O.det (fun _ => by first | exact G.R.add64 rfl rfl (by omega) | exact G.R.add rfl rfl) rfl Taken.no) ?_
  refine SL.mv rfl rfl (SL.nil ?_)
  refine E.again ((k + 1)) (rn []) ?_ ?_ rfl (fixL_spec rfl) ?_ ?_
  · exact (SubF.cons rfl (SubF.cons rfl (SubF.cons rfl (SubF.cons rfl SubF.nil))))
  · exact (SubS.val rfl (by (try dsimp only); first | exact sb_data (by rw [late_y hla]) | exact sb_data (by rw [late_n hla])) (SubS.val rfl (by (try dsimp only); first | exact sb_data (by rw [late_y hla]) | exact sb_data (by rw [late_n hla])) (SubS.val rfl (by (try dsimp only); first | (rw [late_y hla] <;> rfl) | (rw [late_n hla] <;> rfl)) (SubS.cons rfl SubS.nil))))
  ·try dsimp only
   omega
  · (try dsimp only); omega
 refine W.exit (E.th (E.th (E.hit (E.to (W.rg (SL.an rfl rfl (E.fo (W.ret ?_))))))))
 refine E.fin (rs := [_]) (rn [(3, 103), (4, 102)]) (.inl rfl) rfl (.cons (ResOne.tmp rfl) .nil) ?_ ?_ rfl (fixL_spec rfl)
 ·skip
  rw [(wai_e0 (s := s) (x := x)  hw0 hw1).1]; rfl
 · exact (SubS.val rfl (by rw [(wai_e0 (s := s) (x := x)  hw0 hw1).2, show s.cps.length = k by omega] <;> rfl) (SubS.val rfl (by exact sb_data (by rw [(wai_e0 (s := s) (x := x)  hw0 hw1).2, show s.cps.length = k by omega] <;> rfl)) (SubS.val rfl (by exact sb_data (by rw [(wai_e0 (s := s) (x := x)  hw0 hw1).2, show s.cps.length = k by omega] <;> rfl)) SubS.nil)))

set_option maxRecDepth 8000 in
theorem cancel_m {s : St} {x : Sp} (hv : validS s) :
    Con Try.prog 25 [.ref 0 0, vA (eSp x)] [(0, .cells 28 [.u (uI s.now), .own 1, .own 2]), (1, .data 43 8 ((s.cps).map eCp)), (2, .data 51 2 ((s.lns).map eLn))] (vI (clcE s x)) [(0, .cells 28 [.u (uI (clcS s x).now), .own 4, .own 3]), (4, .data 43 8 (((clcS s x).cps).map eCp)), (3, .data 51 2 (((clcS s x).lns).map eLn))] := by
 have hn := hv.1
 unfold inB at hn
 have hcl := hv.2.1
 have hok := valid_ok hv
 have hid := valid_asc hv
 obtain ⟨i43, hi43, hz43, hs43, hb43⟩ := hinf43
 obtain ⟨i51, hi51, hz51, hs51, hb51⟩ := hinf51
 refine Con.enterL (n := 68) Try.func25 rfl rfl rfl (fun τ w ok vs hin => ?_)
 clear hin
 refine W.rg ?_
 refine SL.memS (O.box (is := [_, _, _, _, _, _, _, _]) 101 rfl rfl (by simp) rfl rfl Taken.no) rfl rfl (S' := (101, _) :: _) rfl ?_
 refine SL.an rfl rfl (E.fo (W.seq (W.rg (SL.mv rfl rfl ?_))))
 refine SL.val (O.nilCheck rfl rfl rfl Taken.no) ?_
 refine SL.val (O.fld_ref (o' := 1) rfl Try.underlying28 rfl (m := 0) (by kernel_rfl) rfl rfl Taken.no) ?_
 refine SL.val (O.ld1 (PtI.ref rfl rfl) rfl Try.underlying25 rfl rfl Taken.no) ?_
 refine SL.val (O.lenE (SlOf.own rfl rfl) (by first | exact List.length_map _ | rfl) Try.underlying25 rfl Taken.no) ?_
 refine SL.mv rfl rfl (E.fo (W.block ?_))
 refine W.loopx1 (fun (k : Nat) => [(16, vI (k : Int))]) (fun (k : Nat) => []) (fun (k : Nat) => k ≤ s.cps.length ∧ ∀ j, j < k → (fun c : Cp => decide (c.place = 3 ∧ c.hold = x.hold)) s.cps[j]! = false) (fun (k : Nat) => s.cps.length - k) (0) (rn []) (.cons (t := 0) rfl (.cons (t := 3) rfl (.cons (t := 15) rfl .nil))) (.cons (t := 0) rfl (.cons (t := 1) rfl (.cons (t := 2) rfl (.cons (t := 101) rfl .nil)))) rfl ?_ ?_ rfl rfl ?_ ?_
 · exact (SubF.cons rfl SubF.nil)
 · exact SubS.nil
 ·skip
  exact ⟨by omega, fun j h => by omega⟩
 intro k hinv
 obtain ⟨hk, hp⟩ := hinv
 refine W.rg ?_
 refine SL.val (O.det (fun _ => G.R.lss rfl rfl) rfl Taken.no) ?_
 refine E.fo (W.seq ?_)
 first | refine W.cond_d rfl (fun hc1 => ?_) (fun hc1 => ?_) | refine W.cond_nd rfl (fun hc1 => ?_) (fun hc1 => ?_) | refine W.cond rfl (fun hc1 => ?_) (fun hc1 => ?_)
 ·skip
  refine W.skip (E.to (W.seq (W.block (W.rg (SL.mv rfl rfl (SL.an rfl rfl (E.fo (W.rg (SL.mv rfl rfl ?_)))))))))
  refine SL.val (O.nilCheck rfl rfl rfl Taken.no) ?_
  refine SL.val (O.fld_ref (o' := 1) rfl Try.underlying28 rfl (m := 0) (by kernel_rfl) rfl rfl Taken.no) ?_
  refine SL.val (O.ld1 (PtI.ref rfl rfl) rfl Try.underlying25 rfl rfl Taken.no) ?_
  refine SL.mv rfl rfl ?_
  refine SL.val (O.idx_own (i := k) rfl rfl rfl (rfl) (by rw [List.length_map]; omega) Try.underlying25 hi43 hs43 rfl Taken.no) ?_
  refine SL.an rfl rfl (E.fo (W.seq ?_))
  refine W.draw [⟨[], [], [], [1]⟩, ⟨[], [], [], [1]⟩, ⟨[], [], [], [1]⟩, ⟨[1], [], [], []⟩, ⟨[], [], [], []⟩, ⟨[], [], [], []⟩, ⟨[], [], [], [1]⟩, ⟨[], [], [], [1]⟩, ⟨[], [], [], [1]⟩, ⟨[1], [], [], []⟩, ⟨[], [], [], [101]⟩, ⟨[101], [], [], []⟩, ⟨[], [], [], []⟩, ⟨[], [], [], []⟩] rfl (by kernel_rfl) (by kernel_rfl) rfl rfl ?_
  refine WH.mv rfl rfl rfl ?_
  refine WH.val (O.nilCheck rfl rfl rfl Taken.no) rfl rfl ?_
  refine WH.val (O.fld_el (o' := 3) rfl Try.underlying43 rfl (m := 0) (by kernel_rfl) rfl rfl Taken.no) rfl rfl ?_
  refine WH.val (O.ld1 (PtI.ofU (PtU.el rfl rfl (row_get (by omega)))) rfl Try.underlying3 rfl rfl Taken.no) rfl rfl ?_
  refine WH.val (O.det (fun _ => G.R.eql rfl rfl) rfl Taken.no) rfl rfl ?_
  refine WH.mv rfl rfl rfl ?_
  refine WH.case (j := 5) (g := 30) (want := true) rfl rfl (fun hg2 => ?_) (fun hg2 => ?_)
  ·skip
   first | have hg2p := G.gA1 hg2 | have hg2p := G.gA2 hg2 | have hg2p := hg2
   refine WH.val (O.move rfl rfl (Taken.yes rfl rfl hg2)) rfl rfl ?_
   refine WH.val (O.nilCheck rfl rfl rfl (Taken.yes rfl rfl hg2)) rfl rfl ?_
   refine WH.val (O.fld_el (o' := 6) rfl Try.underlying43 rfl (m := 0) (by kernel_rfl) rfl rfl (Taken.yes rfl rfl hg2)) rfl rfl ?_
   refine WH.val (O.ld1 (PtI.ofU (PtU.el rfl rfl (row_get (by omega)))) rfl Try.underlying3 rfl rfl (Taken.yes rfl rfl hg2)) rfl rfl ?_
   refine WH.val (O.fld_ref (o' := 4) rfl Try.underlying34 rfl (m := 0) (by kernel_rfl) rfl rfl (Taken.yes rfl rfl hg2)) rfl rfl ?_
   refine WH.val (O.ld1 (PtI.ref rfl rfl) rfl Try.underlying3 rfl rfl (Taken.yes rfl rfl hg2)) rfl rfl ?_
   refine WH.val (O.det (fun _ => G.R.eql rfl rfl) rfl (Taken.yes rfl rfl hg2)) rfl rfl ?_
   refine WH.val (O.pick_t rfl hg2 rfl rfl Taken.no) rfl rfl ?_
   refine WH.nil (E.to ?_)
   refine W.pick (K:=[(0,_),(3,_),(6,_),(15,_),(16,_),(38,_)]) (Z:=[(0,_),(1,_),(2,_),(101,_)]) ⟨rfl,rfl,rfl,rfl,rfl,rfl,trivial⟩ ⟨rfl,rfl,rfl,rfl,trivial⟩ ?_
   first | refine W.cond_d rfl (fun hc3 => ?_) (fun hc3 => ?_) | refine W.cond_nd rfl (fun hc3 => ?_) (fun hc3 => ?_) | refine W.cond rfl (fun hc3 => ?_) (fun hc3 => ?_)
   ·skip
    have hwk : wtI s x.hold = (k : Int) := idxF_here (p := (fun c : Cp => decide (c.place = 3 ∧ c.hold = x.hold))) (by omega) hp (decide_eq_true ⟨by omega, by omega⟩)
    have hwt : (wtI s x.hold).toNat = k := by omega
    refine W.rg (SL.mv rfl rfl (SL.mv rfl rfl ?_))
    refine SL.memS (O.call (rn [(0, 0), (1, 1), (2, 2), (3, 102)]) [] rfl rfl rfl (free_h (s := s) (i := k) (n := 60) (by omega) (by omega) hok (by omega)) (.cons (ArgOk.same rfl) (.cons (ArgOk.same rfl) .nil)) (SubS.cons rfl (SubS.cons rfl (SubS.cons rfl SubS.nil))) rfl rfl rfl rfl rfl (.inl rfl) hcallOk48 (r' := .tup []) rfl rfl Taken.no) rfl rfl (S' := (0, .cells _ [.u _, .own 1, .own 102]) :: (1, .data _ _ _) :: (102, .data _ _ _) :: (2, .dead) :: _) rfl ?_
    refine E.fo (W.rg (SL.an rfl rfl (E.fo (W.ret ?_))))
    refine E.inr ?_
    refine E.thr (E.thr ?_)
    refine E.inr ?_
    refine E.thr ?_
    refine E.fin (rs := [_]) (rn [(3, 102), (4, 1)]) (.inl rfl) rfl (.cons (ResOne.tmp rfl) .nil) ?_ ?_ rfl (fixL_spec rfl)
    ·skip
     rw [(clc_w (s := s) (x := x)  (by omega)).1]; rfl
    · exact (SubS.val rfl (by rw [(clc_w (s := s) (x := x)  (by omega)).2, hwt] <;> rfl) (SubS.val rfl (by exact sb_data (by rw [(clc_w (s := s) (x := x)  (by omega)).2, hwt] <;> rfl)) (SubS.val rfl (by exact sb_data (by rw [(clc_w (s := s) (x := x)  (by omega)).2, hwt] <;> rfl)) SubS.nil)))
   refine W.skip (E.inn (E.to (W.region ?_)))
   refine SL.val (O.det (fun _ => by first | exact G.R.add64 rfl rfl (by omega) | exact G.R.add rfl rfl) rfl Taken.no) ?_
   refine SL.mv rfl rfl (SL.nil ?_)
   refine E.again ((k + 1)) (rn []) ?_ ?_ rfl (fixL_spec rfl) ?_ ?_
   · exact (SubF.cons rfl (SubF.cons rfl (SubF.cons rfl (SubF.cons rfl SubF.nil))))
   · exact (SubS.cons rfl (SubS.cons rfl (SubS.cons rfl (SubS.cons rfl SubS.nil))))
   ·try dsimp only
    exact ⟨by omega, upto_s hp (decide_eq_false (by rintro ⟨z1, z2⟩; omega))⟩
   · (try dsimp only); omega
  first | have hg2p := G.gA5 hg2 | have hg2p := G.gA6 hg2 | have hg2p := hg2
  refine WH.sk rfl rfl rfl hg2 (WH.sk rfl rfl rfl hg2 (WH.sk rfl rfl rfl hg2 (WH.sk rfl rfl rfl hg2 (WH.sk rfl rfl rfl hg2 (WH.sk rfl rfl rfl hg2 (WH.sk rfl rfl rfl hg2 ?_))))))
  refine WH.val (O.pick_f rfl (G.ne_t hg2) rfl rfl Taken.no) rfl rfl ?_
  refine WH.nil (E.to ?_)
  refine W.pick (K:=[(0,_),(3,_),(6,_),(15,_),(16,_),(38,_)]) (Z:=[(0,_),(1,_),(2,_),(101,_)]) ⟨rfl,rfl,rfl,rfl,rfl,rfl,trivial⟩ ⟨rfl,rfl,rfl,rfl,trivial⟩ ?_
  refine W.cond_f rfl ?_
  refine W.skip (E.inn (E.to (W.region ?_)))
  refine SL.val (O.det (fun _ => by first | exact G.R.add64 rfl rfl (by omega) | exact G.R.add rfl rfl) rfl Taken.no) ?_
  refine SL.mv rfl rfl (SL.nil ?_)
  refine E.again ((k + 1)) (rn []) ?_ ?_ rfl (fixL_spec rfl) ?_ ?_
  · exact (SubF.cons rfl (SubF.cons rfl (SubF.cons rfl (SubF.cons rfl SubF.nil))))
  · exact (SubS.cons rfl (SubS.cons rfl (SubS.cons rfl (SubS.cons rfl SubS.nil))))
  ·try dsimp only
   exact ⟨by omega, upto_s hp (decide_eq_false (by rintro ⟨z1, z2⟩; omega))⟩
  · (try dsimp only); omega
 have hnw : ¬ 0 ≤ wtI s x.hold := by have z := idxF_none (p := (fun c : Cp => decide (c.place = 3 ∧ c.hold = x.hold))) (l := s.cps) (k := k) (by omega) hp; unfold wtI; omega
 refine W.exit (E.th (E.th (E.hit (E.to (W.seq (W.rg (SL.mv rfl rfl ?_)))))))
 refine SL.val (O.nilCheck rfl rfl rfl Taken.no) ?_
 refine SL.val (O.fld_ref (o' := 2) rfl Try.underlying28 rfl (m := 0) (by kernel_rfl) rfl rfl Taken.no) ?_
 refine SL.val (O.ld1 (PtI.ref rfl rfl) rfl Try.underlying26 rfl rfl Taken.no) ?_
 refine SL.val (O.lenE (SlOf.own rfl rfl) (by first | exact List.length_map _ | rfl) Try.underlying26 rfl Taken.no) ?_
 refine SL.mv rfl rfl (E.fo (W.block ?_))
 refine W.loopx1 (fun (i : Nat) => [(48, vI (i : Int))]) (fun (i : Nat) => []) (fun (i : Nat) => i ≤ s.lns.length ∧ ∀ j, j < i → (fun l : Ln => decide (canE l.q x.hold = 0)) s.lns[j]! = false) (fun (i : Nat) => s.lns.length - i) (0) (rn []) (.cons (t := 0) rfl (.cons (t := 3) rfl (.cons (t := 46) rfl (.cons (t := 47) rfl .nil)))) (.cons (t := 0) rfl (.cons (t := 1) rfl (.cons (t := 2) rfl (.cons (t := 101) rfl .nil)))) rfl ?_ ?_ rfl rfl ?_ ?_
 · exact (SubF.cons rfl SubF.nil)
 · exact SubS.nil
 ·skip
  exact ⟨by omega, fun j h => by omega⟩
 intro i hinv
 obtain ⟨hi, hq⟩ := hinv
 have hl60 := hok.2.1
 refine W.rg ?_
 refine SL.val (O.det (fun _ => G.R.lss rfl rfl) rfl Taken.no) ?_
 refine E.fo (W.seq ?_)
 first | refine W.cond_d rfl (fun hc4 => ?_) (fun hc4 => ?_) | refine W.cond_nd rfl (fun hc4 => ?_) (fun hc4 => ?_) | refine W.cond rfl (fun hc4 => ?_) (fun hc4 => ?_)
 ·skip
  refine W.skip (E.to (W.seq (W.block (W.rg ?_))))
  refine SL.val (O.idx_own (i := i) rfl rfl rfl (rfl) (by rw [List.length_map]; omega) Try.underlying26 hi51 hs51 rfl Taken.no) ?_
  refine SL.val (O.ldU (m := 2) (PtU.el rfl rfl (row_get (by omega))) rfl Try.underlying51 rfl (by kernel_rfl) rfl Taken.no) ?_
  refine SL.memS (O.alloc (z := .agg #[.int .i64 0, .slice none 0 0]) (is := [.u (.sc (.int .i64 0)), .u (.sc (.slice none 0 0))]) 103 (by kernel_rfl) rfl rfl rfl Taken.no) rfl rfl (S' := (103, _) :: _) rfl ?_
  refine SL.effS (O.st_ref (m := 2) rfl rfl rfl (js := [_, _]) rfl rfl (by kernel_rfl) (by simp) (Nat.le_of_ble_eq_true rfl) rfl (is' := [_, _]) rfl Taken.no) (S' := (103, _) :: _) rfl ?_
  refine E.fo (W.rg ?_)
  refine SL.val (O.fld_ref (o' := 1) rfl Try.underlying51 rfl (m := 0) (by kernel_rfl) rfl rfl Taken.no) ?_
  refine SL.val (O.ld1 (PtI.ref rfl rfl) rfl Try.underlying40 rfl rfl Taken.no) ?_
  refine SL.val (O.fld_ref (o' := 4) rfl Try.underlying34 rfl (m := 0) (by kernel_rfl) rfl rfl Taken.no) ?_
  refine SL.val (O.ld1 (PtI.ref rfl rfl) rfl Try.underlying3 rfl rfl Taken.no) ?_
  refine SL.memS (O.call (rn []) [] rfl rfl rfl (holdCancel_h (q := s.lns[i]!.q) x.hold) (.cons (ArgOk.same rfl) (.cons (ArgOk.same rfl) .nil)) SubS.nil rfl rfl rfl rfl rfl (.inl rfl) hcallOk60 (r' := .tup [.u _, .u _]) rfl rfl Taken.no) rfl rfl (S' := _) rfl ?_
  refine SL.mv rfl rfl ?_
  refine SL.val (O.extract rfl rfl rfl Taken.no) ?_
  refine SL.val (O.extract rfl rfl rfl Taken.no) ?_
  refine SL.an rfl rfl (SL.an rfl rfl (E.fo (W.rg (SL.mv rfl rfl ?_))))
  refine SL.val (O.det (fun _ => G.R.eql rfl rfl) rfl Taken.no) ?_
  refine E.fo ?_
  first | refine W.cond_d rfl (fun hc5 => ?_) (fun hc5 => ?_) | refine W.cond_nd rfl (fun hc5 => ?_) (fun hc5 => ?_) | refine W.cond rfl (fun hc5 => ?_) (fun hc5 => ?_)
  ·skip
   have hlk : lnI s x.hold = (i : Int) := idxF_here (p := (fun l : Ln => decide (canE l.q x.hold = 0))) (by omega) hq (decide_eq_true (by omega))
   have hlt : (lnI s x.hold).toNat = i := by omega
   refine W.rg (SL.mv rfl rfl ?_)
   refine SL.val (O.fld_ref (o' := 0) rfl Try.underlying51 rfl (m := 0) (by kernel_rfl) rfl rfl Taken.no) ?_
   refine SL.val (O.ld1 (PtI.ref rfl rfl) rfl Try.underlying3 rfl rfl Taken.no) ?_
   refine SL.mv rfl rfl ?_
   refine SL.memS (O.call (rn [(0, 0), (1, 1), (2, 2), (3, 104)]) [] rfl rfl rfl (setQueue_h (s := s) (wk := s.lns[i]!.work) (q := canQ s.lns[i]!.q x.hold) hok.1 (by omega)) (.cons (ArgOk.same rfl) (.cons (ArgOk.same rfl) (.cons (ArgOk.same rfl) .nil))) (SubS.cons rfl (SubS.cons rfl (SubS.cons rfl SubS.nil))) rfl rfl rfl rfl rfl (.inl rfl) hcallOk58 (r' := .tup []) rfl rfl Taken.no) rfl rfl (S' := (0, .cells _ [.u _, .own 1, .own 104]) :: (1, .data _ _ _) :: (104, .data _ _ _) :: (2, .dead) :: _) rfl ?_
   refine E.fo ?_
   refine W.pick (K:=[(0,_),(3,_),(46,_),(47,_),(48,_)]) (Z:=[(0,_),(1,_),(101,_),(103,_),(104,_)]) ⟨rfl,rfl,rfl,rfl,rfl,trivial⟩ ⟨rfl,rfl,rfl,rfl,rfl,trivial⟩ ?_
   refine W.rg (SL.an rfl rfl (E.fo (W.ret ?_)))
   refine E.inr ?_
   refine E.thr (E.thr ?_)
   refine E.inr ?_
   refine E.thr ?_
   refine E.fin (rs := [_]) (rn [(3, 104), (4, 1)]) (.inl rfl) rfl (.cons (ResOne.tmp rfl) .nil) ?_ ?_ rfl (fixL_spec rfl)
   ·skip
    rw [(clc_l (s := s) (x := x)  hnw (by omega)).1]; rfl
   · exact (SubS.val rfl (by rw [(clc_l (s := s) (x := x)  hnw (by omega)).2, hlt] <;> rfl) (SubS.val rfl (by exact sb_data (by rw [(clc_l (s := s) (x := x)  hnw (by omega)).2, hlt] <;> rfl)) (SubS.val rfl (by exact sb_data (by rw [(clc_l (s := s) (x := x)  hnw (by omega)).2, hlt] <;> rfl)) SubS.nil)))
  refine W.skip (E.inn (E.to (W.region ?_)))
  refine SL.val (O.det (fun _ => by first | exact G.R.add64 rfl rfl (by omega) | exact G.R.add rfl rfl) rfl Taken.no) ?_
  refine SL.mv rfl rfl (SL.nil ?_)
  refine E.again ((i + 1)) (rn []) ?_ ?_ rfl (fixL_spec rfl) ?_ ?_
  · exact (SubF.cons rfl (SubF.cons rfl (SubF.cons rfl (SubF.cons rfl (SubF.cons rfl SubF.nil)))))
  · exact (SubS.cons rfl (SubS.cons rfl (SubS.cons rfl (SubS.cons rfl SubS.nil))))
  ·try dsimp only
   exact ⟨by omega, upto_s hq (decide_eq_false (by omega))⟩
  · (try dsimp only); omega
 have hnl : ¬ 0 ≤ lnI s x.hold := by have z := idxF_none (p := (fun l : Ln => decide (canE l.q x.hold = 0))) (l := s.lns) (k := i) (by omega) hq; unfold lnI; omega
 refine W.exit (E.th (E.th (E.hit (E.to (W.rg (SL.an rfl rfl (E.fo (W.ret ?_))))))))
 refine E.fin (rs := [_]) (rn [(3, 2), (4, 1)]) (.inl rfl) rfl (.cons (ResOne.tmp rfl) .nil) ?_ ?_ rfl (fixL_spec rfl)
 ·skip
  rw [(clc_n (s := s) (x := x)  hnw hnl).1]; rfl
 · exact (SubS.val rfl (by rw [(clc_n (s := s) (x := x)  hnw hnl).2] <;> rfl) (SubS.val rfl (by exact sb_data (by rw [(clc_n (s := s) (x := x)  hnw hnl).2] <;> rfl)) (SubS.val rfl (by exact sb_data (by rw [(clc_n (s := s) (x := x)  hnw hnl).2] <;> rfl)) SubS.nil)))

set_option maxRecDepth 8000 in
theorem ask1_h {h : Hd} {x : Sp} :
    Con Try.prog 55 [vA (eH h), .u (.ptr (eSp x))] [] (vB (decide (h.pat = x.pat))) [] := by
 refine Con.enterL (n := 9) Try.func55 rfl rfl rfl (fun τ w ok vs hin => ?_)
 clear hin
 refine W.rg ?_
 refine SL.memS (O.box (is := [_, _, _, _, _]) 101 rfl rfl (by simp) rfl rfl Taken.no) rfl rfl (S' := (101, _) :: _) rfl ?_
 refine SL.an rfl rfl (E.fo (W.rg ?_))
 refine SL.val (O.fld_ref (o' := 1) rfl Try.underlying47 rfl (m := 0) (by kernel_rfl) rfl rfl Taken.no) ?_
 refine SL.val (O.ld1 (PtI.ref rfl rfl) rfl Try.underlying3 rfl rfl Taken.no) ?_
 refine SL.val (O.fld_fz rfl Try.underlying34 rfl (m := 0) (by kernel_rfl) rfl rfl Taken.no) ?_
 refine SL.val (O.ld1 (PtI.ofU (PtU.fz rfl)) rfl Try.underlying3 rfl rfl Taken.no) ?_
 refine SL.val (O.det (fun _ => G.R.eql rfl rfl) rfl Taken.no) ?_
 refine SL.an rfl rfl (E.fo (W.ret ?_))
 refine E.fin (rs := [_]) (rn []) (.inl rfl) rfl (.cons (ResOne.tmp rfl) .nil) ?_ ?_ rfl (fixL_spec rfl)
 ·skip
  rfl
 · exact SubS.nil

set_option maxRecDepth 8000 in
theorem ask_m {s : St} {x : Sp} (hv : validS s) :
    Con Try.prog 24 [.ref 0 0, vA (eSp x)] [(0, .cells 28 [.u (uI s.now), .own 1, .own 2]), (1, .data 43 8 ((s.cps).map eCp)), (2, .data 51 2 ((s.lns).map eLn))] (vI (askE s x)) [(0, .cells 28 [.u (uI (askS s x).now), .own 4, .own 3]), (4, .data 43 8 (((askS s x).cps).map eCp)), (3, .data 51 2 (((askS s x).lns).map eLn))] := by
 have hn := hv.1
 unfold inB at hn
 have hcl := hv.2.1
 have hok := valid_ok hv
 have hid := valid_asc hv
 obtain ⟨i3, hi3, hz3, hs3, hb3⟩ := hinf3
 obtain ⟨i43, hi43, hz43, hs43, hb43⟩ := hinf43
 refine Con.enterL (n := 128) Try.func24 rfl rfl rfl (fun τ w ok vs hin => ?_)
 clear hin
 refine W.rg ?_
 refine SL.memS (O.box (is := [_, _, _, _, _, _, _, _]) 101 rfl rfl (by simp) rfl rfl Taken.no) rfl rfl (S' := (101, _) :: _) rfl ?_
 refine SL.an rfl rfl (E.fo (W.seq ?_))
 refine W.draw [⟨[], [], [], [0]⟩, ⟨[], [], [], [0]⟩, ⟨[0], [], [], [1, 2]⟩, ⟨[], [], [], [101]⟩, ⟨[101], [], [], []⟩, ⟨[1, 2, 102], [102], [102], []⟩, ⟨[], [], [], [102]⟩] rfl (by kernel_rfl) (by kernel_rfl) rfl rfl ?_
 refine WH.mv rfl rfl rfl ?_
 refine WH.val (O.nilCheck rfl rfl rfl Taken.no) rfl rfl ?_
 refine WH.val (O.ldN (m := 3) (PtI.ref rfl rfl) (js := [_, _, _]) rfl (Nat.le_of_ble_eq_true rfl) Try.underlying28 rfl (by kernel_rfl) rfl Taken.no) rfl rfl ?_
 refine WH.val (O.fld_ref (o' := 2) rfl Try.underlying34 rfl (m := 0) (by kernel_rfl) rfl rfl Taken.no) rfl rfl ?_
 refine WH.val (O.ld1 (PtI.ref rfl rfl) rfl Try.underlying3 rfl rfl Taken.no) rfl rfl ?_
 refine WH.memS (O.call (rn [(0, 102)]) [1, 2] rfl rfl rfl (queueO_h (s := s) (i := x.work) (fun l hl => by have := hok.2.2 l hl; omega)) (.cons (ArgOk.aggU (.cons (ArgOk.same rfl) (.cons (ArgOk.own rfl rfl) (.cons (ArgOk.own rfl rfl) .nil)))) (.cons (ArgOk.same rfl) .nil)) SubS.nil rfl rfl rfl rfl rfl (.inr ⟨rfl, fun x hx => by rw [List.mem_singleton] at hx; subst hx; exact flat_H _⟩) hcallOk12 (r' := .own 102) rfl rfl Taken.no) rfl rfl rfl rfl rfl (S' := (102, .data _ _ _) :: _) rfl ?_
 refine WH.val (O.assign rfl rfl Taken.no) rfl rfl ?_
 refine WH.nil (E.to (W.seq (W.block (W.rg ?_))))
 refine SL.val (O.fld_ref (o' := 2) rfl Try.underlying34 rfl (m := 0) (by kernel_rfl) rfl rfl Taken.no) ?_
 refine SL.freeze 102 rfl (F' := [(5, _)]) (⟨⟨_, rfl, rfl⟩, trivial⟩) ?_
 refine SL.val (O.ld1 (PtI.ref rfl rfl) rfl Try.underlying3 rfl rfl Taken.no) ?_
 refine SL.val (O.callp rfl rfl rfl (id_h) (.cons (ArgOk.same rfl) .nil) hcallOk42 rfl Taken.no) ?_
 refine SL.val (O.det (fun _ => G.R.not rfl) rfl Taken.no) ?_
 refine SL.mv rfl rfl ?_
 refine SL.case (j := 4) (g := 20) (want := false) rfl rfl (fun hg1 => ?_) (fun hg1 => ?_)
 ·skip
  first | have hg1p := G.gA3 hg1 | have hg1p := G.gA4 hg1 | have hg1p := hg1
  refine SL.val (O.fld_ref (o' := 3) rfl Try.underlying34 rfl (m := 0) (by kernel_rfl) rfl rfl (Taken.yes rfl rfl hg1)) ?_
  refine SL.val (O.ld1 (PtI.ref rfl rfl) rfl Try.underlying3 rfl rfl (Taken.yes rfl rfl hg1)) ?_
  refine SL.val (O.callp rfl rfl rfl (id_h) (.cons (ArgOk.same rfl) .nil) hcallOk42 rfl (Taken.yes rfl rfl hg1)) ?_
  refine SL.val (O.det (fun _ => G.R.not rfl) rfl (Taken.yes rfl rfl hg1)) ?_
  refine SL.val (O.pick_f rfl hg1 rfl rfl Taken.no) ?_
  refine SL.mv rfl rfl ?_
  refine SL.case (j := 10) (g := 26) (want := false) rfl rfl (fun hg2 => ?_) (fun hg2 => ?_)
  ·skip
   first | have hg2p := G.gA3 hg2 | have hg2p := G.gA4 hg2 | have hg2p := hg2
   refine SL.val (O.fld_ref (o' := 4) rfl Try.underlying34 rfl (m := 0) (by kernel_rfl) rfl rfl (Taken.yes rfl rfl hg2)) ?_
   refine SL.val (O.ld1 (PtI.ref rfl rfl) rfl Try.underlying3 rfl rfl (Taken.yes rfl rfl hg2)) ?_
   refine SL.val (O.callp rfl rfl rfl (id_h) (.cons (ArgOk.same rfl) .nil) hcallOk42 rfl (Taken.yes rfl rfl hg2)) ?_
   refine SL.val (O.det (fun _ => G.R.not rfl) rfl (Taken.yes rfl rfl hg2)) ?_
   refine SL.val (O.pick_f rfl hg2 rfl rfl Taken.no) ?_
   refine SL.mv rfl rfl ?_
   refine SL.case (j := 16) (g := 32) (want := false) rfl rfl (fun hg3 => ?_) (fun hg3 => ?_)
   ·skip
    first | have hg3p := G.gA3 hg3 | have hg3p := G.gA4 hg3 | have hg3p := hg3
    refine SL.val (O.fld_ref (o' := 5) rfl Try.underlying34 rfl (m := 0) (by kernel_rfl) rfl rfl (Taken.yes rfl rfl hg3)) ?_
    refine SL.val (O.ld1 (PtI.ref rfl rfl) rfl Try.underlying3 rfl rfl (Taken.yes rfl rfl hg3)) ?_
    refine SL.val (O.callp rfl rfl rfl (in_h) (.cons (ArgOk.same rfl) (.cons (ArgOk.same rfl) (.cons (ArgOk.same rfl) .nil))) hcallOk17 rfl (Taken.yes rfl rfl hg3)) ?_
    refine SL.val (O.det (fun _ => G.R.not rfl) rfl (Taken.yes rfl rfl hg3)) ?_
    refine SL.val (O.pick_f rfl hg3 rfl rfl Taken.no) ?_
    refine SL.an rfl rfl (E.fo ?_)
    refine W.pick (K:=[(0,_),(3,_),(4,_),(5,_),(15,_)]) (Z:=[(0,_),(1,_),(2,_),(101,_)]) ⟨rfl,rfl,rfl,rfl,rfl,trivial⟩ ⟨rfl,rfl,rfl,rfl,trivial⟩ ?_
    first | refine W.cond_d rfl (fun hc4 => ?_) (fun hc4 => ?_) | refine W.cond_nd rfl (fun hc4 => ?_) (fun hc4 => ?_) | refine W.cond rfl (fun hc4 => ?_) (fun hc4 => ?_)
    ·skip
     have ha0 : ¬ (idB x.work ∧ idB x.pat ∧ idB x.hold ∧ inB x.cls 1 3) := by intro z; simp_all
     refine W.rg (SL.an rfl rfl (E.fo (W.ret ?_)))
     refine E.inr ?_
     refine E.thr ?_
     refine E.fin (rs := [_]) (rn [(3, 2), (4, 1)]) (.inl rfl) rfl (.cons (ResOne.tmp rfl) .nil) ?_ ?_ rfl (fixL_spec rfl)
     ·skip
      rw [(ask_e2 (s := s) (x := x)  ha0).1]; rfl
     · exact (SubS.val rfl (by rw [(ask_e2 (s := s) (x := x)  ha0).2] <;> rfl) (SubS.val rfl (by exact sb_data (by rw [(ask_e2 (s := s) (x := x)  ha0).2] <;> rfl)) (SubS.val rfl (by exact sb_data (by rw [(ask_e2 (s := s) (x := x)  ha0).2] <;> rfl)) SubS.nil)))
    have ha0 : ¬ (¬ (idB x.work ∧ idB x.pat ∧ idB x.hold ∧ inB x.cls 1 3)) := by simp_all
    refine W.seq ?_
    refine W.draw [⟨[], [], [], [0]⟩, ⟨[], [], [], [0]⟩, ⟨[0], [], [], [1, 2]⟩, ⟨[], [], [], [101]⟩, ⟨[101], [], [], []⟩, ⟨[1, 2], [], [], []⟩, ⟨[], [], [], []⟩, ⟨[], [], [], []⟩, ⟨[], [], [], []⟩] rfl (by kernel_rfl) (by kernel_rfl) rfl rfl ?_
    refine WH.mv rfl rfl rfl ?_
    refine WH.val (O.nilCheck rfl rfl rfl Taken.no) rfl rfl ?_
    refine WH.val (O.ldN (m := 3) (PtI.ref rfl rfl) (js := [_, _, _]) rfl (Nat.le_of_ble_eq_true rfl) Try.underlying28 rfl (by kernel_rfl) rfl Taken.no) rfl rfl ?_
    refine WH.val (O.fld_ref (o' := 2) rfl Try.underlying34 rfl (m := 0) (by kernel_rfl) rfl rfl Taken.no) rfl rfl ?_
    refine WH.val (O.ld1 (PtI.ref rfl rfl) rfl Try.underlying3 rfl rfl Taken.no) rfl rfl ?_
    refine WH.memS (O.call (rn []) [1, 2] rfl rfl rfl (count_h (s := s) (work := x.work)) (.cons (ArgOk.aggU (.cons (ArgOk.same rfl) (.cons (ArgOk.own rfl rfl) (.cons (ArgOk.own rfl rfl) .nil)))) (.cons (ArgOk.same rfl) .nil)) SubS.nil rfl rfl rfl rfl rfl (.inr ⟨rfl, fun x hx => by simp at hx⟩) hcallOk10 (r' := .agg [.u _, .u _, .u _]) rfl rfl Taken.no) rfl rfl rfl rfl rfl (S' := _) rfl ?_
    refine WH.val (O.buildA (m := 1) (res := [_, _, _]) (z := .agg #[.int .i64 0, .int .i64 0, .int .i64 0]) rfl rfl Try.underlying35 (by kernel_rfl) hi3 hs3 rfl rfl Taken.no) rfl rfl ?_
    refine WH.val (O.eqArr3 (r := (decide (cntP s.cps x.work 1 = 0 ∧ cntP s.cps x.work 2 = 0 ∧ cntP s.cps x.work 3 = 0))) (.inr rfl) (.inr rfl) Try.underlying35 Try.underlying3 hi3 hs3 (by kernel_rfl) (by exact cnt3_b) rfl Taken.no) rfl rfl ?_
    refine WH.val (O.assign rfl rfl Taken.no) rfl rfl ?_
    refine WH.nil (E.to ?_)
    first | refine W.cond_d rfl (fun hc5 => ?_) (fun hc5 => ?_) | refine W.cond_nd rfl (fun hc5 => ?_) (fun hc5 => ?_) | refine W.cond rfl (fun hc5 => ?_) (fun hc5 => ?_)
    ·skip
     have ha1 : cntP s.cps x.work 1 = 0 ∧ cntP s.cps x.work 2 = 0 ∧ cntP s.cps x.work 3 = 0 := by first | assumption | simp_all
     refine W.rg (SL.an rfl rfl (E.fo (W.ret ?_)))
     refine E.inr ?_
     refine E.thr ?_
     refine E.fin (rs := [_]) (rn [(3, 2), (4, 1)]) (.inl rfl) rfl (.cons (ResOne.tmp rfl) .nil) ?_ ?_ rfl (fixL_spec rfl)
     ·skip
      rw [(ask_e9 (s := s) (x := x)  ha0 ha1).1]; rfl
     · exact (SubS.val rfl (by rw [(ask_e9 (s := s) (x := x)  ha0 ha1).2] <;> rfl) (SubS.val rfl (by exact sb_data (by rw [(ask_e9 (s := s) (x := x)  ha0 ha1).2] <;> rfl)) (SubS.val rfl (by exact sb_data (by rw [(ask_e9 (s := s) (x := x)  ha0 ha1).2] <;> rfl)) SubS.nil)))
    have ha1 : ¬ (cntP s.cps x.work 1 = 0 ∧ cntP s.cps x.work 2 = 0 ∧ cntP s.cps x.work 3 = 0) := by first | assumption | simp_all
    refine W.rg (SL.mv rfl rfl ?_)
    refine SL.val (O.fld_ref (o' := 4) rfl Try.underlying34 rfl (m := 0) (by kernel_rfl) rfl rfl Taken.no) ?_
    refine SL.val (O.ld1 (PtI.ref rfl rfl) rfl Try.underlying3 rfl rfl Taken.no) ?_
    refine SL.memS (O.call (rn [(0, 0), (1, 1), (2, 2)]) [] rfl rfl rfl (used_h (s := s) (h := x.hold)) (.cons (ArgOk.same rfl) (.cons (ArgOk.same rfl) .nil)) (SubS.cons rfl (SubS.cons rfl (SubS.cons rfl SubS.nil))) rfl rfl rfl rfl rfl (.inl rfl) hcallOk53 (r' := .u _) rfl rfl Taken.no) rfl rfl (S' := (0, .cells _ [.u _, .own 1, .own 2]) :: (1, .data _ _ _) :: (2, .data _ _ _) :: _) rfl ?_
    refine SL.as (i' := vB (useB s x.hold)) 51 rfl (by rfl) ?_
    refine SL.mv rfl rfl ?_
    refine SL.case (j := 4) (g := 52) (want := false) rfl rfl (fun hg6 => ?_) (fun hg6 => ?_)
    ·skip
     first | have hg6p := G.gA3 hg6 | have hg6p := G.gA4 hg6 | have hg6p := hg6
     refine SL.val (O.move rfl rfl (Taken.yes rfl rfl hg6)) ?_
     refine SL.val (O.fld_ref (o' := 3) rfl Try.underlying34 rfl (m := 0) (by kernel_rfl) rfl rfl (Taken.yes rfl rfl hg6)) ?_
     refine SL.val (O.ld1 (PtI.ref rfl rfl) rfl Try.underlying3 rfl rfl (Taken.yes rfl rfl hg6)) ?_
     refine SL.val (O.fld_ref (o' := 2) rfl Try.underlying34 rfl (m := 0) (by kernel_rfl) rfl rfl (Taken.yes rfl rfl hg6)) ?_
     refine SL.val (O.ld1 (PtI.ref rfl rfl) rfl Try.underlying3 rfl rfl (Taken.yes rfl rfl hg6)) ?_
     refine SL.memS (O.call (rn [(0, 0), (1, 1), (2, 2)]) [] rfl rfl rfl (owns_h (s := s) (p := x.pat) (wk := x.work)) (.cons (ArgOk.same rfl) (.cons (ArgOk.same rfl) (.cons (ArgOk.same rfl) .nil))) (SubS.cons rfl (SubS.cons rfl (SubS.cons rfl SubS.nil))) rfl rfl rfl rfl rfl (.inl rfl) hcallOk51 (r' := .u _) rfl rfl (Taken.yes rfl rfl hg6)) rfl rfl (S' := (0, .cells _ [.u _, .own 1, .own 2]) :: (1, .data _ _ _) :: (2, .data _ _ _) :: _) rfl ?_
     refine SL.as (i' := vB (decide (0 ≤ ownI s x.pat x.work))) 58 rfl (by rfl) ?_
     refine SL.val (O.pick_f rfl hg6 rfl rfl Taken.no) ?_
     refine SL.mv rfl rfl ?_
     refine SL.case (j := 12) (g := 60) (want := false) rfl rfl (fun hg7 => ?_) (fun hg7 => ?_)
     ·skip
      first | have hg7p := G.gA3 hg7 | have hg7p := G.gA4 hg7 | have hg7p := hg7
      refine SL.val (O.move rfl rfl (Taken.yes rfl rfl hg7)) ?_
      refine SL.val (O.makeFunc rfl rfl rfl (Taken.yes rfl rfl hg7)) ?_
      refine SL.memS (O.call (rn []) [101] rfl rfl rfl (containsFunc_h (q := queS s x.work) (f := 55) (caps := [.ptr (eSp x)]) (pr := fun h => decide (h.pat = x.pat)) hcallOk55 (fun h => ask1_h)) (.cons (ArgOk.same rfl) (.cons (ArgOk.cloU .nil (.cons (ArgOk.ref rfl rfl rfl) .nil)) .nil)) SubS.nil rfl rfl rfl rfl rfl (.inr ⟨rfl, fun x hx => by simp at hx⟩) hcallOk54 (r' := .u _) rfl rfl (Taken.yes rfl rfl hg7)) rfl rfl (S' := _) rfl ?_
      refine SL.as (i' := vB (decide (0 ≤ patI (queS s x.work) x.pat))) 63 rfl (by rfl) ?_
      refine SL.val (O.pick_f rfl hg7 rfl rfl Taken.no) ?_
      refine SL.an rfl rfl (E.fo ?_)
      refine W.pick (K:=[(0,_),(3,_),(4,_),(5,_),(47,_)]) (Z:=[(0,_),(1,_),(2,_),(101,_)]) ⟨rfl,rfl,rfl,rfl,rfl,trivial⟩ ⟨rfl,rfl,rfl,rfl,trivial⟩ ?_
      first | refine W.cond_d rfl (fun hc8 => ?_) (fun hc8 => ?_) | refine W.cond_nd rfl (fun hc8 => ?_) (fun hc8 => ?_) | refine W.cond rfl (fun hc8 => ?_) (fun hc8 => ?_)
      ·skip
       have ha2 : useB s x.hold = true ∨ 0 ≤ ownI s x.pat x.work ∨ 0 ≤ patI (queS s x.work) x.pat := by simp_all
       refine W.rg (SL.an rfl rfl (E.fo (W.ret ?_)))
       refine E.inr ?_
       refine E.thr ?_
       refine E.fin (rs := [_]) (rn [(3, 2), (4, 1)]) (.inl rfl) rfl (.cons (ResOne.tmp rfl) .nil) ?_ ?_ rfl (fixL_spec rfl)
       ·skip
        rw [(ask_e10 (s := s) (x := x)  ha0 ha1 ha2).1]; rfl
       · exact (SubS.val rfl (by rw [(ask_e10 (s := s) (x := x)  ha0 ha1 ha2).2] <;> rfl) (SubS.val rfl (by exact sb_data (by rw [(ask_e10 (s := s) (x := x)  ha0 ha1 ha2).2] <;> rfl)) (SubS.val rfl (by exact sb_data (by rw [(ask_e10 (s := s) (x := x)  ha0 ha1 ha2).2] <;> rfl)) SubS.nil)))
      have ha2 : ¬ (useB s x.hold = true ∨ 0 ≤ ownI s x.pat x.work ∨ 0 ≤ patI (queS s x.work) x.pat) := by simp_all
      refine W.rg (SL.mv rfl rfl ?_)
      refine SL.val (O.lenE (SlOf.fz rfl (by decide)) (by first | exact List.length_map _ | rfl) Try.underlying40 rfl Taken.no) ?_
      refine SL.val (O.det (fun _ => G.R.eql rfl rfl) rfl Taken.no) ?_
      refine SL.an rfl rfl (E.fo ?_)
      first | refine W.cond_d rfl (fun hc9 => ?_) (fun hc9 => ?_) | refine W.cond_nd rfl (fun hc9 => ?_) (fun hc9 => ?_) | refine W.cond rfl (fun hc9 => ?_) (fun hc9 => ?_)
      ·skip
       have ha3 : (queS s x.work).length = 60 := by omega
       refine W.rg (SL.an rfl rfl (E.fo (W.ret ?_)))
       refine E.inr ?_
       refine E.thr ?_
       refine E.fin (rs := [_]) (rn [(3, 2), (4, 1)]) (.inl rfl) rfl (.cons (ResOne.tmp rfl) .nil) ?_ ?_ rfl (fixL_spec rfl)
       ·skip
        rw [(ask_e20 (s := s) (x := x)  ha0 ha1 ha2 ha3).1]; rfl
       · exact (SubS.val rfl (by rw [(ask_e20 (s := s) (x := x)  ha0 ha1 ha2 ha3).2] <;> rfl) (SubS.val rfl (by exact sb_data (by rw [(ask_e20 (s := s) (x := x)  ha0 ha1 ha2 ha3).2] <;> rfl)) (SubS.val rfl (by exact sb_data (by rw [(ask_e20 (s := s) (x := x)  ha0 ha1 ha2 ha3).2] <;> rfl)) SubS.nil)))
      have ha3 : ¬ ((queS s x.work).length = 60) := by omega
      refine W.skip (E.inn (E.to (W.seq ?_)))
      refine W.draw [⟨[], [], [], [101]⟩, ⟨[101], [], [], []⟩, ⟨[], [], [], [101]⟩, ⟨[101], [], [], []⟩, ⟨[], [], [], [101]⟩, ⟨[101], [], [], []⟩, ⟨[], [], [], [0]⟩, ⟨[], [], [], [0]⟩, ⟨[], [], [], [0]⟩, ⟨[0], [], [], []⟩, ⟨[], [], [], []⟩, ⟨[103], [103], [103], []⟩, ⟨[103], [103], [], []⟩] rfl (by kernel_rfl) (by kernel_rfl) rfl rfl ?_
      refine WH.val (O.fld_ref (o' := 4) rfl Try.underlying34 rfl (m := 0) (by kernel_rfl) rfl rfl Taken.no) rfl rfl ?_
      refine WH.val (O.ld1 (PtI.ref rfl rfl) rfl Try.underlying3 rfl rfl Taken.no) rfl rfl ?_
      refine WH.val (O.fld_ref (o' := 3) rfl Try.underlying34 rfl (m := 0) (by kernel_rfl) rfl rfl Taken.no) rfl rfl ?_
      refine WH.val (O.ld1 (PtI.ref rfl rfl) rfl Try.underlying3 rfl rfl Taken.no) rfl rfl ?_
      refine WH.val (O.fld_ref (o' := 5) rfl Try.underlying34 rfl (m := 0) (by kernel_rfl) rfl rfl Taken.no) rfl rfl ?_
      refine WH.val (O.ld1 (PtI.ref rfl rfl) rfl Try.underlying3 rfl rfl Taken.no) rfl rfl ?_
      refine WH.mv rfl rfl rfl ?_
      refine WH.val (O.nilCheck rfl rfl rfl Taken.no) rfl rfl ?_
      refine WH.val (O.fld_ref (o' := 0) rfl Try.underlying28 rfl (m := 0) (by kernel_rfl) rfl rfl Taken.no) rfl rfl ?_
      refine WH.val (O.ld1 (PtI.ref rfl rfl) rfl Try.underlying3 rfl rfl Taken.no) rfl rfl ?_
      refine WH.val (O.build (res := [_, _, _, _, _]) (z := .agg #[.int .i64 0, .int .i64 0, .int .i64 0, .int .i64 0, .int .i64 0]) (places := [(0, 1), (1, 1), (2, 1), (3, 1), (4, 1)]) rfl rfl Try.underlying47 (by kernel_rfl) (fun _ => by kernel_rfl) rfl rfl Taken.no) rfl rfl ?_
      refine WH.memS (O.alloc (z := .agg #[.int .i64 0, .int .i64 0, .int .i64 0, .int .i64 0, .int .i64 0]) (is := [.u (.sc (.int .i64 0)), .u (.sc (.int .i64 0)), .u (.sc (.int .i64 0)), .u (.sc (.int .i64 0)), .u (.sc (.int .i64 0))]) 103 (by kernel_rfl) rfl rfl rfl Taken.no) rfl rfl rfl rfl rfl (S' := (103, _) :: _) rfl ?_
      refine WH.effS (O.st_ref (m := 5) rfl rfl rfl (js := [_, _, _, _, _]) rfl rfl (by kernel_rfl) (by simp) (Nat.le_of_ble_eq_true rfl) rfl (is' := [_, _, _, _, _]) rfl Taken.no) rfl rfl rfl (S' := (103, _) :: _) rfl ?_
      refine WH.nil (E.to (W.seq (W.rg (SL.mv rfl rfl ?_))))
      refine SL.val (O.nilCheck rfl rfl rfl Taken.no) ?_
      refine SL.val (O.fld_ref (o' := 1) rfl Try.underlying28 rfl (m := 0) (by kernel_rfl) rfl rfl Taken.no) ?_
      refine SL.val (O.ld1 (PtI.ref rfl rfl) rfl Try.underlying25 rfl rfl Taken.no) ?_
      refine SL.val (O.lenE (SlOf.own rfl rfl) (by first | exact List.length_map _ | rfl) Try.underlying25 rfl Taken.no) ?_
      refine SL.mv rfl rfl (E.fo ?_)
      refine W.pick (K:=[(0,_),(3,_),(4,_),(5,_),(6,_),(84,_),(85,_)]) (Z:=[(0,_),(1,_),(2,_),(101,_),(103,_)]) ⟨rfl,rfl,rfl,rfl,rfl,rfl,rfl,trivial⟩ ⟨rfl,rfl,rfl,rfl,rfl,trivial⟩ ?_
      refine W.block ?_
      refine W.loopx1 (fun (k : Nat) => [(85, vI (k : Int))]) (fun (k : Nat) => []) (fun (k : Nat) => k ≤ s.cps.length ∧ ∀ j, j < k → (fun c : Cp => decide (c.work = x.work ∧ c.place = 1)) s.cps[j]! = false) (fun (k : Nat) => s.cps.length - k) (0) (rn []) (.cons (t := 0) rfl (.cons (t := 3) rfl (.cons (t := 5) rfl (.cons (t := 6) rfl (.cons (t := 84) rfl .nil))))) (.cons (t := 0) rfl (.cons (t := 1) rfl (.cons (t := 2) rfl (.cons (t := 101) rfl (.cons (t := 103) rfl .nil))))) rfl ?_ ?_ rfl rfl ?_ ?_
      · exact (SubF.cons rfl SubF.nil)
      · exact SubS.nil
      ·skip
       exact ⟨by omega, fun j h => by omega⟩
      intro k hinv
      obtain ⟨hk, hp⟩ := hinv
      refine W.rg ?_
      refine SL.val (O.det (fun _ => G.R.lss rfl rfl) rfl Taken.no) ?_
      refine E.fo (W.seq ?_)
      first | refine W.cond_d rfl (fun hc10 => ?_) (fun hc10 => ?_) | refine W.cond_nd rfl (fun hc10 => ?_) (fun hc10 => ?_) | refine W.cond rfl (fun hc10 => ?_) (fun hc10 => ?_)
      ·skip
       refine W.skip (E.to (W.seq (W.block (W.rg (SL.mv rfl rfl (SL.an rfl rfl (E.fo (W.rg (SL.mv rfl rfl ?_)))))))))
       refine SL.val (O.nilCheck rfl rfl rfl Taken.no) ?_
       refine SL.val (O.fld_ref (o' := 1) rfl Try.underlying28 rfl (m := 0) (by kernel_rfl) rfl rfl Taken.no) ?_
       refine SL.val (O.ld1 (PtI.ref rfl rfl) rfl Try.underlying25 rfl rfl Taken.no) ?_
       refine SL.mv rfl rfl ?_
       refine SL.val (O.idx_own (i := k) rfl rfl rfl (rfl) (by rw [List.length_map]; omega) Try.underlying25 hi43 hs43 rfl Taken.no) ?_
       refine SL.an rfl rfl (E.fo (W.seq ?_))
       refine W.draw [⟨[], [], [], [1]⟩, ⟨[], [], [], [1]⟩, ⟨[], [], [], [1]⟩, ⟨[1], [], [], []⟩, ⟨[], [], [], [101]⟩, ⟨[101], [], [], []⟩, ⟨[], [], [], []⟩, ⟨[], [], [], []⟩, ⟨[], [], [], [1]⟩, ⟨[], [], [], [1]⟩, ⟨[], [], [], [1]⟩, ⟨[1], [], [], []⟩, ⟨[], [], [], []⟩, ⟨[], [], [], []⟩] rfl (by kernel_rfl) (by kernel_rfl) rfl rfl ?_
       refine WH.mv rfl rfl rfl ?_
       refine WH.val (O.nilCheck rfl rfl rfl Taken.no) rfl rfl ?_
       refine WH.val (O.fld_el (o' := 1) rfl Try.underlying43 rfl (m := 0) (by kernel_rfl) rfl rfl Taken.no) rfl rfl ?_
       refine WH.val (O.ld1 (PtI.ofU (PtU.el rfl rfl (row_get (by omega)))) rfl Try.underlying3 rfl rfl Taken.no) rfl rfl ?_
       refine WH.val (O.fld_ref (o' := 2) rfl Try.underlying34 rfl (m := 0) (by kernel_rfl) rfl rfl Taken.no) rfl rfl ?_
       refine WH.val (O.ld1 (PtI.ref rfl rfl) rfl Try.underlying3 rfl rfl Taken.no) rfl rfl ?_
       refine WH.val (O.det (fun _ => G.R.eql rfl rfl) rfl Taken.no) rfl rfl ?_
       refine WH.mv rfl rfl rfl ?_
       refine WH.case (j := 7) (g := 101) (want := true) rfl rfl (fun hg11 => ?_) (fun hg11 => ?_)
       ·skip
        first | have hg11p := G.gA1 hg11 | have hg11p := G.gA2 hg11 | have hg11p := hg11
        refine WH.val (O.move rfl rfl (Taken.yes rfl rfl hg11)) rfl rfl ?_
        refine WH.val (O.nilCheck rfl rfl rfl (Taken.yes rfl rfl hg11)) rfl rfl ?_
        refine WH.val (O.fld_el (o' := 3) rfl Try.underlying43 rfl (m := 0) (by kernel_rfl) rfl rfl (Taken.yes rfl rfl hg11)) rfl rfl ?_
        refine WH.val (O.ld1 (PtI.ofU (PtU.el rfl rfl (row_get (by omega)))) rfl Try.underlying3 rfl rfl (Taken.yes rfl rfl hg11)) rfl rfl ?_
        refine WH.val (O.det (fun _ => G.R.eql rfl rfl) rfl (Taken.yes rfl rfl hg11)) rfl rfl ?_
        refine WH.val (O.pick_t rfl hg11 rfl rfl Taken.no) rfl rfl ?_
        refine WH.nil (E.to ?_)
        refine W.pick (K:=[(0,_),(3,_),(5,_),(6,_),(8,_),(84,_),(85,_),(107,_)]) (Z:=[(0,_),(1,_),(2,_),(101,_),(103,_)]) ⟨rfl,rfl,rfl,rfl,rfl,rfl,rfl,rfl,trivial⟩ ⟨rfl,rfl,rfl,rfl,rfl,trivial⟩ ?_
        first | refine W.cond_d rfl (fun hc12 => ?_) (fun hc12 => ?_) | refine W.cond_nd rfl (fun hc12 => ?_) (fun hc12 => ?_) | refine W.cond rfl (fun hc12 => ?_) (fun hc12 => ?_)
        ·skip
         have hsk : shlI s x.work = (k : Int) := idxF_here (p := (fun c : Cp => decide (c.work = x.work ∧ c.place = 1))) (by omega) hp (decide_eq_true ⟨by omega, by omega⟩)
         have hst : (shlI s x.work).toNat = k := by omega
         refine W.rg (SL.mv rfl rfl (SL.mv rfl rfl ?_))
         refine SL.val (O.ldN (m := 5) (PtI.ref rfl rfl) (js := [_, _, _, _, _]) rfl (Nat.le_of_ble_eq_true rfl) Try.underlying47 rfl (by kernel_rfl) rfl Taken.no) ?_
         refine SL.memS (O.call (rn [(0, 0), (1, 1), (2, 2)]) [] rfl rfl rfl (waits_h (s := s) (i := k) (h := hldX s x) (by omega) hn) (.cons (ArgOk.same rfl) (.cons (ArgOk.same rfl) (.cons (ArgOk.aggU (.cons (ArgOk.same rfl) (.cons (ArgOk.same rfl) (.cons (ArgOk.same rfl) (.cons (ArgOk.same rfl) (.cons (ArgOk.same rfl) .nil)))))) .nil))) (SubS.cons rfl (SubS.cons rfl (SubS.cons rfl SubS.nil))) rfl rfl rfl rfl rfl (.inl rfl) hcallOk56 (r' := .tup []) rfl rfl Taken.no) rfl rfl (S' := (0, .cells _ [.u _, .own 1, .own 2]) :: (1, .data _ _ _) :: (2, .data _ _ _) :: _) rfl ?_
         refine E.fo (W.rg (SL.an rfl rfl (E.fo (W.ret ?_))))
         refine E.inr ?_
         refine E.thr (E.thr ?_)
         refine E.inr ?_
         refine E.thr ?_
         refine E.fin (rs := [_]) (rn [(3, 2), (4, 1)]) (.inl rfl) rfl (.cons (ResOne.tmp rfl) .nil) ?_ ?_ rfl (fixL_spec rfl)
         ·skip
          rw [(ask_e0 (s := s) (x := x)  ha0 ha1 ha2 ha3).1]; rfl
         · exact (SubS.val rfl (by rw [(ask_e0 (s := s) (x := x)  ha0 ha1 ha2 ha3).2, if_pos (by omega), hst] <;> rfl) (SubS.val rfl (by exact sb_data (by rw [(ask_e0 (s := s) (x := x)  ha0 ha1 ha2 ha3).2, if_pos (by omega), hst] <;> rfl)) (SubS.val rfl (by exact sb_data (by rw [(ask_e0 (s := s) (x := x)  ha0 ha1 ha2 ha3).2, if_pos (by omega), hst] <;> rfl)) SubS.nil)))
        refine W.skip (E.inn (E.to (W.region ?_)))
        refine SL.val (O.det (fun _ => by first | exact G.R.add64 rfl rfl (by omega) | exact G.R.add rfl rfl) rfl Taken.no) ?_
        refine SL.mv rfl rfl (SL.nil ?_)
        refine E.again ((k + 1)) (rn []) ?_ ?_ rfl (fixL_spec rfl) ?_ ?_
        · exact (SubF.cons rfl (SubF.cons rfl (SubF.cons rfl (SubF.cons rfl (SubF.cons rfl (SubF.cons rfl SubF.nil))))))
        · exact (SubS.cons rfl (SubS.cons rfl (SubS.cons rfl (SubS.cons rfl (SubS.cons rfl SubS.nil)))))
        ·try dsimp only
         exact ⟨by omega, upto_s hp (decide_eq_false (by rintro ⟨z1, z2⟩; omega))⟩
        · (try dsimp only); omega
       first | have hg11p := G.gA5 hg11 | have hg11p := G.gA6 hg11 | have hg11p := hg11
       refine WH.sk rfl rfl rfl hg11 (WH.sk rfl rfl rfl hg11 (WH.sk rfl rfl rfl hg11 (WH.sk rfl rfl rfl hg11 (WH.sk rfl rfl rfl hg11 ?_))))
       refine WH.val (O.pick_f rfl (G.ne_t hg11) rfl rfl Taken.no) rfl rfl ?_
       refine WH.nil (E.to ?_)
       refine W.pick (K:=[(0,_),(3,_),(5,_),(6,_),(8,_),(84,_),(85,_),(107,_)]) (Z:=[(0,_),(1,_),(2,_),(101,_),(103,_)]) ⟨rfl,rfl,rfl,rfl,rfl,rfl,rfl,rfl,trivial⟩ ⟨rfl,rfl,rfl,rfl,rfl,trivial⟩ ?_
       refine W.cond_f rfl ?_
       refine W.skip (E.inn (E.to (W.region ?_)))
       refine SL.val (O.det (fun _ => by first | exact G.R.add64 rfl rfl (by omega) | exact G.R.add rfl rfl) rfl Taken.no) ?_
       refine SL.mv rfl rfl (SL.nil ?_)
       refine E.again ((k + 1)) (rn []) ?_ ?_ rfl (fixL_spec rfl) ?_ ?_
       · exact (SubF.cons rfl (SubF.cons rfl (SubF.cons rfl (SubF.cons rfl (SubF.cons rfl (SubF.cons rfl SubF.nil))))))
       · exact (SubS.cons rfl (SubS.cons rfl (SubS.cons rfl (SubS.cons rfl (SubS.cons rfl SubS.nil)))))
       ·try dsimp only
        exact ⟨by omega, upto_s hp (decide_eq_false (by rintro ⟨z1, z2⟩; omega))⟩
       · (try dsimp only); omega
      have hns : ¬ 0 ≤ shlI s x.work := by have z := idxF_none (p := (fun c : Cp => decide (c.work = x.work ∧ c.place = 1))) (l := s.cps) (k := k) (by omega) hp; unfold shlI; omega
      refine W.exit (E.th (E.th (E.hit (E.to (W.rg (SL.mv rfl rfl ?_))))))
      refine SL.val (O.ldN (m := 5) (PtI.ref rfl rfl) (js := [_, _, _, _, _]) rfl (Nat.le_of_ble_eq_true rfl) Try.underlying47 rfl (by kernel_rfl) rfl Taken.no) ?_
      refine SL.memS (O.call (rn []) [] rfl rfl rfl (holdPut_h (q := queS s x.work) (h := hldX s x)) (.cons (ArgOk.same rfl) (.cons (ArgOk.aggU (.cons (ArgOk.same rfl) (.cons (ArgOk.same rfl) (.cons (ArgOk.same rfl) (.cons (ArgOk.same rfl) (.cons (ArgOk.same rfl) .nil)))))) .nil)) SubS.nil rfl rfl rfl rfl rfl (.inl rfl) hcallOk57 (r' := .tup [.u _, .u _]) rfl rfl Taken.no) rfl rfl (S' := _) rfl ?_
      refine SL.mv rfl rfl ?_
      refine SL.val (O.extract rfl rfl rfl Taken.no) ?_
      refine SL.val (O.extract rfl rfl rfl Taken.no) ?_
      refine SL.an rfl rfl (E.fo (W.rg (SL.mv rfl rfl ?_)))
      refine SL.val (O.fld_ref (o' := 2) rfl Try.underlying34 rfl (m := 0) (by kernel_rfl) rfl rfl Taken.no) ?_
      refine SL.val (O.ld1 (PtI.ref rfl rfl) rfl Try.underlying3 rfl rfl Taken.no) ?_
      refine SL.mv rfl rfl ?_
      refine SL.memS (O.call (rn [(0, 0), (1, 1), (2, 2), (3, 104)]) [] rfl rfl rfl (setQueue_h (s := s) (wk := x.work) (q := putQ (queS s x.work) (hldX s x)) hok.1 (by have := hok.2.1; omega)) (.cons (ArgOk.same rfl) (.cons (ArgOk.same rfl) (.cons (ArgOk.same rfl) .nil))) (SubS.cons rfl (SubS.cons rfl (SubS.cons rfl SubS.nil))) rfl rfl rfl rfl rfl (.inl rfl) hcallOk58 (r' := .tup []) rfl rfl Taken.no) rfl rfl (S' := (0, .cells _ [.u _, .own 1, .own 104]) :: (1, .data _ _ _) :: (104, .data _ _ _) :: (2, .dead) :: _) rfl ?_
      refine E.fo (W.rg (SL.mv rfl rfl ?_))
      refine SL.val (O.fld_ref (o' := 2) rfl Try.underlying34 rfl (m := 0) (by kernel_rfl) rfl rfl Taken.no) ?_
      refine SL.val (O.ld1 (PtI.ref rfl rfl) rfl Try.underlying3 rfl rfl Taken.no) ?_
      refine SL.memS (O.call (rn [(0, 0), (1, 1), (2, 104)]) [] rfl rfl rfl (recall_h (s := putS s x) (wk := x.work) hn (show s.cps.length ≤ 1000000 by omega)) (.cons (ArgOk.same rfl) (.cons (ArgOk.same rfl) .nil)) (SubS.cons rfl (SubS.cons rfl (SubS.cons rfl SubS.nil))) rfl rfl rfl rfl rfl (.inl rfl) hcallOk59 (r' := .tup []) rfl rfl Taken.no) rfl rfl (S' := (0, .cells _ [.u _, .own 1, .own 104]) :: (1, .data _ _ _) :: (104, .data _ _ _) :: _) rfl ?_
      refine E.fo (W.rg (SL.an rfl rfl (E.fo (W.ret ?_))))
      refine E.fin (rs := [_]) (rn [(3, 104), (4, 1)]) (.inl rfl) rfl (.cons (ResOne.tmp rfl) .nil) ?_ ?_ rfl (fixL_spec rfl)
      ·skip
       rw [(ask_e0 (s := s) (x := x)  ha0 ha1 ha2 ha3).1]; rfl
      · exact (SubS.val rfl (by rw [(ask_e0 (s := s) (x := x)  ha0 ha1 ha2 ha3).2, if_neg hns, recS_now] <;> rfl) (SubS.val rfl (by exact sb_data (by rw [(ask_e0 (s := s) (x := x)  ha0 ha1 ha2 ha3).2, if_neg hns] <;> rfl)) (SubS.val rfl (by exact sb_data (by rw [(ask_e0 (s := s) (x := x)  ha0 ha1 ha2 ha3).2, if_neg hns, recS_lns] <;> rfl)) SubS.nil)))
     first | have hg7p := G.gA7 hg7 | have hg7p := G.gA8 hg7 | have hg7p := hg7
     have ha2 : useB s x.hold = true ∨ 0 ≤ ownI s x.pat x.work ∨ 0 ≤ patI (queS s x.work) x.pat := by simp_all
     refine SL.sk rfl rfl rfl hg7 (SL.sk rfl rfl rfl hg7 (SL.sk rfl rfl rfl hg7 ?_))
     refine SL.val (O.pick_t rfl (G.ne_f hg7) rfl rfl Taken.no) ?_
     refine SL.an rfl rfl (E.fo ?_)
     refine W.pick (K:=[(0,_),(3,_),(4,_),(5,_),(47,_)]) (Z:=[(0,_),(1,_),(2,_),(101,_)]) ⟨rfl,rfl,rfl,rfl,rfl,trivial⟩ ⟨rfl,rfl,rfl,rfl,trivial⟩ ?_
     refine W.cond_t rfl ?_
     refine W.rg (SL.an rfl rfl (E.fo (W.ret ?_)))
     refine E.inr ?_
     refine E.thr ?_
     refine E.fin (rs := [_]) (rn [(3, 2), (4, 1)]) (.inl rfl) rfl (.cons (ResOne.tmp rfl) .nil) ?_ ?_ rfl (fixL_spec rfl)
     ·skip
      rw [(ask_e10 (s := s) (x := x)  ha0 ha1 ha2).1]; rfl
     · exact (SubS.val rfl (by rw [(ask_e10 (s := s) (x := x)  ha0 ha1 ha2).2] <;> rfl) (SubS.val rfl (by exact sb_data (by rw [(ask_e10 (s := s) (x := x)  ha0 ha1 ha2).2] <;> rfl)) (SubS.val rfl (by exact sb_data (by rw [(ask_e10 (s := s) (x := x)  ha0 ha1 ha2).2] <;> rfl)) SubS.nil)))
    first | have hg6p := G.gA7 hg6 | have hg6p := G.gA8 hg6 | have hg6p := hg6
    have ha2 : useB s x.hold = true ∨ 0 ≤ ownI s x.pat x.work ∨ 0 ≤ patI (queS s x.work) x.pat := by simp_all
    refine SL.sk rfl rfl rfl hg6 (SL.sk rfl rfl rfl hg6 (SL.sk rfl rfl rfl hg6 (SL.sk rfl rfl rfl hg6 (SL.sk rfl rfl rfl hg6 (SL.sk rfl rfl rfl hg6 ?_)))))
    refine SL.val (O.pick_t rfl (G.ne_f hg6) rfl rfl Taken.no) ?_
    refine SL.mv rfl rfl ?_
    have hg13 : true ≠ false := by decide
    refine SL.sk rfl rfl rfl hg13 (SL.sk rfl rfl rfl hg13 (SL.sk rfl rfl rfl hg13 ?_))
    refine SL.val (O.pick_t rfl rfl rfl rfl Taken.no) ?_
    refine SL.an rfl rfl (E.fo ?_)
    refine W.pick (K:=[(0,_),(3,_),(4,_),(5,_),(47,_)]) (Z:=[(0,_),(1,_),(2,_),(101,_)]) ⟨rfl,rfl,rfl,rfl,rfl,trivial⟩ ⟨rfl,rfl,rfl,rfl,trivial⟩ ?_
    refine W.cond_t rfl ?_
    refine W.rg (SL.an rfl rfl (E.fo (W.ret ?_)))
    refine E.inr ?_
    refine E.thr ?_
    refine E.fin (rs := [_]) (rn [(3, 2), (4, 1)]) (.inl rfl) rfl (.cons (ResOne.tmp rfl) .nil) ?_ ?_ rfl (fixL_spec rfl)
    ·skip
     rw [(ask_e10 (s := s) (x := x)  ha0 ha1 ha2).1]; rfl
    · exact (SubS.val rfl (by rw [(ask_e10 (s := s) (x := x)  ha0 ha1 ha2).2] <;> rfl) (SubS.val rfl (by exact sb_data (by rw [(ask_e10 (s := s) (x := x)  ha0 ha1 ha2).2] <;> rfl)) (SubS.val rfl (by exact sb_data (by rw [(ask_e10 (s := s) (x := x)  ha0 ha1 ha2).2] <;> rfl)) SubS.nil)))
   first | have hg3p := G.gA7 hg3 | have hg3p := G.gA8 hg3 | have hg3p := hg3
   have ha0 : ¬ (idB x.work ∧ idB x.pat ∧ idB x.hold ∧ inB x.cls 1 3) := by intro z; simp_all
   refine SL.sk rfl rfl rfl hg3 (SL.sk rfl rfl rfl hg3 (SL.sk rfl rfl rfl hg3 (SL.sk rfl rfl rfl hg3 ?_)))
   refine SL.val (O.pick_t rfl (G.ne_f hg3) rfl rfl Taken.no) ?_
   refine SL.an rfl rfl (E.fo ?_)
   refine W.pick (K:=[(0,_),(3,_),(4,_),(5,_),(15,_)]) (Z:=[(0,_),(1,_),(2,_),(101,_)]) ⟨rfl,rfl,rfl,rfl,rfl,trivial⟩ ⟨rfl,rfl,rfl,rfl,trivial⟩ ?_
   refine W.cond_t rfl ?_
   refine W.rg (SL.an rfl rfl (E.fo (W.ret ?_)))
   refine E.inr ?_
   refine E.thr ?_
   refine E.fin (rs := [_]) (rn [(3, 2), (4, 1)]) (.inl rfl) rfl (.cons (ResOne.tmp rfl) .nil) ?_ ?_ rfl (fixL_spec rfl)
   ·skip
    rw [(ask_e2 (s := s) (x := x)  ha0).1]; rfl
   · exact (SubS.val rfl (by rw [(ask_e2 (s := s) (x := x)  ha0).2] <;> rfl) (SubS.val rfl (by exact sb_data (by rw [(ask_e2 (s := s) (x := x)  ha0).2] <;> rfl)) (SubS.val rfl (by exact sb_data (by rw [(ask_e2 (s := s) (x := x)  ha0).2] <;> rfl)) SubS.nil)))
  first | have hg2p := G.gA7 hg2 | have hg2p := G.gA8 hg2 | have hg2p := hg2
  have ha0 : ¬ (idB x.work ∧ idB x.pat ∧ idB x.hold ∧ inB x.cls 1 3) := by intro z; simp_all
  refine SL.sk rfl rfl rfl hg2 (SL.sk rfl rfl rfl hg2 (SL.sk rfl rfl rfl hg2 (SL.sk rfl rfl rfl hg2 ?_)))
  refine SL.val (O.pick_t rfl (G.ne_f hg2) rfl rfl Taken.no) ?_
  refine SL.mv rfl rfl ?_
  have hg14 : true ≠ false := by decide
  refine SL.sk rfl rfl rfl hg14 (SL.sk rfl rfl rfl hg14 (SL.sk rfl rfl rfl hg14 (SL.sk rfl rfl rfl hg14 ?_)))
  refine SL.val (O.pick_t rfl rfl rfl rfl Taken.no) ?_
  refine SL.an rfl rfl (E.fo ?_)
  refine W.pick (K:=[(0,_),(3,_),(4,_),(5,_),(15,_)]) (Z:=[(0,_),(1,_),(2,_),(101,_)]) ⟨rfl,rfl,rfl,rfl,rfl,trivial⟩ ⟨rfl,rfl,rfl,rfl,trivial⟩ ?_
  refine W.cond_t rfl ?_
  refine W.rg (SL.an rfl rfl (E.fo (W.ret ?_)))
  refine E.inr ?_
  refine E.thr ?_
  refine E.fin (rs := [_]) (rn [(3, 2), (4, 1)]) (.inl rfl) rfl (.cons (ResOne.tmp rfl) .nil) ?_ ?_ rfl (fixL_spec rfl)
  ·skip
   rw [(ask_e2 (s := s) (x := x)  ha0).1]; rfl
  · exact (SubS.val rfl (by rw [(ask_e2 (s := s) (x := x)  ha0).2] <;> rfl) (SubS.val rfl (by exact sb_data (by rw [(ask_e2 (s := s) (x := x)  ha0).2] <;> rfl)) (SubS.val rfl (by exact sb_data (by rw [(ask_e2 (s := s) (x := x)  ha0).2] <;> rfl)) SubS.nil)))
 first | have hg1p := G.gA7 hg1 | have hg1p := G.gA8 hg1 | have hg1p := hg1
 have ha0 : ¬ (idB x.work ∧ idB x.pat ∧ idB x.hold ∧ inB x.cls 1 3) := by intro z; simp_all
 refine SL.sk rfl rfl rfl hg1 (SL.sk rfl rfl rfl hg1 (SL.sk rfl rfl rfl hg1 (SL.sk rfl rfl rfl hg1 ?_)))
 refine SL.val (O.pick_t rfl (G.ne_f hg1) rfl rfl Taken.no) ?_
 refine SL.mv rfl rfl ?_
 have hg15 : true ≠ false := by decide
 refine SL.sk rfl rfl rfl hg15 (SL.sk rfl rfl rfl hg15 (SL.sk rfl rfl rfl hg15 (SL.sk rfl rfl rfl hg15 ?_)))
 refine SL.val (O.pick_t rfl rfl rfl rfl Taken.no) ?_
 refine SL.mv rfl rfl ?_
 have hg16 : true ≠ false := by decide
 refine SL.sk rfl rfl rfl hg16 (SL.sk rfl rfl rfl hg16 (SL.sk rfl rfl rfl hg16 (SL.sk rfl rfl rfl hg16 ?_)))
 refine SL.val (O.pick_t rfl rfl rfl rfl Taken.no) ?_
 refine SL.an rfl rfl (E.fo ?_)
 refine W.pick (K:=[(0,_),(3,_),(4,_),(5,_),(15,_)]) (Z:=[(0,_),(1,_),(2,_),(101,_)]) ⟨rfl,rfl,rfl,rfl,rfl,trivial⟩ ⟨rfl,rfl,rfl,rfl,trivial⟩ ?_
 refine W.cond_t rfl ?_
 refine W.rg (SL.an rfl rfl (E.fo (W.ret ?_)))
 refine E.inr ?_
 refine E.thr ?_
 refine E.fin (rs := [_]) (rn [(3, 2), (4, 1)]) (.inl rfl) rfl (.cons (ResOne.tmp rfl) .nil) ?_ ?_ rfl (fixL_spec rfl)
 ·skip
  rw [(ask_e2 (s := s) (x := x)  ha0).1]; rfl
 · exact (SubS.val rfl (by rw [(ask_e2 (s := s) (x := x)  ha0).2] <;> rfl) (SubS.val rfl (by exact sb_data (by rw [(ask_e2 (s := s) (x := x)  ha0).2] <;> rfl)) (SubS.val rfl (by exact sb_data (by rw [(ask_e2 (s := s) (x := x)  ha0).2] <;> rfl)) SubS.nil)))

end Go.Proofs.Ytmekkjehkcjpdaa
end
section
namespace Go.D58
open Go Go.RowKit Go.H Go.D57
def likeL (a b : List Cp) : Prop := b.length = a.length ∧ ∀ i, i < a.length → b[i]!.id = a[i]!.id ∧ b[i]!.work = a[i]!.work ∧ b[i]!.lib = a[i]!.lib
theorem like_refl (a : List Cp) : likeL a a := ⟨rfl, fun _ _ => ⟨rfl, rfl, rfl⟩⟩
theorem like_trans {a b c : List Cp} (h1 : likeL a b) (h2 : likeL b c) : likeL a c := ⟨h2.1.trans h1.1, fun i hi => by
  obtain ⟨p1, p2, p3⟩ := h1.2 i hi
  obtain ⟨q1, q2, q3⟩ := h2.2 i (by rw [h1.1]; exact hi)
  exact ⟨q1.trans p1, q2.trans p2, q3.trans p3⟩⟩
theorem like_set {a : List Cp} {k : Nat} {c : Cp} (h : c.id = a[k]!.id ∧ c.work = a[k]!.work ∧ c.lib = a[k]!.lib) : likeL a (a.set k c) := ⟨List.length_set, fun i hi => by
  rw [get_set hi]
  split
  · rename_i e; subst e; exact h
  · exact ⟨rfl, rfl, rfl⟩⟩
theorem free_like (s : St) (i : Nat) : likeL s.cps (freeS s i).cps := by
  unfold freeS
  split
  · exact like_set ⟨rfl, rfl, rfl⟩
  · exact like_set ⟨rfl, rfl, rfl⟩
theorem late_like (s : St) : ∀ k, likeL s.cps (lateS s k).cps
  | 0 => like_refl _
  | k + 1 => by
    rw [lateS]
    split
    · exact like_trans (late_like s k) (free_like _ _)
    · exact late_like s k
theorem rec_like (s : St) (w : Int) : likeL s.cps (recS s w).cps := by
  unfold recS
  split
  · exact like_refl _
  · exact like_set ⟨rfl, rfl, rfl⟩
theorem mem_at {α : Type} [Inhabited α] {l : List α} {x : α} (h : x ∈ l) : ∃ i, i < l.length ∧ l[i]! = x := by
  obtain ⟨i, hi, rfl⟩ := List.getElem_of_mem h
  exact ⟨i, hi, getElem!_pos l i hi⟩
theorem cpI_at {s : St} (h : asc (·.id) s.cps) {j : Nat} (hj : j < s.cps.length) : cpI s s.cps[j]!.id = j :=
  idxF_here hj (fun i hi => decide_eq_false (by have : s.cps[i]!.id < s.cps[j]!.id := h i j hi hj; omega)) (decide_eq_true rfl)
theorem cpI_mem {s : St} {i : Int} (h : 0 ≤ cpI s i) : atC s i ∈ s.cps ∧ (atC s i).id = i ∧ (cpI s i).toNat < s.cps.length := by
  have := idxF_lt (p := fun c : Cp => decide (c.id = i)) (l := s.cps) h
  exact ⟨at_mem this.1, of_decide_eq_true this.2, this.1⟩
theorem do_ok {s : St} {x : Sp} (h : doE s x = 0) : validS s ∧ (1 ≤ x.kind ∧ x.kind ≤ 8) ∧ fldS x = x ∧ stE s x = 0 ∧ doS s x = stS s x := by
  have e : doS s x = stS s x := by rw [doS, if_pos h]
  unfold doE at h
  split at h
  · rename_i q; exact ⟨q.1, q.2.1, q.2.2, h, e⟩
  · cases h
theorem filt_cut {α : Type} [Inhabited α] {p : α → Bool} {l : List α} {i : Nat} (hi : i < l.length) (h1 : ∀ j, j < l.length → j ≠ i → p l[j]! = true) (h2 : p l[i]! = false) : l.filter p = l.take i ++ l.drop (i + 1) := by
  have e : l = l.take i ++ l[i]! :: l.drop (i + 1) := by rw [← drop_at hi, List.take_append_drop]
  have t1 : (l.take i).filter p = l.take i := List.filter_eq_self.2 fun a ha => by
    obtain ⟨j, hj, rfl⟩ := List.getElem_of_mem ha
    have hj2 : j < i := by rw [List.length_take] at hj; omega
    have := h1 j (by omega) (by omega)
    rw [getElem!_pos l j (by omega)] at this
    rw [List.getElem_take]; exact this
  have t2 : (l.drop (i + 1)).filter p = l.drop (i + 1) := List.filter_eq_self.2 fun a ha => by
    obtain ⟨j, hj, rfl⟩ := List.getElem_of_mem ha
    have hj2 : i + 1 + j < l.length := by rw [List.length_drop] at hj; omega
    have := h1 (i + 1 + j) hj2 (by omega)
    rw [getElem!_pos l _ hj2] at this
    rw [List.getElem_drop]; exact this
  calc l.filter p = (l.take i ++ l[i]! :: l.drop (i + 1)).filter p := by rw [← e]
    _ = _ := by rw [List.filter_append, List.filter_cons, if_neg (by rw [h2]; decide), t1, t2]
theorem rem_cut {s : St} (h : asc (·.id) s.cps) {i : Int} (hi : 0 ≤ cpI s i) : s.cps.filter (fun c => !decide (c.id = i)) = s.cps.take (cpI s i).toNat ++ s.cps.drop ((cpI s i).toNat + 1) := by
  obtain ⟨_, h2, h3⟩ := cpI_mem hi
  have h4 : s.cps[(cpI s i).toNat]!.id = i := h2
  refine filt_cut h3 (fun j hj hne => ?_) (by rw [decide_eq_true h4]; rfl)
  rw [decide_eq_false]; rfl
  intro e
  rcases Nat.lt_or_gt_of_ne hne with q | q
  · have : s.cps[j]!.id < s.cps[(cpI s i).toNat]!.id := h _ _ q h3; omega
  · have : s.cps[(cpI s i).toNat]!.id < s.cps[j]!.id := h _ _ q hj; omega
section
variable {s : St} {x : Sp}
theorem stS_1 (h : x.kind = 1) : stS s x = addS s x ∧ stE s x = addE s x := by unfold stS stE; rw [if_pos h, if_pos h]; exact ⟨rfl, rfl⟩
theorem stS_2 (h : x.kind = 2) : stS s x = remS s x ∧ stE s x = remE s x := by unfold stS stE; rw [if_neg (by omega), if_pos h, if_neg (by omega), if_pos h]; exact ⟨rfl, rfl⟩
theorem stS_3 (h : x.kind = 3) : stS s x = lenS s x ∧ stE s x = lenE s x := by unfold stS stE; rw [if_neg (by omega), if_neg (by omega), if_pos h, if_neg (by omega), if_neg (by omega), if_pos h]; exact ⟨rfl, rfl⟩
theorem stS_4 (h : x.kind = 4) : stS s x = bakS s x ∧ stE s x = bakE s x := by unfold stS stE; rw [if_neg (by omega), if_neg (by omega), if_neg (by omega), if_pos h, if_neg (by omega), if_neg (by omega), if_neg (by omega), if_pos h]; exact ⟨rfl, rfl⟩
theorem stS_5 (h : x.kind = 5) : stS s x = renS s x ∧ stE s x = renE s x := by unfold stS stE; simp [h]
theorem stS_6 (h : x.kind = 6) : stS s x = askS s x ∧ stE s x = askE s x := by unfold stS stE; simp [h]
theorem stS_7 (h : x.kind = 7) : stS s x = clcS s x ∧ stE s x = clcE s x := by unfold stS stE; simp [h]
theorem stS_8 (h : x.kind = 8) : stS s x = waiS s x ∧ stE s x = waiE s x := by unfold stS stE; simp [h]
end
theorem ins_at {s : St} {x : Sp} : (insC s x).cps[kpos (·.id) s.cps x.copy]! = newC x ∧ kpos (·.id) s.cps x.copy < (insC s x).cps.length ∧ (insC s x).cps.length = s.cps.length + 1 := by
  have hk := kpos_le (key := fun c : Cp => c.id) s.cps x.copy
  have hl : (insC s x).cps.length = s.cps.length + 1 := by simp [insC]; omega
  refine ⟨?_, by omega, hl⟩
  unfold insC
  rw [get_ins hk (by omega), if_neg (by omega), if_pos rfl]
theorem add_ok {s : St} {x : Sp} (h : addE s x = 0) : idB x.copy ∧ idB x.work ∧ nmOk x.lib ∧ ¬ 0 ≤ cpI s x.copy ∧ s.cps.length ≠ 60 ∧ addS s x = freeS (insC s x) (kpos (·.id) s.cps x.copy) := by
  have e : addS s x = freeS (insC s x) (kpos (·.id) s.cps x.copy) := by rw [addS, if_pos h]
  unfold addE at h
  split at h
  · cases h
  · split at h
    · cases h
    · split at h
      · cases h
      · split at h
        · cases h
        · rename_i h1 h2 h3 h4
          exact ⟨(Decidable.not_not.1 h1).1, (Decidable.not_not.1 h1).2, Decidable.not_not.1 h2, h3, h4, e⟩
theorem rem_ok {s : St} {x : Sp} (h : remE s x = 0) : 0 ≤ cpI s x.copy ∧ (atC s x.copy).place = 1 ∧ remS s x = ⟨s.now, s.cps.filter (fun c => !decide (c.id = x.copy)), s.lns⟩ := by
  have e : remS s x = ⟨s.now, s.cps.filter (fun c => !decide (c.id = x.copy)), s.lns⟩ := by rw [remS, if_pos h]
  unfold remE at h
  split at h
  · cases h
  · split at h
    · cases h
    · rename_i h1 h2
      exact ⟨Decidable.not_not.1 h1, Decidable.not_not.1 h2, e⟩
theorem len_like (s : St) (x : Sp) : likeL s.cps (lenS s x).cps := by
  unfold lenS
  split
  · exact like_set ⟨rfl, rfl, rfl⟩
  · exact like_refl _
theorem bak_like (s : St) (x : Sp) : likeL s.cps (bakS s x).cps := by
  unfold bakS
  split
  · exact free_like _ _
  · exact like_refl _
theorem ren_like (s : St) (x : Sp) : likeL s.cps (renS s x).cps := by
  unfold renS
  split
  · exact like_set ⟨rfl, rfl, rfl⟩
  · exact like_refl _
theorem ask_like (s : St) (x : Sp) : likeL s.cps (askS s x).cps := by
  unfold askS
  split
  · split
    · exact like_set ⟨rfl, rfl, rfl⟩
    · exact rec_like (putS s x) _
  · exact like_refl _
theorem clc_like (s : St) (x : Sp) : likeL s.cps (clcS s x).cps := by
  unfold clcS
  split
  · exact free_like _ _
  · split <;> exact like_refl _
theorem wai_like (s : St) (x : Sp) : likeL s.cps (waiS s x).cps := by
  unfold waiS
  split
  · exact late_like ⟨s.now + x.days, s.cps, s.lns⟩ _
  · exact like_refl _
theorem st_like {s : St} {x : Sp} (hk : 1 ≤ x.kind ∧ x.kind ≤ 8) (h1 : x.kind ≠ 1) (h2 : x.kind ≠ 2) : likeL s.cps (stS s x).cps := by
  rcases (show x.kind = 3 ∨ x.kind = 4 ∨ x.kind = 5 ∨ x.kind = 6 ∨ x.kind = 7 ∨ x.kind = 8 by omega) with h | h | h | h | h | h
  · rw [(stS_3 h).1]; exact len_like s x
  · rw [(stS_4 h).1]; exact bak_like s x
  · rw [(stS_5 h).1]; exact ren_like s x
  · rw [(stS_6 h).1]; exact ask_like s x
  · rw [(stS_7 h).1]; exact clc_like s x
  · rw [(stS_8 h).1]; exact wai_like s x
def goneB (x : Sp) (c : Cp) : Bool := decide (x.kind = 2) && decide (x.copy = c.id)
def wantN (x : Sp) (n : Int) : Int := if x.kind = 1 then n + 1 else if x.kind = 2 then n - 1 else n
theorem copies_len {s : St} {x : Sp} (he : doE s x = 0) : ((doS s x).cps.length : Int) = wantN x s.cps.length := by
  obtain ⟨hv, hk, _, he2, hd⟩ := do_ok he
  rw [hd]
  have ha := valid_asc hv
  unfold wantN
  by_cases h1 : x.kind = 1
  · rw [(stS_1 h1).2] at he2
    obtain ⟨_, _, _, hn, _, e⟩ := add_ok he2
    rw [(stS_1 h1).1, e, free_len, ins_at.2.2, if_pos h1]; omega
  · rw [if_neg h1]
    by_cases h2 : x.kind = 2
    · rw [(stS_2 h2).2] at he2
      obtain ⟨hi, _, e⟩ := rem_ok he2
      rw [(stS_2 h2).1, e, if_pos h2, rem_cut ha hi]
      have := (cpI_mem hi).2.2
      simp only [List.length_append, List.length_take, List.length_drop]; omega
    · rw [if_neg h2, (st_like hk h1 h2).1]
theorem do_arg {s : St} {x : Sp} (h : ¬ doOk s x) : doE s x = 1 ∧ doS s x = zeroS := by
  have e : doE s x = 1 := by rw [doE, if_neg h]
  exact ⟨e, by rw [doS, e, if_neg (by decide)]⟩
theorem do_bad {s : St} {x : Sp} (h : doOk s x) (hn : ¬ stE s x = 0) : doE s x = stE s x ∧ doS s x = zeroS := by
  have e : doE s x = stE s x := by rw [doE, if_pos h]
  exact ⟨e, by rw [doS, e, if_neg hn]⟩
theorem do_good {s : St} {x : Sp} (h : doOk s x) (hn : stE s x = 0) : doE s x = 0 ∧ doS s x = stS s x := by
  have e : doE s x = 0 := by rw [doE, if_pos h, hn]
  exact ⟨e, by rw [doS, if_pos e]⟩
def runR (s : St) : List Sp → Nat → St × Nat × Int
  | [], i => (s, i, 0)
  | x :: l, i => if doE s x = 0 then runR (doS s x) l (i + 1) else (s, i, doE s x)
def runF (s : St) (l : List Sp) : St × Nat × Int := if validS s then runR s l 0 else (zeroS, 0, 1)
theorem run_at {s : St} {l : List Sp} {k : Nat} (h : k < l.length) (e : doE s l[k]! = 0) : runR s (l.drop k) k = runR (doS s l[k]!) (l.drop (k + 1)) (k + 1) := by
  rw [drop_at h, runR, if_pos e]
theorem run_stop {s : St} {l : List Sp} {k : Nat} (h : k < l.length) (e : ¬ doE s l[k]! = 0) : runR s (l.drop k) k = (s, k, doE s l[k]!) := by
  rw [drop_at h, runR, if_neg e]
theorem run_end {s : St} {l : List Sp} {k : Nat} (h : l.length ≤ k) : runR s (l.drop k) k = (s, k, 0) := by
  rw [List.drop_eq_nil_of_le h, runR]
def inT (now : Int) (c : Cp) : Prop := c.place = 3 → now ≤ c.due
theorem wt_inT {c : Cp} {h : Hd} {now : Int} (hn : now ≤ 1000000) : inT now (wtC c h now) := fun _ => by
  show now ≤ if now + 7 ≤ 1000000 then now + 7 else 1000000
  split <;> omega
theorem free_get {s : St} {i j : Nat} (hj : j < s.cps.length) (hne : i ≠ j) : (freeS s i).cps[j]! = s.cps[j]! := by
  unfold freeS
  split <;> (show (List.set _ _ _)[j]! = _; rw [get_set hj, if_neg hne])
theorem free_atT {s : St} {i : Nat} (hn : s.now ≤ 1000000) (hi : i < s.cps.length) : inT s.now (freeS s i).cps[i]! := by
  unfold freeS
  split
  · show inT s.now (List.set _ _ _)[i]!
    rw [get_set hi, if_pos rfl]
    exact fun e => absurd (show (1 : Int) = 3 from e) (by decide)
  · show inT s.now (List.set _ _ _)[i]!
    rw [get_set hi, if_pos rfl]
    exact wt_inT hn
theorem ren_ok {s : St} {x : Sp} (h : renE s x = 0) : 0 ≤ cpI s x.copy ∧ (atC s x.copy).place = 2 ∧ (atC s x.copy).rc = false ∧ (queS s (atC s x.copy).work).length = 0 ∧ ¬ 1000000 < s.now + 28 ∧ renS s x = ⟨s.now, s.cps.set (cpI s x.copy).toNat (rnwC (atC s x.copy) s.now), s.lns⟩ := by
  have e : renS s x = ⟨s.now, s.cps.set (cpI s x.copy).toNat (rnwC (atC s x.copy) s.now), s.lns⟩ := by rw [renS, if_pos h]
  unfold renE at h
  split at h
  · cases h
  split at h
  · cases h
  split at h
  · cases h
  split at h
  · cases h
  rename_i h1 h2 h3 h4
  refine ⟨Decidable.not_not.1 h1, Decidable.not_not.1 h2, ?_, by omega, h4, e⟩
  cases hr : (atC s x.copy).rc with
  | false => rfl
  | true => exact absurd (.inl hr) h3
theorem ask_ok {s : St} {x : Sp} (h : askE s x = 0) : (idB x.work ∧ idB x.pat ∧ idB x.hold ∧ inB x.cls 1 3) ∧ ¬ (cntP s.cps x.work 1 = 0 ∧ cntP s.cps x.work 2 = 0 ∧ cntP s.cps x.work 3 = 0) ∧ useB s x.hold = false ∧ ¬ 0 ≤ ownI s x.pat x.work ∧ ¬ 0 ≤ patI (queS s x.work) x.pat ∧ (queS s x.work).length ≠ 60 ∧ askS s x = (if 0 ≤ shlI s x.work then ⟨s.now, s.cps.set (shlI s x.work).toNat (wtC s.cps[(shlI s x.work).toNat]! (hldX s x) s.now), s.lns⟩ else recS (putS s x) x.work) := by
  have e : askS s x = (if 0 ≤ shlI s x.work then ⟨s.now, s.cps.set (shlI s x.work).toNat (wtC s.cps[(shlI s x.work).toNat]! (hldX s x) s.now), s.lns⟩ else recS (putS s x) x.work) := by rw [askS, if_pos h]
  unfold askE at h
  split at h
  · cases h
  split at h
  · cases h
  split at h
  · cases h
  split at h
  · cases h
  rename_i h1 h2 h3 h4
  refine ⟨Decidable.not_not.1 h1, h2, ?_, fun q => h3 (.inr (.inl q)), fun q => h3 (.inr (.inr q)), h4, e⟩
  cases hr : useB s x.hold with
  | false => rfl
  | true => exact absurd (.inl hr) h3
end Go.D58
end
