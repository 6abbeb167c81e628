/-
  slices.Insert of one element, in its middle: in place, and in a new row.
-/
import Derived.Test.YtfmgpocbpbfalaaHFreeze
import Derived.Test.YtfmgpocbpbfalaaRows
import Derived.WalkKit
import Derived.Shelf.RegionOpenPlain
import Derived.Shelf.Spec.SlicesInsert
import Derived.Lib.AppendZerosOnto
import Derived.Lib.Overlaps
namespace Go.Proofs.Ytfmgpocbpbfalaa
open Go Go.RowKit Go.H Go.Lib
theorem run_copyM {P : Program} {w : World} {t t' e ty tb : TypeId} {inf : TypeInfo} {g o m cc l c' q : Nat} {a' : Addr} {cs : List Value} {cur : Array Value} (ht : P.underlying t = some (.slice e)) (hi : P.info? e = some inf) (hq : Nat.min l m = q) (hl : cs.length = q * inf.size)
    (hs : G.At w a' cs) (hg : w.heap[g]? = some (.cells cur tb (0, 0))) (hfit : o + cs.length ≤ cur.size) (h1 : ∀ v ∈ cs, v.oneCell' = true) :
    (Builtin.copy_ #[t, t'] ty #[.slice (some ⟨g, o, none⟩) m cc, .slice (some a') l c']).run P w = .ok (.int .i64 q) (w.setRow g (cur.toList.take o ++ cs ++ cur.toList.drop (o + cs.length)).toArray) := by
  have hld := run_loadCells_list (P := P) w a' cs hs
  have hst := run_storeCells_at P g o tb cs 0 cur w hg (by simpa using hfit) h1
  rw [hl] at hld
  simp only [Nat.add_zero] at hst
  simp [Builtin.copy_, run_underlying ht, Builtin.lenOf, Builtin.firstCells, sizeOf, typeInfo, hi, hq, hld, hst, goInt]
def InsAside (p : Prop) : Prop := p
theorem insInfo : (Try.prog.info? 27).map (fun i => (i.zero, i.size, i.bytes)) = some (some (.agg #[.string ByteArray.empty, .bool false, .slice none 0 0]), 3, 48) := by kernel_rfl
set_option maxHeartbeats 4000000 in
set_option maxRecDepth 100000 in
theorem ins_shift (w : World) (b n c i vb vc : Nat) (cur vcur : Array Value) (hi : i < n) (hroom : n + 1 ≤ c) (hc63 : c ≤ 9223372036854775807) (hvb : vb ≠ b) (hb : w.heap[b]? = some (.cells cur 27 (0, 0))) (hcur : cur.size = c * 3)
    (hv : w.heap[vb]? = some (.cells vcur 27 (0, 0))) (hvs : 3 ≤ vcur.size) (h1c : ∀ v ∈ cur.toList.take (n * 3), v.oneCell' = true) (h1v : ∀ v ∈ vcur.toList.take 3, v.oneCell' = true) :
    Calls Try.prog 62 #[.slice (some ⟨b, 0, none⟩) n c, .int .i64 i, .slice (some ⟨vb, 0, none⟩) 1 vc] w fun e w' =>
      e = .returned (.slice (some ⟨b, 0, none⟩) (n + 1) c) ∧ ∃ (w1 : World) (X : Array Value), w' = w1.setRow b X ∧ w1.heap = w.heap ∧ w1.os = w.os ∧ w1.tape = w.tape ∧ w1.output = w.output ∧ X.size = cur.size ∧
        X.toList.take ((n + 1) * 3) = cur.toList.take (i * 3) ++ vcur.toList.take 3 ++ (cur.toList.take (n * 3)).drop (i * 3) := by
  obtain ⟨i0, hi0, hz0, hzs, hzb⟩ := info_parts insInfo
  have hz1 : ¬ ((1 : Int) = 0) := by decide
  have hz2 : ¬ ((i : Int) = (n : Int)) := by omega
  have hsz : ∀ w, (Go.sizeOf 27).run Try.prog w = .ok 3 w := fun w => by simp [Go.sizeOf, typeInfo, hi0, hzs]
  have hsa : w.shape? vb = some (27, vcur.size) := by simp [World.shape?, hv]
  have hsb : w.shape? b = some (27, cur.size) := by simp [World.shape?, hb]
  have hfa : w.frozen? ⟨vb, 0, none⟩ = false := by simp [World.frozen?, hv]
  have hfe : w.frozen? ⟨vb, vcur.size, none⟩ = false := by simp [World.frozen?, hv]
  have hov : ∀ lb cb, (callFunc 66 #[.slice (some ⟨vb, 0, none⟩) 1 vc, .slice (some ⟨b, (i + 1) * 3, none⟩) lb cb]).run Try.prog w = .ok (.value (.bool false)) w := fun lb cb => by
    rw [run_callFunc_extern Try.func66 (by kernel_rfl) (by kernel_rfl) (by kernel_rfl) (e := Extern.SlicesOverlaps.overlaps #[25, 25] #[4]) (by kernel_rfl),
      Lib.run_overlaps_apart w 25 4 27 Try.underlying25 3 hsz ⟨vb, 0, none⟩ ⟨b, (i + 1) * 3, none⟩ 1 vc lb cb hvb 27 27 vcur.size cur.size hsa hsb (by omega) hfa hfe]
    rfl
  obtain ⟨cs, hcs⟩ : ∃ cs, cs = (cur.toList.take (n * 3)).drop (i * 3) := ⟨_, rfl⟩
  have hcl : cs.length = (n - i) * 3 := by rw [hcs, List.length_drop, List.length_take, Array.length_toList]; omega
  obtain ⟨vs, hvsd⟩ : ∃ vs, vs = vcur.toList.take 3 := ⟨_, rfl⟩
  have hvl : vs.length = 1 * 3 := by rw [hvsd, List.length_take, Array.length_toList]; omega
  obtain ⟨X1, hX1⟩ : ∃ X1, X1 = (cur.toList.take ((i + 1) * 3) ++ cs ++ cur.toList.drop ((i + 1) * 3 + cs.length)).toArray := ⟨_, rfl⟩
  have hX1s : X1.size = cur.size := by
    rw [hX1]
    simp only [List.size_toArray, List.length_append, List.length_take, List.length_drop, Array.length_toList]; omega
  obtain ⟨X2, hX2⟩ : ∃ X2, X2 = (X1.toList.take (i * 3) ++ vs ++ X1.toList.drop (i * 3 + vs.length)).toArray := ⟨_, rfl⟩
  have hcat : ∀ (W : World), W.heap = w.heap → G.At W ⟨b, i * 3, none⟩ cs := fun W hW j v hj => by
    have hj' : (cur.toList.take (n * 3))[i * 3 + j]? = some v := by rw [hcs, List.getElem?_drop] at hj; exact hj
    rw [List.getElem?_take] at hj'
    split at hj'
    · rw [Addr.add_lit]
      simp only [World.cell?, hW, hb]
      simpa using hj'
    · cases hj'
  have hcp1 : ∀ ty dc sc, (Builtin.copy_ #[25, 25] ty #[.slice (some ⟨b, (i + 1) * 3, none⟩) (n - i) dc, .slice (some ⟨b, i * 3, none⟩) (n + 1 - i) sc]).run Try.prog w.drew = .ok (.int .i64 ((n - i : Nat) : Int)) (w.drew.setRow b X1) := fun ty dc sc => by
    rw [hX1]
    exact run_copyM (q := n - i) Try.underlying25 hi0 (by simp only [Nat.min_def]; split <;> omega) (by rw [hcl, hzs]) (hcat _ rfl) hb (by rw [hcl, hcur]; omega) (fun v hv => h1c v (List.mem_of_mem_drop (hcs ▸ hv)))
  have hX1h : (w.drew.setRow b X1).heap[b]? = some (.cells X1 27 (0, 0)) := setRow_heap _ _ _ _ _ _ hb
  have hvat : G.At (w.drew.setRow b X1) ⟨vb, 0, none⟩ vs := fun j v hj => by
    rw [hvsd, List.getElem?_take] at hj
    split at hj
    · rw [Addr.add_lit, cell_setRow_other _ _ _ _ hvb]
      have hv' : w.drew.heap[vb]? = some (.cells vcur 27 (0, 0)) := hv
      simp only [World.cell?, hv']
      simpa using hj
    · cases hj
  have hcp2 : ∀ ty dc, (Builtin.copy_ #[25, 25] ty #[.slice (some ⟨b, i * 3, none⟩) (n + 1 - i) dc, .slice (some ⟨vb, 0, none⟩) 1 vc]).run Try.prog (w.drew.setRow b X1) = .ok (.int .i64 ((1 : Nat) : Int)) ((w.drew.setRow b X1).setRow b X2) := fun ty dc => by
    rw [hX2]
    exact run_copyM (q := 1) Try.underlying25 hi0 (by simp only [Nat.min_def]; split <;> omega) (by rw [hvl, hzs]) hvat hX1h (by rw [hvl, hX1s, hcur]; omega) (fun v hv => h1v v (hvsd ▸ hv))
  have mixed : Try.prog.follows .mixedOrders = true := by kernel_rfl
  have hw1 : IntKind.i64.wrap ((i : Int) + 1) = (i : Int) + 1 := by rw [IntKind.wrap_i64]; omega
  have hb1 : (0 : Int) ≤ (i : Int) + 1 := by omega
  have hin : i ≤ n := by omega
  have htn : ((i : Int) + 1).toNat = i + 1 := by omega
  have hb2 : ¬ (c = i + 1) := by omega
  have hb3 : (i : Int) ≤ (n : Int) + 1 := by omega
  have hb4 : ¬ (c = i) := by omega
  have hX2s : X2.size = cur.size := by
    rw [hX2]
    simp only [List.size_toArray, List.length_append, List.length_take, List.length_drop, Array.length_toList]; omega
  have hfin : X2.toList.take ((n + 1) * 3) = cur.toList.take (i * 3) ++ vcur.toList.take 3 ++ (cur.toList.take (n * 3)).drop (i * 3) := by
    have hA : (cur.toList.take ((i + 1) * 3)).length = (i + 1) * 3 := by rw [List.length_take, Array.length_toList]; omega
    have e1 : X1.toList.take (i * 3) = cur.toList.take (i * 3) := by
      rw [hX1, List.append_assoc]
      show (cur.toList.take ((i + 1) * 3) ++ _).take (i * 3) = _
      rw [List.take_append_of_le_length (by omega), List.take_take, Nat.min_eq_left (by omega)]
    have e2 : X1.toList.drop (i * 3 + vs.length) = cs ++ cur.toList.drop ((i + 1) * 3 + cs.length) := by
      rw [hX1, List.append_assoc]
      show (cur.toList.take ((i + 1) * 3) ++ _).drop (i * 3 + vs.length) = _
      rw [show i * 3 + vs.length = (cur.toList.take ((i + 1) * 3)).length by omega, List.drop_left]
    rw [← hvsd, ← hcs, hX2]
    show (X1.toList.take (i * 3) ++ vs ++ X1.toList.drop (i * 3 + vs.length)).take _ = _
    rw [e1, e2, ← List.append_assoc]
    apply List.take_left'
    rw [List.length_append, List.length_append, List.length_take, Array.length_toList]
    omega
  clear hX1 hX2 hcs hvsd
  go_enter Try.func62, Try.ntmps62
  go_wp2_with (simp only [hov])
  go_region_law_o (refine step_copy_runI rfl _ _ 25 25 rfl _ _ (by simp [Act.eval, Act.put]) (by simp [Act.eval, Act.put]) (hcp1 _ _ _) ?_)
  go_wp2_with (at_builtin; refine wpList_copy_runI _ rfl _ _ 25 25 rfl _ _ rfl rfl (hcp2 _ _) ?_)
  go_ret
  exact ⟨rfl, w.drew, X2, setRow_setRow _ _ _ _, rfl, rfl, rfl, rfl, hX2s, hfin⟩
set_option maxHeartbeats 4000000 in
set_option maxRecDepth 100000 in
theorem ins_grow (w : World) (b n c i vb vc : Nat) (cur vcur : Array Value) (hi : i < n) (hnc : n ≤ c) (hroom : c < n + 1) (hbig : (n + 1) * 48 ≤ 140737488355328) (hb : w.heap[b]? = some (.cells cur 27 (0, 0))) (hcur : cur.size = c * 3)
    (hv : w.heap[vb]? = some (.cells vcur 27 (0, 0))) (hvs : 3 ≤ vcur.size) (h1c : ∀ v ∈ cur.toList.take (n * 3), v.oneCell' = true) (h1v : ∀ v ∈ vcur.toList.take 3, v.oneCell' = true) :
    Calls Try.prog 62 #[.slice (some ⟨b, 0, none⟩) n c, .int .i64 i, .slice (some ⟨vb, 0, none⟩) 1 vc] w fun e w' =>
      ∃ (GG : Nat) (w1 : World) (X0 X : Array Value), e = .returned (.slice (some ⟨w.heap.size, 0, none⟩) (n + 1) GG) ∧ n + 1 ≤ GG ∧ GG ≤ maxLen ∧ w' = w1.setRow w.heap.size X ∧ w1.heap = (w.alloc (.cells X0 27)).heap ∧ w1.os = w.os ∧ w1.tape = w.tape ∧ w1.output = w.output ∧ X.size = GG * 3 ∧
        X.toList.take ((n + 1) * 3) = cur.toList.take (i * 3) ++ vcur.toList.take 3 ++ (cur.toList.take (n * 3)).drop (i * 3) := by
  obtain ⟨i0, hi0, hz0, hzs, hzb⟩ := info_parts insInfo
  have hz1 : ¬ ((1 : Int) = 0) := by decide
  have hz2 : ¬ ((i : Int) = (n : Int)) := by omega
  have hz3 : (c : Int) < (n : Int) + 1 := by omega
  have hbw : b < w.heap.size := (Array.getElem?_eq_some_iff.1 hb).1
  have hvw : vb < w.heap.size := (Array.getElem?_eq_some_iff.1 hv).1
  have hkk : (n : Int) + 1 - (i : Int) = ((n + 1 - i : Nat) : Int) := by omega
  have hik : i + (n + 1 - i) = n + 1 := by omega
  obtain ⟨cs, hcs⟩ : ∃ cs, cs = (cur.toList.take (n * 3)).drop (i * 3) := ⟨_, rfl⟩
  have hcl : cs.length = (n - i) * 3 := by rw [hcs, List.length_drop, List.length_take, Array.length_toList]; omega
  obtain ⟨vs, hvsd⟩ : ∃ vs, vs = vcur.toList.take 3 := ⟨_, rfl⟩
  have hvl : vs.length = 1 * 3 := by rw [hvsd, List.length_take, Array.length_toList]; omega
  obtain ⟨ah, hah⟩ : ∃ ah, ah = cur.toList.take (i * 3) := ⟨_, rfl⟩
  have hal : ah.length = i * 3 := by rw [hah, List.length_take, Array.length_toList]; omega
  have hcell : ∀ j, w.cell? ⟨b, j, none⟩ = cur[j]? := fun j => by simp [World.cell?, hb]
  have hold : (Builtin.firstCells i0.size i (.slice (some ⟨b, 0, none⟩) i c)).run Try.prog w.drew = .ok ah.toArray w.drew := by
    rw [hzs]
    exact run_firstCells_some w.drew 3 i ⟨b, 0, none⟩ i c ah hal (fun j v hj => by
      rw [Addr.add_lit, Nat.zero_add]
      rw [hah, List.getElem?_take] at hj
      split at hj
      · show w.cell? ⟨b, j, none⟩ = _
        rw [hcell]; simpa using hj
      · cases hj)
  obtain ⟨z, hz⟩ : ∃ z : Value, i0.zero = some z ∧ z.cells.size = 3 := ⟨_, hz0, rfl⟩
  obtain ⟨GG, hG⟩ : ∃ GG, GG = grownCap w (n + 1) c 27 := ⟨_, rfl⟩
  have hGn : n + 1 ≤ GG := by rw [hG]; exact grownCap_ge w _ _ _
  have hGm : GG ≤ maxLen := by rw [hG]; exact grownCap_le_maxLen w (n + 1) c 27 (by unfold maxLen; omega)
  have hG63 : GG ≤ 9223372036854775807 := by
    have := hGm
    unfold maxLen at this; omega
  obtain ⟨X0, hX0⟩ : ∃ X0 : Array Value, X0 = ah.toArray ++ Builtin.zeroCells z.cells (n + 1 - i) ++ Builtin.zeroCells z.cells (GG - (n + 1)) := ⟨_, rfl⟩
  have hX0s : X0.size = GG * 3 := by
    rw [hX0]
    simp only [Array.size_append, size_zeroCells, hz.2, List.size_toArray, hal]; omega
  have hrz : ∀ ty, (Builtin.append_ #[25, 3] ty #[.slice (some ⟨b, 0, none⟩) i c, .int .i64 ((n : Int) + 1 - (i : Int))]).run Try.prog w = .ok (.slice (some ⟨w.heap.size, 0, none⟩) (n + 1) GG) (w.drew.alloc (.cells X0 27)) := fun ty => by
    have h := Lib.run_append_grow_zeros w 25 3 ty 27 i0 z .i64 .i64 Try.underlying25 Try.underlying3 hi0 hz.1 (some ⟨b, 0, none⟩) i c ah hold (n + 1 - i) (by omega) (by omega) (by omega) (by omega) (by rw [hzb]; omega) (by rw [hzb, hik]; exact growslice_fits hroom hbig)
    rw [hik] at h
    rw [hkk, h, hX0, hG]
  obtain ⟨W1, hW1⟩ : ∃ W1, W1 = w.drew.alloc (.cells X0 27) := ⟨_, rfl⟩
  have hW1n : W1.heap[w.heap.size]? = some (.cells X0 27 (0, 0)) := by rw [hW1]; exact heap_alloc_new w.drew _
  have hW1o : ∀ k, k < w.heap.size → W1.heap[k]? = w.heap[k]? := fun k hk => by rw [hW1]; exact heap_alloc_old w.drew _ hk
  obtain ⟨X1, hX1⟩ : ∃ X1, X1 = (X0.toList.take (i * 3) ++ vs ++ X0.toList.drop (i * 3 + vs.length)).toArray := ⟨_, rfl⟩
  have hX1s : X1.size = X0.size := by
    rw [hX1]
    simp only [List.size_toArray, List.length_append, List.length_take, List.length_drop, Array.length_toList]; omega
  obtain ⟨X2, hX2⟩ : ∃ X2, X2 = (X1.toList.take ((i + 1) * 3) ++ cs ++ X1.toList.drop ((i + 1) * 3 + cs.length)).toArray := ⟨_, rfl⟩
  have hX2s : X2.size = X0.size := by
    rw [hX2]
    simp only [List.size_toArray, List.length_append, List.length_take, List.length_drop, Array.length_toList]; omega
  have hvat : G.At W1 ⟨vb, 0, none⟩ vs := fun j v hj => by
    rw [hvsd, List.getElem?_take] at hj
    split at hj
    · rw [Addr.add_lit]
      simp only [World.cell?, hW1o vb hvw, hv]
      simpa using hj
    · cases hj
  have hcp1 : ∀ ty dc, (Builtin.copy_ #[25, 25] ty #[.slice (some ⟨w.heap.size, i * 3, none⟩) (n + 1 - i) dc, .slice (some ⟨vb, 0, none⟩) 1 vc]).run Try.prog W1 = .ok (.int .i64 ((1 : Nat) : Int)) (W1.setRow w.heap.size X1) := fun ty dc => by
    rw [hX1]
    exact run_copyM (q := 1) Try.underlying25 hi0 (by simp only [Nat.min_def]; split <;> omega) (by rw [hvl, hzs]) hvat hW1n (by rw [hvl, hX0s]; omega) (fun v hv => h1v v (hvsd ▸ hv))
  have hcat : G.At (W1.setRow w.heap.size X1).drew ⟨b, i * 3, none⟩ cs := fun j v hj => by
    have hj' : (cur.toList.take (n * 3))[i * 3 + j]? = some v := by rw [hcs, List.getElem?_drop] at hj; exact hj
    rw [List.getElem?_take] at hj'
    split at hj'
    · rw [Addr.add_lit]
      show (W1.setRow w.heap.size X1).cell? _ = _
      rw [cell_setRow_other _ _ _ _ (show b ≠ w.heap.size by omega)]
      simp only [World.cell?, hW1o b hbw, hb]
      simpa using hj'
    · cases hj'
  have hcp2 : ∀ ty dc sc, (Builtin.copy_ #[25, 25] ty #[.slice (some ⟨w.heap.size, (i + 1) * 3, none⟩) (n - i) dc, .slice (some ⟨b, i * 3, none⟩) (n - i) sc]).run Try.prog (W1.setRow w.heap.size X1).drew = .ok (.int .i64 ((n - i : Nat) : Int)) ((W1.setRow w.heap.size X1).drew.setRow w.heap.size X2) := fun ty dc sc => by
    rw [hX2]
    exact run_copyM (q := n - i) Try.underlying25 hi0 (Nat.min_self _) (by rw [hcl, hzs]) hcat (setRow_heap _ _ _ _ _ _ hW1n) (by rw [hcl, hX1s, hX0s]; omega) (fun v hv => h1c v (List.mem_of_mem_drop (hcs ▸ hv)))
  have hfin : X2.toList.take ((n + 1) * 3) = cur.toList.take (i * 3) ++ vcur.toList.take 3 ++ (cur.toList.take (n * 3)).drop (i * 3) := by
    have e0 : X0.toList.take (i * 3) = ah := by
      rw [hX0, Array.append_assoc, Array.toList_append]
      show (ah ++ _).take (i * 3) = ah
      exact List.take_left' hal
    have e1 : X1.toList.take ((i + 1) * 3) = ah ++ vs := by
      rw [hX1, e0]
      show (ah ++ vs ++ _).take ((i + 1) * 3) = ah ++ vs
      exact List.take_left' (by rw [List.length_append, hal, hvl]; omega)
    rw [← hah, ← hvsd, ← hcs, hX2, e1]
    show (ah ++ vs ++ cs ++ _).take ((n + 1) * 3) = ah ++ vs ++ cs
    exact List.take_left' (by rw [List.length_append, List.length_append, hal, hvl, hcl]; omega)
  have mixed : Try.prog.follows .mixedOrders = true := by kernel_rfl
  have hw1 : IntKind.i64.wrap ((i : Int) + 1) = (i : Int) + 1 := by rw [IntKind.wrap_i64]; omega
  have hb1 : (0 : Int) ≤ (i : Int) + 1 := by omega
  have hin : i ≤ n := by omega
  have htn : ((i : Int) + 1).toNat = i + 1 := by omega
  have hb3 : (i : Int) ≤ (n : Int) := by omega
  have hGi : ¬ (GG = i) := by omega
  have hGim : ¬ (GG = i + 1) := by omega
  have hci : ¬ (c = i) := by omega
  have hX2g : X2.size = GG * 3 := by rw [hX2s, hX0s]
  rw [← hW1] at hrz
  have hE : InsAside ((W1.setRow w.heap.size X1).drew.setRow w.heap.size X2 = (w.alloc (.cells X0 27)).drew.drew.setRow w.heap.size X2) := by
    subst hW1
    show ((w.alloc (.cells X0 27)).drew.drew.setRow w.heap.size X1).setRow w.heap.size X2 = _
    exact setRow_setRow _ _ _ _
  clear hkk hik hold hX0 hG hX1 hX2 hcs hvsd hah hW1 hvat hcat
  go_enter Try.func62, Try.ntmps62
  go_wp2_with (first
    | (at_builtin; refine Lib.wpList_append_run _ rfl _ _ _ _ rfl _ _ rfl rfl _ _ (hrz _) ?_)
    | (at_builtin; refine wpList_copy_runI _ rfl _ _ 25 25 rfl _ _ rfl rfl (hcp1 _ _) ?_))
  go_region_law_o (refine step_copy_runI rfl _ _ 25 25 rfl (.slice (some ⟨w.heap.size, (i + 1) * 3, none⟩) (n - i) (GG - (i + 1))) (.slice (some ⟨b, i * 3, none⟩) (n - i) (c - i)) (by simp [Act.eval, Act.put]) (by simp [Act.eval, Act.put]) (hcp2 3 (GG - (i + 1)) (c - i)) ?_)
  go_wp2
  go_ret
  exact ⟨GG, (w.alloc (.cells X0 27)).drew.drew, X0, X2, rfl, hGn, hGm, hE, rfl, rfl, rfl, rfl, hX2g, hfin⟩
section
open Go.G (Ext Gr)
variable {τ : Nat → Value} {w : World} {ok : Nat → Prop}
theorem ins_args {i : IV} {vs : List Value} (h : AllI τ w ok [.own 0, i, .own 1] vs) : ∃ u, vs = [τ 0, u, τ 1] ∧ RepI τ w ok i u := by
  obtain ⟨hl, hg⟩ := h
  match vs, hl with
  | [a, b, c], _ =>
    have h0 := hg 0 (.own 0) a rfl rfl
    have h1 := hg 1 i b rfl rfl
    have h2 := hg 2 (.own 1) c rfl rfl
    cases h0; cases h2
    exact ⟨b, rfl, h1⟩
theorem ins_data {k : Nat} {rows : List (List UV)} (h : RepB τ w ok k (.data 27 3 rows)) (hp : 0 < rows.length) : ∃ g cap cur, τ k = .slice (some ⟨g, 0, none⟩) rows.length cap ∧ w.heap[g]? = some (.cells cur 27 (0, 0)) ∧ rows.length ≤ cap ∧ cap ≤ maxLen ∧ cur.size = cap * 3 ∧
    AllU w ok rows.flatten (cur.toList.take (rows.length * 3)) ∧ (∀ r ∈ rows, r.length = 3) ∧ (∀ u ∈ rows.flatten, u.one = true) ∧ ∀ v ∈ cur.toList.take (rows.length * 3), v.oneCell' = true := by
  obtain ⟨vs, ⟨hl, h0 | ⟨g, cap, cur, h1, _, h2, h3, h4, h5, h6⟩⟩, hu, hr, _, ho⟩ := h
  · omega
  · subst h6
    refine ⟨g, cap, cur, h1, h2, h3, h4, h5, hu, hr, ho, fun v hv => ?_⟩
    obtain ⟨j, hj, e⟩ := List.mem_iff_getElem.1 hv
    have hj2 : j < rows.flatten.length := by rw [hu.1]; exact hj
    have := hu.2 j rows.flatten[j] v (List.getElem?_eq_getElem hj2) (by rw [List.getElem?_eq_getElem hj, e])
    exact (RepI.u (τ := τ) this).isOne (ho _ (List.getElem_mem hj2))
theorem ins_all {rows : List (List UV)} {row : List UV} {i : Nat} {xs ys : List Value} (hi : i ≤ rows.length) (hr : ∀ r ∈ rows, r.length = 3) (hx : AllU w ok rows.flatten xs) (hy : AllU w ok row ys) :
    AllU w ok (rows.take i ++ row :: rows.drop i).flatten (xs.take (i * 3) ++ ys ++ xs.drop (i * 3)) := by
  have e : rows.flatten = (rows.take i).flatten ++ (rows.drop i).flatten := by rw [← List.flatten_append, List.take_append_drop]
  have hl : (rows.take i).flatten.length = i * 3 := by
    rw [flat_len (sz := 3) (fun r hr' => hr r (List.mem_of_mem_take hr')), List.length_take, Nat.min_eq_left hi]
  have hxl := hx.1
  rw [e, List.length_append, hl] at hxl
  rw [← List.take_append_drop (i * 3) xs, e] at hx
  obtain ⟨h1, h2⟩ := hx.split (by rw [hl, List.length_take]; omega)
  rw [List.flatten_append, List.flatten_cons, ← List.append_assoc]
  exact (h1.app hy).app h2
end
open Go.G (Ext Gr) in
theorem insMid_con {rows : List (List UV)} {row : List UV} {i : Nat} (hi : i < rows.length) (hl : rows.length ≤ 1000000) :
    Con Try.prog 62 [.own 0, .u (.sc (.int .i64 (i : Int))), .own 1] [(0, .data 27 3 rows), (1, .data 27 3 [row])] (.own 2) [(2, .data 27 3 (rows.take i ++ row :: rows.drop i))] := by
  intro τ w vs ok hin
  obtain ⟨u, rfl, hu⟩ := ins_args hin.args
  obtain rfl : u = .int .i64 (i : Int) := by
    cases hu with
    | u h => cases h; rfl
  have b0 := hin.sto 0 _ rfl
  have b1 := hin.sto 1 _ rfl
  obtain ⟨g, cap, cur, t0, hg, c1, c2, c3, c4, c5, c6, c7⟩ := ins_data b0 (by omega)
  obtain ⟨g1, cap1, cur1, t1, hg1, d1, d2, d3, d4, d5, d6, d7⟩ := ins_data b1 (by simp)
  have hne : g1 ≠ g := fun e => by
    have := hin.inj 0 1 _ _ g rfl rfl (by rw [t0]; rfl) (by rw [t1, e]; rfl)
    cases this
  have hM : ∀ b, b = g → MOf τ [(0, SB.data 27 3 rows), (1, .data 27 3 [row])] b := fun b e => ⟨0, _, rfl, by rw [t0, e]; rfl⟩
  have hrl : row.length = 3 := d5 row (by simp)
  have hfl : ([row] : List (List UV)).flatten = row := by simp
  rw [hfl] at d4 d6
  have d4' : AllU w ok row (cur1.toList.take 3) := d4
  have d7' : ∀ v ∈ cur1.toList.take 3, v.oneCell' = true := d7
  have hall := ins_all (Nat.le_of_lt hi) c5 c4 d4'
  rw [List.take_take, Nat.min_eq_left (by omega)] at hall
  have hr' : ∀ r ∈ rows.take i ++ row :: rows.drop i, r.length = 3 := fun r hr => by
    rcases List.mem_append.1 hr with m | m
    · exact c5 r (List.mem_of_mem_take m)
    · rcases List.mem_cons.1 m with m | m
      · rw [m]; exact hrl
      · exact c5 r (List.mem_of_mem_drop m)
  have ho' : ∀ u ∈ (rows.take i ++ row :: rows.drop i).flatten, u.one = true := fun u hu => by
    obtain ⟨r, hr, hu⟩ := List.mem_flatten.1 hu
    rcases List.mem_append.1 hr with m | m
    · exact c6 u (List.mem_flatten.2 ⟨r, List.mem_of_mem_take m, hu⟩)
    · rcases List.mem_cons.1 m with m | m
      · rw [m] at hu; exact d6 u hu
      · exact c6 u (List.mem_flatten.2 ⟨r, List.mem_of_mem_drop m, hu⟩)
  have hlen' : (rows.take i ++ row :: rows.drop i).length = rows.length + 1 := by
    rw [List.length_append, List.length_take, List.length_cons, List.length_drop]; omega
  have hvl : (cur.toList.take (i * 3) ++ cur1.toList.take 3 ++ (cur.toList.take (rows.length * 3)).drop (i * 3)).length = (rows.length + 1) * 3 := by
    simp only [List.length_append, List.length_take, List.length_drop, Array.length_toList]
    have : ([row] : List (List UV)).length = 1 := rfl
    omega
  have hcap1 : 3 ≤ cur1.size := by
    have : ([row] : List (List UV)).length = 1 := rfl
    omega
  show Calls Try.prog 62 #[τ 0, .int .i64 (i : Int), τ 1] w _
  rw [t0, t1]
  by_cases hroom : rows.length + 1 ≤ cap
  · refine Calls.mono (ins_shift w g rows.length cap i g1 cap1 cur cur1 hi hroom (by unfold maxLen at c2; omega) hne hg c3 hg1 hcap1 c7 d7') ?_
    rintro e w' ⟨rfl, w1, X, rfl, hh, ho, htp, hou, hXs, hX⟩
    have hbk : ∀ k, k ≠ g → (w1.setRow g X).heap[k]? = w.heap[k]? := fun k hk => by rw [setRow_other _ _ _ _ hk, hh]
    have hg' : w1.heap[g]? = some (.cells cur 27 (0, 0)) := by rw [hh]; exact hg
    have hsz : (w1.setRow g X).heap.size = w.heap.size := by rw [setRow_size, hh]
    refine ⟨_, fun k => if k = 2 then .slice (some ⟨g, 0, none⟩) (rows.length + 1) cap else τ k, rfl, ⟨ho, htp, hou, by omega, fun k _ hn => hbk k (fun e => hn (hM k e))⟩, fun k hk => ?_, ?_, fun k sb hk => ?_, fun k k' sb sb' b hk hk' _ _ => ?_, fun k sb b hk hb => ?_⟩
    · have : k = 0 ∨ k = 1 := by simpa [keysS] using hk
      rcases this with rfl | rfl <;> rfl
    · exact RepI.own (τ := fun k => if k = 2 then .slice (some ⟨g, 0, none⟩) (rows.length + 1) cap else τ k) 2 rfl
    · by_cases e : 2 = k
      · subst e
        rw [lookS_data] at hk; cases hk
        refine ⟨_, ⟨?_, .inr ⟨g, cap, X, by rw [hlen']; rfl, Nat.zero_le _, setRow_heap _ _ _ _ _ _ hg', by rw [hlen']; exact hroom, c2, by rw [hXs, c3], by rw [hlen']; exact hX⟩⟩, hall.mono (by omega) (fun b hb hlt => ⟨⟨.inl hb, fun k sb hk hv => ?_⟩, hbk b (fun e => hin.ap b hb (hM b e))⟩), hr', by decide, ho'⟩
        · rw [hlen']; exact hvl
        · by_cases e : 2 = k
          · subst e
            simp [vblk] at hv
            exact hin.ap b hb (hM b hv.symm)
          · rw [lookS_ne e] at hk; cases hk
      · rw [lookS_ne e] at hk; cases hk
    · by_cases e : 2 = k
      · by_cases e' : 2 = k'
        · omega
        · rw [lookS_ne e'] at hk'; cases hk'
      · rw [lookS_ne e] at hk; cases hk
    · by_cases e : 2 = k
      · subst e
        simp [vblk] at hb
        exact .inl (hM b hb.symm)
      · rw [lookS_ne e] at hk; cases hk
  · refine Calls.mono (ins_grow w g rows.length cap i g1 cap1 cur cur1 hi c1 (by omega) (by omega) hg c3 hg1 hcap1 c7 d7') ?_
    rintro e w' ⟨GG, w1, X0, X, rfl, hG1, hG2, rfl, hh, ho, htp, hou, hXs, hX⟩
    have hgs : g < w.heap.size := (Array.getElem?_eq_some_iff.1 hg).1
    have hn' : w1.heap[w.heap.size]? = some (.cells X0 27 (0, 0)) := by rw [hh]; exact heap_alloc_new w _
    have hbk : ∀ k, k < w.heap.size → (w1.setRow w.heap.size X).heap[k]? = w.heap[k]? := fun k hk => by rw [setRow_other _ _ _ _ (by omega), hh]; exact heap_alloc_old w _ hk
    have hsz : (w1.setRow w.heap.size X).heap.size = w.heap.size + 1 := by rw [setRow_size, hh, World.size_alloc]
    refine ⟨_, fun k => if k = 2 then .slice (some ⟨w.heap.size, 0, none⟩) (rows.length + 1) GG else τ k, rfl, ⟨ho, htp, hou, by omega, fun k hk _ => hbk k hk⟩, fun k hk => ?_, ?_, fun k sb hk => ?_, fun k k' sb sb' b hk hk' _ _ => ?_, fun k sb b hk hb => ?_⟩
    · have : k = 0 ∨ k = 1 := by simpa [keysS] using hk
      rcases this with rfl | rfl <;> rfl
    · exact RepI.own (τ := fun k => if k = 2 then .slice (some ⟨w.heap.size, 0, none⟩) (rows.length + 1) GG else τ k) 2 rfl
    · by_cases e : 2 = k
      · subst e
        rw [lookS_data] at hk; cases hk
        refine ⟨_, ⟨?_, .inr ⟨w.heap.size, GG, X, by rw [hlen']; rfl, Nat.zero_le _, setRow_heap _ _ _ _ _ _ hn', by rw [hlen']; exact hG1, hG2, hXs, by rw [hlen']; exact hX⟩⟩, hall.mono (by omega) (fun b hb hlt => ⟨⟨.inl hb, fun k sb hk hv => ?_⟩, hbk b hlt⟩), hr', by decide, ho'⟩
        · rw [hlen']; exact hvl
        · by_cases e : 2 = k
          · subst e
            simp [vblk] at hv
            omega
          · rw [lookS_ne e] at hk; cases hk
      · rw [lookS_ne e] at hk; cases hk
    · by_cases e : 2 = k
      · by_cases e' : 2 = k'
        · omega
        · rw [lookS_ne e'] at hk'; cases hk'
      · rw [lookS_ne e] at hk; cases hk
    · by_cases e : 2 = k
      · subst e
        simp [vblk] at hb
        exact .inr (by omega)
      · rw [lookS_ne e] at hk; cases hk
end Go.Proofs.Ytfmgpocbpbfalaa
