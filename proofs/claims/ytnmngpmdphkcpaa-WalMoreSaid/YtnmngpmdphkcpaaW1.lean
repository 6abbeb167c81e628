/-
  The walks.
-/
import Derived.Test.YtnmngpmdphkcpaaGWrit
import Derived.Test.YtnmngpmdphkcpaaRows
import Derived.Test.YtnmngpmdphkcpaaM20
namespace Go.Proofs.Ytnmngpmdphkcpaa
open Go Go.RowKit Go.G Go.D02

theorem inf5 : ∃ i, Try.prog.info? 5 = some i ∧ i.zero = some (.int .u8 0) ∧ i.size = 1 ∧ i.bytes = 1 := info_of (by kernel_rfl)
theorem callOk44 : callOk Try.prog 44 = true := by kernel_rfl
theorem callOk46 : callOk Try.prog 46 = true := by kernel_rfl
theorem callOk47 : callOk Try.prog 47 = true := by kernel_rfl
theorem callOk48 : callOk Try.prog 48 = true := by kernel_rfl

/-- bookplate/digest.bit. -/
theorem bit_spec (h : Int) (w : World) :
    CallsTo Try.prog 48 [.int .u32 h] w (fun v w1 => v = .int .u32 (bitI h) ∧ Ext w w1) := by
  have hE := Ext.rfl' w
  refine enter (n := 11) (l := [.int .u32 h]) Try.func48 rfl rfl rfl ?_
  refine W.seq ?_
  refine W.region ?_
  refine WL.det (fun _ _ => R.assign rfl) rfl ?_
  refine WL.nil ?_
  refine E.to ?_
  refine W.seq ?_
  refine W.seq ?_
  refine W.region ?_
  refine WL.det (fun _ _ => R.move rfl) rfl ?_
  refine WL.det (fun _ _ => R.and rfl rfl) rfl ?_
  refine WL.det (fun _ _ => R.eql rfl rfl) rfl ?_
  refine WL.nil ?_
  refine E.to ?_
  first | refine W.cond_d rfl (fun hc1 => ?_) (fun hc1 => ?_) | refine W.cond_nd rfl (fun hc1 => ?_) (fun hc1 => ?_) | refine W.cond rfl (fun hc1 => ?_) (fun hc1 => ?_)
  · skip
    refine W.seq ?_
    refine W.region ?_
    refine WL.det (fun _ _ => R.move rfl) rfl ?_
    refine WL.det (fun _ _ => R.shr_c (q := 2) rfl rfl (by decide) (by decide)) rfl ?_
    refine WL.det (fun _ _ => R.xor rfl rfl) rfl ?_
    refine WL.det (fun _ _ => R.assign rfl) rfl ?_
    refine WL.nil ?_
    refine E.to ?_
    refine W.ret ?_
    refine E.thr ?_
    refine E.fin1 (.inl rfl) rfl rfl ?_
    exact ⟨_, rfl, by unfold bitI; simp [*], hE⟩
  · skip
    refine W.skip ?_
    refine E.to ?_
    refine W.seq ?_
    refine W.region ?_
    refine WL.det (fun _ _ => R.move rfl) rfl ?_
    refine WL.det (fun _ _ => R.shr_c (q := 2) rfl rfl (by decide) (by decide)) rfl ?_
    refine WL.det (fun _ _ => R.assign rfl) rfl ?_
    refine WL.nil ?_
    refine E.to ?_
    refine W.ret ?_
    refine E.fin1 (.inl rfl) rfl rfl ?_
    exact ⟨_, rfl, by unfold bitI; simp [*], hE⟩

/-- bookplate/bookplateref02.shifted. -/
theorem shifted_spec (h b : Int) (h0 : 0 ≤ h) (h1 : h ≤ 4294967295) (w : World) :
    CallsTo Try.prog 47 [.int .u32 h, .int .u32 b] w (fun v w1 => v = .int .u32 (shiftedI h b) ∧ Ext w w1) := by
  have hE := Ext.rfl' w
  refine enter (n := 14) (l := [.int .u32 h, .int .u32 b]) Try.func47 rfl rfl rfl ?_
  refine W.seq ?_
  refine W.region ?_
  refine WL.det (fun _ _ => R.assign rfl) rfl ?_
  refine WL.nil ?_
  refine E.to ?_
  refine W.seq ?_
  refine W.seq ?_
  refine W.region ?_
  refine WL.det (fun _ _ => R.move rfl) rfl ?_
  refine WL.det (fun _ _ => (by first | exact R.rem0 rfl rfl (by omega) (by omega) | exact R.rem rfl rfl (by omega))) rfl ?_
  refine WL.det (fun _ _ => R.move rfl) rfl ?_
  refine WL.det (fun _ _ => R.neq rfl rfl) rfl ?_
  refine WL.nil ?_
  refine E.to ?_
  first | refine W.cond_d rfl (fun hc1 => ?_) (fun hc1 => ?_) | refine W.cond_nd rfl (fun hc1 => ?_) (fun hc1 => ?_) | refine W.cond rfl (fun hc1 => ?_) (fun hc1 => ?_)
  · skip
    refine W.seq ?_
    refine W.region ?_
    refine WL.det (fun _ _ => R.move rfl) rfl ?_
    refine WL.det (fun _ _ => (by first | exact R.quo64 rfl rfl (by omega) | exact R.quo32 rfl rfl (by omega) | exact R.quo rfl rfl (by omega))) rfl ?_
    refine WL.det (fun _ _ => R.xor rfl rfl) rfl ?_
    refine WL.det (fun _ _ => R.assign rfl) rfl ?_
    refine WL.nil ?_
    refine E.to ?_
    refine W.ret ?_
    refine E.thr ?_
    refine E.fin1 (.inl rfl) rfl rfl ?_
    exact ⟨_, rfl, by unfold shiftedI; simp [*], hE⟩
  · skip
    refine W.skip ?_
    refine E.to ?_
    refine W.seq ?_
    refine W.region ?_
    refine WL.det (fun _ _ => R.move rfl) rfl ?_
    refine WL.det (fun _ _ => (by first | exact R.quo64 rfl rfl (by omega) | exact R.quo32 rfl rfl (by omega) | exact R.quo rfl rfl (by omega))) rfl ?_
    refine WL.det (fun _ _ => R.assign rfl) rfl ?_
    refine WL.nil ?_
    refine E.to ?_
    refine W.ret ?_
    refine E.fin1 (.inl rfl) rfl rfl ?_
    exact ⟨_, rfl, by unfold shiftedI; simp [*], hE⟩

/-- slices.Clone[[]byte,byte]. -/
theorem clone_spec {v1 : Value} {l1 : List UInt8} (hb : l1.length ≤ 1000000000) (w : World) {lo_h1 hi_h1 : Nat} (h1 : Sl encU8 w lo_h1 hi_h1 v1 l1) :
    CallsTo Try.prog 30 [v1] w (fun v w1 => Own encU8 w1 w.heap.size 5 v l1 ∧ Ext w w1) := by
  have hE := Ext.rfl' w
  replace h1 := h1.clip0
  have hl_h1 := h1.len_le
  obtain ⟨i5, hi5, hz5, hs5, hb5⟩ := inf5
  refine enter (n := 8) (l := [v1]) Try.func30 rfl rfl rfl ?_
  refine W.seq ?_
  refine W.region ?_
  refine WL.det (fun _ _ => R.assign rfl) rfl ?_
  refine WL.nil ?_
  refine E.to ?_
  refine W.seq ?_
  refine W.seq ?_
  refine W.region ?_
  refine WL.det (fun _ _ => R.move rfl) rfl ?_
  refine WL.det (fun _ e => R.isnil rfl (h1.ext e) Try.underlying22) rfl ?_
  refine WL.nil ?_
  refine E.to ?_
  first | refine W.cond_d rfl (fun hc1 => ?_) (fun hc1 => ?_) | refine W.cond_nd rfl (fun hc1 => ?_) (fun hc1 => ?_) | refine W.cond rfl (fun hc1 => ?_) (fun hc1 => ?_)
  · skip
    refine W.seq ?_
    refine W.region ?_
    refine WL.det (fun _ _ => R.assign rfl) rfl ?_
    refine WL.nil ?_
    refine E.to ?_
    refine W.ret ?_
    refine E.thr ?_
    refine E.fin1 (.inl rfl) rfl rfl ?_
    exact ⟨_, rfl, by have := nil_of hc1 h1; subst this; exact Own.nil _ _ _ _, hE⟩
  · skip
    refine W.skip ?_
    refine E.to ?_
    refine W.seq ?_
    refine W.region ?_
    refine WL.mk (M.buildSlice (E := encU8) (ys := []) rfl rfl Try.underlying22 hi5 hz5 hs5 (by rfl) rfl (by decide) (by intro v hv; simp at hv) (by rfl)) rfl rfl ?_
    rintro _ w1 ⟨g5, rfl, hg5, hzg5, ew1, hf5⟩
    replace h1 := h1.ext ew1
    replace hE := Ext.tr hE ew1
    have hsew1 := ew1.size
    replace hf5 := Own.mono hf5 (b := w.heap.size) (by omega)
    refine WL.det (fun _ _ => R.move rfl) rfl ?_
    refine WL.mk (M.append rfl rfl hf5 h1 Try.underlying22 hi5 hz5 hs5 rfl (by intros; rfl) (by rw [hb5]; simp; omega) (by simp; omega) (by omega)) rfl rfl ?_
    rintro v7 w2 ⟨hf7, hgw2, hat7⟩
    have hzw2 := hgw2.size
    replace h1 := h1.far hgw2 (fun k hk => by have := hf5.lt k hk; omega)
    replace hE := Ext.grown hE hgw2 (fun k hk => by have := hf5.lt k hk; omega)
    refine WL.det (fun _ _ => R.assign rfl) rfl ?_
    refine WL.nil ?_
    refine E.to ?_
    refine W.ret ?_
    refine E.fin1 (.inl rfl) rfl rfl ?_
    exact ⟨_, rfl, by simpa using hf7, hE⟩

/-- bookplate/bookplateref02.register. -/
theorem register_spec (h : Int) (h0 : R32 h) {v1 : Value} {l1 : List UInt8} (w : World) {lo_h1 hi_h1 : Nat} (h1 : Sl encU8 w lo_h1 hi_h1 v1 l1) :
    CallsTo Try.prog 44 [.int .u32 h, v1] w (fun v w1 => v = .int .u32 (registerI h l1) ∧ Ext w w1) := by
  have hE := Ext.rfl' w
  replace h1 := h1.clip0
  have hl_h1 := h1.len_le
  obtain ⟨i5, hi5, hz5, hs5, hb5⟩ := inf5
  refine enter (n := 28) (l := [.int .u32 h, v1]) Try.func44 rfl rfl rfl ?_
  refine W.seq ?_
  refine W.region ?_
  refine WL.det (fun _ _ => R.assign rfl) rfl ?_
  refine WL.nil ?_
  refine E.to ?_
  refine W.seq ?_
  refine W.seq ?_
  refine W.region ?_
  refine WL.det (fun _ _ => R.assign rfl) rfl ?_
  refine WL.nil ?_
  refine E.to ?_
  refine W.block ?_
  refine W.loopx1 [1, 4] (fun (k : Nat) => [(0, .val (.int .u32 (registerI h (l1.take k)))), (5, .val (.int .i64 (k : Int)))]) (fun (k : Nat) wr => (k ≤ l1.length) ∧ Sl encU8 wr 0 w.heap.size v1 l1 ∧ Ext w wr) (fun (k : Nat) => l1.length - k) (0) ?_ ?_ ?_
  · exact (Sub.cons rfl (Sub.cons rfl (Sub.cons rfl (Sub.cons rfl (Sub.nil _)))))
  · skip
    refine ⟨?_, h1, hE⟩
    exact Nat.zero_le _
  intro k w1 hinv
  clear h1 hE
  obtain ⟨hinv, h1, hE⟩ := hinv
  have hsw1 := hE.size
  obtain hk := hinv
  have hr := registerI_R h0 (l1.take k)
  refine W.seq ?_
  refine W.seq ?_
  refine W.region ?_
  refine WL.det (fun _ _ => R.move rfl) rfl ?_
  refine WL.det (fun _ _ => R.move rfl) rfl ?_
  refine WL.det (fun _ e => R.len_sl rfl (h1.ext e) Try.underlying22) rfl ?_
  refine WL.det (fun _ _ => R.lss rfl rfl) rfl ?_
  refine WL.nil ?_
  refine E.to ?_
  first | refine W.cond_d rfl (fun hc1 => ?_) (fun hc1 => ?_) | refine W.cond_nd rfl (fun hc1 => ?_) (fun hc1 => ?_) | refine W.cond rfl (fun hc1 => ?_) (fun hc1 => ?_)
  · skip
    refine W.skip ?_
    refine E.to ?_
    refine W.seq ?_
    refine W.block ?_
    refine W.seq ?_
    refine W.region ?_
    refine WL.det (fun _ _ => R.assign rfl) rfl ?_
    refine WL.nil ?_
    refine E.to ?_
    refine W.block ?_
    refine W.loopx1 [1, 4, 5, 7, 8, 9, 10] (fun (j : Nat) => [(0, .val (.int .u32 (byteI (registerI h (l1.take k)) (l1[k]!).toNat j))), (6, .val (.int .i64 (j : Int)))]) (fun (j : Nat) wr => (j ≤ 8) ∧ Sl encU8 wr 0 w.heap.size v1 l1 ∧ Ext w wr) (fun (j : Nat) => 8 - j) (0) ?_ ?_ ?_
    · exact (Sub.cons rfl (Sub.cons rfl (Sub.cons rfl (Sub.cons rfl (Sub.cons rfl (Sub.cons rfl (Sub.cons rfl (Sub.cons rfl (Sub.cons rfl (Sub.nil _))))))))))
    · skip
      refine ⟨?_, h1, hE⟩
      exact Nat.zero_le _
    intro j w2 hinv
    clear h1 hE
    obtain ⟨hinv, h1, hE⟩ := hinv
    have hsw2 := hE.size
    obtain hj := hinv
    have hr2 := byteI_R (l1[k]!).toNat hr j
    have hb8 := (l1[k]!).toNat_lt
    unfold R32 at hr2
    refine W.seq ?_
    refine W.seq ?_
    refine W.region ?_
    refine WL.det (fun _ _ => R.move rfl) rfl ?_
    refine WL.det (fun _ _ => R.lss rfl rfl) rfl ?_
    refine WL.nil ?_
    refine E.to ?_
    first | refine W.cond_d rfl (fun hc2 => ?_) (fun hc2 => ?_) | refine W.cond_nd rfl (fun hc2 => ?_) (fun hc2 => ?_) | refine W.cond rfl (fun hc2 => ?_) (fun hc2 => ?_)
    · skip
      refine W.skip ?_
      refine E.to ?_
      refine W.seq ?_
      refine W.block ?_
      refine W.region ?_
      refine WL.det (fun _ _ => R.move rfl) rfl ?_
      refine WL.det (fun _ _ => R.move rfl) rfl ?_
      refine WL.det (fun _ _ => R.move rfl) rfl ?_
      refine WL.det (fun _ e => R.idx rfl rfl (h1.ext e) (by omega) Try.underlying22 hi5 hs5) rfl ?_
      refine WL.det (fun _ e => R.ld1 rfl ((h1.ext e).elem (by omega)) Try.underlying5 rfl) rfl ?_
      refine WL.det (fun _ _ => (by first | exact R.conv32 rfl Try.underlying5 Try.underlying61 (by omega) | exact R.conv rfl Try.underlying5 Try.underlying61)) rfl ?_
      refine WL.det (fun _ _ => R.move rfl) rfl ?_
      refine WL.det (fun _ _ => R.shr rfl rfl (by omega)) rfl ?_
      refine WL.det (fun _ e => R.rem0 rfl rfl (Int.ediv_nonneg (Int.natCast_nonneg _) (Int.pow_nonneg (by decide))) (by omega)) rfl ?_
      refine WL.call rfl rfl ⟨rfl, rfl⟩ callOk47 rfl rfl (shifted_spec _ _ (by omega) (by omega) _) ?_
      rintro v26 w3 ⟨rfl, ew3⟩
      replace h1 := h1.ext ew3
      replace hE := Ext.tr hE ew3
      have hsew3 := ew3.size
      refine WL.det (fun _ _ => R.assign rfl) rfl ?_
      refine WL.nil ?_
      refine E.inn ?_
      refine E.to ?_
      refine W.region ?_
      refine WL.det (fun _ _ => R.move rfl) rfl ?_
      refine WL.det (fun _ _ => (by first | exact R.add64 rfl rfl (by omega) | exact R.add rfl rfl)) rfl ?_
      refine WL.det (fun _ _ => R.assign rfl) rfl ?_
      refine WL.nil ?_
      refine E.againx1 ((j + 1)) ?_ ?_ ?_
      · exact (Sub.val rfl (by simp only [byteI, Int.toNat_natCast, IntKind.bits]; rw [Nat.min_eq_left (by omega)]) (Sub.cons rfl (Sub.cons rfl (Sub.cons rfl (Sub.cons rfl (Sub.cons rfl (Sub.cons rfl (Sub.cons rfl (Sub.cons rfl (Sub.nil _))))))))))
      · skip
        refine ⟨?_, h1, hE⟩
        omega
      · omega
    · skip
      refine W.exit ?_
      refine E.th ?_
      refine E.th ?_
      refine E.hit ?_
      refine E.inn ?_
      refine E.to ?_
      refine W.region ?_
      refine WL.det (fun _ _ => R.move rfl) rfl ?_
      refine WL.det (fun _ _ => (by first | exact R.add64 rfl rfl (by omega) | exact R.add rfl rfl)) rfl ?_
      refine WL.det (fun _ _ => R.assign rfl) rfl ?_
      refine WL.nil ?_
      refine E.againx1 ((k + 1)) ?_ ?_ ?_
      · exact (Sub.val rfl (by rw [take_snoc' (by omega), registerI_snoc]; have e8 : j = 8 := (by omega); subst e8; rfl) (Sub.cons rfl (Sub.cons rfl (Sub.cons rfl (Sub.nil _)))))
      · skip
        refine ⟨?_, h1, hE⟩
        omega
      · omega
  · skip
    refine W.exit ?_
    refine E.th ?_
    refine E.th ?_
    refine E.hit ?_
    refine E.to ?_
    refine W.seq ?_
    refine W.region ?_
    refine WL.det (fun _ _ => R.move rfl) rfl ?_
    refine WL.det (fun _ _ => R.assign rfl) rfl ?_
    refine WL.nil ?_
    refine E.to ?_
    refine W.ret ?_
    refine E.fin1 (.inl rfl) rfl rfl ?_
    exact ⟨_, rfl, by rw [List.take_of_length_le (by omega)], hE⟩

/-- bookplate/digest.steps. -/
theorem steps_spec  (w : World) :
    CallsTo Try.prog 46 [] w (fun v w1 => v = .agg tabV.toArray ∧ Ext w w1) := by
  have hE := Ext.rfl' w
  refine enter (n := 19) (l := []) Try.func46 rfl rfl rfl ?_
  refine W.seq ?_
  refine W.region ?_
  refine WL.mk (M.alloc (z := .agg (List.replicate 256 (.int .u32 0)).toArray) (by kernel_rfl)) rfl rfl ?_
  rintro _ w1 ⟨g0, rfl, hgg0, hzg0, ew1, hb0v⟩
  replace hE := Ext.tr hE ew1
  have hsew1 := ew1.size
  replace hb0v : Blk w1 g0 80 (List.replicate 256 (.int .u32 0)) := hb0v
  refine WL.nil ?_
  refine E.to ?_
  refine W.seq ?_
  refine W.region ?_
  refine WL.mk (M.alloc (z := .agg (List.replicate 256 (.int .u32 0)).toArray) (by kernel_rfl)) rfl rfl ?_
  rintro _ w2 ⟨g1, rfl, hgg1, hzg1, ew2, hb1v⟩
  replace hE := Ext.tr hE ew2
  replace hb0v := hb0v.ext ew2
  have hsew2 := ew2.size
  replace hb1v : Blk w2 g1 80 (pre (fun i => .int .u32 (tabI i)) (.int .u32 0) 256 0) := (by rw [pre_zero]; exact hb1v)
  refine WL.nil ?_
  refine E.to ?_
  refine W.seq ?_
  refine W.seq ?_
  refine W.region ?_
  refine WL.det (fun _ _ => R.move rfl) rfl ?_
  refine WL.nil ?_
  refine E.to ?_
  refine W.block ?_
  refine W.loopx1 [0, 1] (fun (k : Nat) => [(4, .val (.int .i64 (k : Int)))]) (fun (k : Nat) wr => (k ≤ 256 ∧ Blk wr g1 80 (pre (fun i => .int .u32 (tabI i)) (.int .u32 0) 256 k)) ∧ Ext w wr ∧ Blk wr g0 80 (List.replicate 256 (.int .u32 0))) (fun (k : Nat) => 256 - k) (0) ?_ ?_ ?_
  · exact (Sub.cons rfl (Sub.cons rfl (Sub.cons rfl (Sub.nil _))))
  · skip
    refine ⟨?_, hE, hb0v⟩
    exact ⟨by omega, hb1v⟩
  intro k w3 hinv
  clear hE hb0v hb1v
  obtain ⟨hinv, hE, hb0v⟩ := hinv
  have hsw3 := hE.size
  obtain ⟨hk, hb1v⟩ := hinv
  refine W.seq ?_
  refine W.region ?_
  refine WL.det (fun _ _ => R.lss rfl rfl) rfl ?_
  refine WL.nil ?_
  refine E.to ?_
  refine W.seq ?_
  first | refine W.cond_d rfl (fun hc1 => ?_) (fun hc1 => ?_) | refine W.cond_nd rfl (fun hc1 => ?_) (fun hc1 => ?_) | refine W.cond rfl (fun hc1 => ?_) (fun hc1 => ?_)
  · skip
    refine W.skip ?_
    refine E.to ?_
    refine W.seq ?_
    refine W.block ?_
    refine W.seq ?_
    refine W.region ?_
    refine WL.det (fun _ _ => R.move rfl) rfl ?_
    refine WL.det (fun _ _ => R.assign rfl) rfl ?_
    refine WL.nil ?_
    refine E.to ?_
    refine W.seq ?_
    refine W.region ?_
    refine WL.det (fun _ _ => R.move rfl) rfl ?_
    refine WL.det (fun _ _ => (by first | exact R.conv32 rfl Try.underlying3 Try.underlying61 (by omega) | exact R.conv rfl Try.underlying3 Try.underlying61)) rfl ?_
    refine WL.det (fun _ _ => R.assign rfl) rfl ?_
    refine WL.nil ?_
    refine E.to ?_
    refine W.seq ?_
    refine W.seq ?_
    refine W.region ?_
    refine WL.det (fun _ _ => R.move rfl) rfl ?_
    refine WL.nil ?_
    refine E.to ?_
    refine W.block ?_
    refine W.loopx1 [0, 1, 2, 4, 5, 6, 7, 8] (fun (j : Nat) => [(3, .val (.int .u32 (iterI bitI j (k : Int)))), (9, .val (.int .i64 (j : Int)))]) (fun (j : Nat) wr => (j ≤ 8) ∧ Blk wr g1 80 (pre (fun i => .int .u32 (tabI i)) (.int .u32 0) 256 k) ∧ Ext w wr ∧ Blk wr g0 80 (List.replicate 256 (.int .u32 0))) (fun (j : Nat) => 8 - j) (0) ?_ ?_ ?_
    · exact (Sub.cons rfl (Sub.cons rfl (Sub.cons rfl (Sub.cons rfl (Sub.cons rfl (Sub.cons rfl (Sub.cons rfl (Sub.cons rfl (Sub.cons rfl (Sub.cons rfl (Sub.nil _)))))))))))
    · skip
      refine ⟨?_, hb1v, hE, hb0v⟩
      omega
    intro j w4 hinv
    clear hb1v hE hb0v
    obtain ⟨hinv, hb1v, hE, hb0v⟩ := hinv
    have hsw4 := hE.size
    obtain hj := hinv
    refine W.seq ?_
    refine W.region ?_
    refine WL.det (fun _ _ => R.lss rfl rfl) rfl ?_
    refine WL.nil ?_
    refine E.to ?_
    refine W.seq ?_
    first | refine W.cond_d rfl (fun hc2 => ?_) (fun hc2 => ?_) | refine W.cond_nd rfl (fun hc2 => ?_) (fun hc2 => ?_) | refine W.cond rfl (fun hc2 => ?_) (fun hc2 => ?_)
    · skip
      refine W.skip ?_
      refine E.to ?_
      refine W.seq ?_
      refine W.block ?_
      refine W.region ?_
      refine WL.det (fun _ _ => R.move rfl) rfl ?_
      refine WL.call rfl rfl ⟨rfl, rfl⟩ callOk48 rfl rfl (bit_spec _ _) ?_
      rintro v12 w5 ⟨rfl, ew5⟩
      replace hb1v := hb1v.ext ew5
      replace hE := Ext.tr hE ew5
      replace hb0v := hb0v.ext ew5
      have hsew5 := ew5.size
      refine WL.det (fun _ _ => R.assign rfl) rfl ?_
      refine WL.nil ?_
      refine E.inn ?_
      refine E.to ?_
      refine W.region ?_
      refine WL.det (fun _ _ => (by first | exact R.add64 rfl rfl (by omega) | exact R.add rfl rfl)) rfl ?_
      refine WL.det (fun _ _ => R.move rfl) rfl ?_
      refine WL.nil ?_
      refine E.againx1 ((j + 1)) ?_ ?_ ?_
      · exact (Sub.cons rfl (Sub.cons rfl (Sub.cons rfl (Sub.cons rfl (Sub.cons rfl (Sub.cons rfl (Sub.cons rfl (Sub.cons rfl (Sub.cons rfl (Sub.cons rfl (Sub.nil _)))))))))))
      · skip
        refine ⟨?_, hb1v, hE, hb0v⟩
        omega
      · omega
    · skip
      refine W.exit ?_
      refine E.th ?_
      refine E.th ?_
      refine E.hit ?_
      refine E.to ?_
      refine W.region ?_
      refine WL.det (fun _ _ => R.move rfl) rfl ?_
      refine WL.det (fun _ _ => R.move rfl) rfl ?_
      refine WL.det (fun _ _ => R.idx_arr (m := 1) rfl rfl (by omega) Try.underlying80 (by kernel_rfl)) rfl ?_
      refine WL.do (D.store rfl rfl rfl (m := 1) (by kernel_rfl) (by rfl) hb1v (by simp [pre_len]; omega) (by rfl)) rfl ?_
      rintro w6 ⟨hb1vn, hgw6, hzw6⟩
      replace hb1vn : Blk w6 g1 80 (pre (fun i => .int .u32 (tabI i)) (.int .u32 0) 256 (k + 1)) := by (have e8 : j = 8 := (by omega); subst e8; rw [← pre_step (by omega)]; exact hb1vn)
      replace hE := Ext.grown hE hgw6 (by rintro k ⟨⟩; omega)
      replace hb0v := hb0v.far hgw6 (by simp; omega)
      replace hb1v := hb1vn
      clear hb1vn
      refine WL.nil ?_
      refine E.inn ?_
      refine E.to ?_
      refine W.region ?_
      refine WL.det (fun _ _ => (by first | exact R.add64 rfl rfl (by omega) | exact R.add rfl rfl)) rfl ?_
      refine WL.det (fun _ _ => R.move rfl) rfl ?_
      refine WL.nil ?_
      refine E.againx1 ((k + 1)) ?_ ?_ ?_
      · exact (Sub.cons rfl (Sub.cons rfl (Sub.cons rfl (Sub.nil _))))
      · skip
        refine ⟨?_, hE, hb0v⟩
        exact ⟨by omega, hb1v⟩
      · omega
  · skip
    refine W.exit ?_
    refine E.th ?_
    refine E.th ?_
    refine E.hit ?_
    refine E.to ?_
    refine W.seq ?_
    refine W.region ?_
    refine WL.det (fun _ e => R.ldN rfl (hb1v.ext e).pt Try.underlying80 rfl (m := 256) (by kernel_rfl) (by exact pre_len _ _ _ _)) rfl ?_
    refine WL.do (D.store rfl rfl rfl (m := 256) (by kernel_rfl) (by exact pre_len _ _ _ _) hb0v (by rw [pre_len, List.length_replicate]; decide) (by exact pre_one _ _ _ _)) rfl ?_
    rintro w7 ⟨hb0vn, hgw7, hzw7⟩
    replace hb0vn := Blk.whole hb0vn (by rw [List.length_replicate, pre_len])
    replace hb1v := hb1v.far hgw7 (by simp; omega)
    replace hE := Ext.grown hE hgw7 (by rintro k ⟨⟩; omega)
    replace hb0v := hb0vn
    clear hb0vn
    refine WL.nil ?_
    refine E.to ?_
    refine W.ret ?_
    refine E.finc (.inl rfl) rfl rfl hb0v Try.underlying80 rfl (m := 256) (by kernel_rfl) (by exact pre_len _ _ _ _) ?_
    have e6 : k = 256 := (by omega)
    subst e6
    exact ⟨_, rfl, by rw [pre_all]; rfl, hE⟩

/-- bookplate/digest.More. -/
theorem more_spec (h : Int) {v1 : Value} {l1 : List UInt8} (w : World) {lo_h1 hi_h1 : Nat} (h1 : Sl encU8 w lo_h1 hi_h1 v1 l1) :
    CallsTo Try.prog 43 [.int .u32 h, v1] w (fun v w1 => v = .int .u32 (moreI h l1) ∧ Ext w w1) := by
  have hE := Ext.rfl' w
  replace h1 := h1.clip0
  have hl_h1 := h1.len_le
  obtain ⟨i5, hi5, hz5, hs5, hb5⟩ := inf5
  refine enter (n := 29) (l := [.int .u32 h, v1]) Try.func43 rfl rfl rfl ?_
  refine W.seq ?_
  refine W.region ?_
  refine WL.det (fun _ _ => R.assign rfl) rfl ?_
  refine WL.nil ?_
  refine E.to ?_
  refine W.seq ?_
  refine W.region ?_
  refine WL.call rfl rfl ⟨rfl, rfl⟩ callOk46 rfl rfl (steps_spec _) ?_
  rintro v8 w1 ⟨rfl, ew1⟩
  replace h1 := h1.ext ew1
  replace hE := Ext.tr hE ew1
  have hsew1 := ew1.size
  refine WL.mk (M.alloc (z := .agg (List.replicate 256 (.int .u32 0)).toArray) (by kernel_rfl)) rfl rfl ?_
  rintro _ w2 ⟨g5, rfl, hgg5, hzg5, ew2, hb5v⟩
  replace h1 := h1.ext ew2
  replace hE := Ext.tr hE ew2
  have hsew2 := ew2.size
  replace hb5v : Blk w2 g5 80 (List.replicate 256 (.int .u32 0)) := hb5v
  refine WL.do (D.store rfl rfl rfl (m := 256) (by kernel_rfl) (by exact tabV_len) hb5v (by rw [tabV_len, List.length_replicate]; decide) (by exact tabV_one)) rfl ?_
  rintro w3 ⟨hb5vn, hgw3, hzw3⟩
  replace hb5vn := Blk.whole hb5vn (by rw [List.length_replicate, tabV_len])
  replace hb5vn : Blk w3 g5 80 (tabV) := by exact hb5vn
  replace h1 := h1.far hgw3 (by rintro k ⟨⟩; omega)
  replace hE := Ext.grown hE hgw3 (by rintro k ⟨⟩; omega)
  replace hb5v := hb5vn
  clear hb5vn
  refine WL.nil ?_
  refine E.to ?_
  refine W.seq ?_
  refine W.region ?_
  refine WL.det (fun _ _ => R.move rfl) rfl ?_
  refine WL.det (fun _ _ => R.com32 rfl) rfl ?_
  refine WL.det (fun _ _ => R.assign rfl) rfl ?_
  refine WL.nil ?_
  refine E.to ?_
  refine W.seq ?_
  refine W.seq ?_
  refine W.region ?_
  refine WL.det (fun _ _ => R.move rfl) rfl ?_
  refine WL.det (fun _ e => R.len_sl rfl (h1.ext e) Try.underlying22) rfl ?_
  refine WL.det (fun _ _ => R.move rfl) rfl ?_
  refine WL.nil ?_
  refine E.to ?_
  refine W.block ?_
  refine W.loopx1 [4, 5, 11, 12] (fun (k : Nat) => [(0, .val (.int .u32 (runI (comI h) (l1.take k)))), (13, .val (.int .i64 (k : Int)))]) (fun (k : Nat) wr => (k ≤ l1.length) ∧ Sl encU8 wr 0 w.heap.size v1 l1 ∧ Ext w wr ∧ Blk wr g5 80 (tabV)) (fun (k : Nat) => l1.length - k) (0) ?_ ?_ ?_
  · exact (Sub.cons rfl (Sub.cons rfl (Sub.cons rfl (Sub.cons rfl (Sub.cons rfl (Sub.cons rfl (Sub.nil _)))))))
  · skip
    refine ⟨?_, h1, hE, hb5v⟩
    exact Nat.zero_le _
  intro k w4 hinv
  clear h1 hE hb5v
  obtain ⟨hinv, h1, hE, hb5v⟩ := hinv
  have hsw4 := hE.size
  obtain hk := hinv
  refine W.seq ?_
  refine W.region ?_
  refine WL.det (fun _ _ => R.lss rfl rfl) rfl ?_
  refine WL.nil ?_
  refine E.to ?_
  refine W.seq ?_
  first | refine W.cond_d rfl (fun hc1 => ?_) (fun hc1 => ?_) | refine W.cond_nd rfl (fun hc1 => ?_) (fun hc1 => ?_) | refine W.cond rfl (fun hc1 => ?_) (fun hc1 => ?_)
  · skip
    refine W.skip ?_
    refine E.to ?_
    refine W.seq ?_
    refine W.block ?_
    refine W.seq ?_
    refine W.region ?_
    refine WL.det (fun _ e => R.idx rfl rfl (h1.ext e) (by omega) Try.underlying22 hi5 hs5) rfl ?_
    refine WL.det (fun _ e => R.ld1 rfl ((h1.ext e).elem (by omega)) Try.underlying5 rfl) rfl ?_
    refine WL.det (fun _ _ => R.assign rfl) rfl ?_
    refine WL.nil ?_
    refine E.to ?_
    refine W.region ?_
    refine WL.det (fun _ _ => R.move rfl) rfl ?_
    refine WL.det (fun _ _ => R.shr_c (q := 256) rfl rfl (by decide) (by decide)) rfl ?_
    refine WL.det (fun _ _ => R.move rfl) rfl ?_
    refine WL.det (fun _ _ => (by first | exact R.conv8 rfl Try.underlying61 Try.underlying5 (by omega) | exact R.conv rfl Try.underlying61 Try.underlying5)) rfl ?_
    refine WL.det (fun _ _ => R.move rfl) rfl ?_
    refine WL.det (fun _ _ => R.xor rfl rfl) rfl ?_
    refine WL.det (fun _ _ => R.idx_arr (m := 1) (i := (bits .xor .u8 (IntKind.u8.wrap (runI (comI h) (l1.take k))) (l1[k]!).toNat).toNat) rfl (evi rfl (toNat_u8 _ _).symm) (by exact lt_u8 _ _) Try.underlying80 (by kernel_rfl)) rfl ?_
    refine WL.det (fun _ e => R.ld1 rfl (tabV_pt (hb5v.ext e) (lt_u8 _ _)) Try.underlying61 rfl) rfl ?_
    refine WL.det (fun _ _ => R.xor rfl rfl) rfl ?_
    refine WL.det (fun _ _ => R.assign rfl) rfl ?_
    refine WL.nil ?_
    refine E.inn ?_
    refine E.to ?_
    refine W.region ?_
    refine WL.det (fun _ _ => (by first | exact R.add64 rfl rfl (by omega) | exact R.add rfl rfl)) rfl ?_
    refine WL.det (fun _ _ => R.move rfl) rfl ?_
    refine WL.nil ?_
    refine E.againx1 ((k + 1)) ?_ ?_ ?_
    · exact (Sub.val rfl (by rw [take_snoc' (by omega), runI_snoc]; rfl) (Sub.cons rfl (Sub.cons rfl (Sub.cons rfl (Sub.cons rfl (Sub.cons rfl (Sub.nil _)))))))
    · skip
      refine ⟨?_, h1, hE, hb5v⟩
      omega
    · omega
  · skip
    refine W.exit ?_
    refine E.th ?_
    refine E.th ?_
    refine E.hit ?_
    refine E.to ?_
    refine W.seq ?_
    refine W.region ?_
    refine WL.det (fun _ _ => R.move rfl) rfl ?_
    refine WL.det (fun _ _ => R.com32 rfl) rfl ?_
    refine WL.det (fun _ _ => R.assign rfl) rfl ?_
    refine WL.nil ?_
    refine E.to ?_
    refine W.ret ?_
    refine E.fin1 (.inl rfl) rfl rfl ?_
    exact ⟨_, rfl, by rw [List.take_of_length_le (by omega)]; rfl, hE⟩

/-- bookplate/bookplateref02.More. -/
theorem refmore_spec (h : Int) {v1 : Value} {l1 : List UInt8} (w : World) {lo_h1 hi_h1 : Nat} (h1 : Sl encU8 w lo_h1 hi_h1 v1 l1) :
    CallsTo Try.prog 39 [.int .u32 h, v1] w (fun v w1 => v = .int .u32 (refMoreI h l1) ∧ Ext w w1) := by
  have hE := Ext.rfl' w
  replace h1 := h1.clip0
  have hl_h1 := h1.len_le
  refine enter (n := 10) (l := [.int .u32 h, v1]) Try.func39 rfl rfl rfl ?_
  refine W.seq ?_
  refine W.region ?_
  refine WL.det (fun _ _ => R.assign rfl) rfl ?_
  refine WL.nil ?_
  refine E.to ?_
  refine W.seq ?_
  refine W.region ?_
  refine WL.det (fun _ _ => R.move rfl) rfl ?_
  refine WL.det (fun _ _ => R.com32 rfl) rfl ?_
  refine WL.det (fun _ _ => R.move rfl) rfl ?_
  refine WL.call rfl rfl ⟨rfl, rfl⟩ callOk44 rfl rfl (register_spec _ (comI_R _) _ h1) ?_
  rintro v8 w1 ⟨rfl, ew1⟩
  replace h1 := h1.ext ew1
  replace hE := Ext.tr hE ew1
  have hsew1 := ew1.size
  refine WL.det (fun _ _ => R.com32 rfl) rfl ?_
  refine WL.det (fun _ _ => R.assign rfl) rfl ?_
  refine WL.nil ?_
  refine E.to ?_
  refine W.ret ?_
  refine E.fin1 (.inl rfl) rfl rfl ?_
  exact ⟨_, rfl, rfl, hE⟩

end Go.Proofs.Ytnmngpmdphkcpaa
