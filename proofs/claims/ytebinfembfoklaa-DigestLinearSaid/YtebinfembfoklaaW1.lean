/-
  The walks.
-/
import Derived.Test.YtebinfembfoklaaGLast
import Derived.Test.YtebinfembfoklaaRows
import Derived.Test.YtebinfembfoklaaM02
namespace Go.Proofs.Ytebinfembfoklaa
open Go Go.RowKit Go.G Go.D02

theorem inf5 : ∃ i, Try.prog.info? 5 = some i ∧ i.zero = some (.int .u8 0) ∧ i.size = 1 ∧ i.bytes = 1 := info_of (by kernel_rfl)
theorem callOk11 : callOk Try.prog 11 = true := by kernel_rfl
theorem callOk12 : callOk Try.prog 12 = true := by kernel_rfl
theorem callOk13 : callOk Try.prog 13 = true := by kernel_rfl
theorem callOk14 : callOk Try.prog 14 = true := by kernel_rfl
theorem callOk27 : callOk Try.prog 27 = true := by kernel_rfl
theorem callOk28 : callOk Try.prog 28 = true := by kernel_rfl
theorem callOk29 : callOk Try.prog 29 = true := by kernel_rfl
theorem callOk30 : callOk Try.prog 30 = true := by kernel_rfl
theorem callOk32 : callOk Try.prog 32 = true := by kernel_rfl
theorem callOk33 : callOk Try.prog 33 = true := by kernel_rfl
theorem callOk34 : callOk Try.prog 34 = true := by kernel_rfl
theorem callOk37 : callOk Try.prog 37 = true := by kernel_rfl

/-- bookplate/digest.bit. -/
theorem bit_spec (h : Int) (w : World) :
    CallsTo Try.prog 32 [.int .u32 h] w (fun v w1 => v = .int .u32 (bitI h) ∧ Ext w w1) := by
  have hE := Ext.rfl' w
  refine enter (n := 11) (l := [.int .u32 h]) Try.func32 rfl rfl rfl ?_
  refine W.seq ?_
  refine W.region ?_
  refine WL.det (fun _ _ => R.assign rfl) rfl ?_
  refine WL.nil ?_
  refine E.to ?_
  refine W.seq ?_
  refine W.seq ?_
  refine W.region ?_
  refine WL.det (fun _ _ => R.move rfl) rfl ?_
  refine WL.det (fun _ _ => R.and rfl rfl) rfl ?_
  refine WL.det (fun _ _ => R.eql rfl rfl) rfl ?_
  refine WL.nil ?_
  refine E.to ?_
  first | refine W.cond_d rfl (fun hc1 => ?_) (fun hc1 => ?_) | refine W.cond_nd rfl (fun hc1 => ?_) (fun hc1 => ?_) | refine W.cond rfl (fun hc1 => ?_) (fun hc1 => ?_)
  · skip
    refine W.seq ?_
    refine W.region ?_
    refine WL.det (fun _ _ => R.move rfl) rfl ?_
    refine WL.det (fun _ _ => R.shr_c (q := 2) rfl rfl (by decide) (by decide)) rfl ?_
    refine WL.det (fun _ _ => R.xor rfl rfl) rfl ?_
    refine WL.det (fun _ _ => R.assign rfl) rfl ?_
    refine WL.nil ?_
    refine E.to ?_
    refine W.ret ?_
    refine E.thr ?_
    refine E.fin1 (.inl rfl) rfl rfl ?_
    exact ⟨_, rfl, by unfold bitI; simp [*], hE⟩
  · skip
    refine W.skip ?_
    refine E.to ?_
    refine W.seq ?_
    refine W.region ?_
    refine WL.det (fun _ _ => R.move rfl) rfl ?_
    refine WL.det (fun _ _ => R.shr_c (q := 2) rfl rfl (by decide) (by decide)) rfl ?_
    refine WL.det (fun _ _ => R.assign rfl) rfl ?_
    refine WL.nil ?_
    refine E.to ?_
    refine W.ret ?_
    refine E.fin1 (.inl rfl) rfl rfl ?_
    exact ⟨_, rfl, by unfold bitI; simp [*], hE⟩

/-- bookplate/bookplateref02.shifted. -/
theorem shifted_spec (h b : Int) (h0 : 0 ≤ h) (h1 : h ≤ 4294967295) (w : World) :
    CallsTo Try.prog 37 [.int .u32 h, .int .u32 b] w (fun v w1 => v = .int .u32 (shiftedI h b) ∧ Ext w w1) := by
  have hE := Ext.rfl' w
  refine enter (n := 14) (l := [.int .u32 h, .int .u32 b]) Try.func37 rfl rfl rfl ?_
  refine W.seq ?_
  refine W.region ?_
  refine WL.det (fun _ _ => R.assign rfl) rfl ?_
  refine WL.nil ?_
  refine E.to ?_
  refine W.seq ?_
  refine W.seq ?_
  refine W.region ?_
  refine WL.det (fun _ _ => R.move rfl) rfl ?_
  refine WL.det (fun _ _ => (by first | exact R.rem0 rfl rfl (by omega) (by omega) | exact R.rem rfl rfl (by omega))) rfl ?_
  refine WL.det (fun _ _ => R.move rfl) rfl ?_
  refine WL.det (fun _ _ => R.neq rfl rfl) rfl ?_
  refine WL.nil ?_
  refine E.to ?_
  first | refine W.cond_d rfl (fun hc1 => ?_) (fun hc1 => ?_) | refine W.cond_nd rfl (fun hc1 => ?_) (fun hc1 => ?_) | refine W.cond rfl (fun hc1 => ?_) (fun hc1 => ?_)
  · skip
    refine W.seq ?_
    refine W.region ?_
    refine WL.det (fun _ _ => R.move rfl) rfl ?_
    refine WL.det (fun _ _ => (by first | exact R.quo64 rfl rfl (by omega) | exact R.quo32 rfl rfl (by omega) | exact R.quo rfl rfl (by omega))) rfl ?_
    refine WL.det (fun _ _ => R.xor rfl rfl) rfl ?_
    refine WL.det (fun _ _ => R.assign rfl) rfl ?_
    refine WL.nil ?_
    refine E.to ?_
    refine W.ret ?_
    refine E.thr ?_
    refine E.fin1 (.inl rfl) rfl rfl ?_
    exact ⟨_, rfl, by unfold shiftedI; simp [*], hE⟩
  · skip
    refine W.skip ?_
    refine E.to ?_
    refine W.seq ?_
    refine W.region ?_
    refine WL.det (fun _ _ => R.move rfl) rfl ?_
    refine WL.det (fun _ _ => (by first | exact R.quo64 rfl rfl (by omega) | exact R.quo32 rfl rfl (by omega) | exact R.quo rfl rfl (by omega))) rfl ?_
    refine WL.det (fun _ _ => R.assign rfl) rfl ?_
    refine WL.nil ?_
    refine E.to ?_
    refine W.ret ?_
    refine E.fin1 (.inl rfl) rfl rfl ?_
    exact ⟨_, rfl, by unfold shiftedI; simp [*], hE⟩

/-- slices.Equal[[]byte,byte]. -/
theorem equal_spec {v1 v2 : Value} {l1 l2 : List UInt8} (w : World) {lo_h1 hi_h1 : Nat} (h1 : Sl encU8 w lo_h1 hi_h1 v1 l1) {lo_h2 hi_h2 : Nat} (h2 : Sl encU8 w lo_h2 hi_h2 v2 l2) :
    CallsTo Try.prog 31 [v1, v2] w (fun v w1 => v = .bool (decide (l1 = l2)) ∧ Ext w w1) := by
  have hE := Ext.rfl' w
  replace h1 := h1.clip0
  have hl_h1 := h1.len_le
  replace h2 := h2.clip0
  have hl_h2 := h2.len_le
  obtain ⟨i5, hi5, hz5, hs5, hb5⟩ := inf5
  refine enter (n := 26) (l := [v1, v2]) Try.func31 rfl rfl rfl ?_
  refine W.seq ?_
  refine W.region ?_
  refine WL.det (fun _ _ => R.assign rfl) rfl ?_
  refine WL.nil ?_
  refine E.to ?_
  refine W.seq ?_
  refine W.seq ?_
  refine W.region ?_
  refine WL.det (fun _ _ => R.move rfl) rfl ?_
  refine WL.det (fun _ e => R.len_sl rfl (h1.ext e) Try.underlying22) rfl ?_
  refine WL.det (fun _ _ => R.move rfl) rfl ?_
  refine WL.det (fun _ e => R.len_sl rfl (h2.ext e) Try.underlying22) rfl ?_
  refine WL.det (fun _ _ => R.neq rfl rfl) rfl ?_
  refine WL.nil ?_
  refine E.to ?_
  first | refine W.cond_d rfl (fun hc1 => ?_) (fun hc1 => ?_) | refine W.cond_nd rfl (fun hc1 => ?_) (fun hc1 => ?_) | refine W.cond rfl (fun hc1 => ?_) (fun hc1 => ?_)
  · skip
    refine W.seq ?_
    refine W.region ?_
    refine WL.det (fun _ _ => R.assign rfl) rfl ?_
    refine WL.nil ?_
    refine E.to ?_
    refine W.ret ?_
    refine E.thr ?_
    refine E.fin1 (.inl rfl) rfl rfl ?_
    exact ⟨_, rfl, by rw [decide_eq_false]; intro e; subst e; simp at hc1, hE⟩
  · skip
    refine W.skip ?_
    refine E.to ?_
    refine W.seq ?_
    refine W.seq ?_
    refine W.region ?_
    refine WL.det (fun _ _ => R.move rfl) rfl ?_
    refine WL.det (fun _ e => R.len_sl rfl (h1.ext e) Try.underlying22) rfl ?_
    refine WL.det (fun _ _ => R.move rfl) rfl ?_
    refine WL.nil ?_
    refine E.to ?_
    refine W.block ?_
    refine W.loopx1 [0, 1, 12] (fun (k : Nat) => [(13, .val (.int .i64 (k : Int)))]) (fun (k : Nat) wr => (k ≤ l1.length ∧ l1.take k = l2.take k) ∧ Sl encU8 wr 0 w.heap.size v1 l1 ∧ Sl encU8 wr 0 w.heap.size v2 l2 ∧ Ext w wr) (fun (k : Nat) => l1.length - k) (0) ?_ ?_ ?_
    · exact (Sub.cons rfl (Sub.cons rfl (Sub.cons rfl (Sub.cons rfl (Sub.nil _)))))
    · skip
      refine ⟨?_, h1, h2, hE⟩
      exact ⟨by omega, rfl⟩
    intro k w1 hinv
    clear h1 h2 hE
    obtain ⟨hinv, h1, h2, hE⟩ := hinv
    have hsw1 := hE.size
    obtain ⟨hk, hpre⟩ := hinv
    refine W.seq ?_
    refine W.region ?_
    refine WL.det (fun _ _ => R.lss rfl rfl) rfl ?_
    refine WL.nil ?_
    refine E.to ?_
    refine W.seq ?_
    first | refine W.cond_d rfl (fun hc2 => ?_) (fun hc2 => ?_) | refine W.cond_nd rfl (fun hc2 => ?_) (fun hc2 => ?_) | refine W.cond rfl (fun hc2 => ?_) (fun hc2 => ?_)
    · skip
      refine W.skip ?_
      refine E.to ?_
      refine W.seq ?_
      refine W.block ?_
      refine W.seq ?_
      refine W.region ?_
      refine WL.det (fun _ _ => R.move rfl) rfl ?_
      refine WL.det (fun _ _ => R.assign rfl) rfl ?_
      refine WL.nil ?_
      refine E.to ?_
      refine W.seq ?_
      refine W.draw 9 (by kernel_rfl) (by kernel_rfl) ?_
      intro w2 ew2
      replace h1 := h1.ext ew2
      replace h2 := h2.ext ew2
      replace hE := Ext.tr hE ew2
      have hsew2 := ew2.size
      refine WD.det (fun _ _ => R.move rfl) rfl ?_
      refine WD.det (fun _ _ => R.move rfl) rfl ?_
      refine WD.det (fun _ e => R.idx rfl rfl (h1.ext e) (by omega) Try.underlying22 hi5 hs5) rfl ?_
      refine WD.det (fun _ e => R.ld1 rfl ((h1.ext e).elem (by omega)) Try.underlying5 rfl) rfl ?_
      refine WD.det (fun _ _ => R.move rfl) rfl ?_
      refine WD.det (fun _ _ => R.move rfl) rfl ?_
      refine WD.det (fun _ e => R.idx rfl rfl (h2.ext e) (by omega) Try.underlying22 hi5 hs5) rfl ?_
      refine WD.det (fun _ e => R.ld1 rfl ((h2.ext e).elem (by omega)) Try.underlying5 rfl) rfl ?_
      refine WD.det (fun _ _ => R.neq rfl rfl) rfl ?_
      refine WD.nil (fun w3 ew3 => ?_)
      replace h1 := h1.ext ew3
      replace h2 := h2.ext ew3
      replace hE := Ext.tr hE ew3
      have hsew3 := ew3.size
      refine WL.nil ?_
      refine E.to ?_
      first | refine W.cond_d rfl (fun hc3 => ?_) (fun hc3 => ?_) | refine W.cond_nd rfl (fun hc3 => ?_) (fun hc3 => ?_) | refine W.cond rfl (fun hc3 => ?_) (fun hc3 => ?_)
      · skip
        refine W.seq ?_
        refine W.region ?_
        refine WL.det (fun _ _ => R.assign rfl) rfl ?_
        refine WL.nil ?_
        refine E.to ?_
        refine W.ret ?_
        refine E.inr ?_
        refine E.thr ?_
        refine E.thr ?_
        refine E.inr ?_
        refine E.thr ?_
        refine E.fin1 (.inl rfl) rfl rfl ?_
        exact ⟨_, rfl, by rw [decide_eq_false]; intro e; subst e; simp at hc3, hE⟩
      · skip
        refine W.skip ?_
        refine E.inn ?_
        refine E.to ?_
        refine W.region ?_
        refine WL.det (fun _ _ => (by first | exact R.add64 rfl rfl (by omega) | exact R.add rfl rfl)) rfl ?_
        refine WL.det (fun _ _ => R.move rfl) rfl ?_
        refine WL.nil ?_
        refine E.againx1 ((k + 1)) ?_ ?_ ?_
        · exact (Sub.cons rfl (Sub.cons rfl (Sub.cons rfl (Sub.cons rfl (Sub.nil _)))))
        · skip
          refine ⟨?_, h1, h2, hE⟩
          have e1 := UInt8.toNat_inj.1 (Int.ofNat.inj (Decidable.not_not.1 hc3))
          exact ⟨by omega, by rw [take_snoc' (by omega), take_snoc' (by omega), hpre, e1]⟩
        · omega
    · skip
      refine W.exit ?_
      refine E.th ?_
      refine E.th ?_
      refine E.hit ?_
      refine E.to ?_
      refine W.seq ?_
      refine W.region ?_
      refine WL.det (fun _ _ => R.assign rfl) rfl ?_
      refine WL.nil ?_
      refine E.to ?_
      refine W.ret ?_
      refine E.fin1 (.inl rfl) rfl rfl ?_
      exact ⟨_, rfl, by rw [decide_eq_true]; rw [List.take_of_length_le (by omega), List.take_of_length_le (by omega)] at hpre; exact hpre, hE⟩

/-- slices.Clone[[]byte,byte]. -/
theorem clone_spec {v1 : Value} {l1 : List UInt8} (hb : l1.length ≤ 1000000000) (w : World) {lo_h1 hi_h1 : Nat} (h1 : Sl encU8 w lo_h1 hi_h1 v1 l1) :
    CallsTo Try.prog 29 [v1] w (fun v w1 => Own encU8 w1 w.heap.size 5 v l1 ∧ Ext w w1) := by
  have hE := Ext.rfl' w
  replace h1 := h1.clip0
  have hl_h1 := h1.len_le
  obtain ⟨i5, hi5, hz5, hs5, hb5⟩ := inf5
  refine enter (n := 8) (l := [v1]) Try.func29 rfl rfl rfl ?_
  refine W.seq ?_
  refine W.region ?_
  refine WL.det (fun _ _ => R.assign rfl) rfl ?_
  refine WL.nil ?_
  refine E.to ?_
  refine W.seq ?_
  refine W.seq ?_
  refine W.region ?_
  refine WL.det (fun _ _ => R.move rfl) rfl ?_
  refine WL.det (fun _ e => R.isnil rfl (h1.ext e) Try.underlying22) rfl ?_
  refine WL.nil ?_
  refine E.to ?_
  first | refine W.cond_d rfl (fun hc1 => ?_) (fun hc1 => ?_) | refine W.cond_nd rfl (fun hc1 => ?_) (fun hc1 => ?_) | refine W.cond rfl (fun hc1 => ?_) (fun hc1 => ?_)
  · skip
    refine W.seq ?_
    refine W.region ?_
    refine WL.det (fun _ _ => R.assign rfl) rfl ?_
    refine WL.nil ?_
    refine E.to ?_
    refine W.ret ?_
    refine E.thr ?_
    refine E.fin1 (.inl rfl) rfl rfl ?_
    exact ⟨_, rfl, by have := nil_of hc1 h1; subst this; exact Own.nil _ _ _ _, hE⟩
  · skip
    refine W.skip ?_
    refine E.to ?_
    refine W.seq ?_
    refine W.region ?_
    refine WL.mk (M.buildSlice (E := encU8) (ys := []) rfl rfl Try.underlying22 hi5 hz5 hs5 (by rfl) rfl (by decide) (by intro v hv; simp at hv) (by rfl)) rfl rfl ?_
    rintro _ w1 ⟨g5, rfl, hg5, hzg5, ew1, hf5⟩
    replace h1 := h1.ext ew1
    replace hE := Ext.tr hE ew1
    have hsew1 := ew1.size
    replace hf5 := Own.mono hf5 (b := w.heap.size) (by omega)
    refine WL.det (fun _ _ => R.move rfl) rfl ?_
    refine WL.mk (M.append rfl rfl hf5 h1 Try.underlying22 hi5 hz5 hs5 rfl (by intros; rfl) (by rw [hb5]; simp; omega) (by simp; omega) (by omega)) rfl rfl ?_
    rintro v7 w2 ⟨hf7, hgw2, hat7⟩
    have hzw2 := hgw2.size
    replace h1 := h1.far hgw2 (fun k hk => by have := hf5.lt k hk; omega)
    replace hE := Ext.grown hE hgw2 (fun k hk => by have := hf5.lt k hk; omega)
    refine WL.det (fun _ _ => R.assign rfl) rfl ?_
    refine WL.nil ?_
    refine E.to ?_
    refine W.ret ?_
    refine E.fin1 (.inl rfl) rfl rfl ?_
    exact ⟨_, rfl, by simpa using hf7, hE⟩

/-- bookplate/digest.tail. -/
theorem tail_spec (h : Int) (w : World) :
    CallsTo Try.prog 30 [.int .u32 h] w (fun v w1 => Own encU8 w1 w.heap.size 5 v (tailL h) ∧ Ext w w1) := by
  have hE := Ext.rfl' w
  obtain ⟨i5, hi5, hz5, hs5, hb5⟩ := inf5
  refine enter (n := 15) (l := [.int .u32 h]) Try.func30 rfl rfl rfl ?_
  refine W.seq ?_
  refine W.region ?_
  refine WL.det (fun _ _ => R.assign rfl) rfl ?_
  refine WL.nil ?_
  refine E.to ?_
  refine W.seq ?_
  refine W.region ?_
  refine WL.det (fun _ _ => R.move rfl) rfl ?_
  refine WL.det (fun _ _ => (by first | exact R.conv8 rfl Try.underlying24 Try.underlying5 (by omega) | exact R.conv rfl Try.underlying24 Try.underlying5)) rfl ?_
  refine WL.det (fun _ _ => R.move rfl) rfl ?_
  refine WL.det (fun _ _ => R.shr_c (q := 256) rfl rfl (by decide) (by decide)) rfl ?_
  refine WL.det (fun _ _ => (by first | exact R.conv8 rfl Try.underlying24 Try.underlying5 (by omega) | exact R.conv rfl Try.underlying24 Try.underlying5)) rfl ?_
  refine WL.det (fun _ _ => R.move rfl) rfl ?_
  refine WL.det (fun _ _ => R.shr_c (q := 65536) rfl rfl (by decide) (by decide)) rfl ?_
  refine WL.det (fun _ _ => (by first | exact R.conv8 rfl Try.underlying24 Try.underlying5 (by omega) | exact R.conv rfl Try.underlying24 Try.underlying5)) rfl ?_
  refine WL.det (fun _ _ => R.move rfl) rfl ?_
  refine WL.det (fun _ _ => R.shr_c (q := 16777216) rfl rfl (by decide) (by decide)) rfl ?_
  refine WL.det (fun _ _ => (by first | exact R.conv8 rfl Try.underlying24 Try.underlying5 (by omega) | exact R.conv rfl Try.underlying24 Try.underlying5)) rfl ?_
  refine WL.mk (M.buildSlice (E := encU8) (ys := tailL h) rfl rfl Try.underlying22 hi5 hz5 hs5 (by rfl) rfl (by decide) (by intro v hv; simp at hv; rcases hv with rfl | rfl | rfl | rfl <;> rfl) (by simp [tailL, encU8_all, u8_wrap, Value.cells]; omega)) rfl rfl ?_
  rintro _ w1 ⟨g14, rfl, hg14, hzg14, ew1, hf14⟩
  replace hE := Ext.tr hE ew1
  have hsew1 := ew1.size
  replace hf14 := Own.mono hf14 (b := w.heap.size) (by omega)
  refine WL.det (fun _ _ => R.assign rfl) rfl ?_
  refine WL.nil ?_
  refine E.to ?_
  refine W.ret ?_
  refine E.fin1 (.inl rfl) rfl rfl ?_
  exact ⟨_, rfl, hf14, hE⟩

/-- bookplate/bookplateref02.register. -/
theorem register_spec (h : Int) (h0 : R32 h) {v1 : Value} {l1 : List UInt8} (w : World) {lo_h1 hi_h1 : Nat} (h1 : Sl encU8 w lo_h1 hi_h1 v1 l1) :
    CallsTo Try.prog 28 [.int .u32 h, v1] w (fun v w1 => v = .int .u32 (registerI h l1) ∧ Ext w w1) := by
  have hE := Ext.rfl' w
  replace h1 := h1.clip0
  have hl_h1 := h1.len_le
  obtain ⟨i5, hi5, hz5, hs5, hb5⟩ := inf5
  refine enter (n := 28) (l := [.int .u32 h, v1]) Try.func28 rfl rfl rfl ?_
  refine W.seq ?_
  refine W.region ?_
  refine WL.det (fun _ _ => R.assign rfl) rfl ?_
  refine WL.nil ?_
  refine E.to ?_
  refine W.seq ?_
  refine W.seq ?_
  refine W.region ?_
  refine WL.det (fun _ _ => R.assign rfl) rfl ?_
  refine WL.nil ?_
  refine E.to ?_
  refine W.block ?_
  refine W.loopx1 [1, 4] (fun (k : Nat) => [(0, .val (.int .u32 (registerI h (l1.take k)))), (5, .val (.int .i64 (k : Int)))]) (fun (k : Nat) wr => (k ≤ l1.length) ∧ Sl encU8 wr 0 w.heap.size v1 l1 ∧ Ext w wr) (fun (k : Nat) => l1.length - k) (0) ?_ ?_ ?_
  · exact (Sub.cons rfl (Sub.cons rfl (Sub.cons rfl (Sub.cons rfl (Sub.nil _)))))
  · skip
    refine ⟨?_, h1, hE⟩
    exact Nat.zero_le _
  intro k w1 hinv
  clear h1 hE
  obtain ⟨hinv, h1, hE⟩ := hinv
  have hsw1 := hE.size
  obtain hk := hinv
  have hr := registerI_R h0 (l1.take k)
  refine W.seq ?_
  refine W.seq ?_
  refine W.region ?_
  refine WL.det (fun _ _ => R.move rfl) rfl ?_
  refine WL.det (fun _ _ => R.move rfl) rfl ?_
  refine WL.det (fun _ e => R.len_sl rfl (h1.ext e) Try.underlying22) rfl ?_
  refine WL.det (fun _ _ => R.lss rfl rfl) rfl ?_
  refine WL.nil ?_
  refine E.to ?_
  first | refine W.cond_d rfl (fun hc1 => ?_) (fun hc1 => ?_) | refine W.cond_nd rfl (fun hc1 => ?_) (fun hc1 => ?_) | refine W.cond rfl (fun hc1 => ?_) (fun hc1 => ?_)
  · skip
    refine W.skip ?_
    refine E.to ?_
    refine W.seq ?_
    refine W.block ?_
    refine W.seq ?_
    refine W.region ?_
    refine WL.det (fun _ _ => R.assign rfl) rfl ?_
    refine WL.nil ?_
    refine E.to ?_
    refine W.block ?_
    refine W.loopx1 [1, 4, 5, 7, 8, 9, 10] (fun (j : Nat) => [(0, .val (.int .u32 (byteI (registerI h (l1.take k)) (l1[k]!).toNat j))), (6, .val (.int .i64 (j : Int)))]) (fun (j : Nat) wr => (j ≤ 8) ∧ Sl encU8 wr 0 w.heap.size v1 l1 ∧ Ext w wr) (fun (j : Nat) => 8 - j) (0) ?_ ?_ ?_
    · exact (Sub.cons rfl (Sub.cons rfl (Sub.cons rfl (Sub.cons rfl (Sub.cons rfl (Sub.cons rfl (Sub.cons rfl (Sub.cons rfl (Sub.cons rfl (Sub.nil _))))))))))
    · skip
      refine ⟨?_, h1, hE⟩
      exact Nat.zero_le _
    intro j w2 hinv
    clear h1 hE
    obtain ⟨hinv, h1, hE⟩ := hinv
    have hsw2 := hE.size
    obtain hj := hinv
    have hr2 := byteI_R (l1[k]!).toNat hr j
    have hb8 := (l1[k]!).toNat_lt
    unfold R32 at hr2
    refine W.seq ?_
    refine W.seq ?_
    refine W.region ?_
    refine WL.det (fun _ _ => R.move rfl) rfl ?_
    refine WL.det (fun _ _ => R.lss rfl rfl) rfl ?_
    refine WL.nil ?_
    refine E.to ?_
    first | refine W.cond_d rfl (fun hc2 => ?_) (fun hc2 => ?_) | refine W.cond_nd rfl (fun hc2 => ?_) (fun hc2 => ?_) | refine W.cond rfl (fun hc2 => ?_) (fun hc2 => ?_)
    · skip
      refine W.skip ?_
      refine E.to ?_
      refine W.seq ?_
      refine W.block ?_
      refine W.region ?_
      refine WL.det (fun _ _ => R.move rfl) rfl ?_
      refine WL.det (fun _ _ => R.move rfl) rfl ?_
      refine WL.det (fun _ _ => R.move rfl) rfl ?_
      refine WL.det (fun _ e => R.idx rfl rfl (h1.ext e) (by omega) Try.underlying22 hi5 hs5) rfl ?_
      refine WL.det (fun _ e => R.ld1 rfl ((h1.ext e).elem (by omega)) Try.underlying5 rfl) rfl ?_
      refine WL.det (fun _ _ => (by first | exact R.conv32 rfl Try.underlying5 Try.underlying24 (by omega) | exact R.conv rfl Try.underlying5 Try.underlying24)) rfl ?_
      refine WL.det (fun _ _ => R.move rfl) rfl ?_
      refine WL.det (fun _ _ => R.shr rfl rfl (by omega)) rfl ?_
      refine WL.det (fun _ e => R.rem0 rfl rfl (Int.ediv_nonneg (Int.natCast_nonneg _) (Int.pow_nonneg (by decide))) (by omega)) rfl ?_
      refine WL.call rfl rfl ⟨rfl, rfl⟩ callOk37 rfl rfl (shifted_spec _ _ (by omega) (by omega) _) ?_
      rintro v26 w3 ⟨rfl, ew3⟩
      replace h1 := h1.ext ew3
      replace hE := Ext.tr hE ew3
      have hsew3 := ew3.size
      refine WL.det (fun _ _ => R.assign rfl) rfl ?_
      refine WL.nil ?_
      refine E.inn ?_
      refine E.to ?_
      refine W.region ?_
      refine WL.det (fun _ _ => R.move rfl) rfl ?_
      refine WL.det (fun _ _ => (by first | exact R.add64 rfl rfl (by omega) | exact R.add rfl rfl)) rfl ?_
      refine WL.det (fun _ _ => R.assign rfl) rfl ?_
      refine WL.nil ?_
      refine E.againx1 ((j + 1)) ?_ ?_ ?_
      · exact (Sub.val rfl (by simp only [byteI, Int.toNat_natCast, IntKind.bits]; rw [Nat.min_eq_left (by omega)]) (Sub.cons rfl (Sub.cons rfl (Sub.cons rfl (Sub.cons rfl (Sub.cons rfl (Sub.cons rfl (Sub.cons rfl (Sub.cons rfl (Sub.nil _))))))))))
      · skip
        refine ⟨?_, h1, hE⟩
        omega
      · omega
    · skip
      refine W.exit ?_
      refine E.th ?_
      refine E.th ?_
      refine E.hit ?_
      refine E.inn ?_
      refine E.to ?_
      refine W.region ?_
      refine WL.det (fun _ _ => R.move rfl) rfl ?_
      refine WL.det (fun _ _ => (by first | exact R.add64 rfl rfl (by omega) | exact R.add rfl rfl)) rfl ?_
      refine WL.det (fun _ _ => R.assign rfl) rfl ?_
      refine WL.nil ?_
      refine E.againx1 ((k + 1)) ?_ ?_ ?_
      · exact (Sub.val rfl (by rw [take_snoc' (by omega), registerI_snoc]; have e8 : j = 8 := (by omega); subst e8; rfl) (Sub.cons rfl (Sub.cons rfl (Sub.cons rfl (Sub.nil _)))))
      · skip
        refine ⟨?_, h1, hE⟩
        omega
      · omega
  · skip
    refine W.exit ?_
    refine E.th ?_
    refine E.th ?_
    refine E.hit ?_
    refine E.to ?_
    refine W.seq ?_
    refine W.region ?_
    refine WL.det (fun _ _ => R.move rfl) rfl ?_
    refine WL.det (fun _ _ => R.assign rfl) rfl ?_
    refine WL.nil ?_
    refine E.to ?_
    refine W.ret ?_
    refine E.fin1 (.inl rfl) rfl rfl ?_
    exact ⟨_, rfl, by rw [List.take_of_length_le (by omega)], hE⟩

/-- bookplate/digest.steps. -/
theorem steps_spec  (w : World) :
    CallsTo Try.prog 27 [] w (fun v w1 => v = .agg tabV.toArray ∧ Ext w w1) := by
  have hE := Ext.rfl' w
  refine enter (n := 19) (l := []) Try.func27 rfl rfl rfl ?_
  refine W.seq ?_
  refine W.region ?_
  refine WL.mk (M.alloc (z := .agg (List.replicate 256 (.int .u32 0)).toArray) (by kernel_rfl)) rfl rfl ?_
  rintro _ w1 ⟨g0, rfl, hgg0, hzg0, ew1, hb0v⟩
  replace hE := Ext.tr hE ew1
  have hsew1 := ew1.size
  replace hb0v : Blk w1 g0 46 (List.replicate 256 (.int .u32 0)) := hb0v
  refine WL.nil ?_
  refine E.to ?_
  refine W.seq ?_
  refine W.region ?_
  refine WL.mk (M.alloc (z := .agg (List.replicate 256 (.int .u32 0)).toArray) (by kernel_rfl)) rfl rfl ?_
  rintro _ w2 ⟨g1, rfl, hgg1, hzg1, ew2, hb1v⟩
  replace hE := Ext.tr hE ew2
  replace hb0v := hb0v.ext ew2
  have hsew2 := ew2.size
  replace hb1v : Blk w2 g1 46 (pre (fun i => .int .u32 (tabI i)) (.int .u32 0) 256 0) := (by rw [pre_zero]; exact hb1v)
  refine WL.nil ?_
  refine E.to ?_
  refine W.seq ?_
  refine W.seq ?_
  refine W.region ?_
  refine WL.det (fun _ _ => R.move rfl) rfl ?_
  refine WL.nil ?_
  refine E.to ?_
  refine W.block ?_
  refine W.loopx1 [0, 1] (fun (k : Nat) => [(4, .val (.int .i64 (k : Int)))]) (fun (k : Nat) wr => (k ≤ 256 ∧ Blk wr g1 46 (pre (fun i => .int .u32 (tabI i)) (.int .u32 0) 256 k)) ∧ Ext w wr ∧ Blk wr g0 46 (List.replicate 256 (.int .u32 0))) (fun (k : Nat) => 256 - k) (0) ?_ ?_ ?_
  · exact (Sub.cons rfl (Sub.cons rfl (Sub.cons rfl (Sub.nil _))))
  · skip
    refine ⟨?_, hE, hb0v⟩
    exact ⟨by omega, hb1v⟩
  intro k w3 hinv
  clear hE hb0v hb1v
  obtain ⟨hinv, hE, hb0v⟩ := hinv
  have hsw3 := hE.size
  obtain ⟨hk, hb1v⟩ := hinv
  refine W.seq ?_
  refine W.region ?_
  refine WL.det (fun _ _ => R.lss rfl rfl) rfl ?_
  refine WL.nil ?_
  refine E.to ?_
  refine W.seq ?_
  first | refine W.cond_d rfl (fun hc1 => ?_) (fun hc1 => ?_) | refine W.cond_nd rfl (fun hc1 => ?_) (fun hc1 => ?_) | refine W.cond rfl (fun hc1 => ?_) (fun hc1 => ?_)
  · skip
    refine W.skip ?_
    refine E.to ?_
    refine W.seq ?_
    refine W.block ?_
    refine W.seq ?_
    refine W.region ?_
    refine WL.det (fun _ _ => R.move rfl) rfl ?_
    refine WL.det (fun _ _ => R.assign rfl) rfl ?_
    refine WL.nil ?_
    refine E.to ?_
    refine W.seq ?_
    refine W.region ?_
    refine WL.det (fun _ _ => R.move rfl) rfl ?_
    refine WL.det (fun _ _ => (by first | exact R.conv32 rfl Try.underlying3 Try.underlying24 (by omega) | exact R.conv rfl Try.underlying3 Try.underlying24)) rfl ?_
    refine WL.det (fun _ _ => R.assign rfl) rfl ?_
    refine WL.nil ?_
    refine E.to ?_
    refine W.seq ?_
    refine W.seq ?_
    refine W.region ?_
    refine WL.det (fun _ _ => R.move rfl) rfl ?_
    refine WL.nil ?_
    refine E.to ?_
    refine W.block ?_
    refine W.loopx1 [0, 1, 2, 4, 5, 6, 7, 8] (fun (j : Nat) => [(3, .val (.int .u32 (iterI bitI j (k : Int)))), (9, .val (.int .i64 (j : Int)))]) (fun (j : Nat) wr => (j ≤ 8) ∧ Blk wr g1 46 (pre (fun i => .int .u32 (tabI i)) (.int .u32 0) 256 k) ∧ Ext w wr ∧ Blk wr g0 46 (List.replicate 256 (.int .u32 0))) (fun (j : Nat) => 8 - j) (0) ?_ ?_ ?_
    · exact (Sub.cons rfl (Sub.cons rfl (Sub.cons rfl (Sub.cons rfl (Sub.cons rfl (Sub.cons rfl (Sub.cons rfl (Sub.cons rfl (Sub.cons rfl (Sub.cons rfl (Sub.nil _)))))))))))
    · skip
      refine ⟨?_, hb1v, hE, hb0v⟩
      omega
    intro j w4 hinv
    clear hb1v hE hb0v
    obtain ⟨hinv, hb1v, hE, hb0v⟩ := hinv
    have hsw4 := hE.size
    obtain hj := hinv
    refine W.seq ?_
    refine W.region ?_
    refine WL.det (fun _ _ => R.lss rfl rfl) rfl ?_
    refine WL.nil ?_
    refine E.to ?_
    refine W.seq ?_
    first | refine W.cond_d rfl (fun hc2 => ?_) (fun hc2 => ?_) | refine W.cond_nd rfl (fun hc2 => ?_) (fun hc2 => ?_) | refine W.cond rfl (fun hc2 => ?_) (fun hc2 => ?_)
    · skip
      refine W.skip ?_
      refine E.to ?_
      refine W.seq ?_
      refine W.block ?_
      refine W.region ?_
      refine WL.det (fun _ _ => R.move rfl) rfl ?_
      refine WL.call rfl rfl ⟨rfl, rfl⟩ callOk32 rfl rfl (bit_spec _ _) ?_
      rintro v12 w5 ⟨rfl, ew5⟩
      replace hb1v := hb1v.ext ew5
      replace hE := Ext.tr hE ew5
      replace hb0v := hb0v.ext ew5
      have hsew5 := ew5.size
      refine WL.det (fun _ _ => R.assign rfl) rfl ?_
      refine WL.nil ?_
      refine E.inn ?_
      refine E.to ?_
      refine W.region ?_
      refine WL.det (fun _ _ => (by first | exact R.add64 rfl rfl (by omega) | exact R.add rfl rfl)) rfl ?_
      refine WL.det (fun _ _ => R.move rfl) rfl ?_
      refine WL.nil ?_
      refine E.againx1 ((j + 1)) ?_ ?_ ?_
      · exact (Sub.cons rfl (Sub.cons rfl (Sub.cons rfl (Sub.cons rfl (Sub.cons rfl (Sub.cons rfl (Sub.cons rfl (Sub.cons rfl (Sub.cons rfl (Sub.cons rfl (Sub.nil _)))))))))))
      · skip
        refine ⟨?_, hb1v, hE, hb0v⟩
        omega
      · omega
    · skip
      refine W.exit ?_
      refine E.th ?_
      refine E.th ?_
      refine E.hit ?_
      refine E.to ?_
      refine W.region ?_
      refine WL.det (fun _ _ => R.move rfl) rfl ?_
      refine WL.det (fun _ _ => R.move rfl) rfl ?_
      refine WL.det (fun _ _ => R.idx_arr (m := 1) rfl rfl (by omega) Try.underlying46 (by kernel_rfl)) rfl ?_
      refine WL.do (D.store rfl rfl rfl (m := 1) (by kernel_rfl) (by rfl) hb1v (by simp [pre_len]; omega) (by rfl)) rfl ?_
      rintro w6 ⟨hb1vn, hgw6, hzw6⟩
      replace hb1vn : Blk w6 g1 46 (pre (fun i => .int .u32 (tabI i)) (.int .u32 0) 256 (k + 1)) := by (have e8 : j = 8 := (by omega); subst e8; rw [← pre_step (by omega)]; exact hb1vn)
      replace hE := Ext.grown hE hgw6 (by rintro k ⟨⟩; omega)
      replace hb0v := hb0v.far hgw6 (by simp; omega)
      replace hb1v := hb1vn
      clear hb1vn
      refine WL.nil ?_
      refine E.inn ?_
      refine E.to ?_
      refine W.region ?_
      refine WL.det (fun _ _ => (by first | exact R.add64 rfl rfl (by omega) | exact R.add rfl rfl)) rfl ?_
      refine WL.det (fun _ _ => R.move rfl) rfl ?_
      refine WL.nil ?_
      refine E.againx1 ((k + 1)) ?_ ?_ ?_
      · exact (Sub.cons rfl (Sub.cons rfl (Sub.cons rfl (Sub.nil _))))
      · skip
        refine ⟨?_, hE, hb0v⟩
        exact ⟨by omega, hb1v⟩
      · omega
  · skip
    refine W.exit ?_
    refine E.th ?_
    refine E.th ?_
    refine E.hit ?_
    refine E.to ?_
    refine W.seq ?_
    refine W.region ?_
    refine WL.det (fun _ e => R.ldN rfl (hb1v.ext e).pt Try.underlying46 rfl (m := 256) (by kernel_rfl) (by exact pre_len _ _ _ _)) rfl ?_
    refine WL.do (D.store rfl rfl rfl (m := 256) (by kernel_rfl) (by exact pre_len _ _ _ _) hb0v (by rw [pre_len, List.length_replicate]; decide) (by exact pre_one _ _ _ _)) rfl ?_
    rintro w7 ⟨hb0vn, hgw7, hzw7⟩
    replace hb0vn := Blk.whole hb0vn (by rw [List.length_replicate, pre_len])
    replace hb1v := hb1v.far hgw7 (by simp; omega)
    replace hE := Ext.grown hE hgw7 (by rintro k ⟨⟩; omega)
    replace hb0v := hb0vn
    clear hb0vn
    refine WL.nil ?_
    refine E.to ?_
    refine W.ret ?_
    refine E.finc (.inl rfl) rfl rfl hb0v Try.underlying46 rfl (m := 256) (by kernel_rfl) (by exact pre_len _ _ _ _) ?_
    have e6 : k = 256 := (by omega)
    subst e6
    exact ⟨_, rfl, by rw [pre_all]; rfl, hE⟩

/-- bookplate/digest.More. -/
theorem more_spec (h : Int) {v1 : Value} {l1 : List UInt8} (w : World) {lo_h1 hi_h1 : Nat} (h1 : Sl encU8 w lo_h1 hi_h1 v1 l1) :
    CallsTo Try.prog 13 [.int .u32 h, v1] w (fun v w1 => v = .int .u32 (moreI h l1) ∧ Ext w w1) := by
  have hE := Ext.rfl' w
  replace h1 := h1.clip0
  have hl_h1 := h1.len_le
  obtain ⟨i5, hi5, hz5, hs5, hb5⟩ := inf5
  refine enter (n := 29) (l := [.int .u32 h, v1]) Try.func13 rfl rfl rfl ?_
  refine W.seq ?_
  refine W.region ?_
  refine WL.det (fun _ _ => R.assign rfl) rfl ?_
  refine WL.nil ?_
  refine E.to ?_
  refine W.seq ?_
  refine W.region ?_
  refine WL.call rfl rfl ⟨rfl, rfl⟩ callOk27 rfl rfl (steps_spec _) ?_
  rintro v8 w1 ⟨rfl, ew1⟩
  replace h1 := h1.ext ew1
  replace hE := Ext.tr hE ew1
  have hsew1 := ew1.size
  refine WL.mk (M.alloc (z := .agg (List.replicate 256 (.int .u32 0)).toArray) (by kernel_rfl)) rfl rfl ?_
  rintro _ w2 ⟨g5, rfl, hgg5, hzg5, ew2, hb5v⟩
  replace h1 := h1.ext ew2
  replace hE := Ext.tr hE ew2
  have hsew2 := ew2.size
  replace hb5v : Blk w2 g5 46 (List.replicate 256 (.int .u32 0)) := hb5v
  refine WL.do (D.store rfl rfl rfl (m := 256) (by kernel_rfl) (by exact tabV_len) hb5v (by rw [tabV_len, List.length_replicate]; decide) (by exact tabV_one)) rfl ?_
  rintro w3 ⟨hb5vn, hgw3, hzw3⟩
  replace hb5vn := Blk.whole hb5vn (by rw [List.length_replicate, tabV_len])
  replace hb5vn : Blk w3 g5 46 (tabV) := by exact hb5vn
  replace h1 := h1.far hgw3 (by rintro k ⟨⟩; omega)
  replace hE := Ext.grown hE hgw3 (by rintro k ⟨⟩; omega)
  replace hb5v := hb5vn
  clear hb5vn
  refine WL.nil ?_
  refine E.to ?_
  refine W.seq ?_
  refine W.region ?_
  refine WL.det (fun _ _ => R.move rfl) rfl ?_
  refine WL.det (fun _ _ => R.com32 rfl) rfl ?_
  refine WL.det (fun _ _ => R.assign rfl) rfl ?_
  refine WL.nil ?_
  refine E.to ?_
  refine W.seq ?_
  refine W.seq ?_
  refine W.region ?_
  refine WL.det (fun _ _ => R.move rfl) rfl ?_
  refine WL.det (fun _ e => R.len_sl rfl (h1.ext e) Try.underlying22) rfl ?_
  refine WL.det (fun _ _ => R.move rfl) rfl ?_
  refine WL.nil ?_
  refine E.to ?_
  refine W.block ?_
  refine W.loopx1 [4, 5, 11, 12] (fun (k : Nat) => [(0, .val (.int .u32 (runI (comI h) (l1.take k)))), (13, .val (.int .i64 (k : Int)))]) (fun (k : Nat) wr => (k ≤ l1.length) ∧ Sl encU8 wr 0 w.heap.size v1 l1 ∧ Ext w wr ∧ Blk wr g5 46 (tabV)) (fun (k : Nat) => l1.length - k) (0) ?_ ?_ ?_
  · exact (Sub.cons rfl (Sub.cons rfl (Sub.cons rfl (Sub.cons rfl (Sub.cons rfl (Sub.cons rfl (Sub.nil _)))))))
  · skip
    refine ⟨?_, h1, hE, hb5v⟩
    exact Nat.zero_le _
  intro k w4 hinv
  clear h1 hE hb5v
  obtain ⟨hinv, h1, hE, hb5v⟩ := hinv
  have hsw4 := hE.size
  obtain hk := hinv
  refine W.seq ?_
  refine W.region ?_
  refine WL.det (fun _ _ => R.lss rfl rfl) rfl ?_
  refine WL.nil ?_
  refine E.to ?_
  refine W.seq ?_
  first | refine W.cond_d rfl (fun hc1 => ?_) (fun hc1 => ?_) | refine W.cond_nd rfl (fun hc1 => ?_) (fun hc1 => ?_) | refine W.cond rfl (fun hc1 => ?_) (fun hc1 => ?_)
  · skip
    refine W.skip ?_
    refine E.to ?_
    refine W.seq ?_
    refine W.block ?_
    refine W.seq ?_
    refine W.region ?_
    refine WL.det (fun _ e => R.idx rfl rfl (h1.ext e) (by omega) Try.underlying22 hi5 hs5) rfl ?_
    refine WL.det (fun _ e => R.ld1 rfl ((h1.ext e).elem (by omega)) Try.underlying5 rfl) rfl ?_
    refine WL.det (fun _ _ => R.assign rfl) rfl ?_
    refine WL.nil ?_
    refine E.to ?_
    refine W.region ?_
    refine WL.det (fun _ _ => R.move rfl) rfl ?_
    refine WL.det (fun _ _ => R.shr_c (q := 256) rfl rfl (by decide) (by decide)) rfl ?_
    refine WL.det (fun _ _ => R.move rfl) rfl ?_
    refine WL.det (fun _ _ => (by first | exact R.conv8 rfl Try.underlying24 Try.underlying5 (by omega) | exact R.conv rfl Try.underlying24 Try.underlying5)) rfl ?_
    refine WL.det (fun _ _ => R.move rfl) rfl ?_
    refine WL.det (fun _ _ => R.xor rfl rfl) rfl ?_
    refine WL.det (fun _ _ => R.idx_arr (m := 1) (i := (bits .xor .u8 (IntKind.u8.wrap (runI (comI h) (l1.take k))) (l1[k]!).toNat).toNat) rfl (evi rfl (toNat_u8 _ _).symm) (by exact lt_u8 _ _) Try.underlying46 (by kernel_rfl)) rfl ?_
    refine WL.det (fun _ e => R.ld1 rfl (tabV_pt (hb5v.ext e) (lt_u8 _ _)) Try.underlying24 rfl) rfl ?_
    refine WL.det (fun _ _ => R.xor rfl rfl) rfl ?_
    refine WL.det (fun _ _ => R.assign rfl) rfl ?_
    refine WL.nil ?_
    refine E.inn ?_
    refine E.to ?_
    refine W.region ?_
    refine WL.det (fun _ _ => (by first | exact R.add64 rfl rfl (by omega) | exact R.add rfl rfl)) rfl ?_
    refine WL.det (fun _ _ => R.move rfl) rfl ?_
    refine WL.nil ?_
    refine E.againx1 ((k + 1)) ?_ ?_ ?_
    · exact (Sub.val rfl (by rw [take_snoc' (by omega), runI_snoc]; rfl) (Sub.cons rfl (Sub.cons rfl (Sub.cons rfl (Sub.cons rfl (Sub.cons rfl (Sub.nil _)))))))
    · skip
      refine ⟨?_, h1, hE, hb5v⟩
      omega
    · omega
  · skip
    refine W.exit ?_
    refine E.th ?_
    refine E.th ?_
    refine E.hit ?_
    refine E.to ?_
    refine W.seq ?_
    refine W.region ?_
    refine WL.det (fun _ _ => R.move rfl) rfl ?_
    refine WL.det (fun _ _ => R.com32 rfl) rfl ?_
    refine WL.det (fun _ _ => R.assign rfl) rfl ?_
    refine WL.nil ?_
    refine E.to ?_
    refine W.ret ?_
    refine E.fin1 (.inl rfl) rfl rfl ?_
    exact ⟨_, rfl, by rw [List.take_of_length_le (by omega)]; rfl, hE⟩

/-- bookplate/bookplateref02.More. -/
theorem refmore_spec (h : Int) {v1 : Value} {l1 : List UInt8} (w : World) {lo_h1 hi_h1 : Nat} (h1 : Sl encU8 w lo_h1 hi_h1 v1 l1) :
    CallsTo Try.prog 14 [.int .u32 h, v1] w (fun v w1 => v = .int .u32 (refMoreI h l1) ∧ Ext w w1) := by
  have hE := Ext.rfl' w
  replace h1 := h1.clip0
  have hl_h1 := h1.len_le
  refine enter (n := 10) (l := [.int .u32 h, v1]) Try.func14 rfl rfl rfl ?_
  refine W.seq ?_
  refine W.region ?_
  refine WL.det (fun _ _ => R.assign rfl) rfl ?_
  refine WL.nil ?_
  refine E.to ?_
  refine W.seq ?_
  refine W.region ?_
  refine WL.det (fun _ _ => R.move rfl) rfl ?_
  refine WL.det (fun _ _ => R.com32 rfl) rfl ?_
  refine WL.det (fun _ _ => R.move rfl) rfl ?_
  refine WL.call rfl rfl ⟨rfl, rfl⟩ callOk28 rfl rfl (register_spec _ (comI_R _) _ h1) ?_
  rintro v8 w1 ⟨rfl, ew1⟩
  replace h1 := h1.ext ew1
  replace hE := Ext.tr hE ew1
  have hsew1 := ew1.size
  refine WL.det (fun _ _ => R.com32 rfl) rfl ?_
  refine WL.det (fun _ _ => R.assign rfl) rfl ?_
  refine WL.nil ?_
  refine E.to ?_
  refine W.ret ?_
  refine E.fin1 (.inl rfl) rfl rfl ?_
  exact ⟨_, rfl, rfl, hE⟩

/-- bookplate/digest.Of. -/
theorem of_spec {v1 : Value} {l1 : List UInt8} (w : World) {lo_h1 hi_h1 : Nat} (h1 : Sl encU8 w lo_h1 hi_h1 v1 l1) :
    CallsTo Try.prog 11 [v1] w (fun v w1 => v = .int .u32 (moreI 0 l1) ∧ Ext w w1) := by
  have hE := Ext.rfl' w
  replace h1 := h1.clip0
  have hl_h1 := h1.len_le
  refine enter (n := 5) (l := [v1]) Try.func11 rfl rfl rfl ?_
  refine W.seq ?_
  refine W.region ?_
  refine WL.det (fun _ _ => R.assign rfl) rfl ?_
  refine WL.nil ?_
  refine E.to ?_
  refine W.seq ?_
  refine W.region ?_
  refine WL.det (fun _ _ => R.move rfl) rfl ?_
  refine WL.call rfl rfl ⟨rfl, rfl⟩ callOk13 rfl rfl (more_spec _ _ h1) ?_
  rintro v4 w1 ⟨rfl, ew1⟩
  replace h1 := h1.ext ew1
  replace hE := Ext.tr hE ew1
  have hsew1 := ew1.size
  refine WL.det (fun _ _ => R.assign rfl) rfl ?_
  refine WL.nil ?_
  refine E.to ?_
  refine W.ret ?_
  refine E.fin1 (.inl rfl) rfl rfl ?_
  exact ⟨_, rfl, rfl, hE⟩

/-- bookplate/bookplateref02.Of. -/
theorem refof_spec {v1 : Value} {l1 : List UInt8} (w : World) {lo_h1 hi_h1 : Nat} (h1 : Sl encU8 w lo_h1 hi_h1 v1 l1) :
    CallsTo Try.prog 12 [v1] w (fun v w1 => v = .int .u32 (refMoreI 0 l1) ∧ Ext w w1) := by
  have hE := Ext.rfl' w
  replace h1 := h1.clip0
  have hl_h1 := h1.len_le
  refine enter (n := 5) (l := [v1]) Try.func12 rfl rfl rfl ?_
  refine W.seq ?_
  refine W.region ?_
  refine WL.det (fun _ _ => R.assign rfl) rfl ?_
  refine WL.nil ?_
  refine E.to ?_
  refine W.seq ?_
  refine W.region ?_
  refine WL.det (fun _ _ => R.move rfl) rfl ?_
  refine WL.call rfl rfl ⟨rfl, rfl⟩ callOk14 rfl rfl (refmore_spec _ _ h1) ?_
  rintro v4 w1 ⟨rfl, ew1⟩
  replace h1 := h1.ext ew1
  replace hE := Ext.tr hE ew1
  have hsew1 := ew1.size
  refine WL.det (fun _ _ => R.assign rfl) rfl ?_
  refine WL.nil ?_
  refine E.to ?_
  refine W.ret ?_
  refine E.fin1 (.inl rfl) rfl rfl ?_
  exact ⟨_, rfl, rfl, hE⟩

/-- bookplate/bookplateref01.Same. -/
theorem same_spec {v1 v2 : Value} {l1 l2 : List UInt8} (w : World) {lo_h1 hi_h1 : Nat} (h1 : Sl encU8 w lo_h1 hi_h1 v1 l1) {lo_h2 hi_h2 : Nat} (h2 : Sl encU8 w lo_h2 hi_h2 v2 l2) :
    CallsTo Try.prog 15 [v1, v2] w (fun v w1 => v = .bool (decide (l1 = l2)) ∧ Ext w w1) := by
  have hE := Ext.rfl' w
  replace h1 := h1.clip0
  have hl_h1 := h1.len_le
  replace h2 := h2.clip0
  have hl_h2 := h2.len_le
  refine enter (n := 10) (l := [v1, v2]) Try.func15 rfl rfl rfl ?_
  refine W.seq ?_
  refine W.region ?_
  refine WL.det (fun _ _ => R.assign rfl) rfl ?_
  refine WL.nil ?_
  refine E.to ?_
  refine W.seq ?_
  refine W.region ?_
  refine WL.det (fun _ _ => R.move rfl) rfl ?_
  refine WL.det (fun _ e => R.b2s rfl (h1.ext e) Try.underlying22 Try.underlying5 Try.underlying9) rfl ?_
  refine WL.det (fun _ _ => R.move rfl) rfl ?_
  refine WL.det (fun _ e => R.b2s rfl (h2.ext e) Try.underlying22 Try.underlying5 Try.underlying9) rfl ?_
  refine WL.det (fun _ _ => R.streq rfl rfl) rfl ?_
  refine WL.det (fun _ _ => R.assign rfl) rfl ?_
  refine WL.nil ?_
  refine E.to ?_
  refine W.ret ?_
  refine E.fin1 (.inl rfl) rfl rfl ?_
  exact ⟨_, rfl, by simp, hE⟩

/-- bookplate/digest.Seal. -/
theorem seal_spec {v1 : Value} {l1 : List UInt8} (hb : l1.length ≤ 100000000) (w : World) {lo_h1 hi_h1 : Nat} (h1 : Sl encU8 w lo_h1 hi_h1 v1 l1) :
    CallsTo Try.prog 16 [v1] w (fun v w1 => Own encU8 w1 w.heap.size 5 v (l1 ++ tailL (moreI 0 l1)) ∧ Ext w w1) := by
  have hE := Ext.rfl' w
  replace h1 := h1.clip0
  have hl_h1 := h1.len_le
  obtain ⟨i5, hi5, hz5, hs5, hb5⟩ := inf5
  refine enter (n := 9) (l := [v1]) Try.func16 rfl rfl rfl ?_
  refine W.seq ?_
  refine W.region ?_
  refine WL.det (fun _ _ => R.assign rfl) rfl ?_
  refine WL.nil ?_
  refine E.to ?_
  refine W.seq ?_
  refine W.region ?_
  refine WL.det (fun _ _ => R.move rfl) rfl ?_
  refine WL.call rfl rfl ⟨rfl, rfl⟩ callOk29 rfl rfl (clone_spec (by omega) _ h1) ?_
  rintro v4 w1 ⟨hf4, ew1⟩
  replace h1 := h1.ext ew1
  replace hE := Ext.tr hE ew1
  have hsew1 := ew1.size
  replace hf4 := Own.mono hf4 (b := w.heap.size) (by omega)
  refine WL.det (fun _ _ => R.move rfl) rfl ?_
  refine WL.call rfl rfl ⟨rfl, rfl⟩ callOk11 rfl rfl (of_spec _ h1) ?_
  rintro v6 w2 ⟨rfl, ew2⟩
  replace h1 := h1.ext ew2
  replace hE := Ext.tr hE ew2
  replace hf4 := hf4.ext ew2
  have hsew2 := ew2.size
  refine WL.call rfl rfl ⟨rfl, rfl⟩ callOk30 rfl rfl (tail_spec _ _) ?_
  rintro v7 w3 ⟨hf7, ew3⟩
  replace h1 := h1.ext ew3
  replace hE := Ext.tr hE ew3
  replace hf4 := hf4.ext ew3
  have hsew3 := ew3.size
  replace hf7 := Own.mono hf7 (b := w.heap.size) (by omega)
  refine WL.mk (M.append rfl rfl hf4 hf7.sl Try.underlying22 hi5 hz5 hs5 rfl (by intros; rfl) (by rw [hb5]; simp [tailL]; omega) (by simp [tailL]; omega) (by omega)) rfl rfl ?_
  rintro v8 w4 ⟨hf8, hgw4, hat8⟩
  have hzw4 := hgw4.size
  replace h1 := h1.far hgw4 (fun k hk => by have := hf4.lt k hk; omega)
  replace hE := Ext.grown hE hgw4 (fun k hk => by have := hf4.lt k hk; omega)
  refine WL.det (fun _ _ => R.assign rfl) rfl ?_
  refine WL.nil ?_
  refine E.to ?_
  refine W.ret ?_
  refine E.fin1 (.inl rfl) rfl rfl ?_
  exact ⟨_, rfl, hf8, hE⟩

/-- bookplate/bookplateref02.Seal. -/
theorem refseal_spec {v1 : Value} {l1 : List UInt8} (hb : l1.length ≤ 100000000) (w : World) {lo_h1 hi_h1 : Nat} (h1 : Sl encU8 w lo_h1 hi_h1 v1 l1) :
    CallsTo Try.prog 17 [v1] w (fun v w1 => Own encU8 w1 w.heap.size 5 v (l1 ++ tailL (refMoreI 0 l1)) ∧ Ext w w1) := by
  have hE := Ext.rfl' w
  replace h1 := h1.clip0
  have hl_h1 := h1.len_le
  obtain ⟨i5, hi5, hz5, hs5, hb5⟩ := inf5
  refine enter (n := 22) (l := [v1]) Try.func17 rfl rfl rfl ?_
  refine W.seq ?_
  refine W.region ?_
  refine WL.det (fun _ _ => R.assign rfl) rfl ?_
  refine WL.nil ?_
  refine E.to ?_
  refine W.seq ?_
  refine W.region ?_
  refine WL.det (fun _ _ => R.move rfl) rfl ?_
  refine WL.call rfl rfl ⟨rfl, rfl⟩ callOk12 rfl rfl (refof_spec _ h1) ?_
  rintro v5 w1 ⟨rfl, ew1⟩
  replace h1 := h1.ext ew1
  replace hE := Ext.tr hE ew1
  have hsew1 := ew1.size
  refine WL.det (fun _ _ => R.assign rfl) rfl ?_
  refine WL.nil ?_
  refine E.to ?_
  refine W.seq ?_
  refine W.region ?_
  refine WL.mk (M.buildSlice (E := encU8) (ys := []) rfl rfl Try.underlying22 hi5 hz5 hs5 (by rfl) rfl (by decide) (by intro v hv; simp at hv) (by rfl)) rfl rfl ?_
  rintro _ w2 ⟨g6, rfl, hg6, hzg6, ew2, hf6⟩
  replace h1 := h1.ext ew2
  replace hE := Ext.tr hE ew2
  have hsew2 := ew2.size
  replace hf6 := Own.mono hf6 (b := w.heap.size) (by omega)
  refine WL.det (fun _ _ => R.move rfl) rfl ?_
  refine WL.mk (M.append rfl rfl hf6 h1 Try.underlying22 hi5 hz5 hs5 rfl (by intros; rfl) (by rw [hb5]; simp; omega) (by simp; omega) (by omega)) rfl rfl ?_
  rintro v8 w3 ⟨hf8, hgw3, hat8⟩
  have hzw3 := hgw3.size
  replace h1 := h1.far hgw3 (fun k hk => by have := hf6.lt k hk; omega)
  replace hE := Ext.grown hE hgw3 (fun k hk => by have := hf6.lt k hk; omega)
  refine WL.det (fun _ _ => R.move rfl) rfl ?_
  refine WL.det (fun _ _ => (by first | exact R.conv8 rfl Try.underlying24 Try.underlying5 (by omega) | exact R.conv rfl Try.underlying24 Try.underlying5)) rfl ?_
  refine WL.det (fun _ _ => R.move rfl) rfl ?_
  refine WL.det (fun _ _ => R.shr_c (q := 256) rfl rfl (by decide) (by decide)) rfl ?_
  refine WL.det (fun _ _ => (by first | exact R.conv8 rfl Try.underlying24 Try.underlying5 (by omega) | exact R.conv rfl Try.underlying24 Try.underlying5)) rfl ?_
  refine WL.det (fun _ _ => R.move rfl) rfl ?_
  refine WL.det (fun _ _ => R.shr_c (q := 65536) rfl rfl (by decide) (by decide)) rfl ?_
  refine WL.det (fun _ _ => (by first | exact R.conv8 rfl Try.underlying24 Try.underlying5 (by omega) | exact R.conv rfl Try.underlying24 Try.underlying5)) rfl ?_
  refine WL.det (fun _ _ => R.move rfl) rfl ?_
  refine WL.det (fun _ _ => R.shr_c (q := 16777216) rfl rfl (by decide) (by decide)) rfl ?_
  refine WL.det (fun _ _ => (by first | exact R.conv8 rfl Try.underlying24 Try.underlying5 (by omega) | exact R.conv rfl Try.underlying24 Try.underlying5)) rfl ?_
  refine WL.mk (M.buildSlice (E := encU8) (ys := tailL (refMoreI 0 l1)) rfl rfl Try.underlying22 hi5 hz5 hs5 (by rfl) rfl (by decide) (by intro v hv; simp at hv; rcases hv with rfl | rfl | rfl | rfl <;> rfl) (by simp [tailL, encU8_all, u8_wrap, Value.cells]; omega)) rfl rfl ?_
  rintro _ w4 ⟨g20, rfl, hg20, hzg20, ew4, hf20⟩
  replace h1 := h1.ext ew4
  replace hE := Ext.tr hE ew4
  replace hf8 := hf8.ext ew4
  have hsew4 := ew4.size
  replace hf20 := Own.mono hf20 (b := w.heap.size) (by omega)
  refine WL.mk (M.append rfl rfl hf8 hf20.sl Try.underlying22 hi5 hz5 hs5 rfl (by intros; rfl) (by rw [hb5]; simp [tailL]; omega) (by simp [tailL]; omega) (by omega)) rfl rfl ?_
  rintro v21 w5 ⟨hf21, hgw5, hat21⟩
  have hzw5 := hgw5.size
  replace h1 := h1.far hgw5 (fun k hk => by have := hf8.lt k hk; omega)
  replace hE := Ext.grown hE hgw5 (fun k hk => by have := hf8.lt k hk; omega)
  refine WL.det (fun _ _ => R.assign rfl) rfl ?_
  refine WL.nil ?_
  refine E.to ?_
  refine W.ret ?_
  refine E.fin1 (.inl rfl) rfl rfl ?_
  exact ⟨_, rfl, by simpa using hf21, hE⟩

/-- bookplate/bookplatelaw02.behind. -/
theorem behind_spec {v1 v2 : Value} {l1 l2 : List UInt8} (hb1 : l1.length ≤ 100000000) (hb2 : l2.length ≤ 100000000) (w : World) {lo_h1 hi_h1 : Nat} (h1 : Sl encU8 w lo_h1 hi_h1 v1 l1) {lo_h2 hi_h2 : Nat} (h2 : Sl encU8 w lo_h2 hi_h2 v2 l2) :
    CallsTo Try.prog 18 [v1, v2] w (fun v w1 => Own encU8 w1 w.heap.size 5 v (l1 ++ l2) ∧ Ext w w1) := by
  have hE := Ext.rfl' w
  replace h1 := h1.clip0
  have hl_h1 := h1.len_le
  replace h2 := h2.clip0
  have hl_h2 := h2.len_le
  obtain ⟨i5, hi5, hz5, hs5, hb5⟩ := inf5
  refine enter (n := 10) (l := [v1, v2]) Try.func18 rfl rfl rfl ?_
  refine W.seq ?_
  refine W.region ?_
  refine WL.det (fun _ _ => R.assign rfl) rfl ?_
  refine WL.nil ?_
  refine E.to ?_
  refine W.seq ?_
  refine W.region ?_
  refine WL.mk (M.buildSlice (E := encU8) (ys := []) rfl rfl Try.underlying22 hi5 hz5 hs5 (by rfl) rfl (by decide) (by intro v hv; simp at hv) (by rfl)) rfl rfl ?_
  rintro _ w1 ⟨g5, rfl, hg5, hzg5, ew1, hf5⟩
  replace h1 := h1.ext ew1
  replace h2 := h2.ext ew1
  replace hE := Ext.tr hE ew1
  have hsew1 := ew1.size
  replace hf5 := Own.mono hf5 (b := w.heap.size) (by omega)
  refine WL.det (fun _ _ => R.move rfl) rfl ?_
  refine WL.mk (M.append rfl rfl hf5 h1 Try.underlying22 hi5 hz5 hs5 rfl (by intros; rfl) (by rw [hb5]; simp; omega) (by simp; omega) (by omega)) rfl rfl ?_
  rintro v7 w2 ⟨hf7, hgw2, hat7⟩
  have hzw2 := hgw2.size
  replace h1 := h1.far hgw2 (fun k hk => by have := hf5.lt k hk; omega)
  replace h2 := h2.far hgw2 (fun k hk => by have := hf5.lt k hk; omega)
  replace hE := Ext.grown hE hgw2 (fun k hk => by have := hf5.lt k hk; omega)
  refine WL.det (fun _ _ => R.move rfl) rfl ?_
  refine WL.mk (M.append rfl rfl hf7 h2 Try.underlying22 hi5 hz5 hs5 rfl (by intros; rfl) (by rw [hb5]; simp; omega) (by simp; omega) (by omega)) rfl rfl ?_
  rintro v9 w3 ⟨hf9, hgw3, hat9⟩
  have hzw3 := hgw3.size
  replace h1 := h1.far hgw3 (fun k hk => by have := hf7.lt k hk; omega)
  replace h2 := h2.far hgw3 (fun k hk => by have := hf7.lt k hk; omega)
  replace hE := Ext.grown hE hgw3 (fun k hk => by have := hf7.lt k hk; omega)
  refine WL.det (fun _ _ => R.assign rfl) rfl ?_
  refine WL.nil ?_
  refine E.to ?_
  refine W.ret ?_
  refine E.fin1 (.inl rfl) rfl rfl ?_
  exact ⟨_, rfl, by simpa using hf9, hE⟩

/-- (bookplate/digest.matrix).times. -/
theorem times_spec {m : List Int} (hm : m.length = 32) (h : Int) (h0 : R32 h) (w : World) :
    CallsTo Try.prog 34 [.agg (mV m).toArray, .int .u32 h] w (fun v w1 => v = .int .u32 (timesL m h 0) ∧ Ext w w1) := by
  have hE := Ext.rfl' w
  refine enter (n := 22) (l := [.agg (mV m).toArray, .int .u32 h]) Try.func34 rfl rfl rfl ?_
  refine W.seq ?_
  refine W.region ?_
  refine WL.mk (M.box rfl rfl) rfl rfl ?_
  rintro _ w1 ⟨g2, rfl, hgg2, hzg2, ew1, hb2v⟩
  replace hE := Ext.tr hE ew1
  have hsew1 := ew1.size
  refine WL.det (fun _ _ => R.assign rfl) rfl ?_
  refine WL.nil ?_
  refine E.to ?_
  refine W.seq ?_
  refine W.region ?_
  refine WL.det (fun _ _ => R.assign rfl) rfl ?_
  refine WL.nil ?_
  refine E.to ?_
  refine W.seq ?_
  refine W.seq ?_
  refine W.region ?_
  refine WL.det (fun _ _ => R.assign rfl) rfl ?_
  refine WL.nil ?_
  refine E.to ?_
  refine W.block ?_
  refine W.loopx3 [2, 4] (fun (i : Nat) (x : Int) (o : Int) => [(1, .val (.int .u32 x)), (5, .val (.int .u32 o)), (6, .val (.int .i64 (i : Int)))]) (fun (i : Nat) (x : Int) (o : Int) wr => (i ≤ 32 ∧ 0 ≤ x ∧ x * 2 ^ i ≤ 4294967295 ∧ timesL (m.drop i) x o = timesL m h 0) ∧ Ext w wr ∧ Blk wr g2 51 (mV m)) (fun (i : Nat) (x : Int) (o : Int) => 32 - i) (0) (h) (0) ?_ ?_ ?_
  · exact (Sub.cons rfl (Sub.cons rfl (Sub.cons rfl (Sub.cons rfl (Sub.cons rfl (Sub.nil _))))))
  · skip
    refine ⟨?_, hE, hb2v⟩
    exact ⟨by omega, h0.1, by simpa using h0.2, by simp⟩
  intro i x o w2 hinv
  clear hE hb2v
  obtain ⟨hinv, hE, hb2v⟩ := hinv
  have hsw2 := hE.size
  obtain ⟨hi, hx0, hxi, hinv⟩ := hinv
  have hii := halve_lt hi hx0 hxi
  refine W.seq ?_
  refine W.seq ?_
  refine W.region ?_
  refine WL.det (fun _ _ => R.move rfl) rfl ?_
  refine WL.det (fun _ _ => R.gtr rfl rfl) rfl ?_
  refine WL.nil ?_
  refine E.to ?_
  first | refine W.cond_d rfl (fun hc1 => ?_) (fun hc1 => ?_) | refine W.cond_nd rfl (fun hc1 => ?_) (fun hc1 => ?_) | refine W.cond rfl (fun hc1 => ?_) (fun hc1 => ?_)
  · skip
    refine W.skip ?_
    refine E.to ?_
    refine W.seq ?_
    refine W.block ?_
    refine W.seq ?_
    refine W.region ?_
    refine WL.det (fun _ _ => R.move rfl) rfl ?_
    refine WL.det (fun _ _ => R.and rfl rfl) rfl ?_
    refine WL.det (fun _ _ => R.eql rfl rfl) rfl ?_
    refine WL.nil ?_
    refine E.to ?_
    first | refine W.cond_d rfl (fun hc2 => ?_) (fun hc2 => ?_) | refine W.cond_nd rfl (fun hc2 => ?_) (fun hc2 => ?_) | refine W.cond rfl (fun hc2 => ?_) (fun hc2 => ?_)
    · skip
      refine W.region ?_
      refine WL.det (fun _ _ => R.move rfl) rfl ?_
      refine WL.det (fun _ _ => R.move rfl) rfl ?_
      refine WL.det (fun _ _ => R.idx_arr (m := 1) rfl rfl (by omega) Try.underlying51 (by kernel_rfl)) rfl ?_
      refine WL.det (fun _ e => R.ld1 rfl (mV_pt (hb2v.ext e) (by omega)) Try.underlying24 rfl) rfl ?_
      refine WL.det (fun _ _ => R.xor rfl rfl) rfl ?_
      refine WL.det (fun _ _ => R.assign rfl) rfl ?_
      refine WL.nil ?_
      refine E.inn ?_
      refine E.to ?_
      refine W.region ?_
      refine WL.det (fun _ _ => R.move rfl) rfl ?_
      refine WL.det (fun _ _ => (by first | exact R.add64 rfl rfl (by omega) | exact R.add rfl rfl)) rfl ?_
      refine WL.det (fun _ _ => R.move rfl) rfl ?_
      refine WL.det (fun _ _ => R.shr_c (q := 2) rfl rfl (by decide) (by decide)) rfl ?_
      refine WL.det (fun _ _ => R.assign rfl) rfl ?_
      refine WL.det (fun _ _ => R.assign rfl) rfl ?_
      refine WL.nil ?_
      refine E.againx3 ((i + 1)) ((x / 2)) ((if bits .and .u32 x 1 = 1 then bits .xor .u32 o m[i]! else o)) ?_ ?_ ?_
      · exact (Sub.cons rfl (Sub.val rfl (by first | rw [if_pos (by assumption)] | rw [if_neg (by assumption)]) (Sub.cons rfl (Sub.cons rfl (Sub.cons rfl (Sub.nil _))))))
      · skip
        refine ⟨?_, hE, hb2v⟩
        exact ⟨by omega, by omega, halve hx0 hxi, by rw [← hinv]; exact (timesL_step _ (by omega) (by omega)).symm⟩
      · omega
    · skip
      refine W.skip ?_
      refine E.inn ?_
      refine E.to ?_
      refine W.region ?_
      refine WL.det (fun _ _ => R.move rfl) rfl ?_
      refine WL.det (fun _ _ => (by first | exact R.add64 rfl rfl (by omega) | exact R.add rfl rfl)) rfl ?_
      refine WL.det (fun _ _ => R.move rfl) rfl ?_
      refine WL.det (fun _ _ => R.shr_c (q := 2) rfl rfl (by decide) (by decide)) rfl ?_
      refine WL.det (fun _ _ => R.assign rfl) rfl ?_
      refine WL.det (fun _ _ => R.assign rfl) rfl ?_
      refine WL.nil ?_
      refine E.againx3 ((i + 1)) ((x / 2)) ((if bits .and .u32 x 1 = 1 then bits .xor .u32 o m[i]! else o)) ?_ ?_ ?_
      · exact (Sub.cons rfl (Sub.val rfl (by first | rw [if_pos (by assumption)] | rw [if_neg (by assumption)]) (Sub.cons rfl (Sub.cons rfl (Sub.cons rfl (Sub.nil _))))))
      · skip
        refine ⟨?_, hE, hb2v⟩
        exact ⟨by omega, by omega, halve hx0 hxi, by rw [← hinv]; exact (timesL_step _ (by omega) (by omega)).symm⟩
      · omega
  · skip
    refine W.exit ?_
    refine E.th ?_
    refine E.th ?_
    refine E.hit ?_
    refine E.to ?_
    refine W.seq ?_
    refine W.region ?_
    refine WL.det (fun _ _ => R.move rfl) rfl ?_
    refine WL.det (fun _ _ => R.assign rfl) rfl ?_
    refine WL.nil ?_
    refine E.to ?_
    refine W.ret ?_
    refine E.fin1 (.inl rfl) rfl rfl ?_
    exact ⟨_, rfl, by rw [← hinv, timesL_stop _ (by omega)], hE⟩

/-- (bookplate/digest.matrix).squared. -/
theorem squared_spec {m : List Int} (hm : m.length = 32) (hr : ∀ x ∈ m, R32 x) (w : World) :
    CallsTo Try.prog 33 [.agg (mV m).toArray] w (fun v w1 => v = .agg (mV (squaredL m)).toArray ∧ Ext w w1) := by
  have hE := Ext.rfl' w
  refine enter (n := 17) (l := [.agg (mV m).toArray]) Try.func33 rfl rfl rfl ?_
  refine W.seq ?_
  refine W.region ?_
  refine WL.mk (M.box rfl rfl) rfl rfl ?_
  rintro _ w1 ⟨g1, rfl, hgg1, hzg1, ew1, hb1v⟩
  replace hE := Ext.tr hE ew1
  have hsew1 := ew1.size
  refine WL.mk (M.alloc (z := .agg (List.replicate 32 (.int .u32 0)).toArray) (by kernel_rfl)) rfl rfl ?_
  rintro _ w2 ⟨g2, rfl, hgg2, hzg2, ew2, hb2v⟩
  replace hE := Ext.tr hE ew2
  replace hb1v := hb1v.ext ew2
  have hsew2 := ew2.size
  replace hb2v : Blk w2 g2 51 (List.replicate 32 (.int .u32 0)) := hb2v
  refine WL.nil ?_
  refine E.to ?_
  refine W.seq ?_
  refine W.region ?_
  refine WL.mk (M.alloc (z := .agg (List.replicate 32 (.int .u32 0)).toArray) (by kernel_rfl)) rfl rfl ?_
  rintro _ w3 ⟨g3, rfl, hgg3, hzg3, ew3, hb3v⟩
  replace hE := Ext.tr hE ew3
  replace hb1v := hb1v.ext ew3
  replace hb2v := hb2v.ext ew3
  have hsew3 := ew3.size
  replace hb3v : Blk w3 g3 51 (pre (fun i => .int .u32 (timesL m m[i]! 0)) (.int .u32 0) 32 0) := (by rw [pre_zero]; exact hb3v)
  refine WL.nil ?_
  refine E.to ?_
  refine W.seq ?_
  refine W.seq ?_
  refine W.region ?_
  refine WL.det (fun _ _ => R.move rfl) rfl ?_
  refine WL.nil ?_
  refine E.to ?_
  refine W.block ?_
  refine W.loopx1 [1, 2, 3] (fun (k : Nat) => [(5, .val (.int .i64 (k : Int)))]) (fun (k : Nat) wr => (k ≤ 32 ∧ Blk wr g3 51 (pre (fun i => .int .u32 (timesL m m[i]! 0)) (.int .u32 0) 32 k)) ∧ Ext w wr ∧ Blk wr g1 51 (mV m) ∧ Blk wr g2 51 (List.replicate 32 (.int .u32 0))) (fun (k : Nat) => 32 - k) (0) ?_ ?_ ?_
  · exact (Sub.cons rfl (Sub.cons rfl (Sub.cons rfl (Sub.cons rfl (Sub.nil _)))))
  · skip
    refine ⟨?_, hE, hb1v, hb2v⟩
    exact ⟨by omega, hb3v⟩
  intro k w4 hinv
  clear hE hb1v hb2v hb3v
  obtain ⟨hinv, hE, hb1v, hb2v⟩ := hinv
  have hsw4 := hE.size
  obtain ⟨hk, hb3v⟩ := hinv
  refine W.seq ?_
  refine W.region ?_
  refine WL.det (fun _ _ => R.lss rfl rfl) rfl ?_
  refine WL.nil ?_
  refine E.to ?_
  refine W.seq ?_
  first | refine W.cond_d rfl (fun hc1 => ?_) (fun hc1 => ?_) | refine W.cond_nd rfl (fun hc1 => ?_) (fun hc1 => ?_) | refine W.cond rfl (fun hc1 => ?_) (fun hc1 => ?_)
  · skip
    refine W.skip ?_
    refine E.to ?_
    refine W.seq ?_
    refine W.block ?_
    refine W.seq ?_
    refine W.region ?_
    refine WL.det (fun _ _ => R.move rfl) rfl ?_
    refine WL.det (fun _ _ => R.assign rfl) rfl ?_
    refine WL.nil ?_
    refine E.to ?_
    refine W.draw 7 (by kernel_rfl) (by kernel_rfl) ?_
    intro w5 ew5
    replace hb3v := hb3v.ext ew5
    replace hE := Ext.tr hE ew5
    replace hb1v := hb1v.ext ew5
    replace hb2v := hb2v.ext ew5
    have hsew5 := ew5.size
    refine WD.det (fun _ _ => R.move rfl) rfl ?_
    refine WD.det (fun _ e => R.ldN rfl (hb1v.ext e).pt Try.underlying51 rfl (m := 32) (by kernel_rfl) (by rw [mV_len]; exact hm)) rfl ?_
    refine WD.det (fun _ _ => R.move rfl) rfl ?_
    refine WD.det (fun _ _ => R.idx_arr (m := 1) rfl rfl (by omega) Try.underlying51 (by kernel_rfl)) rfl ?_
    refine WD.det (fun _ e => R.ld1 rfl (mV_pt (hb1v.ext e) (by omega)) Try.underlying24 rfl) rfl ?_
    refine WD.callv rfl rfl ⟨rfl, rfl⟩ callOk34 rfl (fun w1 e => CallsTo.val (times_spec hm _ (hr _ (mem_get! (by omega))) _)) ?_
    refine WD.det (fun _ _ => R.idx_arr (m := 1) rfl rfl (by omega) Try.underlying51 (by kernel_rfl)) rfl ?_
    refine WD.nil (fun w6 ew6 => ?_)
    replace hb3v := hb3v.ext ew6
    replace hE := Ext.tr hE ew6
    replace hb1v := hb1v.ext ew6
    replace hb2v := hb2v.ext ew6
    have hsew6 := ew6.size
    refine WL.do (D.store rfl rfl rfl (m := 1) (by kernel_rfl) (by rfl) hb3v (by simp [pre_len]; omega) (by rfl)) rfl ?_
    rintro w7 ⟨hb3vn, hgw7, hzw7⟩
    replace hb3vn : Blk w7 g3 51 (pre (fun i => .int .u32 (timesL m m[i]! 0)) (.int .u32 0) 32 (k + 1)) := by (rw [← pre_step (by omega)]; exact hb3vn)
    replace hE := Ext.grown hE hgw7 (by rintro k ⟨⟩; omega)
    replace hb1v := hb1v.far hgw7 (by simp; omega)
    replace hb2v := hb2v.far hgw7 (by simp; omega)
    replace hb3v := hb3vn
    clear hb3vn
    refine WL.nil ?_
    refine E.inn ?_
    refine E.to ?_
    refine W.region ?_
    refine WL.det (fun _ _ => (by first | exact R.add64 rfl rfl (by omega) | exact R.add rfl rfl)) rfl ?_
    refine WL.det (fun _ _ => R.move rfl) rfl ?_
    refine WL.nil ?_
    refine E.againx1 ((k + 1)) ?_ ?_ ?_
    · exact (Sub.cons rfl (Sub.cons rfl (Sub.cons rfl (Sub.cons rfl (Sub.nil _)))))
    · skip
      refine ⟨?_, hE, hb1v, hb2v⟩
      exact ⟨by omega, hb3v⟩
    · omega
  · skip
    refine W.exit ?_
    refine E.th ?_
    refine E.th ?_
    refine E.hit ?_
    refine E.to ?_
    refine W.seq ?_
    refine W.region ?_
    refine WL.det (fun _ e => R.ldN rfl (hb3v.ext e).pt Try.underlying51 rfl (m := 32) (by kernel_rfl) (by exact pre_len _ _ _ _)) rfl ?_
    refine WL.do (D.store rfl rfl rfl (m := 32) (by kernel_rfl) (by exact pre_len _ _ _ _) hb2v (by simp [pre_len]) (by exact pre_one _ _ _ _)) rfl ?_
    rintro w8 ⟨hb2vn, hgw8, hzw8⟩
    replace hb2vn := Blk.whole hb2vn (by rw [List.length_replicate, pre_len])
    replace hb3v := hb3v.far hgw8 (by simp; omega)
    replace hE := Ext.grown hE hgw8 (by rintro k ⟨⟩; omega)
    replace hb1v := hb1v.far hgw8 (by simp; omega)
    replace hb2v := hb2vn
    clear hb2vn
    refine WL.nil ?_
    refine E.to ?_
    refine W.ret ?_
    refine E.finc (.inl rfl) rfl rfl hb2v Try.underlying51 rfl (m := 32) (by kernel_rfl) (by exact pre_len _ _ _ _) ?_
    have e6 : k = 32 := (by omega)
    subst e6
    exact ⟨_, rfl, by rw [pre_all]; simp only [squaredL, mV, List.map_map]; rw [← hm, map_get! m (fun x => Value.int .u32 (timesL m x 0))]; rfl, hE⟩

/-- bookplate/digest.Join. -/
theorem join_spec (x y n : Int) (hx : R32 x) (hn : n ≤ 9223372036854775807) (w : World) :
    CallsTo Try.prog 20 [.int .u32 x, .int .u32 y, .int .i64 n] w (fun v w1 => v = .int .u32 (joinI x y n) ∧ Ext w w1) := by
  have hE := Ext.rfl' w
  refine enter (n := 40) (l := [.int .u32 x, .int .u32 y, .int .i64 n]) Try.func20 rfl rfl rfl ?_
  refine W.seq ?_
  refine W.region ?_
  refine WL.det (fun _ _ => R.assign rfl) rfl ?_
  refine WL.nil ?_
  refine E.to ?_
  refine W.seq ?_
  refine W.seq ?_
  refine W.region ?_
  refine WL.det (fun _ _ => R.move rfl) rfl ?_
  refine WL.det (fun _ _ => R.lss rfl rfl) rfl ?_
  refine WL.nil ?_
  refine E.to ?_
  first | refine W.cond_d rfl (fun hc1 => ?_) (fun hc1 => ?_) | refine W.cond_nd rfl (fun hc1 => ?_) (fun hc1 => ?_) | refine W.cond rfl (fun hc1 => ?_) (fun hc1 => ?_)
  · skip
    refine W.seq ?_
    refine W.region ?_
    refine WL.det (fun _ _ => R.assign rfl) rfl ?_
    refine WL.nil ?_
    refine E.to ?_
    refine W.ret ?_
    refine E.thr ?_
    refine E.fin1 (.inl rfl) rfl rfl ?_
    exact ⟨_, rfl, by rw [joinI, if_pos (by assumption)], hE⟩
  · skip
    refine W.skip ?_
    refine E.to ?_
    refine W.seq ?_
    refine W.region ?_
    refine WL.mk (M.alloc (z := .agg (List.replicate 32 (.int .u32 0)).toArray) (by kernel_rfl)) rfl rfl ?_
    rintro _ w1 ⟨g7, rfl, hgg7, hzg7, ew1, hb7v⟩
    replace hE := Ext.tr hE ew1
    have hsew1 := ew1.size
    replace hb7v : Blk w1 g7 51 (pre (fun i => .int .u32 (bitI (2 ^ i))) (.int .u32 0) 32 0) := (by rw [pre_zero]; exact hb7v)
    refine WL.nil ?_
    refine E.to ?_
    refine W.seq ?_
    refine W.seq ?_
    refine W.region ?_
    refine WL.det (fun _ _ => R.move rfl) rfl ?_
    refine WL.nil ?_
    refine E.to ?_
    refine W.block ?_
    refine W.loopx1 [0, 1, 2, 6, 7] (fun (k : Nat) => [(11, .val (.int .i64 (k : Int)))]) (fun (k : Nat) wr => (k ≤ 32 ∧ Blk wr g7 51 (pre (fun i => .int .u32 (bitI (2 ^ i))) (.int .u32 0) 32 k)) ∧ Ext w wr) (fun (k : Nat) => 32 - k) (0) ?_ ?_ ?_
    · exact (Sub.cons rfl (Sub.cons rfl (Sub.cons rfl (Sub.cons rfl (Sub.cons rfl (Sub.cons rfl (Sub.nil _)))))))
    · skip
      refine ⟨?_, hE⟩
      exact ⟨by omega, hb7v⟩
    intro k w2 hinv
    clear hE hb7v
    obtain ⟨hinv, hE⟩ := hinv
    have hsw2 := hE.size
    obtain ⟨hk, hb7v⟩ := hinv
    refine W.seq ?_
    refine W.region ?_
    refine WL.det (fun _ _ => R.lss rfl rfl) rfl ?_
    refine WL.nil ?_
    refine E.to ?_
    refine W.seq ?_
    first | refine W.cond_d rfl (fun hc2 => ?_) (fun hc2 => ?_) | refine W.cond_nd rfl (fun hc2 => ?_) (fun hc2 => ?_) | refine W.cond rfl (fun hc2 => ?_) (fun hc2 => ?_)
    · skip
      refine W.skip ?_
      refine E.to ?_
      refine W.seq ?_
      refine W.block ?_
      refine W.seq ?_
      refine W.region ?_
      refine WL.det (fun _ _ => R.move rfl) rfl ?_
      refine WL.det (fun _ _ => R.assign rfl) rfl ?_
      refine WL.nil ?_
      refine E.to ?_
      refine W.region ?_
      refine WL.det (fun _ _ => R.move rfl) rfl ?_
      refine WL.det (fun _ _ => R.move rfl) rfl ?_
      refine WL.det (fun _ e => R.mv (R.shl rfl rfl (by omega)) (by rw [shl1 (by omega)])) rfl ?_
      refine WL.call rfl rfl ⟨rfl, rfl⟩ callOk32 rfl rfl (bit_spec _ _) ?_
      rintro v17 w3 ⟨rfl, ew3⟩
      replace hb7v := hb7v.ext ew3
      replace hE := Ext.tr hE ew3
      have hsew3 := ew3.size
      refine WL.det (fun _ _ => R.idx_arr (m := 1) rfl rfl (by omega) Try.underlying51 (by kernel_rfl)) rfl ?_
      refine WL.do (D.store rfl rfl rfl (m := 1) (by kernel_rfl) (by rfl) hb7v (by simp [pre_len]; omega) (by rfl)) rfl ?_
      rintro w4 ⟨hb7vn, hgw4, hzw4⟩
      replace hb7vn : Blk w4 g7 51 (pre (fun i => .int .u32 (bitI (2 ^ i))) (.int .u32 0) 32 (k + 1)) := by (rw [← pre_step (by omega)]; exact hb7vn)
      replace hE := Ext.grown hE hgw4 (by rintro k ⟨⟩; omega)
      replace hb7v := hb7vn
      clear hb7vn
      refine WL.nil ?_
      refine E.inn ?_
      refine E.to ?_
      refine W.region ?_
      refine WL.det (fun _ _ => (by first | exact R.add64 rfl rfl (by omega) | exact R.add rfl rfl)) rfl ?_
      refine WL.det (fun _ _ => R.move rfl) rfl ?_
      refine WL.nil ?_
      refine E.againx1 ((k + 1)) ?_ ?_ ?_
      · exact (Sub.cons rfl (Sub.cons rfl (Sub.cons rfl (Sub.cons rfl (Sub.cons rfl (Sub.cons rfl (Sub.nil _)))))))
      · skip
        refine ⟨?_, hE⟩
        exact ⟨by omega, hb7v⟩
      · omega
    · skip
      refine W.exit ?_
      refine E.th ?_
      refine E.th ?_
      refine E.hit ?_
      refine E.to ?_
      refine W.seq ?_
      refine W.seq ?_
      refine W.region ?_
      refine WL.det (fun _ _ => R.move rfl) rfl ?_
      refine WL.nil ?_
      refine E.to ?_
      refine W.block ?_
      have e6 : k = 32 := (by omega)
      subst e6
      refine W.loopx1 [0, 1, 2, 6, 7] (fun (j : Nat) => [(20, .val (.int .i64 (j : Int)))]) (fun (j : Nat) wr => (j ≤ 3 ∧ Blk wr g7 51 (mV (sqN j m1))) ∧ Ext w wr) (fun (j : Nat) => 3 - j) (0) ?_ ?_ ?_
      · exact (Sub.cons rfl (Sub.cons rfl (Sub.cons rfl (Sub.cons rfl (Sub.cons rfl (Sub.cons rfl (Sub.nil _)))))))
      · skip
        refine ⟨?_, hE⟩
        exact ⟨by omega, by rw [pre_all] at hb7v; simpa [sqN, mV, m1, Function.comp_def] using hb7v⟩
      intro j w5 hinv
      clear hb7v hE
      obtain ⟨hinv, hE⟩ := hinv
      have hsw5 := hE.size
      obtain ⟨hj, hb7v⟩ := hinv
      refine W.seq ?_
      refine W.region ?_
      refine WL.det (fun _ _ => R.lss rfl rfl) rfl ?_
      refine WL.nil ?_
      refine E.to ?_
      refine W.seq ?_
      first | refine W.cond_d rfl (fun hc3 => ?_) (fun hc3 => ?_) | refine W.cond_nd rfl (fun hc3 => ?_) (fun hc3 => ?_) | refine W.cond rfl (fun hc3 => ?_) (fun hc3 => ?_)
      · skip
        refine W.skip ?_
        refine E.to ?_
        refine W.seq ?_
        refine W.block ?_
        refine W.region ?_
        refine WL.det (fun _ e => R.ldN rfl (hb7v.ext e).pt Try.underlying51 rfl (m := 32) (by kernel_rfl) (by rw [mV_len, sqN_len, m1_len])) rfl ?_
        refine WL.call rfl rfl ⟨rfl, rfl⟩ callOk33 rfl rfl (squared_spec (by rw [sqN_len, m1_len]) (sqN_R m1_R j) _) ?_
        rintro v23 w6 ⟨rfl, ew6⟩
        replace hb7v := hb7v.ext ew6
        replace hE := Ext.tr hE ew6
        have hsew6 := ew6.size
        refine WL.do (D.store rfl rfl rfl (m := 32) (by kernel_rfl) (by rw [mV_len, squaredL_len, sqN_len, m1_len]) hb7v (by simp [mV_len, squaredL_len]) (by exact mV_one _)) rfl ?_
        rintro w7 ⟨hb7vn, hgw7, hzw7⟩
        replace hb7vn := Blk.whole hb7vn (by simp [mV_len, squaredL_len])
        replace hb7vn : Blk w7 g7 51 (mV (sqN (j + 1) m1)) := by exact hb7vn
        replace hE := Ext.grown hE hgw7 (by rintro k ⟨⟩; omega)
        replace hb7v := hb7vn
        clear hb7vn
        refine WL.nil ?_
        refine E.inn ?_
        refine E.to ?_
        refine W.region ?_
        refine WL.det (fun _ _ => (by first | exact R.add64 rfl rfl (by omega) | exact R.add rfl rfl)) rfl ?_
        refine WL.det (fun _ _ => R.move rfl) rfl ?_
        refine WL.nil ?_
        refine E.againx1 ((j + 1)) ?_ ?_ ?_
        · exact (Sub.cons rfl (Sub.cons rfl (Sub.cons rfl (Sub.cons rfl (Sub.cons rfl (Sub.cons rfl (Sub.nil _)))))))
        · skip
          refine ⟨?_, hE⟩
          exact ⟨by omega, hb7v⟩
        · omega
      · skip
        refine W.exit ?_
        refine E.th ?_
        refine E.th ?_
        refine E.hit ?_
        refine E.to ?_
        refine W.seq ?_
        refine W.block ?_
        have e7 : j = 3 := (by omega)
        subst e7
        refine W.loopx4 [1, 6, 7] (fun (f : Nat) (mm : List Int) (xx : Int) (nn : Int) => [(0, .val (.int .u32 xx)), (2, .val (.int .i64 nn))]) (fun (f : Nat) (mm : List Int) (xx : Int) (nn : Int) wr => (mm.length = 32 ∧ (∀ a ∈ mm, R32 a) ∧ R32 xx ∧ 0 ≤ nn ∧ nn ≤ 9223372036854775807 ∧ nn < 2 ^ f ∧ joinL f mm xx nn = joinL 64 m8 x n ∧ Blk wr g7 51 (mV mm)) ∧ Ext w wr) (fun (f : Nat) (mm : List Int) (xx : Int) (nn : Int) => nn.toNat) (64) (m8) (x) (n) ?_ ?_ ?_
        · exact (Sub.cons rfl (Sub.cons rfl (Sub.cons rfl (Sub.cons rfl (Sub.cons rfl (Sub.nil _))))))
        · skip
          refine ⟨?_, hE⟩
          exact ⟨by simp [m8, squaredL_len, m1_len], squaredL_R (squaredL_R (squaredL_R m1_R)), hx, by omega, hn, by omega, rfl, hb7v⟩
        intro f mm xx nn w8 hinv
        clear hb7v hE
        obtain ⟨hinv, hE⟩ := hinv
        have hsw8 := hE.size
        obtain ⟨hm, hr, hxx, hn0, hn1, hnf, hinv, hb7v⟩ := hinv
        refine W.seq ?_
        refine W.seq ?_
        refine W.region ?_
        refine WL.det (fun _ _ => R.move rfl) rfl ?_
        refine WL.det (fun _ _ => R.gtr rfl rfl) rfl ?_
        refine WL.nil ?_
        refine E.to ?_
        first | refine W.cond_d rfl (fun hc4 => ?_) (fun hc4 => ?_) | refine W.cond_nd rfl (fun hc4 => ?_) (fun hc4 => ?_) | refine W.cond rfl (fun hc4 => ?_) (fun hc4 => ?_)
        · skip
          refine W.skip ?_
          refine E.to ?_
          refine W.seq ?_
          refine W.block ?_
          refine W.seq ?_
          refine W.seq ?_
          refine W.region ?_
          refine WL.det (fun _ _ => R.move rfl) rfl ?_
          refine WL.det (fun _ _ => R.and rfl rfl) rfl ?_
          refine WL.det (fun _ _ => R.eql rfl rfl) rfl ?_
          refine WL.nil ?_
          refine E.to ?_
          first | refine W.cond_d rfl (fun hc5 => ?_) (fun hc5 => ?_) | refine W.cond_nd rfl (fun hc5 => ?_) (fun hc5 => ?_) | refine W.cond rfl (fun hc5 => ?_) (fun hc5 => ?_)
          · skip
            refine W.region ?_
            refine WL.det (fun _ e => R.ldN rfl (hb7v.ext e).pt Try.underlying51 rfl (m := 32) (by kernel_rfl) (by rw [mV_len]; exact hm)) rfl ?_
            refine WL.det (fun _ _ => R.move rfl) rfl ?_
            refine WL.call rfl rfl ⟨rfl, rfl⟩ callOk34 rfl rfl (times_spec hm _ hxx _) ?_
            rintro v34 w9 ⟨rfl, ew9⟩
            replace hb7v := hb7v.ext ew9
            replace hE := Ext.tr hE ew9
            have hsew9 := ew9.size
            refine WL.det (fun _ _ => R.assign rfl) rfl ?_
            refine WL.nil ?_
            refine E.to ?_
            refine W.region ?_
            refine WL.det (fun _ e => R.ldN rfl (hb7v.ext e).pt Try.underlying51 rfl (m := 32) (by kernel_rfl) (by rw [mV_len]; exact hm)) rfl ?_
            refine WL.call rfl rfl ⟨rfl, rfl⟩ callOk33 rfl rfl (squared_spec hm hr _) ?_
            rintro v36 w10 ⟨rfl, ew10⟩
            replace hb7v := hb7v.ext ew10
            replace hE := Ext.tr hE ew10
            have hsew10 := ew10.size
            refine WL.do (D.store rfl rfl rfl (m := 32) (by kernel_rfl) (by rw [mV_len, squaredL_len]; exact hm) hb7v (by simp [mV_len, squaredL_len]) (by exact mV_one _)) rfl ?_
            rintro w11 ⟨hb7vn, hgw11, hzw11⟩
            replace hb7vn := Blk.whole hb7vn (by simp [mV_len, squaredL_len])
            replace hb7vn : Blk w11 g7 51 (mV (squaredL mm)) := by exact hb7vn
            replace hE := Ext.grown hE hgw11 (by rintro k ⟨⟩; omega)
            replace hb7v := hb7vn
            clear hb7vn
            refine WL.nil ?_
            refine E.inn ?_
            refine E.to ?_
            refine W.region ?_
            refine WL.det (fun _ _ => R.move rfl) rfl ?_
            refine WL.det (fun _ _ => R.shr_c (q := 2) rfl rfl (by decide) (by decide)) rfl ?_
            refine WL.det (fun _ _ => R.assign rfl) rfl ?_
            refine WL.nil ?_
            refine E.againx4 ((f - 1)) ((squaredL mm)) ((if bits .and .i64 nn 1 = 1 then timesL mm xx 0 else xx)) ((nn / 2)) ?_ ?_ ?_
            · exact (Sub.val rfl (by first | rw [if_pos (by assumption)] | rw [if_neg (by assumption)]) (Sub.cons rfl (Sub.cons rfl (Sub.cons rfl (Sub.cons rfl (Sub.nil _))))))
            · skip
              refine ⟨?_, hE⟩
              obtain ⟨f, rfl⟩ : ∃ g, f = g + 1 := ⟨f - 1, by have := pow_pos_f (f := f) (n := nn) (by omega) hnf; omega⟩
              refine ⟨by rw [squaredL_len]; exact hm, squaredL_R hr, ?_, by omega, by omega, pow_half hn0 hnf, ?_, hb7v⟩
              · exact if_R32 (timesL_R _ _ _ ⟨by decide, by decide⟩ hr) hxx
              · rw [← hinv]; exact (joinL_step (by omega)).symm
            · omega
          · skip
            refine W.skip ?_
            refine E.to ?_
            refine W.region ?_
            refine WL.det (fun _ e => R.ldN rfl (hb7v.ext e).pt Try.underlying51 rfl (m := 32) (by kernel_rfl) (by rw [mV_len]; exact hm)) rfl ?_
            refine WL.call rfl rfl ⟨rfl, rfl⟩ callOk33 rfl rfl (squared_spec hm hr _) ?_
            rintro v36 w12 ⟨rfl, ew12⟩
            replace hb7v := hb7v.ext ew12
            replace hE := Ext.tr hE ew12
            have hsew12 := ew12.size
            refine WL.do (D.store rfl rfl rfl (m := 32) (by kernel_rfl) (by rw [mV_len, squaredL_len]; exact hm) hb7v (by simp [mV_len, squaredL_len]) (by exact mV_one _)) rfl ?_
            rintro w13 ⟨hb7vn, hgw13, hzw13⟩
            replace hb7vn := Blk.whole hb7vn (by simp [mV_len, squaredL_len])
            replace hb7vn : Blk w13 g7 51 (mV (squaredL mm)) := by exact hb7vn
            replace hE := Ext.grown hE hgw13 (by rintro k ⟨⟩; omega)
            replace hb7v := hb7vn
            clear hb7vn
            refine WL.nil ?_
            refine E.inn ?_
            refine E.to ?_
            refine W.region ?_
            refine WL.det (fun _ _ => R.move rfl) rfl ?_
            refine WL.det (fun _ _ => R.shr_c (q := 2) rfl rfl (by decide) (by decide)) rfl ?_
            refine WL.det (fun _ _ => R.assign rfl) rfl ?_
            refine WL.nil ?_
            refine E.againx4 ((f - 1)) ((squaredL mm)) ((if bits .and .i64 nn 1 = 1 then timesL mm xx 0 else xx)) ((nn / 2)) ?_ ?_ ?_
            · exact (Sub.val rfl (by first | rw [if_pos (by assumption)] | rw [if_neg (by assumption)]) (Sub.cons rfl (Sub.cons rfl (Sub.cons rfl (Sub.cons rfl (Sub.nil _))))))
            · skip
              refine ⟨?_, hE⟩
              obtain ⟨f, rfl⟩ : ∃ g, f = g + 1 := ⟨f - 1, by have := pow_pos_f (f := f) (n := nn) (by omega) hnf; omega⟩
              refine ⟨by rw [squaredL_len]; exact hm, squaredL_R hr, ?_, by omega, by omega, pow_half hn0 hnf, ?_, hb7v⟩
              · exact if_R32 (timesL_R _ _ _ ⟨by decide, by decide⟩ hr) hxx
              · rw [← hinv]; exact (joinL_step (by omega)).symm
            · omega
        · skip
          refine W.exit ?_
          refine E.th ?_
          refine E.th ?_
          refine E.hit ?_
          refine E.to ?_
          refine W.seq ?_
          refine W.region ?_
          refine WL.det (fun _ _ => R.move rfl) rfl ?_
          refine WL.det (fun _ _ => R.move rfl) rfl ?_
          refine WL.det (fun _ _ => R.xor rfl rfl) rfl ?_
          refine WL.det (fun _ _ => R.assign rfl) rfl ?_
          refine WL.nil ?_
          refine E.to ?_
          refine W.ret ?_
          refine E.fin1 (.inl rfl) rfl rfl ?_
          refine ⟨_, rfl, ?_, hE⟩
          have e8 : nn = 0 := (by omega)
          subst e8
          rw [joinI, if_neg (by omega), ← hinv]
          cases f <;> simp [joinL]

end Go.Proofs.Ytebinfembfoklaa
