/-
  The walks.
-/
import Derived.Test.YtemclhhlafjohaaGWrit
import Derived.Test.YtemclhhlafjohaaRows
import Derived.Test.YtemclhhlafjohaaM20
namespace Go.Proofs.Ytemclhhlafjohaa
open Go Go.RowKit Go.G Go.D02

theorem inf5 : ∃ i, Try.prog.info? 5 = some i ∧ i.zero = some (.int .u8 0) ∧ i.size = 1 ∧ i.bytes = 1 := info_of (by kernel_rfl)
theorem callOk32 : callOk Try.prog 32 = true := by kernel_rfl
theorem callOk48 : callOk Try.prog 48 = true := by kernel_rfl
theorem callOk49 : callOk Try.prog 49 = true := by kernel_rfl
theorem callOk54 : callOk Try.prog 54 = true := by kernel_rfl
theorem callOk64 : callOk Try.prog 64 = true := by kernel_rfl
theorem callOk67 : callOk Try.prog 67 = true := by kernel_rfl
theorem callOk72 : callOk Try.prog 72 = true := by kernel_rfl
theorem callOk73 : callOk Try.prog 73 = true := by kernel_rfl
theorem callOk75 : callOk Try.prog 75 = true := by kernel_rfl
theorem callOk76 : callOk Try.prog 76 = true := by kernel_rfl

/-- bookplate/digest.bit. -/
theorem bit_spec (h : Int) (w : World) :
    CallsTo Try.prog 75 [.int .u32 h] w (fun v w1 => v = .int .u32 (bitI h) ∧ Ext w w1) := by
  have hE := Ext.rfl' w
  refine enter (n := 11) (l := [.int .u32 h]) Try.func75 rfl rfl rfl ?_
  refine W.seq ?_
  refine W.region ?_
  refine WL.det (fun _ _ => R.assign rfl) rfl ?_
  refine WL.nil ?_
  refine E.to ?_
  refine W.seq ?_
  refine W.seq ?_
  refine W.region ?_
  refine WL.det (fun _ _ => R.move rfl) rfl ?_
  refine WL.det (fun _ _ => R.and rfl rfl) rfl ?_
  refine WL.det (fun _ _ => R.eql rfl rfl) rfl ?_
  refine WL.nil ?_
  refine E.to ?_
  first | refine W.cond_d rfl (fun hc1 => ?_) (fun hc1 => ?_) | refine W.cond_nd rfl (fun hc1 => ?_) (fun hc1 => ?_) | refine W.cond rfl (fun hc1 => ?_) (fun hc1 => ?_)
  · skip
    refine W.seq ?_
    refine W.region ?_
    refine WL.det (fun _ _ => R.move rfl) rfl ?_
    refine WL.det (fun _ _ => R.shr_c (q := 2) rfl rfl (by decide) (by decide)) rfl ?_
    refine WL.det (fun _ _ => R.xor rfl rfl) rfl ?_
    refine WL.det (fun _ _ => R.assign rfl) rfl ?_
    refine WL.nil ?_
    refine E.to ?_
    refine W.ret ?_
    refine E.thr ?_
    refine E.fin1 (.inl rfl) rfl rfl ?_
    exact ⟨_, rfl, by unfold bitI; simp [*], hE⟩
  · skip
    refine W.skip ?_
    refine E.to ?_
    refine W.seq ?_
    refine W.region ?_
    refine WL.det (fun _ _ => R.move rfl) rfl ?_
    refine WL.det (fun _ _ => R.shr_c (q := 2) rfl rfl (by decide) (by decide)) rfl ?_
    refine WL.det (fun _ _ => R.assign rfl) rfl ?_
    refine WL.nil ?_
    refine E.to ?_
    refine W.ret ?_
    refine E.fin1 (.inl rfl) rfl rfl ?_
    exact ⟨_, rfl, by unfold bitI; simp [*], hE⟩

/-- bookplate/bookplateref02.shifted. -/
theorem shifted_spec (h b : Int) (h0 : 0 ≤ h) (h1 : h ≤ 4294967295) (w : World) :
    CallsTo Try.prog 76 [.int .u32 h, .int .u32 b] w (fun v w1 => v = .int .u32 (shiftedI h b) ∧ Ext w w1) := by
  have hE := Ext.rfl' w
  refine enter (n := 14) (l := [.int .u32 h, .int .u32 b]) Try.func76 rfl rfl rfl ?_
  refine W.seq ?_
  refine W.region ?_
  refine WL.det (fun _ _ => R.assign rfl) rfl ?_
  refine WL.nil ?_
  refine E.to ?_
  refine W.seq ?_
  refine W.seq ?_
  refine W.region ?_
  refine WL.det (fun _ _ => R.move rfl) rfl ?_
  refine WL.det (fun _ _ => (by first | exact R.rem0 rfl rfl (by omega) (by omega) | exact R.rem rfl rfl (by omega))) rfl ?_
  refine WL.det (fun _ _ => R.move rfl) rfl ?_
  refine WL.det (fun _ _ => R.neq rfl rfl) rfl ?_
  refine WL.nil ?_
  refine E.to ?_
  first | refine W.cond_d rfl (fun hc1 => ?_) (fun hc1 => ?_) | refine W.cond_nd rfl (fun hc1 => ?_) (fun hc1 => ?_) | refine W.cond rfl (fun hc1 => ?_) (fun hc1 => ?_)
  · skip
    refine W.seq ?_
    refine W.region ?_
    refine WL.det (fun _ _ => R.move rfl) rfl ?_
    refine WL.det (fun _ _ => (by first | exact R.quo64 rfl rfl (by omega) | exact R.quo32 rfl rfl (by omega) | exact R.quo rfl rfl (by omega))) rfl ?_
    refine WL.det (fun _ _ => R.xor rfl rfl) rfl ?_
    refine WL.det (fun _ _ => R.assign rfl) rfl ?_
    refine WL.nil ?_
    refine E.to ?_
    refine W.ret ?_
    refine E.thr ?_
    refine E.fin1 (.inl rfl) rfl rfl ?_
    exact ⟨_, rfl, by unfold shiftedI; simp [*], hE⟩
  · skip
    refine W.skip ?_
    refine E.to ?_
    refine W.seq ?_
    refine W.region ?_
    refine WL.det (fun _ _ => R.move rfl) rfl ?_
    refine WL.det (fun _ _ => (by first | exact R.quo64 rfl rfl (by omega) | exact R.quo32 rfl rfl (by omega) | exact R.quo rfl rfl (by omega))) rfl ?_
    refine WL.det (fun _ _ => R.assign rfl) rfl ?_
    refine WL.nil ?_
    refine E.to ?_
    refine W.ret ?_
    refine E.fin1 (.inl rfl) rfl rfl ?_
    exact ⟨_, rfl, by unfold shiftedI; simp [*], hE⟩

/-- slices.Equal[[]byte,byte]. -/
theorem equal_spec {v1 v2 : Value} {l1 l2 : List UInt8} (w : World) {lo_h1 hi_h1 : Nat} (h1 : Sl encU8 w lo_h1 hi_h1 v1 l1) {lo_h2 hi_h2 : Nat} (h2 : Sl encU8 w lo_h2 hi_h2 v2 l2) :
    CallsTo Try.prog 47 [v1, v2] w (fun v w1 => v = .bool (decide (l1 = l2)) ∧ Ext w w1) := by
  have hE := Ext.rfl' w
  replace h1 := h1.clip0
  have hl_h1 := h1.len_le
  replace h2 := h2.clip0
  have hl_h2 := h2.len_le
  obtain ⟨i5, hi5, hz5, hs5, hb5⟩ := inf5
  refine enter (n := 26) (l := [v1, v2]) Try.func47 rfl rfl rfl ?_
  refine W.seq ?_
  refine W.region ?_
  refine WL.det (fun _ _ => R.assign rfl) rfl ?_
  refine WL.nil ?_
  refine E.to ?_
  refine W.seq ?_
  refine W.seq ?_
  refine W.region ?_
  refine WL.det (fun _ _ => R.move rfl) rfl ?_
  refine WL.det (fun _ e => R.len_sl rfl (h1.ext e) Try.underlying22) rfl ?_
  refine WL.det (fun _ _ => R.move rfl) rfl ?_
  refine WL.det (fun _ e => R.len_sl rfl (h2.ext e) Try.underlying22) rfl ?_
  refine WL.det (fun _ _ => R.neq rfl rfl) rfl ?_
  refine WL.nil ?_
  refine E.to ?_
  first | refine W.cond_d rfl (fun hc1 => ?_) (fun hc1 => ?_) | refine W.cond_nd rfl (fun hc1 => ?_) (fun hc1 => ?_) | refine W.cond rfl (fun hc1 => ?_) (fun hc1 => ?_)
  · skip
    refine W.seq ?_
    refine W.region ?_
    refine WL.det (fun _ _ => R.assign rfl) rfl ?_
    refine WL.nil ?_
    refine E.to ?_
    refine W.ret ?_
    refine E.thr ?_
    refine E.fin1 (.inl rfl) rfl rfl ?_
    exact ⟨_, rfl, by rw [decide_eq_false]; intro e; subst e; simp at hc1, hE⟩
  · skip
    refine W.skip ?_
    refine E.to ?_
    refine W.seq ?_
    refine W.seq ?_
    refine W.region ?_
    refine WL.det (fun _ _ => R.move rfl) rfl ?_
    refine WL.det (fun _ e => R.len_sl rfl (h1.ext e) Try.underlying22) rfl ?_
    refine WL.det (fun _ _ => R.move rfl) rfl ?_
    refine WL.nil ?_
    refine E.to ?_
    refine W.block ?_
    refine W.loopx1 [0, 1, 12] (fun (k : Nat) => [(13, .val (.int .i64 (k : Int)))]) (fun (k : Nat) wr => (k ≤ l1.length ∧ l1.take k = l2.take k) ∧ Sl encU8 wr 0 w.heap.size v1 l1 ∧ Sl encU8 wr 0 w.heap.size v2 l2 ∧ Ext w wr) (fun (k : Nat) => l1.length - k) (0) ?_ ?_ ?_
    · exact (Sub.cons rfl (Sub.cons rfl (Sub.cons rfl (Sub.cons rfl (Sub.nil _)))))
    · skip
      refine ⟨?_, h1, h2, hE⟩
      exact ⟨by omega, rfl⟩
    intro k w1 hinv
    clear h1 h2 hE
    obtain ⟨hinv, h1, h2, hE⟩ := hinv
    have hsw1 := hE.size
    obtain ⟨hk, hpre⟩ := hinv
    refine W.seq ?_
    refine W.region ?_
    refine WL.det (fun _ _ => R.lss rfl rfl) rfl ?_
    refine WL.nil ?_
    refine E.to ?_
    refine W.seq ?_
    first | refine W.cond_d rfl (fun hc2 => ?_) (fun hc2 => ?_) | refine W.cond_nd rfl (fun hc2 => ?_) (fun hc2 => ?_) | refine W.cond rfl (fun hc2 => ?_) (fun hc2 => ?_)
    · skip
      refine W.skip ?_
      refine E.to ?_
      refine W.seq ?_
      refine W.block ?_
      refine W.seq ?_
      refine W.region ?_
      refine WL.det (fun _ _ => R.move rfl) rfl ?_
      refine WL.det (fun _ _ => R.assign rfl) rfl ?_
      refine WL.nil ?_
      refine E.to ?_
      refine W.seq ?_
      refine W.draw 9 (by kernel_rfl) (by kernel_rfl) ?_
      intro w2 ew2
      replace h1 := h1.ext ew2
      replace h2 := h2.ext ew2
      replace hE := Ext.tr hE ew2
      have hsew2 := ew2.size
      refine WD.det (fun _ _ => R.move rfl) rfl ?_
      refine WD.det (fun _ _ => R.move rfl) rfl ?_
      refine WD.det (fun _ e => R.idx rfl rfl (h1.ext e) (by omega) Try.underlying22 hi5 hs5) rfl ?_
      refine WD.det (fun _ e => R.ld1 rfl ((h1.ext e).elem (by omega)) Try.underlying5 rfl) rfl ?_
      refine WD.det (fun _ _ => R.move rfl) rfl ?_
      refine WD.det (fun _ _ => R.move rfl) rfl ?_
      refine WD.det (fun _ e => R.idx rfl rfl (h2.ext e) (by omega) Try.underlying22 hi5 hs5) rfl ?_
      refine WD.det (fun _ e => R.ld1 rfl ((h2.ext e).elem (by omega)) Try.underlying5 rfl) rfl ?_
      refine WD.det (fun _ _ => R.neq rfl rfl) rfl ?_
      refine WD.nil (fun w3 ew3 => ?_)
      replace h1 := h1.ext ew3
      replace h2 := h2.ext ew3
      replace hE := Ext.tr hE ew3
      have hsew3 := ew3.size
      refine WL.nil ?_
      refine E.to ?_
      first | refine W.cond_d rfl (fun hc3 => ?_) (fun hc3 => ?_) | refine W.cond_nd rfl (fun hc3 => ?_) (fun hc3 => ?_) | refine W.cond rfl (fun hc3 => ?_) (fun hc3 => ?_)
      · skip
        refine W.seq ?_
        refine W.region ?_
        refine WL.det (fun _ _ => R.assign rfl) rfl ?_
        refine WL.nil ?_
        refine E.to ?_
        refine W.ret ?_
        refine E.inr ?_
        refine E.thr ?_
        refine E.thr ?_
        refine E.inr ?_
        refine E.thr ?_
        refine E.fin1 (.inl rfl) rfl rfl ?_
        exact ⟨_, rfl, by rw [decide_eq_false]; intro e; subst e; simp at hc3, hE⟩
      · skip
        refine W.skip ?_
        refine E.inn ?_
        refine E.to ?_
        refine W.region ?_
        refine WL.det (fun _ _ => (by first | exact R.add64 rfl rfl (by omega) | exact R.add rfl rfl)) rfl ?_
        refine WL.det (fun _ _ => R.move rfl) rfl ?_
        refine WL.nil ?_
        refine E.againx1 ((k + 1)) ?_ ?_ ?_
        · exact (Sub.cons rfl (Sub.cons rfl (Sub.cons rfl (Sub.cons rfl (Sub.nil _)))))
        · skip
          refine ⟨?_, h1, h2, hE⟩
          have e1 := UInt8.toNat_inj.1 (Int.ofNat.inj (Decidable.not_not.1 hc3))
          exact ⟨by omega, by rw [take_snoc' (by omega), take_snoc' (by omega), hpre, e1]⟩
        · omega
    · skip
      refine W.exit ?_
      refine E.th ?_
      refine E.th ?_
      refine E.hit ?_
      refine E.to ?_
      refine W.seq ?_
      refine W.region ?_
      refine WL.det (fun _ _ => R.assign rfl) rfl ?_
      refine WL.nil ?_
      refine E.to ?_
      refine W.ret ?_
      refine E.fin1 (.inl rfl) rfl rfl ?_
      exact ⟨_, rfl, by rw [decide_eq_true]; rw [List.take_of_length_le (by omega), List.take_of_length_le (by omega)] at hpre; exact hpre, hE⟩

/-- slices.Clone[[]byte,byte]. -/
theorem clone_spec {v1 : Value} {l1 : List UInt8} (hb : l1.length ≤ 1000000000) (w : World) {lo_h1 hi_h1 : Nat} (h1 : Sl encU8 w lo_h1 hi_h1 v1 l1) :
    CallsTo Try.prog 32 [v1] w (fun v w1 => Own encU8 w1 w.heap.size 5 v l1 ∧ Ext w w1) := by
  have hE := Ext.rfl' w
  replace h1 := h1.clip0
  have hl_h1 := h1.len_le
  obtain ⟨i5, hi5, hz5, hs5, hb5⟩ := inf5
  refine enter (n := 8) (l := [v1]) Try.func32 rfl rfl rfl ?_
  refine W.seq ?_
  refine W.region ?_
  refine WL.det (fun _ _ => R.assign rfl) rfl ?_
  refine WL.nil ?_
  refine E.to ?_
  refine W.seq ?_
  refine W.seq ?_
  refine W.region ?_
  refine WL.det (fun _ _ => R.move rfl) rfl ?_
  refine WL.det (fun _ e => R.isnil rfl (h1.ext e) Try.underlying22) rfl ?_
  refine WL.nil ?_
  refine E.to ?_
  first | refine W.cond_d rfl (fun hc1 => ?_) (fun hc1 => ?_) | refine W.cond_nd rfl (fun hc1 => ?_) (fun hc1 => ?_) | refine W.cond rfl (fun hc1 => ?_) (fun hc1 => ?_)
  · skip
    refine W.seq ?_
    refine W.region ?_
    refine WL.det (fun _ _ => R.assign rfl) rfl ?_
    refine WL.nil ?_
    refine E.to ?_
    refine W.ret ?_
    refine E.thr ?_
    refine E.fin1 (.inl rfl) rfl rfl ?_
    exact ⟨_, rfl, by have := nil_of hc1 h1; subst this; exact Own.nil _ _ _ _, hE⟩
  · skip
    refine W.skip ?_
    refine E.to ?_
    refine W.seq ?_
    refine W.region ?_
    refine WL.mk (M.buildSlice (E := encU8) (ys := []) rfl rfl Try.underlying22 hi5 hz5 hs5 (by rfl) rfl (by decide) (by intro v hv; simp at hv) (by rfl)) rfl rfl ?_
    rintro _ w1 ⟨g5, rfl, hg5, hzg5, ew1, hf5⟩
    replace h1 := h1.ext ew1
    replace hE := Ext.tr hE ew1
    have hsew1 := ew1.size
    replace hf5 := Own.mono hf5 (b := w.heap.size) (by omega)
    refine WL.det (fun _ _ => R.move rfl) rfl ?_
    refine WL.mk (M.append rfl rfl hf5 h1 Try.underlying22 hi5 hz5 hs5 rfl (by intros; rfl) (by rw [hb5]; simp; omega) (by simp; omega) (by omega)) rfl rfl ?_
    rintro v7 w2 ⟨hf7, hgw2, hat7⟩
    have hzw2 := hgw2.size
    replace h1 := h1.far hgw2 (fun k hk => by have := hf5.lt k hk; omega)
    replace hE := Ext.grown hE hgw2 (fun k hk => by have := hf5.lt k hk; omega)
    refine WL.det (fun _ _ => R.assign rfl) rfl ?_
    refine WL.nil ?_
    refine E.to ?_
    refine W.ret ?_
    refine E.fin1 (.inl rfl) rfl rfl ?_
    exact ⟨_, rfl, by simpa using hf7, hE⟩

/-- bookplate/digest.tail. -/
theorem tail_spec (h : Int) (w : World) :
    CallsTo Try.prog 48 [.int .u32 h] w (fun v w1 => Own encU8 w1 w.heap.size 5 v (tailL h) ∧ Ext w w1) := by
  have hE := Ext.rfl' w
  obtain ⟨i5, hi5, hz5, hs5, hb5⟩ := inf5
  refine enter (n := 15) (l := [.int .u32 h]) Try.func48 rfl rfl rfl ?_
  refine W.seq ?_
  refine W.region ?_
  refine WL.det (fun _ _ => R.assign rfl) rfl ?_
  refine WL.nil ?_
  refine E.to ?_
  refine W.seq ?_
  refine W.region ?_
  refine WL.det (fun _ _ => R.move rfl) rfl ?_
  refine WL.det (fun _ _ => (by first | exact R.conv8 rfl Try.underlying90 Try.underlying5 (by omega) | exact R.conv rfl Try.underlying90 Try.underlying5)) rfl ?_
  refine WL.det (fun _ _ => R.move rfl) rfl ?_
  refine WL.det (fun _ _ => R.shr_c (q := 256) rfl rfl (by decide) (by decide)) rfl ?_
  refine WL.det (fun _ _ => (by first | exact R.conv8 rfl Try.underlying90 Try.underlying5 (by omega) | exact R.conv rfl Try.underlying90 Try.underlying5)) rfl ?_
  refine WL.det (fun _ _ => R.move rfl) rfl ?_
  refine WL.det (fun _ _ => R.shr_c (q := 65536) rfl rfl (by decide) (by decide)) rfl ?_
  refine WL.det (fun _ _ => (by first | exact R.conv8 rfl Try.underlying90 Try.underlying5 (by omega) | exact R.conv rfl Try.underlying90 Try.underlying5)) rfl ?_
  refine WL.det (fun _ _ => R.move rfl) rfl ?_
  refine WL.det (fun _ _ => R.shr_c (q := 16777216) rfl rfl (by decide) (by decide)) rfl ?_
  refine WL.det (fun _ _ => (by first | exact R.conv8 rfl Try.underlying90 Try.underlying5 (by omega) | exact R.conv rfl Try.underlying90 Try.underlying5)) rfl ?_
  refine WL.mk (M.buildSlice (E := encU8) (ys := tailL h) rfl rfl Try.underlying22 hi5 hz5 hs5 (by rfl) rfl (by decide) (by intro v hv; simp at hv; rcases hv with rfl | rfl | rfl | rfl <;> rfl) (by simp [tailL, encU8_all, u8_wrap, Value.cells]; omega)) rfl rfl ?_
  rintro _ w1 ⟨g14, rfl, hg14, hzg14, ew1, hf14⟩
  replace hE := Ext.tr hE ew1
  have hsew1 := ew1.size
  replace hf14 := Own.mono hf14 (b := w.heap.size) (by omega)
  refine WL.det (fun _ _ => R.assign rfl) rfl ?_
  refine WL.nil ?_
  refine E.to ?_
  refine W.ret ?_
  refine E.fin1 (.inl rfl) rfl rfl ?_
  exact ⟨_, rfl, hf14, hE⟩

/-- bookplate/bookplateref02.register. -/
theorem register_spec (h : Int) (h0 : R32 h) {v1 : Value} {l1 : List UInt8} (w : World) {lo_h1 hi_h1 : Nat} (h1 : Sl encU8 w lo_h1 hi_h1 v1 l1) :
    CallsTo Try.prog 73 [.int .u32 h, v1] w (fun v w1 => v = .int .u32 (registerI h l1) ∧ Ext w w1) := by
  have hE := Ext.rfl' w
  replace h1 := h1.clip0
  have hl_h1 := h1.len_le
  obtain ⟨i5, hi5, hz5, hs5, hb5⟩ := inf5
  refine enter (n := 28) (l := [.int .u32 h, v1]) Try.func73 rfl rfl rfl ?_
  refine W.seq ?_
  refine W.region ?_
  refine WL.det (fun _ _ => R.assign rfl) rfl ?_
  refine WL.nil ?_
  refine E.to ?_
  refine W.seq ?_
  refine W.seq ?_
  refine W.region ?_
  refine WL.det (fun _ _ => R.assign rfl) rfl ?_
  refine WL.nil ?_
  refine E.to ?_
  refine W.block ?_
  refine W.loopx1 [1, 4] (fun (k : Nat) => [(0, .val (.int .u32 (registerI h (l1.take k)))), (5, .val (.int .i64 (k : Int)))]) (fun (k : Nat) wr => (k ≤ l1.length) ∧ Sl encU8 wr 0 w.heap.size v1 l1 ∧ Ext w wr) (fun (k : Nat) => l1.length - k) (0) ?_ ?_ ?_
  · exact (Sub.cons rfl (Sub.cons rfl (Sub.cons rfl (Sub.cons rfl (Sub.nil _)))))
  · skip
    refine ⟨?_, h1, hE⟩
    exact Nat.zero_le _
  intro k w1 hinv
  clear h1 hE
  obtain ⟨hinv, h1, hE⟩ := hinv
  have hsw1 := hE.size
  obtain hk := hinv
  have hr := registerI_R h0 (l1.take k)
  refine W.seq ?_
  refine W.seq ?_
  refine W.region ?_
  refine WL.det (fun _ _ => R.move rfl) rfl ?_
  refine WL.det (fun _ _ => R.move rfl) rfl ?_
  refine WL.det (fun _ e => R.len_sl rfl (h1.ext e) Try.underlying22) rfl ?_
  refine WL.det (fun _ _ => R.lss rfl rfl) rfl ?_
  refine WL.nil ?_
  refine E.to ?_
  first | refine W.cond_d rfl (fun hc1 => ?_) (fun hc1 => ?_) | refine W.cond_nd rfl (fun hc1 => ?_) (fun hc1 => ?_) | refine W.cond rfl (fun hc1 => ?_) (fun hc1 => ?_)
  · skip
    refine W.skip ?_
    refine E.to ?_
    refine W.seq ?_
    refine W.block ?_
    refine W.seq ?_
    refine W.region ?_
    refine WL.det (fun _ _ => R.assign rfl) rfl ?_
    refine WL.nil ?_
    refine E.to ?_
    refine W.block ?_
    refine W.loopx1 [1, 4, 5, 7, 8, 9, 10] (fun (j : Nat) => [(0, .val (.int .u32 (byteI (registerI h (l1.take k)) (l1[k]!).toNat j))), (6, .val (.int .i64 (j : Int)))]) (fun (j : Nat) wr => (j ≤ 8) ∧ Sl encU8 wr 0 w.heap.size v1 l1 ∧ Ext w wr) (fun (j : Nat) => 8 - j) (0) ?_ ?_ ?_
    · exact (Sub.cons rfl (Sub.cons rfl (Sub.cons rfl (Sub.cons rfl (Sub.cons rfl (Sub.cons rfl (Sub.cons rfl (Sub.cons rfl (Sub.cons rfl (Sub.nil _))))))))))
    · skip
      refine ⟨?_, h1, hE⟩
      exact Nat.zero_le _
    intro j w2 hinv
    clear h1 hE
    obtain ⟨hinv, h1, hE⟩ := hinv
    have hsw2 := hE.size
    obtain hj := hinv
    have hr2 := byteI_R (l1[k]!).toNat hr j
    have hb8 := (l1[k]!).toNat_lt
    unfold R32 at hr2
    refine W.seq ?_
    refine W.seq ?_
    refine W.region ?_
    refine WL.det (fun _ _ => R.move rfl) rfl ?_
    refine WL.det (fun _ _ => R.lss rfl rfl) rfl ?_
    refine WL.nil ?_
    refine E.to ?_
    first | refine W.cond_d rfl (fun hc2 => ?_) (fun hc2 => ?_) | refine W.cond_nd rfl (fun hc2 => ?_) (fun hc2 => ?_) | refine W.cond rfl (fun hc2 => ?_) (fun hc2 => ?_)
    · skip
      refine W.skip ?_
      refine E.to ?_
      refine W.seq ?_
      refine W.block ?_
      refine W.region ?_
      refine WL.det (fun _ _ => R.move rfl) rfl ?_
      refine WL.det (fun _ _ => R.move rfl) rfl ?_
      refine WL.det (fun _ _ => R.move rfl) rfl ?_
      refine WL.det (fun _ e => R.idx rfl rfl (h1.ext e) (by omega) Try.underlying22 hi5 hs5) rfl ?_
      refine WL.det (fun _ e => R.ld1 rfl ((h1.ext e).elem (by omega)) Try.underlying5 rfl) rfl ?_
      refine WL.det (fun _ _ => (by first | exact R.conv32 rfl Try.underlying5 Try.underlying90 (by omega) | exact R.conv rfl Try.underlying5 Try.underlying90)) rfl ?_
      refine WL.det (fun _ _ => R.move rfl) rfl ?_
      refine WL.det (fun _ _ => R.shr rfl rfl (by omega)) rfl ?_
      refine WL.det (fun _ e => R.rem0 rfl rfl (Int.ediv_nonneg (Int.natCast_nonneg _) (Int.pow_nonneg (by decide))) (by omega)) rfl ?_
      refine WL.call rfl rfl ⟨rfl, rfl⟩ callOk76 rfl rfl (shifted_spec _ _ (by omega) (by omega) _) ?_
      rintro v26 w3 ⟨rfl, ew3⟩
      replace h1 := h1.ext ew3
      replace hE := Ext.tr hE ew3
      have hsew3 := ew3.size
      refine WL.det (fun _ _ => R.assign rfl) rfl ?_
      refine WL.nil ?_
      refine E.inn ?_
      refine E.to ?_
      refine W.region ?_
      refine WL.det (fun _ _ => R.move rfl) rfl ?_
      refine WL.det (fun _ _ => (by first | exact R.add64 rfl rfl (by omega) | exact R.add rfl rfl)) rfl ?_
      refine WL.det (fun _ _ => R.assign rfl) rfl ?_
      refine WL.nil ?_
      refine E.againx1 ((j + 1)) ?_ ?_ ?_
      · exact (Sub.val rfl (by simp only [byteI, Int.toNat_natCast, IntKind.bits]; rw [Nat.min_eq_left (by omega)]) (Sub.cons rfl (Sub.cons rfl (Sub.cons rfl (Sub.cons rfl (Sub.cons rfl (Sub.cons rfl (Sub.cons rfl (Sub.cons rfl (Sub.nil _))))))))))
      · skip
        refine ⟨?_, h1, hE⟩
        omega
      · omega
    · skip
      refine W.exit ?_
      refine E.th ?_
      refine E.th ?_
      refine E.hit ?_
      refine E.inn ?_
      refine E.to ?_
      refine W.region ?_
      refine WL.det (fun _ _ => R.move rfl) rfl ?_
      refine WL.det (fun _ _ => (by first | exact R.add64 rfl rfl (by omega) | exact R.add rfl rfl)) rfl ?_
      refine WL.det (fun _ _ => R.assign rfl) rfl ?_
      refine WL.nil ?_
      refine E.againx1 ((k + 1)) ?_ ?_ ?_
      · exact (Sub.val rfl (by rw [take_snoc' (by omega), registerI_snoc]; have e8 : j = 8 := (by omega); subst e8; rfl) (Sub.cons rfl (Sub.cons rfl (Sub.cons rfl (Sub.nil _)))))
      · skip
        refine ⟨?_, h1, hE⟩
        omega
      · omega
  · skip
    refine W.exit ?_
    refine E.th ?_
    refine E.th ?_
    refine E.hit ?_
    refine E.to ?_
    refine W.seq ?_
    refine W.region ?_
    refine WL.det (fun _ _ => R.move rfl) rfl ?_
    refine WL.det (fun _ _ => R.assign rfl) rfl ?_
    refine WL.nil ?_
    refine E.to ?_
    refine W.ret ?_
    refine E.fin1 (.inl rfl) rfl rfl ?_
    exact ⟨_, rfl, by rw [List.take_of_length_le (by omega)], hE⟩

/-- bookplate/digest.steps. -/
theorem steps_spec  (w : World) :
    CallsTo Try.prog 72 [] w (fun v w1 => v = .agg tabV.toArray ∧ Ext w w1) := by
  have hE := Ext.rfl' w
  refine enter (n := 19) (l := []) Try.func72 rfl rfl rfl ?_
  refine W.seq ?_
  refine W.region ?_
  refine WL.mk (M.alloc (z := .agg (List.replicate 256 (.int .u32 0)).toArray) (by kernel_rfl)) rfl rfl ?_
  rintro _ w1 ⟨g0, rfl, hgg0, hzg0, ew1, hb0v⟩
  replace hE := Ext.tr hE ew1
  have hsew1 := ew1.size
  replace hb0v : Blk w1 g0 115 (List.replicate 256 (.int .u32 0)) := hb0v
  refine WL.nil ?_
  refine E.to ?_
  refine W.seq ?_
  refine W.region ?_
  refine WL.mk (M.alloc (z := .agg (List.replicate 256 (.int .u32 0)).toArray) (by kernel_rfl)) rfl rfl ?_
  rintro _ w2 ⟨g1, rfl, hgg1, hzg1, ew2, hb1v⟩
  replace hE := Ext.tr hE ew2
  replace hb0v := hb0v.ext ew2
  have hsew2 := ew2.size
  replace hb1v : Blk w2 g1 115 (pre (fun i => .int .u32 (tabI i)) (.int .u32 0) 256 0) := (by rw [pre_zero]; exact hb1v)
  refine WL.nil ?_
  refine E.to ?_
  refine W.seq ?_
  refine W.seq ?_
  refine W.region ?_
  refine WL.det (fun _ _ => R.move rfl) rfl ?_
  refine WL.nil ?_
  refine E.to ?_
  refine W.block ?_
  refine W.loopx1 [0, 1] (fun (k : Nat) => [(4, .val (.int .i64 (k : Int)))]) (fun (k : Nat) wr => (k ≤ 256 ∧ Blk wr g1 115 (pre (fun i => .int .u32 (tabI i)) (.int .u32 0) 256 k)) ∧ Ext w wr ∧ Blk wr g0 115 (List.replicate 256 (.int .u32 0))) (fun (k : Nat) => 256 - k) (0) ?_ ?_ ?_
  · exact (Sub.cons rfl (Sub.cons rfl (Sub.cons rfl (Sub.nil _))))
  · skip
    refine ⟨?_, hE, hb0v⟩
    exact ⟨by omega, hb1v⟩
  intro k w3 hinv
  clear hE hb0v hb1v
  obtain ⟨hinv, hE, hb0v⟩ := hinv
  have hsw3 := hE.size
  obtain ⟨hk, hb1v⟩ := hinv
  refine W.seq ?_
  refine W.region ?_
  refine WL.det (fun _ _ => R.lss rfl rfl) rfl ?_
  refine WL.nil ?_
  refine E.to ?_
  refine W.seq ?_
  first | refine W.cond_d rfl (fun hc1 => ?_) (fun hc1 => ?_) | refine W.cond_nd rfl (fun hc1 => ?_) (fun hc1 => ?_) | refine W.cond rfl (fun hc1 => ?_) (fun hc1 => ?_)
  · skip
    refine W.skip ?_
    refine E.to ?_
    refine W.seq ?_
    refine W.block ?_
    refine W.seq ?_
    refine W.region ?_
    refine WL.det (fun _ _ => R.move rfl) rfl ?_
    refine WL.det (fun _ _ => R.assign rfl) rfl ?_
    refine WL.nil ?_
    refine E.to ?_
    refine W.seq ?_
    refine W.region ?_
    refine WL.det (fun _ _ => R.move rfl) rfl ?_
    refine WL.det (fun _ _ => (by first | exact R.conv32 rfl Try.underlying3 Try.underlying90 (by omega) | exact R.conv rfl Try.underlying3 Try.underlying90)) rfl ?_
    refine WL.det (fun _ _ => R.assign rfl) rfl ?_
    refine WL.nil ?_
    refine E.to ?_
    refine W.seq ?_
    refine W.seq ?_
    refine W.region ?_
    refine WL.det (fun _ _ => R.move rfl) rfl ?_
    refine WL.nil ?_
    refine E.to ?_
    refine W.block ?_
    refine W.loopx1 [0, 1, 2, 4, 5, 6, 7, 8] (fun (j : Nat) => [(3, .val (.int .u32 (iterI bitI j (k : Int)))), (9, .val (.int .i64 (j : Int)))]) (fun (j : Nat) wr => (j ≤ 8) ∧ Blk wr g1 115 (pre (fun i => .int .u32 (tabI i)) (.int .u32 0) 256 k) ∧ Ext w wr ∧ Blk wr g0 115 (List.replicate 256 (.int .u32 0))) (fun (j : Nat) => 8 - j) (0) ?_ ?_ ?_
    · exact (Sub.cons rfl (Sub.cons rfl (Sub.cons rfl (Sub.cons rfl (Sub.cons rfl (Sub.cons rfl (Sub.cons rfl (Sub.cons rfl (Sub.cons rfl (Sub.cons rfl (Sub.nil _)))))))))))
    · skip
      refine ⟨?_, hb1v, hE, hb0v⟩
      omega
    intro j w4 hinv
    clear hb1v hE hb0v
    obtain ⟨hinv, hb1v, hE, hb0v⟩ := hinv
    have hsw4 := hE.size
    obtain hj := hinv
    refine W.seq ?_
    refine W.region ?_
    refine WL.det (fun _ _ => R.lss rfl rfl) rfl ?_
    refine WL.nil ?_
    refine E.to ?_
    refine W.seq ?_
    first | refine W.cond_d rfl (fun hc2 => ?_) (fun hc2 => ?_) | refine W.cond_nd rfl (fun hc2 => ?_) (fun hc2 => ?_) | refine W.cond rfl (fun hc2 => ?_) (fun hc2 => ?_)
    · skip
      refine W.skip ?_
      refine E.to ?_
      refine W.seq ?_
      refine W.block ?_
      refine W.region ?_
      refine WL.det (fun _ _ => R.move rfl) rfl ?_
      refine WL.call rfl rfl ⟨rfl, rfl⟩ callOk75 rfl rfl (bit_spec _ _) ?_
      rintro v12 w5 ⟨rfl, ew5⟩
      replace hb1v := hb1v.ext ew5
      replace hE := Ext.tr hE ew5
      replace hb0v := hb0v.ext ew5
      have hsew5 := ew5.size
      refine WL.det (fun _ _ => R.assign rfl) rfl ?_
      refine WL.nil ?_
      refine E.inn ?_
      refine E.to ?_
      refine W.region ?_
      refine WL.det (fun _ _ => (by first | exact R.add64 rfl rfl (by omega) | exact R.add rfl rfl)) rfl ?_
      refine WL.det (fun _ _ => R.move rfl) rfl ?_
      refine WL.nil ?_
      refine E.againx1 ((j + 1)) ?_ ?_ ?_
      · exact (Sub.cons rfl (Sub.cons rfl (Sub.cons rfl (Sub.cons rfl (Sub.cons rfl (Sub.cons rfl (Sub.cons rfl (Sub.cons rfl (Sub.cons rfl (Sub.cons rfl (Sub.nil _)))))))))))
      · skip
        refine ⟨?_, hb1v, hE, hb0v⟩
        omega
      · omega
    · skip
      refine W.exit ?_
      refine E.th ?_
      refine E.th ?_
      refine E.hit ?_
      refine E.to ?_
      refine W.region ?_
      refine WL.det (fun _ _ => R.move rfl) rfl ?_
      refine WL.det (fun _ _ => R.move rfl) rfl ?_
      refine WL.det (fun _ _ => R.idx_arr (m := 1) rfl rfl (by omega) Try.underlying115 (by kernel_rfl)) rfl ?_
      refine WL.do (D.store rfl rfl rfl (m := 1) (by kernel_rfl) (by rfl) hb1v (by simp [pre_len]; omega) (by rfl)) rfl ?_
      rintro w6 ⟨hb1vn, hgw6, hzw6⟩
      replace hb1vn : Blk w6 g1 115 (pre (fun i => .int .u32 (tabI i)) (.int .u32 0) 256 (k + 1)) := by (have e8 : j = 8 := (by omega); subst e8; rw [← pre_step (by omega)]; exact hb1vn)
      replace hE := Ext.grown hE hgw6 (by rintro k ⟨⟩; omega)
      replace hb0v := hb0v.far hgw6 (by simp; omega)
      replace hb1v := hb1vn
      clear hb1vn
      refine WL.nil ?_
      refine E.inn ?_
      refine E.to ?_
      refine W.region ?_
      refine WL.det (fun _ _ => (by first | exact R.add64 rfl rfl (by omega) | exact R.add rfl rfl)) rfl ?_
      refine WL.det (fun _ _ => R.move rfl) rfl ?_
      refine WL.nil ?_
      refine E.againx1 ((k + 1)) ?_ ?_ ?_
      · exact (Sub.cons rfl (Sub.cons rfl (Sub.cons rfl (Sub.nil _))))
      · skip
        refine ⟨?_, hE, hb0v⟩
        exact ⟨by omega, hb1v⟩
      · omega
  · skip
    refine W.exit ?_
    refine E.th ?_
    refine E.th ?_
    refine E.hit ?_
    refine E.to ?_
    refine W.seq ?_
    refine W.region ?_
    refine WL.det (fun _ e => R.ldN rfl (hb1v.ext e).pt Try.underlying115 rfl (m := 256) (by kernel_rfl) (by exact pre_len _ _ _ _)) rfl ?_
    refine WL.do (D.store rfl rfl rfl (m := 256) (by kernel_rfl) (by exact pre_len _ _ _ _) hb0v (by rw [pre_len, List.length_replicate]; decide) (by exact pre_one _ _ _ _)) rfl ?_
    rintro w7 ⟨hb0vn, hgw7, hzw7⟩
    replace hb0vn := Blk.whole hb0vn (by rw [List.length_replicate, pre_len])
    replace hb1v := hb1v.far hgw7 (by simp; omega)
    replace hE := Ext.grown hE hgw7 (by rintro k ⟨⟩; omega)
    replace hb0v := hb0vn
    clear hb0vn
    refine WL.nil ?_
    refine E.to ?_
    refine W.ret ?_
    refine E.finc (.inl rfl) rfl rfl hb0v Try.underlying115 rfl (m := 256) (by kernel_rfl) (by exact pre_len _ _ _ _) ?_
    have e6 : k = 256 := (by omega)
    subst e6
    exact ⟨_, rfl, by rw [pre_all]; rfl, hE⟩

/-- bookplate/digest.More. -/
theorem more_spec (h : Int) {v1 : Value} {l1 : List UInt8} (w : World) {lo_h1 hi_h1 : Nat} (h1 : Sl encU8 w lo_h1 hi_h1 v1 l1) :
    CallsTo Try.prog 64 [.int .u32 h, v1] w (fun v w1 => v = .int .u32 (moreI h l1) ∧ Ext w w1) := by
  have hE := Ext.rfl' w
  replace h1 := h1.clip0
  have hl_h1 := h1.len_le
  obtain ⟨i5, hi5, hz5, hs5, hb5⟩ := inf5
  refine enter (n := 29) (l := [.int .u32 h, v1]) Try.func64 rfl rfl rfl ?_
  refine W.seq ?_
  refine W.region ?_
  refine WL.det (fun _ _ => R.assign rfl) rfl ?_
  refine WL.nil ?_
  refine E.to ?_
  refine W.seq ?_
  refine W.region ?_
  refine WL.call rfl rfl ⟨rfl, rfl⟩ callOk72 rfl rfl (steps_spec _) ?_
  rintro v8 w1 ⟨rfl, ew1⟩
  replace h1 := h1.ext ew1
  replace hE := Ext.tr hE ew1
  have hsew1 := ew1.size
  refine WL.mk (M.alloc (z := .agg (List.replicate 256 (.int .u32 0)).toArray) (by kernel_rfl)) rfl rfl ?_
  rintro _ w2 ⟨g5, rfl, hgg5, hzg5, ew2, hb5v⟩
  replace h1 := h1.ext ew2
  replace hE := Ext.tr hE ew2
  have hsew2 := ew2.size
  replace hb5v : Blk w2 g5 115 (List.replicate 256 (.int .u32 0)) := hb5v
  refine WL.do (D.store rfl rfl rfl (m := 256) (by kernel_rfl) (by exact tabV_len) hb5v (by rw [tabV_len, List.length_replicate]; decide) (by exact tabV_one)) rfl ?_
  rintro w3 ⟨hb5vn, hgw3, hzw3⟩
  replace hb5vn := Blk.whole hb5vn (by rw [List.length_replicate, tabV_len])
  replace hb5vn : Blk w3 g5 115 (tabV) := by exact hb5vn
  replace h1 := h1.far hgw3 (by rintro k ⟨⟩; omega)
  replace hE := Ext.grown hE hgw3 (by rintro k ⟨⟩; omega)
  replace hb5v := hb5vn
  clear hb5vn
  refine WL.nil ?_
  refine E.to ?_
  refine W.seq ?_
  refine W.region ?_
  refine WL.det (fun _ _ => R.move rfl) rfl ?_
  refine WL.det (fun _ _ => R.com32 rfl) rfl ?_
  refine WL.det (fun _ _ => R.assign rfl) rfl ?_
  refine WL.nil ?_
  refine E.to ?_
  refine W.seq ?_
  refine W.seq ?_
  refine W.region ?_
  refine WL.det (fun _ _ => R.move rfl) rfl ?_
  refine WL.det (fun _ e => R.len_sl rfl (h1.ext e) Try.underlying22) rfl ?_
  refine WL.det (fun _ _ => R.move rfl) rfl ?_
  refine WL.nil ?_
  refine E.to ?_
  refine W.block ?_
  refine W.loopx1 [4, 5, 11, 12] (fun (k : Nat) => [(0, .val (.int .u32 (runI (comI h) (l1.take k)))), (13, .val (.int .i64 (k : Int)))]) (fun (k : Nat) wr => (k ≤ l1.length) ∧ Sl encU8 wr 0 w.heap.size v1 l1 ∧ Ext w wr ∧ Blk wr g5 115 (tabV)) (fun (k : Nat) => l1.length - k) (0) ?_ ?_ ?_
  · exact (Sub.cons rfl (Sub.cons rfl (Sub.cons rfl (Sub.cons rfl (Sub.cons rfl (Sub.cons rfl (Sub.nil _)))))))
  · skip
    refine ⟨?_, h1, hE, hb5v⟩
    exact Nat.zero_le _
  intro k w4 hinv
  clear h1 hE hb5v
  obtain ⟨hinv, h1, hE, hb5v⟩ := hinv
  have hsw4 := hE.size
  obtain hk := hinv
  refine W.seq ?_
  refine W.region ?_
  refine WL.det (fun _ _ => R.lss rfl rfl) rfl ?_
  refine WL.nil ?_
  refine E.to ?_
  refine W.seq ?_
  first | refine W.cond_d rfl (fun hc1 => ?_) (fun hc1 => ?_) | refine W.cond_nd rfl (fun hc1 => ?_) (fun hc1 => ?_) | refine W.cond rfl (fun hc1 => ?_) (fun hc1 => ?_)
  · skip
    refine W.skip ?_
    refine E.to ?_
    refine W.seq ?_
    refine W.block ?_
    refine W.seq ?_
    refine W.region ?_
    refine WL.det (fun _ e => R.idx rfl rfl (h1.ext e) (by omega) Try.underlying22 hi5 hs5) rfl ?_
    refine WL.det (fun _ e => R.ld1 rfl ((h1.ext e).elem (by omega)) Try.underlying5 rfl) rfl ?_
    refine WL.det (fun _ _ => R.assign rfl) rfl ?_
    refine WL.nil ?_
    refine E.to ?_
    refine W.region ?_
    refine WL.det (fun _ _ => R.move rfl) rfl ?_
    refine WL.det (fun _ _ => R.shr_c (q := 256) rfl rfl (by decide) (by decide)) rfl ?_
    refine WL.det (fun _ _ => R.move rfl) rfl ?_
    refine WL.det (fun _ _ => (by first | exact R.conv8 rfl Try.underlying90 Try.underlying5 (by omega) | exact R.conv rfl Try.underlying90 Try.underlying5)) rfl ?_
    refine WL.det (fun _ _ => R.move rfl) rfl ?_
    refine WL.det (fun _ _ => R.xor rfl rfl) rfl ?_
    refine WL.det (fun _ _ => R.idx_arr (m := 1) (i := (bits .xor .u8 (IntKind.u8.wrap (runI (comI h) (l1.take k))) (l1[k]!).toNat).toNat) rfl (evi rfl (toNat_u8 _ _).symm) (by exact lt_u8 _ _) Try.underlying115 (by kernel_rfl)) rfl ?_
    refine WL.det (fun _ e => R.ld1 rfl (tabV_pt (hb5v.ext e) (lt_u8 _ _)) Try.underlying90 rfl) rfl ?_
    refine WL.det (fun _ _ => R.xor rfl rfl) rfl ?_
    refine WL.det (fun _ _ => R.assign rfl) rfl ?_
    refine WL.nil ?_
    refine E.inn ?_
    refine E.to ?_
    refine W.region ?_
    refine WL.det (fun _ _ => (by first | exact R.add64 rfl rfl (by omega) | exact R.add rfl rfl)) rfl ?_
    refine WL.det (fun _ _ => R.move rfl) rfl ?_
    refine WL.nil ?_
    refine E.againx1 ((k + 1)) ?_ ?_ ?_
    · exact (Sub.val rfl (by rw [take_snoc' (by omega), runI_snoc]; rfl) (Sub.cons rfl (Sub.cons rfl (Sub.cons rfl (Sub.cons rfl (Sub.cons rfl (Sub.nil _)))))))
    · skip
      refine ⟨?_, h1, hE, hb5v⟩
      omega
    · omega
  · skip
    refine W.exit ?_
    refine E.th ?_
    refine E.th ?_
    refine E.hit ?_
    refine E.to ?_
    refine W.seq ?_
    refine W.region ?_
    refine WL.det (fun _ _ => R.move rfl) rfl ?_
    refine WL.det (fun _ _ => R.com32 rfl) rfl ?_
    refine WL.det (fun _ _ => R.assign rfl) rfl ?_
    refine WL.nil ?_
    refine E.to ?_
    refine W.ret ?_
    refine E.fin1 (.inl rfl) rfl rfl ?_
    exact ⟨_, rfl, by rw [List.take_of_length_le (by omega)]; rfl, hE⟩

/-- bookplate/bookplateref02.More. -/
theorem refmore_spec (h : Int) {v1 : Value} {l1 : List UInt8} (w : World) {lo_h1 hi_h1 : Nat} (h1 : Sl encU8 w lo_h1 hi_h1 v1 l1) :
    CallsTo Try.prog 67 [.int .u32 h, v1] w (fun v w1 => v = .int .u32 (refMoreI h l1) ∧ Ext w w1) := by
  have hE := Ext.rfl' w
  replace h1 := h1.clip0
  have hl_h1 := h1.len_le
  refine enter (n := 10) (l := [.int .u32 h, v1]) Try.func67 rfl rfl rfl ?_
  refine W.seq ?_
  refine W.region ?_
  refine WL.det (fun _ _ => R.assign rfl) rfl ?_
  refine WL.nil ?_
  refine E.to ?_
  refine W.seq ?_
  refine W.region ?_
  refine WL.det (fun _ _ => R.move rfl) rfl ?_
  refine WL.det (fun _ _ => R.com32 rfl) rfl ?_
  refine WL.det (fun _ _ => R.move rfl) rfl ?_
  refine WL.call rfl rfl ⟨rfl, rfl⟩ callOk73 rfl rfl (register_spec _ (comI_R _) _ h1) ?_
  rintro v8 w1 ⟨rfl, ew1⟩
  replace h1 := h1.ext ew1
  replace hE := Ext.tr hE ew1
  have hsew1 := ew1.size
  refine WL.det (fun _ _ => R.com32 rfl) rfl ?_
  refine WL.det (fun _ _ => R.assign rfl) rfl ?_
  refine WL.nil ?_
  refine E.to ?_
  refine W.ret ?_
  refine E.fin1 (.inl rfl) rfl rfl ?_
  exact ⟨_, rfl, rfl, hE⟩

/-- bookplate/digest.Of. -/
theorem of_spec {v1 : Value} {l1 : List UInt8} (w : World) {lo_h1 hi_h1 : Nat} (h1 : Sl encU8 w lo_h1 hi_h1 v1 l1) :
    CallsTo Try.prog 49 [v1] w (fun v w1 => v = .int .u32 (moreI 0 l1) ∧ Ext w w1) := by
  have hE := Ext.rfl' w
  replace h1 := h1.clip0
  have hl_h1 := h1.len_le
  refine enter (n := 5) (l := [v1]) Try.func49 rfl rfl rfl ?_
  refine W.seq ?_
  refine W.region ?_
  refine WL.det (fun _ _ => R.assign rfl) rfl ?_
  refine WL.nil ?_
  refine E.to ?_
  refine W.seq ?_
  refine W.region ?_
  refine WL.det (fun _ _ => R.move rfl) rfl ?_
  refine WL.call rfl rfl ⟨rfl, rfl⟩ callOk64 rfl rfl (more_spec _ _ h1) ?_
  rintro v4 w1 ⟨rfl, ew1⟩
  replace h1 := h1.ext ew1
  replace hE := Ext.tr hE ew1
  have hsew1 := ew1.size
  refine WL.det (fun _ _ => R.assign rfl) rfl ?_
  refine WL.nil ?_
  refine E.to ?_
  refine W.ret ?_
  refine E.fin1 (.inl rfl) rfl rfl ?_
  exact ⟨_, rfl, rfl, hE⟩

/-- bookplate/bookplateref02.Of. -/
theorem refof_spec {v1 : Value} {l1 : List UInt8} (w : World) {lo_h1 hi_h1 : Nat} (h1 : Sl encU8 w lo_h1 hi_h1 v1 l1) :
    CallsTo Try.prog 54 [v1] w (fun v w1 => v = .int .u32 (refMoreI 0 l1) ∧ Ext w w1) := by
  have hE := Ext.rfl' w
  replace h1 := h1.clip0
  have hl_h1 := h1.len_le
  refine enter (n := 5) (l := [v1]) Try.func54 rfl rfl rfl ?_
  refine W.seq ?_
  refine W.region ?_
  refine WL.det (fun _ _ => R.assign rfl) rfl ?_
  refine WL.nil ?_
  refine E.to ?_
  refine W.seq ?_
  refine W.region ?_
  refine WL.det (fun _ _ => R.move rfl) rfl ?_
  refine WL.call rfl rfl ⟨rfl, rfl⟩ callOk67 rfl rfl (refmore_spec _ _ h1) ?_
  rintro v4 w1 ⟨rfl, ew1⟩
  replace h1 := h1.ext ew1
  replace hE := Ext.tr hE ew1
  have hsew1 := ew1.size
  refine WL.det (fun _ _ => R.assign rfl) rfl ?_
  refine WL.nil ?_
  refine E.to ?_
  refine W.ret ?_
  refine E.fin1 (.inl rfl) rfl rfl ?_
  exact ⟨_, rfl, rfl, hE⟩

/-- bookplate/digest.Seal. -/
theorem seal_spec {v1 : Value} {l1 : List UInt8} (hb : l1.length ≤ 100000000) (w : World) {lo_h1 hi_h1 : Nat} (h1 : Sl encU8 w lo_h1 hi_h1 v1 l1) :
    CallsTo Try.prog 36 [v1] w (fun v w1 => Own encU8 w1 w.heap.size 5 v (l1 ++ tailL (moreI 0 l1)) ∧ Ext w w1) := by
  have hE := Ext.rfl' w
  replace h1 := h1.clip0
  have hl_h1 := h1.len_le
  obtain ⟨i5, hi5, hz5, hs5, hb5⟩ := inf5
  refine enter (n := 9) (l := [v1]) Try.func36 rfl rfl rfl ?_
  refine W.seq ?_
  refine W.region ?_
  refine WL.det (fun _ _ => R.assign rfl) rfl ?_
  refine WL.nil ?_
  refine E.to ?_
  refine W.seq ?_
  refine W.region ?_
  refine WL.det (fun _ _ => R.move rfl) rfl ?_
  refine WL.call rfl rfl ⟨rfl, rfl⟩ callOk32 rfl rfl (clone_spec (by omega) _ h1) ?_
  rintro v4 w1 ⟨hf4, ew1⟩
  replace h1 := h1.ext ew1
  replace hE := Ext.tr hE ew1
  have hsew1 := ew1.size
  replace hf4 := Own.mono hf4 (b := w.heap.size) (by omega)
  refine WL.det (fun _ _ => R.move rfl) rfl ?_
  refine WL.call rfl rfl ⟨rfl, rfl⟩ callOk49 rfl rfl (of_spec _ h1) ?_
  rintro v6 w2 ⟨rfl, ew2⟩
  replace h1 := h1.ext ew2
  replace hE := Ext.tr hE ew2
  replace hf4 := hf4.ext ew2
  have hsew2 := ew2.size
  refine WL.call rfl rfl ⟨rfl, rfl⟩ callOk48 rfl rfl (tail_spec _ _) ?_
  rintro v7 w3 ⟨hf7, ew3⟩
  replace h1 := h1.ext ew3
  replace hE := Ext.tr hE ew3
  replace hf4 := hf4.ext ew3
  have hsew3 := ew3.size
  replace hf7 := Own.mono hf7 (b := w.heap.size) (by omega)
  refine WL.mk (M.append rfl rfl hf4 hf7.sl Try.underlying22 hi5 hz5 hs5 rfl (by intros; rfl) (by rw [hb5]; simp [tailL]; omega) (by simp [tailL]; omega) (by omega)) rfl rfl ?_
  rintro v8 w4 ⟨hf8, hgw4, hat8⟩
  have hzw4 := hgw4.size
  replace h1 := h1.far hgw4 (fun k hk => by have := hf4.lt k hk; omega)
  replace hE := Ext.grown hE hgw4 (fun k hk => by have := hf4.lt k hk; omega)
  refine WL.det (fun _ _ => R.assign rfl) rfl ?_
  refine WL.nil ?_
  refine E.to ?_
  refine W.ret ?_
  refine E.fin1 (.inl rfl) rfl rfl ?_
  exact ⟨_, rfl, hf8, hE⟩

/-- bookplate/bookplateref02.Seal. -/
theorem refseal_spec {v1 : Value} {l1 : List UInt8} (hb : l1.length ≤ 100000000) (w : World) {lo_h1 hi_h1 : Nat} (h1 : Sl encU8 w lo_h1 hi_h1 v1 l1) :
    CallsTo Try.prog 37 [v1] w (fun v w1 => Own encU8 w1 w.heap.size 5 v (l1 ++ tailL (refMoreI 0 l1)) ∧ Ext w w1) := by
  have hE := Ext.rfl' w
  replace h1 := h1.clip0
  have hl_h1 := h1.len_le
  obtain ⟨i5, hi5, hz5, hs5, hb5⟩ := inf5
  refine enter (n := 22) (l := [v1]) Try.func37 rfl rfl rfl ?_
  refine W.seq ?_
  refine W.region ?_
  refine WL.det (fun _ _ => R.assign rfl) rfl ?_
  refine WL.nil ?_
  refine E.to ?_
  refine W.seq ?_
  refine W.region ?_
  refine WL.det (fun _ _ => R.move rfl) rfl ?_
  refine WL.call rfl rfl ⟨rfl, rfl⟩ callOk54 rfl rfl (refof_spec _ h1) ?_
  rintro v5 w1 ⟨rfl, ew1⟩
  replace h1 := h1.ext ew1
  replace hE := Ext.tr hE ew1
  have hsew1 := ew1.size
  refine WL.det (fun _ _ => R.assign rfl) rfl ?_
  refine WL.nil ?_
  refine E.to ?_
  refine W.seq ?_
  refine W.region ?_
  refine WL.mk (M.buildSlice (E := encU8) (ys := []) rfl rfl Try.underlying22 hi5 hz5 hs5 (by rfl) rfl (by decide) (by intro v hv; simp at hv) (by rfl)) rfl rfl ?_
  rintro _ w2 ⟨g6, rfl, hg6, hzg6, ew2, hf6⟩
  replace h1 := h1.ext ew2
  replace hE := Ext.tr hE ew2
  have hsew2 := ew2.size
  replace hf6 := Own.mono hf6 (b := w.heap.size) (by omega)
  refine WL.det (fun _ _ => R.move rfl) rfl ?_
  refine WL.mk (M.append rfl rfl hf6 h1 Try.underlying22 hi5 hz5 hs5 rfl (by intros; rfl) (by rw [hb5]; simp; omega) (by simp; omega) (by omega)) rfl rfl ?_
  rintro v8 w3 ⟨hf8, hgw3, hat8⟩
  have hzw3 := hgw3.size
  replace h1 := h1.far hgw3 (fun k hk => by have := hf6.lt k hk; omega)
  replace hE := Ext.grown hE hgw3 (fun k hk => by have := hf6.lt k hk; omega)
  refine WL.det (fun _ _ => R.move rfl) rfl ?_
  refine WL.det (fun _ _ => (by first | exact R.conv8 rfl Try.underlying90 Try.underlying5 (by omega) | exact R.conv rfl Try.underlying90 Try.underlying5)) rfl ?_
  refine WL.det (fun _ _ => R.move rfl) rfl ?_
  refine WL.det (fun _ _ => R.shr_c (q := 256) rfl rfl (by decide) (by decide)) rfl ?_
  refine WL.det (fun _ _ => (by first | exact R.conv8 rfl Try.underlying90 Try.underlying5 (by omega) | exact R.conv rfl Try.underlying90 Try.underlying5)) rfl ?_
  refine WL.det (fun _ _ => R.move rfl) rfl ?_
  refine WL.det (fun _ _ => R.shr_c (q := 65536) rfl rfl (by decide) (by decide)) rfl ?_
  refine WL.det (fun _ _ => (by first | exact R.conv8 rfl Try.underlying90 Try.underlying5 (by omega) | exact R.conv rfl Try.underlying90 Try.underlying5)) rfl ?_
  refine WL.det (fun _ _ => R.move rfl) rfl ?_
  refine WL.det (fun _ _ => R.shr_c (q := 16777216) rfl rfl (by decide) (by decide)) rfl ?_
  refine WL.det (fun _ _ => (by first | exact R.conv8 rfl Try.underlying90 Try.underlying5 (by omega) | exact R.conv rfl Try.underlying90 Try.underlying5)) rfl ?_
  refine WL.mk (M.buildSlice (E := encU8) (ys := tailL (refMoreI 0 l1)) rfl rfl Try.underlying22 hi5 hz5 hs5 (by rfl) rfl (by decide) (by intro v hv; simp at hv; rcases hv with rfl | rfl | rfl | rfl <;> rfl) (by simp [tailL, encU8_all, u8_wrap, Value.cells]; omega)) rfl rfl ?_
  rintro _ w4 ⟨g20, rfl, hg20, hzg20, ew4, hf20⟩
  replace h1 := h1.ext ew4
  replace hE := Ext.tr hE ew4
  replace hf8 := hf8.ext ew4
  have hsew4 := ew4.size
  replace hf20 := Own.mono hf20 (b := w.heap.size) (by omega)
  refine WL.mk (M.append rfl rfl hf8 hf20.sl Try.underlying22 hi5 hz5 hs5 rfl (by intros; rfl) (by rw [hb5]; simp [tailL]; omega) (by simp [tailL]; omega) (by omega)) rfl rfl ?_
  rintro v21 w5 ⟨hf21, hgw5, hat21⟩
  have hzw5 := hgw5.size
  replace h1 := h1.far hgw5 (fun k hk => by have := hf8.lt k hk; omega)
  replace hE := Ext.grown hE hgw5 (fun k hk => by have := hf8.lt k hk; omega)
  refine WL.det (fun _ _ => R.assign rfl) rfl ?_
  refine WL.nil ?_
  refine E.to ?_
  refine W.ret ?_
  refine E.fin1 (.inl rfl) rfl rfl ?_
  exact ⟨_, rfl, by simpa using hf21, hE⟩

end Go.Proofs.Ytemclhhlafjohaa
