/-
  The walks.
-/
import Derived.Test.YtebinfembfoklaaW5
import Derived.Test.YtebinfembfoklaaO02
namespace Go.Proofs.Ytebinfembfoklaa
open Go Go.RowKit Go.G Go.D02

theorem callOk19 : callOk Try.prog 19 = true := by kernel_rfl

/-- bookplate/bookplatelaw02.DigestLinear. -/
theorem digestLinear_spec {v1 v2 v3 : Value} {l1 l2 l3 : List UInt8} (w : World) {lo_h1 hi_h1 : Nat} (h1 : Sl encU8 w lo_h1 hi_h1 v1 l1) {lo_h2 hi_h2 : Nat} (h2 : Sl encU8 w lo_h2 hi_h2 v2 l2) {lo_h3 hi_h3 : Nat} (h3 : Sl encU8 w lo_h3 hi_h3 v3 l3) :
    CallsTo Try.prog 3 [v1, v2, v3] w (fun v w1 => v = .bool true ∧ Ext w w1) := by
  have hE := Ext.rfl' w
  replace h1 := h1.clip0
  have hl_h1 := h1.len_le
  replace h2 := h2.clip0
  have hl_h2 := h2.len_le
  replace h3 := h3.clip0
  have hl_h3 := h3.len_le
  obtain ⟨N, hN, hN1, hN2, hN3, hN4⟩ : ∃ N : Nat, min (min (min (l1.length : Int) l2.length) l3.length) 200 = N ∧ N ≤ l1.length ∧ N ≤ l2.length ∧ N ≤ l3.length ∧ N ≤ 200 := ⟨min (min (min l1.length l2.length) l3.length) 200, by omega, by omega, by omega, by omega, by omega⟩
  obtain ⟨i5, hi5, hz5, hs5, hb5⟩ := inf5
  refine enter (n := 60) (l := [v1, v2, v3]) Try.func3 rfl rfl rfl ?_
  refine W.seq ?_
  refine W.region ?_
  refine WL.det (fun _ _ => R.assign rfl) rfl ?_
  refine WL.nil ?_
  refine E.to ?_
  refine W.seq ?_
  refine W.seq ?_
  refine W.region ?_
  refine WL.call rfl rfl ⟨rfl, rfl⟩ callOk10 rfl rfl (awake_spec _) ?_
  rintro v10 w1 ⟨rfl, ew1⟩
  replace h1 := h1.ext ew1
  replace h2 := h2.ext ew1
  replace h3 := h3.ext ew1
  replace hE := Ext.tr hE ew1
  have hsew1 := ew1.size
  refine WL.det (fun _ _ => R.not rfl) rfl ?_
  refine WL.nil ?_
  refine E.to ?_
  refine W.cond_f rfl ?_
  refine W.skip ?_
  refine E.to ?_
  refine W.seq ?_
  refine W.region ?_
  refine WL.det (fun _ _ => R.move rfl) rfl ?_
  refine WL.det (fun _ e => R.len_sl rfl (h1.ext e) Try.underlying22) rfl ?_
  refine WL.det (fun _ _ => R.move rfl) rfl ?_
  refine WL.det (fun _ e => R.len_sl rfl (h2.ext e) Try.underlying22) rfl ?_
  refine WL.det (fun _ _ => R.move rfl) rfl ?_
  refine WL.det (fun _ e => R.len_sl rfl (h3.ext e) Try.underlying22) rfl ?_
  refine WL.det (fun _ _ => R.mv (R.min4 rfl rfl rfl rfl) (congrArg (Value.int .i64) hN)) rfl ?_
  refine WL.det (fun _ _ => R.assign rfl) rfl ?_
  refine WL.nil ?_
  refine E.to ?_
  refine W.seq ?_
  refine W.region ?_
  refine WL.det (fun _ _ => R.move rfl) rfl ?_
  refine WL.mk (M.make (E := encU8) (m := N) (zx := (0 : UInt8)) rfl rfl Try.underlying22 hi5 hz5 hs5 rfl (by rw [hb5]; omega) (by omega)) rfl rfl ?_
  rintro _ w2 ⟨g20, rfl, hg20, hzg20, ew2, hf20⟩
  replace h1 := h1.ext ew2
  replace h2 := h2.ext ew2
  replace h3 := h3.ext ew2
  replace hE := Ext.tr hE ew2
  have hsew2 := ew2.size
  replace hf20 := Own.mono hf20 (b := w.heap.size) (by omega)
  refine WL.det (fun _ _ => R.assign rfl) rfl ?_
  refine WL.nil ?_
  refine E.to ?_
  refine W.seq ?_
  refine W.seq ?_
  refine W.region ?_
  refine WL.det (fun _ _ => R.assign rfl) rfl ?_
  refine WL.nil ?_
  refine E.to ?_
  refine W.block ?_
  refine W.loopx1 [0, 1, 2, 6, 7, 8] (fun (k : Nat) => [(9, .val (.int .i64 (k : Int)))]) (fun (k : Nat) wr => (k ≤ N ∧ g20 ≥ w.heap.size ∧ Own encU8 wr w.heap.size 5 (.slice (some ⟨g20, 0, none⟩) N N) (sumL l1 l2 l3 N k)) ∧ Sl encU8 wr 0 w.heap.size v1 l1 ∧ Sl encU8 wr 0 w.heap.size v2 l2 ∧ Sl encU8 wr 0 w.heap.size v3 l3 ∧ Ext w wr) (fun (k : Nat) => N - k) (0) ?_ ?_ ?_
  · exact (Sub.cons rfl (Sub.cons rfl (Sub.cons rfl (Sub.cons rfl (Sub.cons rfl (Sub.cons rfl (Sub.cons rfl (Sub.nil _))))))))
  · skip
    refine ⟨?_, h1, h2, h3, hE⟩
    exact ⟨by omega, by omega, by rw [sumL_zero]; exact hf20⟩
  intro k w3 hinv
  clear h1 h2 h3 hE hf20
  obtain ⟨hinv, h1, h2, h3, hE⟩ := hinv
  have hsw3 := hE.size
  obtain ⟨hk, hg20, hf20⟩ := hinv
  refine W.seq ?_
  refine W.seq ?_
  refine W.region ?_
  refine WL.det (fun _ _ => R.move rfl) rfl ?_
  refine WL.det (fun _ _ => R.move rfl) rfl ?_
  refine WL.det (fun _ _ => R.lss rfl rfl) rfl ?_
  refine WL.nil ?_
  refine E.to ?_
  first | refine W.cond_d rfl (fun hc1 => ?_) (fun hc1 => ?_) | refine W.cond_nd rfl (fun hc1 => ?_) (fun hc1 => ?_) | refine W.cond rfl (fun hc1 => ?_) (fun hc1 => ?_)
  · skip
    refine W.skip ?_
    refine E.to ?_
    refine W.seq ?_
    refine W.block ?_
    refine W.draw 17 (by kernel_rfl) (by kernel_rfl) ?_
    intro w4 ew4
    replace hf20 := hf20.ext ew4
    replace h1 := h1.ext ew4
    replace h2 := h2.ext ew4
    replace h3 := h3.ext ew4
    replace hE := Ext.tr hE ew4
    have hsew4 := ew4.size
    refine WD.det (fun _ _ => R.move rfl) rfl ?_
    refine WD.det (fun _ _ => R.move rfl) rfl ?_
    refine WD.det (fun _ _ => R.move rfl) rfl ?_
    refine WD.det (fun _ _ => R.move rfl) rfl ?_
    refine WD.det (fun _ e => R.idx rfl rfl (h1.ext e) (by omega) Try.underlying22 hi5 hs5) rfl ?_
    refine WD.det (fun _ e => R.ld1 rfl ((h1.ext e).elem (by omega)) Try.underlying5 rfl) rfl ?_
    refine WD.det (fun _ _ => R.move rfl) rfl ?_
    refine WD.det (fun _ _ => R.move rfl) rfl ?_
    refine WD.det (fun _ e => R.idx rfl rfl (h2.ext e) (by omega) Try.underlying22 hi5 hs5) rfl ?_
    refine WD.det (fun _ e => R.ld1 rfl ((h2.ext e).elem (by omega)) Try.underlying5 rfl) rfl ?_
    refine WD.det (fun _ e => R.mv (R.xor rfl rfl) (congrArg (Value.int .u8) (xor8 _ _))) rfl ?_
    refine WD.det (fun _ _ => R.move rfl) rfl ?_
    refine WD.det (fun _ _ => R.move rfl) rfl ?_
    refine WD.det (fun _ e => R.idx rfl rfl (h3.ext e) (by omega) Try.underlying22 hi5 hs5) rfl ?_
    refine WD.det (fun _ e => R.ld1 rfl ((h3.ext e).elem (by omega)) Try.underlying5 rfl) rfl ?_
    refine WD.det (fun _ e => R.mv (R.xor rfl rfl) (congrArg (Value.int .u8) (xor8 _ _))) rfl ?_
    refine WD.det (fun _ e => R.idx_own' (i := k) rfl rfl (hf20.ext e) (by exact (sumL_len _ _ _ _ _).symm) (by rw [sumL_len]; omega) Try.underlying22 hi5 hs5) rfl ?_
    refine WD.nil (fun w5 ew5 => ?_)
    replace hf20 := hf20.ext ew5
    replace h1 := h1.ext ew5
    replace h2 := h2.ext ew5
    replace h3 := h3.ext ew5
    replace hE := Ext.tr hE ew5
    have hsew5 := ew5.size
    refine WL.do (D.store_own' rfl rfl (by rfl) (by kernel_rfl) hf20 (by exact (sumL_len _ _ _ _ _).symm) (by rw [sumL_len]; omega) (by rfl)) rfl ?_
    rintro w6 ⟨hf20n, hgw6, hzw6⟩
    replace h1 := h1.far hgw6 (by rintro k ⟨⟩; omega)
    replace h2 := h2.far hgw6 (by rintro k ⟨⟩; omega)
    replace h3 := h3.far hgw6 (by rintro k ⟨⟩; omega)
    replace hE := Ext.grown hE hgw6 (by rintro k ⟨⟩; omega)
    rw [sumL_set] at hf20n
    replace hf20 := hf20n
    clear hf20n
    refine WL.nil ?_
    refine E.inn ?_
    refine E.to ?_
    refine W.region ?_
    refine WL.det (fun _ _ => R.move rfl) rfl ?_
    refine WL.det (fun _ _ => (by first | exact R.add64 rfl rfl (by omega) | exact R.add rfl rfl)) rfl ?_
    refine WL.det (fun _ _ => R.assign rfl) rfl ?_
    refine WL.nil ?_
    refine E.againx1 ((k + 1)) ?_ ?_ ?_
    · exact (Sub.cons rfl (Sub.cons rfl (Sub.cons rfl (Sub.cons rfl (Sub.cons rfl (Sub.cons rfl (Sub.cons rfl (Sub.nil _))))))))
    · skip
      refine ⟨?_, h1, h2, h3, hE⟩
      exact ⟨by omega, hg20, hf20⟩
    · omega
  · skip
    refine W.exit ?_
    refine E.th ?_
    refine E.th ?_
    refine E.hit ?_
    refine E.to ?_
    refine W.seq ?_
    refine W.draw 18 (by kernel_rfl) (by kernel_rfl) ?_
    intro w7 ew7
    replace hf20 := hf20.ext ew7
    replace h1 := h1.ext ew7
    replace h2 := h2.ext ew7
    replace h3 := h3.ext ew7
    replace hE := Ext.tr hE ew7
    have hsew7 := ew7.size
    refine WD.det (fun _ _ => R.move rfl) rfl ?_
    refine WD.callv rfl rfl ⟨rfl, rfl⟩ callOk11 rfl (fun w1 e => CallsTo.val (of_spec _ (hf20.sl.ext e))) ?_
    refine WD.det (fun _ _ => R.move rfl) rfl ?_
    refine WD.det (fun _ _ => R.move rfl) rfl ?_
    refine WD.det (fun _ e => R.sub_hi (j := N) rfl (h1.ext e) (rfl) (by omega) Try.underlying22 hi5 hs5) rfl ?_
    refine WD.callv rfl rfl ⟨rfl, rfl⟩ callOk11 rfl (fun w1 e => CallsTo.val (of_spec _ ((Sl.sub (j := N) h1 (Nat.zero_le _) (by omega)).ext e))) ?_
    refine WD.det (fun _ _ => R.move rfl) rfl ?_
    refine WD.det (fun _ _ => R.move rfl) rfl ?_
    refine WD.det (fun _ e => R.sub_hi (j := N) rfl (h2.ext e) (rfl) (by omega) Try.underlying22 hi5 hs5) rfl ?_
    refine WD.callv rfl rfl ⟨rfl, rfl⟩ callOk11 rfl (fun w1 e => CallsTo.val (of_spec _ ((Sl.sub (j := N) h2 (Nat.zero_le _) (by omega)).ext e))) ?_
    refine WD.det (fun _ _ => R.xor rfl rfl) rfl ?_
    refine WD.det (fun _ _ => R.move rfl) rfl ?_
    refine WD.det (fun _ _ => R.move rfl) rfl ?_
    refine WD.det (fun _ e => R.sub_hi (j := N) rfl (h3.ext e) (rfl) (by omega) Try.underlying22 hi5 hs5) rfl ?_
    refine WD.callv rfl rfl ⟨rfl, rfl⟩ callOk11 rfl (fun w1 e => CallsTo.val (of_spec _ ((Sl.sub (j := N) h3 (Nat.zero_le _) (by omega)).ext e))) ?_
    refine WD.det (fun _ _ => R.xor rfl rfl) rfl ?_
    refine WD.det (fun _ _ => R.eql rfl rfl) rfl ?_
    refine WD.det (fun _ _ => R.assign rfl) rfl ?_
    refine WD.nil (fun w8 ew8 => ?_)
    replace hf20 := hf20.ext ew8
    replace h1 := h1.ext ew8
    replace h2 := h2.ext ew8
    replace h3 := h3.ext ew8
    replace hE := Ext.tr hE ew8
    have hsew8 := ew8.size
    refine WL.nil ?_
    refine E.to ?_
    refine W.ret ?_
    refine E.fin1 (.inl rfl) rfl rfl ?_
    have e6 : k = N := (by omega)
    subst e6
    exact ⟨_, rfl, congrArg Value.bool (decide_eq_true (linear hN1 hN2 hN3)), hE⟩

/-- bookplate/bookplatelaw02.DigestBurst. -/
theorem digestBurst_spec {v1 : Value} {l1 : List UInt8} (a b : Int) (ha : 0 ≤ a ∧ a ≤ 65535) (w : World) {lo_h1 hi_h1 : Nat} (h1 : Sl encU8 w lo_h1 hi_h1 v1 l1) :
    CallsTo Try.prog 5 [v1, .int .u16 a, .int .u32 b] w (fun v w1 => v = .bool true ∧ Ext w w1) := by
  have hE := Ext.rfl' w
  replace h1 := h1.clip0
  have hl_h1 := h1.len_le
  obtain ⟨i5, hi5, hz5, hs5, hb5⟩ := inf5
  refine enter (n := 86) (l := [v1, .int .u16 a, .int .u32 b]) Try.func5 rfl rfl rfl ?_
  refine W.seq ?_
  refine W.region ?_
  refine WL.det (fun _ _ => R.assign rfl) rfl ?_
  refine WL.nil ?_
  refine E.to ?_
  refine W.seq ?_
  refine W.seq ?_
  refine W.region ?_
  refine WL.call rfl rfl ⟨rfl, rfl⟩ callOk10 rfl rfl (awake_spec _) ?_
  rintro v14 w1 ⟨rfl, ew1⟩
  replace h1 := h1.ext ew1
  replace hE := Ext.tr hE ew1
  have hsew1 := ew1.size
  refine WL.det (fun _ _ => R.not rfl) rfl ?_
  refine WL.nil ?_
  refine E.to ?_
  refine W.cond_f rfl ?_
  refine W.skip ?_
  refine E.to ?_
  refine W.seq ?_
  refine W.seq ?_
  refine W.region ?_
  refine WL.det (fun _ _ => R.move rfl) rfl ?_
  refine WL.det (fun _ e => R.len_sl rfl (h1.ext e) Try.underlying22) rfl ?_
  refine WL.det (fun _ _ => R.gtr rfl rfl) rfl ?_
  refine WL.det (fun _ _ => R.move rfl) rfl ?_
  refine WL.group 2 (g := 19) (j := 3) (want := false) rfl rfl rfl rfl (fun hg1 => ?_) (fun hg1 => ?_)
  · skip
    first | have hg1p := gA3 hg1 | have hg1p := gA4 hg1 | have hg1p := hg1
    refine WL.detg (fun _ _ => R.move rfl) rfl rfl rfl (gd_of hg1) ?_
    refine WL.detg (fun _ _ => R.eql rfl rfl) rfl rfl rfl (gd_of hg1) ?_
    refine WL.det (fun _ _ => R.pick_f rfl hg1 rfl) rfl ?_
    refine WL.nil ?_
    refine E.to ?_
    first | refine W.cond_d rfl (fun hc2 => ?_) (fun hc2 => ?_) | refine W.cond_nd rfl (fun hc2 => ?_) (fun hc2 => ?_) | refine W.cond rfl (fun hc2 => ?_) (fun hc2 => ?_)
    · skip
      refine W.seq ?_
      refine W.region ?_
      refine WL.det (fun _ _ => R.assign rfl) rfl ?_
      refine WL.nil ?_
      refine E.to ?_
      refine W.ret ?_
      refine E.thr ?_
      refine E.fin1 (.inl rfl) rfl rfl ?_
      exact ⟨_, rfl, rfl, hE⟩
    · skip
      refine W.skip ?_
      refine E.to ?_
      refine W.seq ?_
      refine W.region ?_
      refine WL.det (fun _ _ => R.move rfl) rfl ?_
      refine WL.call rfl rfl ⟨rfl, rfl⟩ callOk16 rfl rfl (seal_spec (by omega) _ h1) ?_
      rintro v24 w2 ⟨hf24, ew2⟩
      replace h1 := h1.ext ew2
      replace hE := Ext.tr hE ew2
      have hsew2 := ew2.size
      replace hf24 := Own.mono hf24 (b := w.heap.size) (by omega)
      obtain ⟨SL, hSL⟩ : ∃ SL, SL = l1 ++ tailL (moreI 0 l1) := ⟨_, rfl⟩
      rw [← hSL] at hf24
      have hSn : SL.length = l1.length + 4 := by rw [hSL]; simp [tailL]
      refine WL.det (fun _ _ => R.assign rfl) rfl ?_
      refine WL.nil ?_
      refine E.to ?_
      refine W.seq ?_
      refine W.region ?_
      refine WL.det (fun _ _ => R.move rfl) rfl ?_
      have hlt24 := hf24.lt
      refine WL.call rfl rfl ⟨rfl, rfl⟩ callOk18 rfl rfl (behind_spec (l2 := []) (by omega) (by simp) _ hf24.sl (Sl.nil _ _ 0 0)) ?_
      rintro v26 w3 ⟨hf26, ew3⟩
      replace h1 := h1.ext ew3
      replace hE := Ext.tr hE ew3
      replace hf24 := hf24.ext ew3
      have hsew3 := ew3.size
      rw [List.append_nil] at hf26
      obtain ⟨gc, cc, rfl, hgc1, hgc2⟩ := hf26.form (by intro e; rw [e] at hSn; simp at hSn)
      have hne : v24.ownBlock = none ∨ v24.ownBlock ≠ some gc := by right; intro e; have := hlt24 gc e; omega
      replace hf26 := Own.mono hf26 (b := w.heap.size) (by omega)
      obtain ⟨f, hf, hf1⟩ : ∃ f : Nat, a % (8 * (SL.length : Int)) = f ∧ f < 8 * SL.length := ⟨(a % (8 * (SL.length : Int))).toNat, (Int.toNat_of_nonneg (Int.emod_nonneg _ (by omega))).symm, by have := Int.emod_lt_of_pos a (show 0 < 8 * (SL.length : Int) by omega); omega⟩
      refine WL.det (fun _ _ => R.assign rfl) rfl ?_
      refine WL.nil ?_
      refine E.to ?_
      refine W.seq ?_
      refine W.region ?_
      refine WL.det (fun _ _ => R.move rfl) rfl ?_
      refine WL.det (fun _ _ => (by first | exact R.conv64 rfl Try.underlying31 Try.underlying3 (by omega) | exact R.conv rfl Try.underlying31 Try.underlying3)) rfl ?_
      refine WL.det (fun _ _ => R.move rfl) rfl ?_
      refine WL.det (fun _ e => R.len_sl rfl (hf24.ext e).sl Try.underlying22) rfl ?_
      refine WL.det (fun _ _ => (by first | exact R.mul64 rfl rfl (by omega) | exact R.mul rfl rfl)) rfl ?_
      refine WL.det (fun _ e => R.mv (R.rem0 rfl rfl (by omega) (by omega)) (congrArg (Value.int .i64) hf)) rfl ?_
      refine WL.det (fun _ _ => R.assign rfl) rfl ?_
      refine WL.nil ?_
      refine E.to ?_
      refine W.seq ?_
      refine W.region ?_
      refine WL.det (fun _ _ => R.assign rfl) rfl ?_
      refine WL.nil ?_
      refine E.to ?_
      refine W.seq ?_
      refine W.seq ?_
      refine W.region ?_
      refine WL.det (fun _ _ => R.assign rfl) rfl ?_
      refine WL.nil ?_
      refine E.to ?_
      refine W.block ?_
      refine W.loopx4 [2, 6, 7, 8, 9] (fun (k : Nat) (an : Bool) (cur : List UInt8) (d : Nat) => [(10, .val (.bool an)), (11, .val (.int .i64 (k : Int)))]) (fun (k : Nat) (an : Bool) (cur : List UInt8) (d : Nat) wr => (k ≤ 32 ∧ d < 2 ^ k ∧ (an = true → d ≠ 0) ∧ cur.length = SL.length ∧ numN cur = numN SL ^^^ 2 ^ f * d ∧ Own encU8 wr w.heap.size 5 (.slice (some ⟨gc, 0, none⟩) SL.length cc) cur) ∧ Sl encU8 wr 0 w.heap.size v1 l1 ∧ Ext w wr ∧ Own encU8 wr w.heap.size 5 v24 SL) (fun (k : Nat) (an : Bool) (cur : List UInt8) (d : Nat) => 32 - k) (0) (false) (SL) (0) ?_ ?_ ?_
      · exact (Sub.cons rfl (Sub.cons rfl (Sub.cons rfl (Sub.cons rfl (Sub.cons rfl (Sub.cons rfl (Sub.cons rfl (Sub.nil _))))))))
      · skip
        refine ⟨?_, h1, hE, hf24⟩
        exact ⟨by omega, by simp, by simp, rfl, by simp, hf26⟩
      intro k an cur d w4 hinv
      clear h1 hE hf24 hf26
      obtain ⟨hinv, h1, hE, hf24⟩ := hinv
      have hsw4 := hE.size
      obtain ⟨hk, hd, han, hcl, hnum, hf26⟩ := hinv
      refine W.seq ?_
      refine W.seq ?_
      refine W.region ?_
      refine WL.det (fun _ _ => R.move rfl) rfl ?_
      refine WL.det (fun _ _ => R.lss rfl rfl) rfl ?_
      refine WL.det (fun _ _ => R.move rfl) rfl ?_
      refine WL.group 7 (g := 35) (j := 2) (want := true) rfl rfl rfl rfl (fun hg3 => ?_) (fun hg3 => ?_)
      · skip
        first | have hg3p := gA1 hg3 | have hg3p := gA2 hg3 | have hg3p := hg3
        refine WL.detg (fun _ _ => R.move rfl) rfl rfl rfl (gd_of hg3) ?_
        refine WL.detg (fun _ _ => R.move rfl) rfl rfl rfl (gd_of hg3) ?_
        refine WL.detg (fun _ _ => (by first | exact R.add64 rfl rfl (by omega) | exact R.add rfl rfl)) rfl rfl rfl (gd_of hg3) ?_
        refine WL.detg (fun _ _ => R.move rfl) rfl rfl rfl (gd_of hg3) ?_
        refine WL.detg (fun _ e => R.len_sl rfl (hf24.ext e).sl Try.underlying22) rfl rfl rfl (gd_of hg3) ?_
        refine WL.detg (fun _ _ => (by first | exact R.mul64 rfl rfl (by omega) | exact R.mul rfl rfl)) rfl rfl rfl (gd_of hg3) ?_
        refine WL.detg (fun _ _ => R.lss rfl rfl) rfl rfl rfl (gd_of hg3) ?_
        refine WL.det (fun _ _ => R.pick_t rfl hg3 rfl) rfl ?_
        refine WL.nil ?_
        refine E.to ?_
        first | refine W.cond_d rfl (fun hc4 => ?_) (fun hc4 => ?_) | refine W.cond_nd rfl (fun hc4 => ?_) (fun hc4 => ?_) | refine W.cond rfl (fun hc4 => ?_) (fun hc4 => ?_)
        · skip
          refine W.skip ?_
          refine E.to ?_
          refine W.seq ?_
          refine W.block ?_
          refine W.seq ?_
          refine W.region ?_
          refine WL.det (fun _ _ => R.move rfl) rfl ?_
          refine WL.det (fun _ _ => R.move rfl) rfl ?_
          refine WL.det (fun _ _ => R.shr rfl rfl (by omega)) rfl ?_
          refine WL.det (fun _ _ => R.and rfl rfl) rfl ?_
          refine WL.det (fun _ _ => R.eql rfl rfl) rfl ?_
          refine WL.nil ?_
          refine E.to ?_
          first | refine W.cond_d rfl (fun hc5 => ?_) (fun hc5 => ?_) | refine W.cond_nd rfl (fun hc5 => ?_) (fun hc5 => ?_) | refine W.cond rfl (fun hc5 => ?_) (fun hc5 => ?_)
          · skip
            refine W.seq ?_
            refine W.draw 14 (by kernel_rfl) (by kernel_rfl) ?_
            intro w5 ew5
            replace hf26 := hf26.ext ew5
            replace h1 := h1.ext ew5
            replace hE := Ext.tr hE ew5
            replace hf24 := hf24.ext ew5
            have hsew5 := ew5.size
            refine WD.det (fun _ _ => R.move rfl) rfl ?_
            refine WD.det (fun _ _ => R.move rfl) rfl ?_
            refine WD.det (fun _ _ => R.move rfl) rfl ?_
            refine WD.det (fun _ _ => (by first | exact R.add64 rfl rfl (by omega) | exact R.add rfl rfl)) rfl ?_
            refine WD.det (fun _ _ => (by first | exact R.quo64 rfl rfl (by omega) | exact R.quo32 rfl rfl (by omega) | exact R.quo rfl rfl (by omega))) rfl ?_
            refine WD.det (fun _ e => R.idx_own' (i := ((f + k) / 8)) rfl (evi rfl (by omega)) (hf26.ext e) (by first | rfl | simp | omega) (by omega) Try.underlying22 hi5 hs5) rfl ?_
            refine WD.det (fun _ e => R.ld1 rfl ((hf26.ext e).elem' (i := ((f + k) / 8)) (by omega)) Try.underlying5 rfl) rfl ?_
            refine WD.det (fun _ _ => R.move rfl) rfl ?_
            refine WD.det (fun _ _ => R.move rfl) rfl ?_
            refine WD.det (fun _ _ => (by first | exact R.add64 rfl rfl (by omega) | exact R.add rfl rfl)) rfl ?_
            refine WD.det (fun _ _ => (by first | exact R.rem0 rfl rfl (by omega) (by omega) | exact R.rem rfl rfl (by omega))) rfl ?_
            refine WD.det (fun _ e => R.mv (R.shl rfl rfl (by omega)) (congrArg (Value.int .u8) (shl8 (j := (f + k) % 8) (by omega) (by omega)))) rfl ?_
            refine WD.det (fun _ e => R.mv (R.xor rfl rfl) (congrArg (Value.int .u8) (xor8 _ _))) rfl ?_
            refine WD.det (fun _ e => R.idx_own' (i := ((f + k) / 8)) rfl (evi rfl (by omega)) (hf26.ext e) (by first | rfl | simp | omega) (by omega) Try.underlying22 hi5 hs5) rfl ?_
            refine WD.nil (fun w6 ew6 => ?_)
            replace hf26 := hf26.ext ew6
            replace h1 := h1.ext ew6
            replace hE := Ext.tr hE ew6
            replace hf24 := hf24.ext ew6
            have hsew6 := ew6.size
            refine WL.do (D.store_own' rfl rfl (by rfl) (by kernel_rfl) hf26 (by omega) (by omega) (by rfl)) rfl ?_
            rintro w7 ⟨hf26n, hgw7, hzw7⟩
            replace h1 := h1.far hgw7 (by rintro k ⟨⟩; omega)
            replace hE := Ext.grown hE hgw7 (by rintro k ⟨⟩; omega)
            replace hf24 := hf24.far hgw7 (by exact hne)
            replace hf26 := hf26n
            clear hf26n
            refine WL.nil ?_
            refine E.to ?_
            refine W.region ?_
            refine WL.det (fun _ _ => R.assign rfl) rfl ?_
            refine WL.nil ?_
            refine E.inn ?_
            refine E.to ?_
            refine W.region ?_
            refine WL.det (fun _ _ => R.move rfl) rfl ?_
            refine WL.det (fun _ _ => (by first | exact R.add64 rfl rfl (by omega) | exact R.add rfl rfl)) rfl ?_
            refine WL.det (fun _ _ => R.assign rfl) rfl ?_
            refine WL.nil ?_
            refine E.againx4 ((k + 1)) (true) ((cur.set ((f + k) / 8) (cur[(f + k) / 8]! ^^^ bit8 ((f + k) % 8)))) ((d ^^^ 2 ^ k)) ?_ ?_ ?_
            · exact (Sub.cons rfl (Sub.cons rfl (Sub.cons rfl (Sub.cons rfl (Sub.cons rfl (Sub.cons rfl (Sub.cons rfl (Sub.nil _))))))))
            · skip
              refine ⟨?_, h1, hE, hf24⟩
              exact ⟨by omega, flip_lt hd, fun _ => flip_ne hd, by simpa using hcl, flip_num hnum (by omega), hf26⟩
            · omega
          · skip
            refine W.skip ?_
            refine E.inn ?_
            refine E.to ?_
            refine W.region ?_
            refine WL.det (fun _ _ => R.move rfl) rfl ?_
            refine WL.det (fun _ _ => (by first | exact R.add64 rfl rfl (by omega) | exact R.add rfl rfl)) rfl ?_
            refine WL.det (fun _ _ => R.assign rfl) rfl ?_
            refine WL.nil ?_
            refine E.againx4 ((k + 1)) (an) (cur) (d) ?_ ?_ ?_
            · exact (Sub.cons rfl (Sub.cons rfl (Sub.cons rfl (Sub.cons rfl (Sub.cons rfl (Sub.cons rfl (Sub.cons rfl (Sub.nil _))))))))
            · skip
              refine ⟨?_, h1, hE, hf24⟩
              exact ⟨by omega, Nat.lt_trans hd (Nat.pow_lt_pow_right (by decide) (by omega)), han, hcl, hnum, hf26⟩
            · omega
        · skip
          refine W.exit ?_
          refine E.th ?_
          refine E.th ?_
          refine E.hit ?_
          refine E.to ?_
          refine W.seq ?_
          refine W.seq ?_
          refine W.region ?_
          refine WL.det (fun _ _ => R.move rfl) rfl ?_
          refine WL.det (fun _ _ => R.not rfl) rfl ?_
          refine WL.nil ?_
          refine E.to ?_
          first | refine W.cond_d rfl (fun hcz => ?_) (fun hcz => ?_) | refine W.cond_nd rfl (fun hcz => ?_) (fun hcz => ?_) | refine W.cond rfl (fun hcz => ?_) (fun hcz => ?_)
          · skip
            refine W.seq ?_
            refine W.region ?_
            refine WL.det (fun _ _ => R.assign rfl) rfl ?_
            refine WL.nil ?_
            refine E.to ?_
            refine W.ret ?_
            refine E.thr ?_
            refine E.fin1 (.inl rfl) rfl rfl ?_
            exact ⟨_, rfl, rfl, hE⟩
          · skip
            refine W.skip ?_
            refine E.to ?_
            refine W.seq ?_
            refine W.region ?_
            refine WL.det (fun _ _ => R.move rfl) rfl ?_
            refine WL.call rfl rfl ⟨rfl, rfl⟩ callOk19 rfl rfl (open_spec (by omega) _ hf26.sl) ?_
            rintro v69 w8 ⟨p69, rfl, ⟨t69, hf69⟩, ew8⟩
            replace hf26 := hf26.ext ew8
            replace h1 := h1.ext ew8
            replace hE := Ext.tr hE ew8
            replace hf24 := hf24.ext ew8
            have hsew8 := ew8.size
            have hB := burst hnum hcl hf1 hd hk (han (by simpa using hcz))
            have hO := burst_open hSL hB (by omega)
            replace hf69 := Own.mono hf69 (b := w.heap.size) (by omega)
            refine WL.det (fun _ _ => R.move rfl) rfl ?_
            refine WL.det (fun _ _ => R.extract rfl rfl) rfl ?_
            refine WL.det (fun _ _ => R.extract rfl rfl) rfl ?_
            refine WL.det (fun _ _ => R.assign rfl) rfl ?_
            refine WL.det (fun _ _ => R.assign rfl) rfl ?_
            refine WL.nil ?_
            refine E.to ?_
            refine W.seq ?_
            refine W.region ?_
            refine WL.det (fun _ _ => R.move rfl) rfl ?_
            refine WL.det (fun _ e => R.len_sl rfl (hf69.ext e).sl Try.underlying22) rfl ?_
            refine WL.det (fun _ _ => R.eql rfl rfl) rfl ?_
            refine WL.det (fun _ _ => R.move rfl) rfl ?_
            refine WL.group 2 (g := 75) (j := 3) (want := true) rfl rfl rfl rfl (fun hg7 => ?_) (fun hg7 => ?_)
            · skip
              first | have hg7p := gA1 hg7 | have hg7p := gA2 hg7 | have hg7p := hg7
              refine WL.detg (fun _ _ => R.move rfl) rfl rfl rfl (gd_of hg7) ?_
              refine WL.detg (fun _ _ => R.eql rfl rfl) rfl rfl rfl (gd_of hg7) ?_
              refine WL.det (fun _ _ => R.pick_t rfl hg7 rfl) rfl ?_
              refine WL.det (fun _ _ => R.move rfl) rfl ?_
              refine WL.group 5 (g := 79) (j := 7) (want := true) rfl rfl rfl rfl (fun hg8 => ?_) (fun hg8 => ?_)
              · skip
                first | have hg8p := gA1 hg8 | have hg8p := gA2 hg8 | have hg8p := hg8
                refine WL.detg (fun _ _ => R.move rfl) rfl rfl rfl (gd_of hg8) ?_
                refine WL.callg rfl rfl ⟨rfl, rfl⟩ callOk11 rfl rfl rfl rfl (gd_of hg8) (of_spec _ hf26.sl) ?_
                rintro v81 w9 ⟨rfl, ew9⟩
                replace hf26 := hf26.ext ew9
                replace h1 := h1.ext ew9
                replace hE := Ext.tr hE ew9
                replace hf24 := hf24.ext ew9
                replace hf69 := hf69.ext ew9
                have hsew9 := ew9.size
                refine WL.detg (fun _ _ => R.move rfl) rfl rfl rfl (gd_of hg8) ?_
                refine WL.callg rfl rfl ⟨rfl, rfl⟩ callOk11 rfl rfl rfl rfl (gd_of hg8) (of_spec _ hf24.sl) ?_
                rintro v83 w10 ⟨rfl, ew10⟩
                replace hf26 := hf26.ext ew10
                replace h1 := h1.ext ew10
                replace hE := Ext.tr hE ew10
                replace hf24 := hf24.ext ew10
                replace hf69 := hf69.ext ew10
                have hsew10 := ew10.size
                refine WL.detg (fun _ _ => R.neq rfl rfl) rfl rfl rfl (gd_of hg8) ?_
                refine WL.det (fun _ _ => R.pick_t rfl hg8 rfl) rfl ?_
                refine WL.det (fun _ _ => R.assign rfl) rfl ?_
                refine WL.nil ?_
                refine E.to ?_
                refine W.ret ?_
                refine E.fin1 (.inl rfl) rfl rfl ?_
                exact ⟨_, rfl, congrArg Value.bool (decide_eq_true hB), hE⟩
              · skip
                exact absurd (decide_eq_true hO) hg8
            · skip
              exact absurd (decide_eq_true (by rw [burst_len hO]; rfl)) hg7
      · skip
        first | have hg3p := gA5 hg3 | have hg3p := gA6 hg3 | have hg3p := hg3
        refine WL.det (fun _ _ => R.pick_f rfl (ne_t hg3) rfl) rfl ?_
        refine WL.nil ?_
        refine E.to ?_
        refine W.cond_f rfl ?_
        refine W.exit ?_
        refine E.th ?_
        refine E.th ?_
        refine E.hit ?_
        refine E.to ?_
        refine W.seq ?_
        refine W.seq ?_
        refine W.region ?_
        refine WL.det (fun _ _ => R.move rfl) rfl ?_
        refine WL.det (fun _ _ => R.not rfl) rfl ?_
        refine WL.nil ?_
        refine E.to ?_
        first | refine W.cond_d rfl (fun hcz => ?_) (fun hcz => ?_) | refine W.cond_nd rfl (fun hcz => ?_) (fun hcz => ?_) | refine W.cond rfl (fun hcz => ?_) (fun hcz => ?_)
        · skip
          refine W.seq ?_
          refine W.region ?_
          refine WL.det (fun _ _ => R.assign rfl) rfl ?_
          refine WL.nil ?_
          refine E.to ?_
          refine W.ret ?_
          refine E.thr ?_
          refine E.fin1 (.inl rfl) rfl rfl ?_
          exact ⟨_, rfl, rfl, hE⟩
        · skip
          refine W.skip ?_
          refine E.to ?_
          refine W.seq ?_
          refine W.region ?_
          refine WL.det (fun _ _ => R.move rfl) rfl ?_
          refine WL.call rfl rfl ⟨rfl, rfl⟩ callOk19 rfl rfl (open_spec (by omega) _ hf26.sl) ?_
          rintro v69 w11 ⟨p69, rfl, ⟨t69, hf69⟩, ew11⟩
          replace hf26 := hf26.ext ew11
          replace h1 := h1.ext ew11
          replace hE := Ext.tr hE ew11
          replace hf24 := hf24.ext ew11
          have hsew11 := ew11.size
          have hB := burst hnum hcl hf1 hd hk (han (by simpa using hcz))
          have hO := burst_open hSL hB (by omega)
          replace hf69 := Own.mono hf69 (b := w.heap.size) (by omega)
          refine WL.det (fun _ _ => R.move rfl) rfl ?_
          refine WL.det (fun _ _ => R.extract rfl rfl) rfl ?_
          refine WL.det (fun _ _ => R.extract rfl rfl) rfl ?_
          refine WL.det (fun _ _ => R.assign rfl) rfl ?_
          refine WL.det (fun _ _ => R.assign rfl) rfl ?_
          refine WL.nil ?_
          refine E.to ?_
          refine W.seq ?_
          refine W.region ?_
          refine WL.det (fun _ _ => R.move rfl) rfl ?_
          refine WL.det (fun _ e => R.len_sl rfl (hf69.ext e).sl Try.underlying22) rfl ?_
          refine WL.det (fun _ _ => R.eql rfl rfl) rfl ?_
          refine WL.det (fun _ _ => R.move rfl) rfl ?_
          refine WL.group 2 (g := 75) (j := 3) (want := true) rfl rfl rfl rfl (fun hg10 => ?_) (fun hg10 => ?_)
          · skip
            first | have hg10p := gA1 hg10 | have hg10p := gA2 hg10 | have hg10p := hg10
            refine WL.detg (fun _ _ => R.move rfl) rfl rfl rfl (gd_of hg10) ?_
            refine WL.detg (fun _ _ => R.eql rfl rfl) rfl rfl rfl (gd_of hg10) ?_
            refine WL.det (fun _ _ => R.pick_t rfl hg10 rfl) rfl ?_
            refine WL.det (fun _ _ => R.move rfl) rfl ?_
            refine WL.group 5 (g := 79) (j := 7) (want := true) rfl rfl rfl rfl (fun hg11 => ?_) (fun hg11 => ?_)
            · skip
              first | have hg11p := gA1 hg11 | have hg11p := gA2 hg11 | have hg11p := hg11
              refine WL.detg (fun _ _ => R.move rfl) rfl rfl rfl (gd_of hg11) ?_
              refine WL.callg rfl rfl ⟨rfl, rfl⟩ callOk11 rfl rfl rfl rfl (gd_of hg11) (of_spec _ hf26.sl) ?_
              rintro v81 w12 ⟨rfl, ew12⟩
              replace hf26 := hf26.ext ew12
              replace h1 := h1.ext ew12
              replace hE := Ext.tr hE ew12
              replace hf24 := hf24.ext ew12
              replace hf69 := hf69.ext ew12
              have hsew12 := ew12.size
              refine WL.detg (fun _ _ => R.move rfl) rfl rfl rfl (gd_of hg11) ?_
              refine WL.callg rfl rfl ⟨rfl, rfl⟩ callOk11 rfl rfl rfl rfl (gd_of hg11) (of_spec _ hf24.sl) ?_
              rintro v83 w13 ⟨rfl, ew13⟩
              replace hf26 := hf26.ext ew13
              replace h1 := h1.ext ew13
              replace hE := Ext.tr hE ew13
              replace hf24 := hf24.ext ew13
              replace hf69 := hf69.ext ew13
              have hsew13 := ew13.size
              refine WL.detg (fun _ _ => R.neq rfl rfl) rfl rfl rfl (gd_of hg11) ?_
              refine WL.det (fun _ _ => R.pick_t rfl hg11 rfl) rfl ?_
              refine WL.det (fun _ _ => R.assign rfl) rfl ?_
              refine WL.nil ?_
              refine E.to ?_
              refine W.ret ?_
              refine E.fin1 (.inl rfl) rfl rfl ?_
              exact ⟨_, rfl, congrArg Value.bool (decide_eq_true hB), hE⟩
            · skip
              exact absurd (decide_eq_true hO) hg11
          · skip
            exact absurd (decide_eq_true (by rw [burst_len hO]; rfl)) hg10
  · skip
    first | have hg1p := gA7 hg1 | have hg1p := gA8 hg1 | have hg1p := hg1
    refine WL.det (fun _ _ => R.pick_t rfl (ne_f hg1) rfl) rfl ?_
    refine WL.nil ?_
    refine E.to ?_
    refine W.cond_t rfl ?_
    refine W.seq ?_
    refine W.region ?_
    refine WL.det (fun _ _ => R.assign rfl) rfl ?_
    refine WL.nil ?_
    refine E.to ?_
    refine W.ret ?_
    refine E.thr ?_
    refine E.fin1 (.inl rfl) rfl rfl ?_
    exact ⟨_, rfl, rfl, hE⟩

end Go.Proofs.Ytebinfembfoklaa
