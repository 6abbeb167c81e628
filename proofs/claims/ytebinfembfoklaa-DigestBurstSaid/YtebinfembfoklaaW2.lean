/-
  The walks.
-/
import Derived.Test.YtebinfembfoklaaW1
namespace Go.Proofs.Ytebinfembfoklaa
open Go Go.RowKit Go.G Go.D02

theorem callOk17 : callOk Try.prog 17 = true := by kernel_rfl
theorem callOk31 : callOk Try.prog 31 = true := by kernel_rfl

/-- bookplate/bookplateref02.Join. -/
theorem refjoin_spec (x y n : Int) (hx : R32 x) (hn : n ≤ 9223372036854775807) (w : World) :
    CallsTo Try.prog 21 [.int .u32 x, .int .u32 y, .int .i64 n] w (fun v w1 => v = .int .u32 (refJoinI x y n) ∧ Ext w w1) := by
  have hE := Ext.rfl' w
  obtain ⟨i5, hi5, hz5, hs5, hb5⟩ := inf5
  refine enter (n := 21) (l := [.int .u32 x, .int .u32 y, .int .i64 n]) Try.func21 rfl rfl rfl ?_
  refine W.seq ?_
  refine W.region ?_
  refine WL.det (fun _ _ => R.assign rfl) rfl ?_
  refine WL.nil ?_
  refine E.to ?_
  refine W.seq ?_
  refine W.seq ?_
  refine W.region ?_
  refine WL.det (fun _ _ => R.move rfl) rfl ?_
  refine WL.det (fun _ _ => R.lss rfl rfl) rfl ?_
  refine WL.nil ?_
  refine E.to ?_
  first | refine W.cond_d rfl (fun hc1 => ?_) (fun hc1 => ?_) | refine W.cond_nd rfl (fun hc1 => ?_) (fun hc1 => ?_) | refine W.cond rfl (fun hc1 => ?_) (fun hc1 => ?_)
  · skip
    refine W.seq ?_
    refine W.region ?_
    refine WL.det (fun _ _ => R.assign rfl) rfl ?_
    refine WL.nil ?_
    refine E.to ?_
    refine W.ret ?_
    refine E.thr ?_
    refine E.fin1 (.inl rfl) rfl rfl ?_
    exact ⟨_, rfl, by rw [refJoinI, if_pos (by assumption)], hE⟩
  · skip
    refine W.skip ?_
    refine E.to ?_
    refine W.seq ?_
    refine W.seq ?_
    refine W.region ?_
    refine WL.det (fun _ _ => R.assign rfl) rfl ?_
    refine WL.nil ?_
    refine E.to ?_
    refine W.block ?_
    refine W.loopx1 [1, 2, 6] (fun (k : Nat) => [(0, .val (.int .u32 (iterI (fun r => registerI r [0]) k x))), (7, .val (.int .i64 (k : Int)))]) (fun (k : Nat) wr => ((k : Int) ≤ n) ∧ Ext w wr) (fun (k : Nat) => n.toNat - k) (0) ?_ ?_ ?_
    · exact (Sub.cons rfl (Sub.cons rfl (Sub.cons rfl (Sub.cons rfl (Sub.cons rfl (Sub.nil _))))))
    · skip
      refine ⟨?_, hE⟩
      omega
    intro k w1 hinv
    clear hE
    obtain ⟨hinv, hE⟩ := hinv
    have hsw1 := hE.size
    obtain hk := hinv
    have hr := iter_reg_R hx [0] k
    refine W.seq ?_
    refine W.seq ?_
    refine W.region ?_
    refine WL.det (fun _ _ => R.move rfl) rfl ?_
    refine WL.det (fun _ _ => R.move rfl) rfl ?_
    refine WL.det (fun _ _ => R.lss rfl rfl) rfl ?_
    refine WL.nil ?_
    refine E.to ?_
    first | refine W.cond_d rfl (fun hc2 => ?_) (fun hc2 => ?_) | refine W.cond_nd rfl (fun hc2 => ?_) (fun hc2 => ?_) | refine W.cond rfl (fun hc2 => ?_) (fun hc2 => ?_)
    · skip
      refine W.skip ?_
      refine E.to ?_
      refine W.seq ?_
      refine W.block ?_
      refine W.region ?_
      refine WL.det (fun _ _ => R.move rfl) rfl ?_
      refine WL.mk (M.buildSlice (E := encU8) (ys := [0]) rfl rfl Try.underlying22 hi5 hz5 hs5 (by rfl) rfl (by decide) (by intro v hv; simp at hv; subst hv; rfl) (by rfl)) rfl rfl ?_
      rintro _ w2 ⟨g16, rfl, hg16, hzg16, ew2, hf16⟩
      replace hE := Ext.tr hE ew2
      have hsew2 := ew2.size
      replace hf16 := Own.mono hf16 (b := w.heap.size) (by omega)
      refine WL.call rfl rfl ⟨rfl, rfl⟩ callOk28 rfl rfl (register_spec _ hr _ hf16.sl) ?_
      rintro v17 w3 ⟨rfl, ew3⟩
      replace hE := Ext.tr hE ew3
      replace hf16 := hf16.ext ew3
      have hsew3 := ew3.size
      refine WL.det (fun _ _ => R.assign rfl) rfl ?_
      refine WL.nil ?_
      refine E.inn ?_
      refine E.to ?_
      refine W.region ?_
      refine WL.det (fun _ _ => R.move rfl) rfl ?_
      refine WL.det (fun _ _ => (by first | exact R.add64 rfl rfl (by omega) | exact R.add rfl rfl)) rfl ?_
      refine WL.det (fun _ _ => R.assign rfl) rfl ?_
      refine WL.nil ?_
      refine E.againx1 ((k + 1)) ?_ ?_ ?_
      · exact (Sub.cons rfl (Sub.cons rfl (Sub.cons rfl (Sub.cons rfl (Sub.cons rfl (Sub.nil _))))))
      · skip
        refine ⟨?_, hE⟩
        omega
      · omega
    · skip
      refine W.exit ?_
      refine E.th ?_
      refine E.th ?_
      refine E.hit ?_
      refine E.to ?_
      refine W.seq ?_
      refine W.region ?_
      refine WL.det (fun _ _ => R.move rfl) rfl ?_
      refine WL.det (fun _ _ => R.move rfl) rfl ?_
      refine WL.det (fun _ _ => R.xor rfl rfl) rfl ?_
      refine WL.det (fun _ _ => R.assign rfl) rfl ?_
      refine WL.nil ?_
      refine E.to ?_
      refine W.ret ?_
      refine E.fin1 (.inl rfl) rfl rfl ?_
      exact ⟨_, rfl, by have e6 : n.toNat = k := (by omega); rw [refJoinI, if_neg (by omega), e6], hE⟩

/-- bookplate/digest.Open. -/
theorem open_spec {v1 : Value} {l1 : List UInt8} (hb : l1.length ≤ 100000000) (w : World) {lo_h1 hi_h1 : Nat} (h1 : Sl encU8 w lo_h1 hi_h1 v1 l1) :
    CallsTo Try.prog 19 [v1] w (fun v w1 => ∃ p, v = .tuple #[p, .int .i64 (openE (moreI 0) l1)] ∧ (∃ t, Own encU8 w1 w.heap.size t p (openL (moreI 0) l1)) ∧ Ext w w1) := by
  have hE := Ext.rfl' w
  replace h1 := h1.clip0
  have hl_h1 := h1.len_le
  obtain ⟨i5, hi5, hz5, hs5, hb5⟩ := inf5
  refine enter (n := 24) (l := [v1]) Try.func19 rfl rfl rfl ?_
  refine W.seq ?_
  refine W.region ?_
  refine WL.det (fun _ _ => R.assign rfl) rfl ?_
  refine WL.det (fun _ _ => R.assign rfl) rfl ?_
  refine WL.nil ?_
  refine E.to ?_
  refine W.seq ?_
  refine W.region ?_
  refine WL.det (fun _ _ => R.move rfl) rfl ?_
  refine WL.det (fun _ e => R.len_sl rfl (h1.ext e) Try.underlying22) rfl ?_
  refine WL.det (fun _ _ => (by first | exact R.sub64 rfl rfl (by omega) | exact R.sub rfl rfl)) rfl ?_
  refine WL.det (fun _ _ => R.assign rfl) rfl ?_
  refine WL.nil ?_
  refine E.to ?_
  refine W.seq ?_
  refine W.seq ?_
  refine W.region ?_
  refine WL.det (fun _ _ => R.move rfl) rfl ?_
  refine WL.det (fun _ _ => R.lss rfl rfl) rfl ?_
  refine WL.nil ?_
  refine E.to ?_
  first | refine W.cond_d rfl (fun hc1 => ?_) (fun hc1 => ?_) | refine W.cond_nd rfl (fun hc1 => ?_) (fun hc1 => ?_) | refine W.cond rfl (fun hc1 => ?_) (fun hc1 => ?_)
  · skip
    refine W.seq ?_
    refine W.region ?_
    refine WL.det (fun _ _ => R.assign rfl) rfl ?_
    refine WL.det (fun _ _ => R.assign rfl) rfl ?_
    refine WL.nil ?_
    refine E.to ?_
    refine W.ret ?_
    refine E.thr ?_
    refine E.fin2 (.inl rfl) rfl rfl rfl ?_
    refine ⟨_, rfl, ⟨_, by rw [openE_5 (by omega)], ⟨0, ?_⟩, hE⟩⟩
    rw [openL, if_neg (by rw [openE_5 (by omega)]; decide)]; exact Own.nil _ _ _ _
  · skip
    refine W.skip ?_
    refine E.to ?_
    refine W.seq ?_
    refine W.seq ?_
    refine W.draw 10 (by kernel_rfl) (by kernel_rfl) ?_
    intro w1 ew1
    replace h1 := h1.ext ew1
    replace hE := Ext.tr hE ew1
    have hsew1 := ew1.size
    refine WD.det (fun _ _ => R.move rfl) rfl ?_
    refine WD.det (fun _ _ => R.move rfl) rfl ?_
    refine WD.det (fun _ e => R.sub_hi (j := l1.length - 4) rfl (h1.ext e) (evi rfl (by omega)) (by omega) Try.underlying22 hi5 hs5) rfl ?_
    refine WD.callv rfl rfl ⟨rfl, rfl⟩ callOk11 rfl (fun w1 e => CallsTo.val (of_spec _ ((Sl.sub (j := l1.length - 4) h1 (Nat.zero_le _) (by omega)).ext e))) ?_
    refine WD.go1 (i := .pred (fun u wr => ∃ b, Own encU8 wr b 5 u (tailL (moreI 0 (l1.take (l1.length - 4)))))) rfl (fun w1 e => GivesAll.call rfl rfl ⟨rfl, rfl⟩ callOk30 (Calls.mono (tail_spec _ _) (fun e w9 h => by obtain ⟨v, h1, h2, h3⟩ := h; exact ⟨v, h1, ⟨_, h2⟩, h3⟩))) ?_
    refine WD.det (fun _ _ => R.move rfl) rfl ?_
    refine WD.det (fun _ _ => R.move rfl) rfl ?_
    refine WD.det (fun _ e => R.sub_lo (i := l1.length - 4) rfl (h1.ext e) (evi rfl (by omega)) (by omega) Try.underlying22 hi5 hs5) rfl ?_
    refine WD.go1 (i := .val (.bool (decide (tailL (moreI 0 (l1.take (l1.length - 4))) = l1.drop (l1.length - 4))))) rfl (fun w1 e => GivesAll.open (t := 14) rfl rfl (fun u14 wq14 eq14 hq14 => ?_)) ?_
    · skip
      obtain ⟨b9, hq⟩ := hq14
      exact GivesAll.callv rfl rfl ⟨rfl, rfl⟩ callOk31 (equal_spec _ (hq.ext eq14).sl ((Sl.sub_lo (i := l1.length - 4) h1 (by omega)).ext e))
    refine WD.det (fun _ _ => R.not rfl) rfl ?_
    refine WD.nil (fun w2 ew2 => ?_)
    replace h1 := h1.ext ew2
    replace hE := Ext.tr hE ew2
    have hsew2 := ew2.size
    refine WL.forget 14 ?_
    refine WL.nil ?_
    refine E.to ?_
    first | refine W.cond_d rfl (fun hc2 => ?_) (fun hc2 => ?_) | refine W.cond_nd rfl (fun hc2 => ?_) (fun hc2 => ?_) | refine W.cond rfl (fun hc2 => ?_) (fun hc2 => ?_)
    · skip
      refine W.seq ?_
      refine W.region ?_
      refine WL.det (fun _ _ => R.assign rfl) rfl ?_
      refine WL.det (fun _ _ => R.assign rfl) rfl ?_
      refine WL.nil ?_
      refine E.to ?_
      refine W.ret ?_
      refine E.thr ?_
      refine E.fin2 (.inl rfl) rfl rfl rfl ?_
      refine ⟨_, rfl, ⟨_, by rw [openE_6 (by omega) (by simpa using hc2)], ⟨0, ?_⟩, hE⟩⟩
      rw [openL, if_neg (by rw [openE_6 (by omega) (by simpa using hc2)]; decide)]; exact Own.nil _ _ _ _
    · skip
      refine W.skip ?_
      refine E.to ?_
      refine W.seq ?_
      refine W.region ?_
      refine WL.det (fun _ _ => R.move rfl) rfl ?_
      refine WL.det (fun _ _ => R.move rfl) rfl ?_
      refine WL.det (fun _ e => R.sub_hi (j := l1.length - 4) rfl (h1.ext e) (evi rfl (by omega)) (by omega) Try.underlying22 hi5 hs5) rfl ?_
      refine WL.call rfl rfl ⟨rfl, rfl⟩ callOk29 rfl rfl (clone_spec (by simp; omega) _ (Sl.sub (j := l1.length - 4) h1 (Nat.zero_le _) (by omega))) ?_
      rintro v23 w3 ⟨hf23, ew3⟩
      replace h1 := h1.ext ew3
      replace hE := Ext.tr hE ew3
      have hsew3 := ew3.size
      replace hf23 := Own.mono hf23 (b := w.heap.size) (by omega)
      refine WL.det (fun _ _ => R.assign rfl) rfl ?_
      refine WL.det (fun _ _ => R.assign rfl) rfl ?_
      refine WL.nil ?_
      refine E.to ?_
      refine W.ret ?_
      refine E.fin2 (.inl rfl) rfl rfl rfl ?_
      refine ⟨_, rfl, ⟨_, by rw [openE_0 (by omega) (by simpa using hc2)], ⟨5, ?_⟩, hE⟩⟩
      rw [openL, if_pos (openE_0 (by omega) (by simpa using hc2))]; exact hf23

/-- bookplate/bookplateref02.Open. -/
theorem refopen_spec {v1 : Value} {l1 : List UInt8} (hb : l1.length ≤ 100000000) (w : World) {lo_h1 hi_h1 : Nat} (h1 : Sl encU8 w lo_h1 hi_h1 v1 l1) :
    CallsTo Try.prog 22 [v1] w (fun v w1 => ∃ p, v = .tuple #[p, .int .i64 (openE (refMoreI 0) l1)] ∧ (∃ t, Own encU8 w1 w.heap.size t p (openL (refMoreI 0) l1)) ∧ Ext w w1) := by
  have hE := Ext.rfl' w
  replace h1 := h1.clip0
  have hl_h1 := h1.len_le
  obtain ⟨i5, hi5, hz5, hs5, hb5⟩ := inf5
  refine enter (n := 22) (l := [v1]) Try.func22 rfl rfl rfl ?_
  refine W.seq ?_
  refine W.region ?_
  refine WL.det (fun _ _ => R.assign rfl) rfl ?_
  refine WL.det (fun _ _ => R.assign rfl) rfl ?_
  refine WL.nil ?_
  refine E.to ?_
  refine W.seq ?_
  refine W.seq ?_
  refine W.region ?_
  refine WL.det (fun _ _ => R.move rfl) rfl ?_
  refine WL.det (fun _ e => R.len_sl rfl (h1.ext e) Try.underlying22) rfl ?_
  refine WL.det (fun _ _ => R.lss rfl rfl) rfl ?_
  refine WL.nil ?_
  refine E.to ?_
  first | refine W.cond_d rfl (fun hc1 => ?_) (fun hc1 => ?_) | refine W.cond_nd rfl (fun hc1 => ?_) (fun hc1 => ?_) | refine W.cond rfl (fun hc1 => ?_) (fun hc1 => ?_)
  · skip
    refine W.seq ?_
    refine W.region ?_
    refine WL.det (fun _ _ => R.assign rfl) rfl ?_
    refine WL.det (fun _ _ => R.assign rfl) rfl ?_
    refine WL.nil ?_
    refine E.to ?_
    refine W.ret ?_
    refine E.thr ?_
    refine E.fin2 (.inl rfl) rfl rfl rfl ?_
    refine ⟨_, rfl, ⟨_, by rw [openE_5 (by omega)], ⟨0, ?_⟩, hE⟩⟩
    rw [openL, if_neg (by rw [openE_5 (by omega)]; decide)]; exact Own.nil _ _ _ _
  · skip
    refine W.skip ?_
    refine E.to ?_
    refine W.seq ?_
    refine W.region ?_
    refine WL.det (fun _ _ => R.move rfl) rfl ?_
    refine WL.det (fun _ _ => R.move rfl) rfl ?_
    refine WL.det (fun _ e => R.len_sl rfl (h1.ext e) Try.underlying22) rfl ?_
    refine WL.det (fun _ _ => (by first | exact R.sub64 rfl rfl (by omega) | exact R.sub rfl rfl)) rfl ?_
    refine WL.det (fun _ e => R.sub_hi (j := l1.length - 4) rfl (h1.ext e) (evi rfl (by omega)) (by omega) Try.underlying22 hi5 hs5) rfl ?_
    refine WL.det (fun _ _ => R.assign rfl) rfl ?_
    refine WL.nil ?_
    refine E.to ?_
    refine W.seq ?_
    refine W.seq ?_
    refine W.draw 6 (by kernel_rfl) (by kernel_rfl) ?_
    intro w1 ew1
    replace h1 := h1.ext ew1
    replace hE := Ext.tr hE ew1
    have hsew1 := ew1.size
    refine WD.det (fun _ _ => R.move rfl) rfl ?_
    refine WD.go1 (i := .pred (fun u wr => ∃ b, Own encU8 wr b 5 u (l1.take (l1.length - 4) ++ tailL (refMoreI 0 (l1.take (l1.length - 4)))))) rfl (fun w1 e => GivesAll.call rfl rfl ⟨rfl, rfl⟩ callOk17 (Calls.mono (refseal_spec (by simp; omega) _ ((Sl.sub (j := l1.length - 4) h1 (Nat.zero_le _) (by omega)).ext e)) (fun e w9 h => by obtain ⟨v, h1, h2, h3⟩ := h; exact ⟨v, h1, ⟨_, h2⟩, h3⟩))) ?_
    refine WD.go1 (i := .val (.string ⟨(l1.take (l1.length - 4) ++ tailL (refMoreI 0 (l1.take (l1.length - 4)))).toArray⟩)) rfl (fun w1 e => GivesAll.open (t := 14) rfl rfl (fun u14 wq14 eq14 hq14 => ?_)) ?_
    · skip
      obtain ⟨b9, hq⟩ := hq14
      exact GivesAll.det (R.b2s rfl (hq.ext eq14).sl Try.underlying22 Try.underlying5 Try.underlying9)
    refine WD.det (fun _ _ => R.move rfl) rfl ?_
    refine WD.det (fun _ e => R.b2s rfl (h1.ext e) Try.underlying22 Try.underlying5 Try.underlying9) rfl ?_
    refine WD.det (fun _ _ => R.strne rfl rfl) rfl ?_
    refine WD.nil (fun w2 ew2 => ?_)
    replace h1 := h1.ext ew2
    replace hE := Ext.tr hE ew2
    have hsew2 := ew2.size
    refine WL.forget 14 ?_
    refine WL.nil ?_
    refine E.to ?_
    first | refine W.cond_d rfl (fun hc2 => ?_) (fun hc2 => ?_) | refine W.cond_nd rfl (fun hc2 => ?_) (fun hc2 => ?_) | refine W.cond rfl (fun hc2 => ?_) (fun hc2 => ?_)
    · skip
      refine W.seq ?_
      refine W.region ?_
      refine WL.det (fun _ _ => R.assign rfl) rfl ?_
      refine WL.det (fun _ _ => R.assign rfl) rfl ?_
      refine WL.nil ?_
      refine E.to ?_
      refine W.ret ?_
      refine E.thr ?_
      refine E.fin2 (.inl rfl) rfl rfl rfl ?_
      have hc2 := hc2
      simp only [bytes_toList, seal_iff (show ¬ l1.length < 4 by omega)] at hc2
      refine ⟨_, rfl, ⟨_, by rw [openE_6 (by omega) (by simpa using hc2)], ⟨0, ?_⟩, hE⟩⟩
      rw [openL, if_neg (by rw [openE_6 (by omega) (by simpa using hc2)]; decide)]; exact Own.nil _ _ _ _
    · skip
      refine W.skip ?_
      refine E.to ?_
      refine W.seq ?_
      refine W.region ?_
      refine WL.mk (M.buildSlice (E := encU8) (ys := []) rfl rfl Try.underlying22 hi5 hz5 hs5 (by rfl) rfl (by decide) (by intro v hv; simp at hv) (by rfl)) rfl rfl ?_
      rintro _ w3 ⟨g19, rfl, hg19, hzg19, ew3, hf19⟩
      replace h1 := h1.ext ew3
      replace hE := Ext.tr hE ew3
      have hsew3 := ew3.size
      replace hf19 := Own.mono hf19 (b := w.heap.size) (by omega)
      refine WL.det (fun _ _ => R.move rfl) rfl ?_
      refine WL.mk (M.append rfl rfl hf19 (Sl.sub (j := l1.length - 4) h1 (Nat.zero_le _) (by omega)) Try.underlying22 hi5 hz5 hs5 rfl (by intros; rfl) (by rw [hb5]; simp; omega) (by simp; omega) (by omega)) rfl rfl ?_
      rintro v21 w4 ⟨hf21, hgw4, hat21⟩
      have hzw4 := hgw4.size
      replace h1 := h1.far hgw4 (fun k hk => by have := hf19.lt k hk; omega)
      replace hE := Ext.grown hE hgw4 (fun k hk => by have := hf19.lt k hk; omega)
      refine WL.det (fun _ _ => R.assign rfl) rfl ?_
      refine WL.det (fun _ _ => R.assign rfl) rfl ?_
      refine WL.nil ?_
      refine E.to ?_
      refine W.ret ?_
      refine E.fin2 (.inl rfl) rfl rfl rfl ?_
      simp only [bytes_toList, seal_iff (show ¬ l1.length < 4 by omega)] at hc2
      refine ⟨_, rfl, ⟨_, by rw [openE_0 (by omega) (by simpa using hc2)], ⟨5, ?_⟩, hE⟩⟩
      rw [openL, if_pos (openE_0 (by omega) (by simpa using hc2))]; simpa using hf21

end Go.Proofs.Ytebinfembfoklaa
