/-
  The walks.
-/
import Derived.Test.YtebinfembfoklaaW2
namespace Go.Proofs.Ytebinfembfoklaa
open Go Go.RowKit Go.G Go.D02

theorem callOk35 : callOk Try.prog 35 = true := by kernel_rfl
theorem callOk36 : callOk Try.prog 36 = true := by kernel_rfl
theorem callOk38 : callOk Try.prog 38 = true := by kernel_rfl

theorem ib39 (s : ByteArray) (c : UInt8) (w : World) : (callFunc 39 #[.string s, .int .u8 (c.toNat : Nat)]).run Try.prog w = .ok (.value (.int .i64 (Lib.indexByte s.data.toList c))) w := by
  rw [run_callFunc_indexByte Try.func39 rfl rfl (by kernel_rfl) (by rfl)]
  rw [Lib.run_indexByteString]
  simp [Result.andThen]

/-- internal/stringslite.IndexByte. -/
theorem ib38 (s : ByteArray) (c : UInt8) (w : World) :
    CallsTo Try.prog 38 [.string s, .int .u8 (c.toNat : Nat)] w (fun v w1 => v = .int .i64 (Lib.indexByte s.data.toList c) ∧ Ext w w1) := by
  have hE := Ext.rfl' w
  refine enter (n := 8) (l := [.string s, .int .u8 (c.toNat : Nat)]) Try.func38 rfl rfl rfl ?_
  refine W.seq ?_
  refine W.region ?_
  refine WL.det (fun _ _ => R.assign rfl) rfl ?_
  refine WL.nil ?_
  refine E.to ?_
  refine W.seq ?_
  refine W.region ?_
  refine WL.det (fun _ _ => R.move rfl) rfl ?_
  refine WL.det (fun _ _ => R.move rfl) rfl ?_
  refine WL.det (fun _ _ => R.extern rfl (ib39 _ _ _)) rfl ?_
  refine WL.det (fun _ _ => R.assign rfl) rfl ?_
  refine WL.nil ?_
  refine E.to ?_
  refine W.ret ?_
  refine E.fin1 (.inl rfl) rfl rfl ?_
  exact ⟨_, rfl, rfl, hE⟩

/-- strings.IndexByte. -/
theorem ib35 (s : ByteArray) (c : UInt8) (w : World) :
    CallsTo Try.prog 35 [.string s, .int .u8 (c.toNat : Nat)] w (fun v w1 => v = .int .i64 (Lib.indexByte s.data.toList c) ∧ Ext w w1) := by
  have hE := Ext.rfl' w
  refine enter (n := 8) (l := [.string s, .int .u8 (c.toNat : Nat)]) Try.func35 rfl rfl rfl ?_
  refine W.seq ?_
  refine W.region ?_
  refine WL.det (fun _ _ => R.assign rfl) rfl ?_
  refine WL.nil ?_
  refine E.to ?_
  refine W.seq ?_
  refine W.region ?_
  refine WL.det (fun _ _ => R.move rfl) rfl ?_
  refine WL.det (fun _ _ => R.move rfl) rfl ?_
  refine WL.call rfl rfl ⟨rfl, rfl⟩ callOk38 rfl rfl (ib38 _ _ _) ?_
  rintro v7 w1 ⟨rfl, ew1⟩
  replace hE := Ext.tr hE ew1
  have hsew1 := ew1.size
  refine WL.det (fun _ _ => R.assign rfl) rfl ?_
  refine WL.nil ?_
  refine E.to ?_
  refine W.ret ?_
  refine E.fin1 (.inl rfl) rfl rfl ?_
  exact ⟨_, rfl, rfl, hE⟩

/-- bookplate/digest.Parse. -/
theorem parse_spec (s : ByteArray) (w : World) :
    CallsTo Try.prog 23 [.string s] w (fun v w1 => v = .tuple #[.int .u32 (outN s.data.toList (parseG s.data.toList 0)), .int .i64 (outE s.data.toList (parseG s.data.toList 0))] ∧ Ext w w1) := by
  have hE := Ext.rfl' w
  have hz := ba_size s
  refine enter (n := 28) (l := [.string s]) Try.func23 rfl rfl rfl ?_
  refine W.seq ?_
  refine W.region ?_
  refine WL.det (fun _ _ => R.assign rfl) rfl ?_
  refine WL.det (fun _ _ => R.assign rfl) rfl ?_
  refine WL.nil ?_
  refine E.to ?_
  refine W.seq ?_
  refine W.seq ?_
  refine W.region ?_
  refine WL.det (fun _ _ => R.move rfl) rfl ?_
  refine WL.det (fun _ _ => R.len_str rfl Try.underlying9) rfl ?_
  refine WL.det (fun _ _ => R.neq rfl rfl) rfl ?_
  refine WL.nil ?_
  refine E.to ?_
  first | refine W.cond_d rfl (fun hc1 => ?_) (fun hc1 => ?_) | refine W.cond_nd rfl (fun hc1 => ?_) (fun hc1 => ?_) | refine W.cond rfl (fun hc1 => ?_) (fun hc1 => ?_)
  · skip
    refine W.seq ?_
    refine W.region ?_
    refine WL.det (fun _ _ => R.assign rfl) rfl ?_
    refine WL.det (fun _ _ => R.assign rfl) rfl ?_
    refine WL.nil ?_
    refine E.to ?_
    refine W.ret ?_
    refine E.thr ?_
    refine E.fin2 (.inl rfl) rfl rfl rfl ?_
    exact ⟨_, rfl, by rw [out_len1 (by omega), out_len2 (by omega)], hE⟩
  · skip
    refine W.skip ?_
    refine E.to ?_
    refine W.seq ?_
    refine W.region ?_
    refine WL.det (fun _ _ => R.assign rfl) rfl ?_
    refine WL.nil ?_
    refine E.to ?_
    refine W.seq ?_
    refine W.seq ?_
    refine W.region ?_
    refine WL.det (fun _ _ => R.move rfl) rfl ?_
    refine WL.det (fun _ _ => R.len_str rfl Try.underlying9) rfl ?_
    refine WL.det (fun _ _ => R.move rfl) rfl ?_
    refine WL.nil ?_
    refine E.to ?_
    refine W.block ?_
    refine W.loopx2 [0, 11] (fun (k : Nat) (h : Int) => [(4, .val (.int .u32 h)), (12, .val (.int .i64 (k : Int)))]) (fun (k : Nat) (h : Int) wr => (k ≤ 8 ∧ parseG (s.data.toList.drop k) h = parseG s.data.toList 0) ∧ Ext w wr) (fun (k : Nat) (h : Int) => 8 - k) (0) (0) ?_ ?_ ?_
    · exact (Sub.cons rfl (Sub.cons rfl (Sub.cons rfl (Sub.cons rfl (Sub.nil _)))))
    · skip
      refine ⟨?_, hE⟩
      exact ⟨by omega, rfl⟩
    intro k h w1 hinv
    clear hE
    obtain ⟨hinv, hE⟩ := hinv
    have hsw1 := hE.size
    obtain ⟨hk, hp⟩ := hinv
    refine W.seq ?_
    refine W.region ?_
    refine WL.det (fun _ _ => R.lss rfl rfl) rfl ?_
    refine WL.nil ?_
    refine E.to ?_
    refine W.seq ?_
    first | refine W.cond_d rfl (fun hc2 => ?_) (fun hc2 => ?_) | refine W.cond_nd rfl (fun hc2 => ?_) (fun hc2 => ?_) | refine W.cond rfl (fun hc2 => ?_) (fun hc2 => ?_)
    · skip
      refine W.skip ?_
      refine E.to ?_
      refine W.seq ?_
      refine W.block ?_
      refine W.seq ?_
      refine W.region ?_
      refine WL.det (fun _ _ => R.move rfl) rfl ?_
      refine WL.det (fun _ _ => R.assign rfl) rfl ?_
      refine WL.nil ?_
      refine E.to ?_
      refine W.seq ?_
      refine W.region ?_
      refine WL.det (fun _ _ => R.move rfl) rfl ?_
      refine WL.det (fun _ _ => R.move rfl) rfl ?_
      refine WL.det (fun _ _ => R.stridx rfl rfl Try.underlying9 (by omega)) rfl ?_
      refine WL.call rfl rfl ⟨rfl, rfl⟩ callOk35 rfl rfl (ib35 _ _ _) ?_
      rintro v18 w2 ⟨rfl, ew2⟩
      replace hE := Ext.tr hE ew2
      have hsew2 := ew2.size
      refine WL.det (fun _ _ => R.assign rfl) rfl ?_
      refine WL.nil ?_
      refine E.to ?_
      refine W.seq ?_
      refine W.seq ?_
      refine W.region ?_
      refine WL.det (fun _ _ => R.move rfl) rfl ?_
      refine WL.det (fun _ _ => R.lss rfl rfl) rfl ?_
      refine WL.nil ?_
      refine E.to ?_
      first | refine W.cond_d rfl (fun hc3 => ?_) (fun hc3 => ?_) | refine W.cond_nd rfl (fun hc3 => ?_) (fun hc3 => ?_) | refine W.cond rfl (fun hc3 => ?_) (fun hc3 => ?_)
      · skip
        refine W.seq ?_
        refine W.region ?_
        refine WL.det (fun _ _ => R.assign rfl) rfl ?_
        refine WL.det (fun _ _ => R.assign rfl) rfl ?_
        refine WL.nil ?_
        refine E.to ?_
        refine W.ret ?_
        refine E.thr ?_
        refine E.inr ?_
        refine E.thr ?_
        refine E.thr ?_
        refine E.inr ?_
        refine E.thr ?_
        refine E.fin2 (.inl rfl) rfl rfl rfl ?_
        exact ⟨_, rfl, by rw [← hp, parseG_stop (by omega) (by assumption), out_none1, out_none2], hE⟩
      · skip
        refine W.skip ?_
        refine E.to ?_
        refine W.region ?_
        refine WL.det (fun _ _ => R.move rfl) rfl ?_
        refine WL.det (fun _ _ => R.shl_c (q := 16) rfl rfl (by decide) (by decide)) rfl ?_
        refine WL.det (fun _ _ => R.move rfl) rfl ?_
        refine WL.det (fun _ _ => (by first | exact R.conv32 rfl Try.underlying3 Try.underlying24 (by omega) | exact R.conv rfl Try.underlying3 Try.underlying24)) rfl ?_
        refine WL.det (fun _ _ => R.or rfl rfl) rfl ?_
        refine WL.det (fun _ _ => R.assign rfl) rfl ?_
        refine WL.nil ?_
        refine E.inn ?_
        refine E.to ?_
        refine W.region ?_
        refine WL.det (fun _ _ => (by first | exact R.add64 rfl rfl (by omega) | exact R.add rfl rfl)) rfl ?_
        refine WL.det (fun _ _ => R.move rfl) rfl ?_
        refine WL.nil ?_
        refine E.againx2 ((k + 1)) ((parseA h (Lib.indexByte digitsL s.data.toList[k]!))) ?_ ?_ ?_
        · exact (Sub.cons rfl (Sub.cons rfl (Sub.cons rfl (Sub.cons rfl (Sub.nil _)))))
        · skip
          refine ⟨?_, hE⟩
          exact ⟨by omega, by rw [← hp, parseG_step (by omega) (by assumption)]⟩
        · omega
    · skip
      refine W.exit ?_
      refine E.th ?_
      refine E.th ?_
      refine E.hit ?_
      refine E.to ?_
      refine W.seq ?_
      refine W.region ?_
      refine WL.det (fun _ _ => R.move rfl) rfl ?_
      refine WL.det (fun _ _ => R.assign rfl) rfl ?_
      refine WL.det (fun _ _ => R.assign rfl) rfl ?_
      refine WL.nil ?_
      refine E.to ?_
      refine W.ret ?_
      refine E.fin2 (.inl rfl) rfl rfl rfl ?_
      have e8 : k = 8 := (by omega)
      subst e8
      exact ⟨_, rfl, by rw [← hp, List.drop_of_length_le (by omega)]; rw [out_some1 (by omega), out_some2 (by omega)], hE⟩

/-- bookplate/bookplateref02.digit. -/
theorem digit_spec (c : UInt8) (w : World) :
    CallsTo Try.prog 36 [.int .u8 (c.toNat : Nat)] w (fun v w1 => v = .int .u32 (digI c) ∧ Ext w w1) := by
  have hE := Ext.rfl' w
  refine enter (n := 13) (l := [.int .u8 (c.toNat : Nat)]) Try.func36 rfl rfl rfl ?_
  refine W.seq ?_
  refine W.region ?_
  refine WL.det (fun _ _ => R.assign rfl) rfl ?_
  refine WL.nil ?_
  refine E.to ?_
  refine W.seq ?_
  refine W.seq ?_
  refine W.region ?_
  refine WL.det (fun _ _ => R.assign rfl) rfl ?_
  refine WL.nil ?_
  refine E.to ?_
  refine W.block ?_
  refine W.loopx1 [0] (fun (k : Nat) => [(3, .val (.int .u32 (k : Int)))]) (fun (k : Nat) wr => (k ≤ 16 ∧ digitsL.idxOf c = k + (digitsL.drop k).idxOf c) ∧ Ext w wr) (fun (k : Nat) => 16 - k) (0) ?_ ?_ ?_
  · exact (Sub.cons rfl (Sub.cons rfl (Sub.nil _)))
  · skip
    refine ⟨?_, hE⟩
    exact ⟨by omega, by simp⟩
  intro k w1 hinv
  clear hE
  obtain ⟨hinv, hE⟩ := hinv
  have hsw1 := hE.size
  obtain ⟨hk, hp⟩ := hinv
  refine W.seq ?_
  refine W.seq ?_
  refine W.region ?_
  refine WL.det (fun _ _ => R.move rfl) rfl ?_
  refine WL.det (fun _ _ => R.lss rfl rfl) rfl ?_
  refine WL.nil ?_
  refine E.to ?_
  first | refine W.cond_d rfl (fun hc1 => ?_) (fun hc1 => ?_) | refine W.cond_nd rfl (fun hc1 => ?_) (fun hc1 => ?_) | refine W.cond rfl (fun hc1 => ?_) (fun hc1 => ?_)
  · skip
    refine W.skip ?_
    refine E.to ?_
    refine W.seq ?_
    refine W.block ?_
    refine W.seq ?_
    refine W.region ?_
    refine WL.det (fun _ _ => R.move rfl) rfl ?_
    refine WL.det (fun _ _ => R.stridx rfl rfl Try.underlying9 (by exact Nat.lt_of_lt_of_le (show k < 16 by omega) (by decide))) rfl ?_
    refine WL.det (fun _ _ => R.move rfl) rfl ?_
    refine WL.det (fun _ _ => R.eql rfl rfl) rfl ?_
    refine WL.nil ?_
    refine E.to ?_
    first | refine W.cond_d rfl (fun hc2 => ?_) (fun hc2 => ?_) | refine W.cond_nd rfl (fun hc2 => ?_) (fun hc2 => ?_) | refine W.cond rfl (fun hc2 => ?_) (fun hc2 => ?_)
    · skip
      refine W.seq ?_
      refine W.region ?_
      refine WL.det (fun _ _ => R.move rfl) rfl ?_
      refine WL.det (fun _ _ => R.assign rfl) rfl ?_
      refine WL.nil ?_
      refine E.to ?_
      refine W.ret ?_
      refine E.inr ?_
      refine E.thr ?_
      refine E.thr ?_
      refine E.inr ?_
      refine E.thr ?_
      refine E.fin1 (.inl rfl) rfl rfl ?_
      exact ⟨_, rfl, by rw [digI, hp, dig_here (by omega) (by assumption)]; rfl, hE⟩
    · skip
      refine W.skip ?_
      refine E.inn ?_
      refine E.to ?_
      refine W.region ?_
      refine WL.det (fun _ _ => R.move rfl) rfl ?_
      refine WL.det (fun _ _ => R.add rfl rfl) rfl ?_
      refine WL.det (fun _ _ => R.assign rfl) rfl ?_
      refine WL.nil ?_
      refine E.againx1 ((k + 1)) ?_ ?_ ?_
      · exact (Sub.val rfl (by rw [IntWalk.u32_in _ (by omega)]; rfl) (Sub.cons rfl (Sub.nil _)))
      · skip
        refine ⟨?_, hE⟩
        exact ⟨by omega, by rw [hp, dig_next (by omega) (by assumption)]; omega⟩
      · omega
  · skip
    refine W.exit ?_
    refine E.th ?_
    refine E.th ?_
    refine E.hit ?_
    refine E.to ?_
    refine W.seq ?_
    refine W.region ?_
    refine WL.det (fun _ _ => R.assign rfl) rfl ?_
    refine WL.nil ?_
    refine E.to ?_
    refine W.ret ?_
    refine E.fin1 (.inl rfl) rfl rfl ?_
    have e8 : k = 16 := (by omega)
    subst e8
    exact ⟨_, rfl, by rw [digI, hp]; rfl, hE⟩

/-- bookplate/bookplateref02.Parse. -/
theorem refparse_spec (s : ByteArray) (hs : s.size ≤ 9223372036854775807) (w : World) :
    CallsTo Try.prog 24 [.string s] w (fun v w1 => v = .tuple #[.int .u32 (outN s.data.toList (parseQ s.data.toList 0)), .int .i64 (outE s.data.toList (parseQ s.data.toList 0))] ∧ Ext w w1) := by
  have hE := Ext.rfl' w
  have hz := ba_size s
  refine enter (n := 28) (l := [.string s]) Try.func24 rfl rfl rfl ?_
  refine W.seq ?_
  refine W.region ?_
  refine WL.det (fun _ _ => R.assign rfl) rfl ?_
  refine WL.det (fun _ _ => R.assign rfl) rfl ?_
  refine WL.nil ?_
  refine E.to ?_
  refine W.seq ?_
  refine W.region ?_
  refine WL.det (fun _ _ => R.assign rfl) rfl ?_
  refine WL.nil ?_
  refine E.to ?_
  refine W.seq ?_
  refine W.seq ?_
  refine W.region ?_
  refine WL.det (fun _ _ => R.assign rfl) rfl ?_
  refine WL.nil ?_
  refine E.to ?_
  refine W.block ?_
  refine W.loopx2 [0] (fun (k : Nat) (h : Int) => [(4, .val (.int .u32 h)), (5, .val (.int .i64 (k : Int)))]) (fun (k : Nat) (h : Int) wr => (k ≤ s.size ∧ parseQ (s.data.toList.drop k) h = parseQ s.data.toList 0) ∧ Ext w wr) (fun (k : Nat) (h : Int) => s.size - k) (0) (0) ?_ ?_ ?_
  · exact (Sub.cons rfl (Sub.cons rfl (Sub.cons rfl (Sub.nil _))))
  · skip
    refine ⟨?_, hE⟩
    exact ⟨by omega, rfl⟩
  intro k h w1 hinv
  clear hE
  obtain ⟨hinv, hE⟩ := hinv
  have hsw1 := hE.size
  obtain ⟨hk, hp⟩ := hinv
  refine W.seq ?_
  refine W.seq ?_
  refine W.region ?_
  refine WL.det (fun _ _ => R.move rfl) rfl ?_
  refine WL.det (fun _ _ => R.move rfl) rfl ?_
  refine WL.det (fun _ _ => R.len_str rfl Try.underlying9) rfl ?_
  refine WL.det (fun _ _ => R.lss rfl rfl) rfl ?_
  refine WL.nil ?_
  refine E.to ?_
  first | refine W.cond_d rfl (fun hc1 => ?_) (fun hc1 => ?_) | refine W.cond_nd rfl (fun hc1 => ?_) (fun hc1 => ?_) | refine W.cond rfl (fun hc1 => ?_) (fun hc1 => ?_)
  · skip
    refine W.skip ?_
    refine E.to ?_
    refine W.seq ?_
    refine W.block ?_
    refine W.seq ?_
    refine W.seq ?_
    refine W.region ?_
    refine WL.det (fun _ _ => R.move rfl) rfl ?_
    refine WL.det (fun _ _ => R.move rfl) rfl ?_
    refine WL.det (fun _ _ => R.stridx rfl rfl Try.underlying9 (by omega)) rfl ?_
    refine WL.call rfl rfl ⟨rfl, rfl⟩ callOk36 rfl rfl (digit_spec _ _) ?_
    rintro v15 w2 ⟨rfl, ew2⟩
    replace hE := Ext.tr hE ew2
    have hsew2 := ew2.size
    refine WL.det (fun _ _ => R.eql rfl rfl) rfl ?_
    refine WL.nil ?_
    refine E.to ?_
    first | refine W.cond_d rfl (fun hc2 => ?_) (fun hc2 => ?_) | refine W.cond_nd rfl (fun hc2 => ?_) (fun hc2 => ?_) | refine W.cond rfl (fun hc2 => ?_) (fun hc2 => ?_)
    · skip
      refine W.seq ?_
      refine W.region ?_
      refine WL.det (fun _ _ => R.assign rfl) rfl ?_
      refine WL.det (fun _ _ => R.assign rfl) rfl ?_
      refine WL.nil ?_
      refine E.to ?_
      refine W.ret ?_
      refine E.thr ?_
      refine E.inr ?_
      refine E.thr ?_
      refine E.thr ?_
      refine E.inr ?_
      refine E.thr ?_
      refine E.fin2 (.inl rfl) rfl rfl rfl ?_
      exact ⟨_, rfl, by rw [← hp, parseQ_stop (by omega) (by assumption), out_none1, out_none2], hE⟩
    · skip
      refine W.skip ?_
      refine E.to ?_
      refine W.region ?_
      refine WL.det (fun _ _ => R.move rfl) rfl ?_
      refine WL.det (fun _ _ => R.mul rfl rfl) rfl ?_
      refine WL.det (fun _ _ => R.move rfl) rfl ?_
      refine WL.det (fun _ _ => R.move rfl) rfl ?_
      refine WL.det (fun _ _ => R.stridx rfl rfl Try.underlying9 (by omega)) rfl ?_
      refine WL.call rfl rfl ⟨rfl, rfl⟩ callOk36 rfl rfl (digit_spec _ _) ?_
      rintro v22 w3 ⟨rfl, ew3⟩
      replace hE := Ext.tr hE ew3
      have hsew3 := ew3.size
      refine WL.det (fun _ _ => R.add rfl rfl) rfl ?_
      refine WL.det (fun _ _ => R.assign rfl) rfl ?_
      refine WL.nil ?_
      refine E.inn ?_
      refine E.to ?_
      refine W.region ?_
      refine WL.det (fun _ _ => R.move rfl) rfl ?_
      refine WL.det (fun _ _ => (by first | exact R.add64 rfl rfl (by omega) | exact R.add rfl rfl)) rfl ?_
      refine WL.det (fun _ _ => R.assign rfl) rfl ?_
      refine WL.nil ?_
      refine E.againx2 ((k + 1)) ((parseB h (digI s.data.toList[k]!))) ?_ ?_ ?_
      · exact (Sub.cons rfl (Sub.cons rfl (Sub.cons rfl (Sub.nil _))))
      · skip
        refine ⟨?_, hE⟩
        exact ⟨by omega, by rw [← hp, parseQ_step (by omega) (by assumption)]⟩
      · omega
  · skip
    refine W.exit ?_
    refine E.th ?_
    refine E.th ?_
    refine E.hit ?_
    refine E.to ?_
    refine W.seq ?_
    refine W.seq ?_
    refine W.region ?_
    refine WL.det (fun _ _ => R.move rfl) rfl ?_
    refine WL.det (fun _ _ => R.len_str rfl Try.underlying9) rfl ?_
    refine WL.det (fun _ _ => R.neq rfl rfl) rfl ?_
    refine WL.nil ?_
    refine E.to ?_
    first | refine W.cond_d rfl (fun hc3 => ?_) (fun hc3 => ?_) | refine W.cond_nd rfl (fun hc3 => ?_) (fun hc3 => ?_) | refine W.cond rfl (fun hc3 => ?_) (fun hc3 => ?_)
    · skip
      refine W.seq ?_
      refine W.region ?_
      refine WL.det (fun _ _ => R.assign rfl) rfl ?_
      refine WL.det (fun _ _ => R.assign rfl) rfl ?_
      refine WL.nil ?_
      refine E.to ?_
      refine W.ret ?_
      refine E.thr ?_
      refine E.fin2 (.inl rfl) rfl rfl rfl ?_
      exact ⟨_, rfl, by rw [out_len1 (by omega), out_len2 (by omega)], hE⟩
    · skip
      refine W.skip ?_
      refine E.to ?_
      refine W.seq ?_
      refine W.region ?_
      refine WL.det (fun _ _ => R.move rfl) rfl ?_
      refine WL.det (fun _ _ => R.assign rfl) rfl ?_
      refine WL.det (fun _ _ => R.assign rfl) rfl ?_
      refine WL.nil ?_
      refine E.to ?_
      refine W.ret ?_
      refine E.fin2 (.inl rfl) rfl rfl rfl ?_
      exact ⟨_, rfl, by rw [← hp, List.drop_of_length_le (by omega)]; rw [out_some1' (by omega), out_some2' (by omega)], hE⟩

/-- bookplate/digest.Print. -/
theorem print_spec (h : Int) (w : World) :
    CallsTo Try.prog 25 [.int .u32 h] w (fun v w1 => v = .string ⟨(printL h).toArray⟩ ∧ Ext w w1) := by
  have hE := Ext.rfl' w
  refine enter (n := 20) (l := [.int .u32 h]) Try.func25 rfl rfl rfl ?_
  refine W.seq ?_
  refine W.region ?_
  refine WL.det (fun _ _ => R.assign rfl) rfl ?_
  refine WL.nil ?_
  refine E.to ?_
  refine W.seq ?_
  refine W.region ?_
  refine WL.mk (M.alloc (z := .agg (List.replicate 8 (.int .u8 0)).toArray) (by kernel_rfl)) rfl rfl ?_
  rintro _ w1 ⟨g3, rfl, hgg3, hzg3, ew1, hb3v⟩
  replace hE := Ext.tr hE ew1
  have hsew1 := ew1.size
  replace hb3v : Blk w1 g3 56 (pre (fun i => .int .u8 ((printAt h i).toNat : Nat)) (.int .u8 0) 8 0) := (by rw [pre_zero]; exact hb3v)
  refine WL.nil ?_
  refine E.to ?_
  refine W.seq ?_
  refine W.seq ?_
  refine W.region ?_
  refine WL.det (fun _ _ => R.move rfl) rfl ?_
  refine WL.nil ?_
  refine E.to ?_
  refine W.block ?_
  refine W.loopx1 [0, 2, 3] (fun (k : Nat) => [(5, .val (.int .i64 (k : Int)))]) (fun (k : Nat) wr => (k ≤ 8 ∧ Blk wr g3 56 (pre (fun i => .int .u8 ((printAt h i).toNat : Nat)) (.int .u8 0) 8 k)) ∧ Ext w wr) (fun (k : Nat) => 8 - k) (0) ?_ ?_ ?_
  · exact (Sub.cons rfl (Sub.cons rfl (Sub.cons rfl (Sub.cons rfl (Sub.nil _)))))
  · skip
    refine ⟨?_, hE⟩
    exact ⟨by omega, hb3v⟩
  intro k w2 hinv
  clear hE hb3v
  obtain ⟨hinv, hE⟩ := hinv
  have hsw2 := hE.size
  obtain ⟨hk, hb3v⟩ := hinv
  refine W.seq ?_
  refine W.region ?_
  refine WL.det (fun _ _ => R.lss rfl rfl) rfl ?_
  refine WL.nil ?_
  refine E.to ?_
  refine W.seq ?_
  first | refine W.cond_d rfl (fun hc1 => ?_) (fun hc1 => ?_) | refine W.cond_nd rfl (fun hc1 => ?_) (fun hc1 => ?_) | refine W.cond rfl (fun hc1 => ?_) (fun hc1 => ?_)
  · skip
    refine W.skip ?_
    refine E.to ?_
    refine W.seq ?_
    refine W.block ?_
    refine W.seq ?_
    refine W.region ?_
    refine WL.det (fun _ _ => R.move rfl) rfl ?_
    refine WL.det (fun _ _ => R.assign rfl) rfl ?_
    refine WL.nil ?_
    refine E.to ?_
    refine W.region ?_
    refine WL.det (fun _ _ => R.move rfl) rfl ?_
    refine WL.det (fun _ _ => R.move rfl) rfl ?_
    refine WL.det (fun _ _ => R.move rfl) rfl ?_
    refine WL.det (fun _ _ => (by first | exact R.mul64 rfl rfl (by omega) | exact R.mul rfl rfl)) rfl ?_
    refine WL.det (fun _ _ => (by first | exact R.sub64 rfl rfl (by omega) | exact R.sub rfl rfl)) rfl ?_
    refine WL.det (fun _ e => R.mv (R.shr rfl rfl (by omega)) (by rw [shr_k (by omega)])) rfl ?_
    refine WL.det (fun _ _ => R.and rfl rfl) rfl ?_
    refine WL.det (fun _ _ => R.stridx rfl (evi rfl (toNat_u32 _ _).symm) Try.underlying9 (by exact and15_lt _)) rfl ?_
    refine WL.det (fun _ _ => R.idx_arr (m := 1) rfl rfl (by omega) Try.underlying56 (by kernel_rfl)) rfl ?_
    refine WL.do (D.store rfl rfl rfl (m := 1) (by kernel_rfl) (by rfl) hb3v (by simp [pre_len]; omega) (by rfl)) rfl ?_
    rintro w3 ⟨hb3vn, hgw3, hzw3⟩
    replace hb3vn : Blk w3 g3 56 (pre (fun i => .int .u8 ((printAt h i).toNat : Nat)) (.int .u8 0) 8 (k + 1)) := by (rw [← pre_step (by omega)]; exact hb3vn)
    replace hE := Ext.grown hE hgw3 (by rintro k ⟨⟩; omega)
    replace hb3v := hb3vn
    clear hb3vn
    refine WL.nil ?_
    refine E.inn ?_
    refine E.to ?_
    refine W.region ?_
    refine WL.det (fun _ _ => (by first | exact R.add64 rfl rfl (by omega) | exact R.add rfl rfl)) rfl ?_
    refine WL.det (fun _ _ => R.move rfl) rfl ?_
    refine WL.nil ?_
    refine E.againx1 ((k + 1)) ?_ ?_ ?_
    · exact (Sub.cons rfl (Sub.cons rfl (Sub.cons rfl (Sub.cons rfl (Sub.nil _)))))
    · skip
      refine ⟨?_, hE⟩
      exact ⟨by omega, hb3v⟩
    · omega
  · skip
    refine W.exit ?_
    refine E.th ?_
    refine E.th ?_
    refine E.hit ?_
    refine E.to ?_
    refine W.seq ?_
    refine W.region ?_
    refine WL.det (fun _ _ => R.sub_arr rfl Try.underlying56 (by kernel_rfl)) rfl ?_
    refine WL.det (fun _ e => R.b2s rfl ((print_sl hb3v (by omega)).ext e) Try.underlying22 Try.underlying5 Try.underlying9) rfl ?_
    refine WL.det (fun _ _ => R.assign rfl) rfl ?_
    refine WL.nil ?_
    refine E.to ?_
    refine W.ret ?_
    refine E.fin1 (.inl rfl) rfl rfl ?_
    exact ⟨_, rfl, rfl, hE⟩

/-- bookplate/bookplateref02.Print. -/
theorem refprint_spec (h : Int) (h0 : R32 h) (w : World) :
    CallsTo Try.prog 26 [.int .u32 h] w (fun v w1 => v = .string ⟨(refPrintL h).toArray⟩ ∧ Ext w w1) := by
  have hE := Ext.rfl' w
  refine enter (n := 21) (l := [.int .u32 h]) Try.func26 rfl rfl rfl ?_
  refine W.seq ?_
  refine W.region ?_
  refine WL.det (fun _ _ => R.assign rfl) rfl ?_
  refine WL.nil ?_
  refine E.to ?_
  refine W.seq ?_
  refine W.region ?_
  refine WL.det (fun _ _ => R.assign rfl) rfl ?_
  refine WL.nil ?_
  refine E.to ?_
  refine W.seq ?_
  refine W.seq ?_
  refine W.region ?_
  refine WL.det (fun _ _ => R.assign rfl) rfl ?_
  refine WL.nil ?_
  refine E.to ?_
  refine W.block ?_
  refine W.loopx1 [0, 2] (fun (k : Nat) => [(3, .val (.string ⟨((List.range k).map (refPrintAt h)).toArray⟩)), (4, .val (.int .i64 (28 - 4 * (k : Int))))]) (fun (k : Nat) wr => (k ≤ 8) ∧ Ext w wr) (fun (k : Nat) => 8 - k) (0) ?_ ?_ ?_
  · exact (Sub.cons rfl (Sub.cons rfl (Sub.cons rfl (Sub.cons rfl (Sub.nil _)))))
  · skip
    refine ⟨?_, hE⟩
    omega
  intro k w1 hinv
  clear hE
  obtain ⟨hinv, hE⟩ := hinv
  have hsw1 := hE.size
  obtain hk := hinv
  refine W.seq ?_
  refine W.seq ?_
  refine W.region ?_
  refine WL.det (fun _ _ => R.move rfl) rfl ?_
  refine WL.det (fun _ _ => R.geq rfl rfl) rfl ?_
  refine WL.nil ?_
  refine E.to ?_
  first | refine W.cond_d rfl (fun hc1 => ?_) (fun hc1 => ?_) | refine W.cond_nd rfl (fun hc1 => ?_) (fun hc1 => ?_) | refine W.cond rfl (fun hc1 => ?_) (fun hc1 => ?_)
  · skip
    refine W.skip ?_
    refine E.to ?_
    refine W.seq ?_
    refine W.block ?_
    refine W.seq ?_
    refine W.region ?_
    refine WL.det (fun _ _ => R.move rfl) rfl ?_
    refine WL.det (fun _ _ => R.move rfl) rfl ?_
    refine WL.det (fun _ e => R.mv (R.shr rfl rfl (by omega)) (by rw [shr_k2 (by omega)])) rfl ?_
    refine WL.det (fun _ e => R.rem0 rfl rfl (Int.ediv_nonneg h0.1 (Int.pow_nonneg (by decide))) (by omega)) rfl ?_
    refine WL.det (fun _ _ => R.assign rfl) rfl ?_
    refine WL.nil ?_
    refine E.to ?_
    refine W.region ?_
    refine WL.det (fun _ _ => R.move rfl) rfl ?_
    refine WL.det (fun _ _ => R.move rfl) rfl ?_
    refine WL.det (fun _ _ => R.move rfl) rfl ?_
    refine WL.det (fun _ _ => R.add rfl rfl) rfl ?_
    refine WL.det (fun _ _ => R.mv (R.strsub (i := (h / 2 ^ (28 - 4 * k) % 16).toNat) (j := ((h / 2 ^ (28 - 4 * k) % 16).toNat + 1)) rfl (evi rfl (by omega)) (evi rfl (by rw [IntWalk.u32_in _ (by omega)]; omega)) Try.underlying9 (by omega) (by show _ ≤ 16; omega)) (rp_ex h k)) rfl ?_
    refine WL.det (fun _ _ => R.strcat rfl rfl (by rw [← ba_size, ← ba_size]; simp; omega)) rfl ?_
    refine WL.det (fun _ _ => R.assign rfl) rfl ?_
    refine WL.nil ?_
    refine E.inn ?_
    refine E.to ?_
    refine W.region ?_
    refine WL.det (fun _ _ => R.move rfl) rfl ?_
    refine WL.det (fun _ _ => (by first | exact R.sub64 rfl rfl (by omega) | exact R.sub rfl rfl)) rfl ?_
    refine WL.det (fun _ _ => R.assign rfl) rfl ?_
    refine WL.nil ?_
    refine E.againx1 ((k + 1)) ?_ ?_ ?_
    · exact (Sub.val rfl (by exact rp_next h k) (Sub.val rfl (by congr 1; omega) (Sub.cons rfl (Sub.cons rfl (Sub.nil _)))))
    · skip
      refine ⟨?_, hE⟩
      omega
    · omega
  · skip
    refine W.exit ?_
    refine E.th ?_
    refine E.th ?_
    refine E.hit ?_
    refine E.to ?_
    refine W.seq ?_
    refine W.region ?_
    refine WL.det (fun _ _ => R.move rfl) rfl ?_
    refine WL.det (fun _ _ => R.assign rfl) rfl ?_
    refine WL.nil ?_
    refine E.to ?_
    refine W.ret ?_
    refine E.fin1 (.inl rfl) rfl rfl ?_
    have e8 : k = 8 := (by omega)
    subst e8
    exact ⟨_, rfl, rfl, hE⟩

end Go.Proofs.Ytebinfembfoklaa
