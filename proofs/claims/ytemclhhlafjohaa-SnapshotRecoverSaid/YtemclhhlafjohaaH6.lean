/-
  The walks.
-/
import Derived.Test.YtemclhhlafjohaaH4
import Derived.Test.YtemclhhlafjohaaM21
namespace Go.Proofs.Ytemclhhlafjohaa
open Go Go.RowKit Go.H Go.D21 Go.D20 Go.D02

theorem hcallOk52 : G.callOk Try.prog 52 = true := by kernel_rfl
theorem hcallOk55 : G.callOk Try.prog 55 = true := by kernel_rfl

theorem iv_u64 {a b : Int} (h : a = b) : (vN .u64 a : IV) = vN .u64 b := by rw [h]
theorem arr_iv (l : Bs) : (arr l).map (fun v => IV.u (.sc v)) = ((arr l).map UV.sc).map IV.u := by rw [List.map_map]; rfl
theorem arr_len (l : Bs) : (arr l).length = l.length := List.length_map _
theorem arr_drop {a : Nat} {s : Bs} : (((arr (List.replicate a 0 ++ s)).map UV.sc).drop a).map (fun u => [u]) = s.map eB := by
  rw [arr, List.map_map, ← List.map_drop, List.drop_append_of_le_length (by simp), List.drop_replicate, Nat.sub_self, List.map_map]
  rfl
theorem sb_cells {ρ : Nat → Nat} {t : Nat} {us vs : List UV} (h : us = vs) : SB.cells t (us.map IV.u) = SB.ren ρ (SB.cells t (vs.map IV.u)) := by
  subst h
  show _ = SB.cells t (IV.renL ρ _)
  rw [IV.renL_map, List.map_map]; rfl

set_option maxRecDepth 8000 in
/-- bookplate/wire.fold. -/
theorem fold_h (n : Int) (hn : -9223372036854775808 ≤ n ∧ n ≤ 9223372036854775807) :
    Con Try.prog 52 [vI n] [] (vN .u64 (foldN n : Nat)) [] := by
 refine Con.enterL (n := 12) Try.func52 rfl rfl rfl (fun τ w ok vs hin => ?_)
 clear hin
 refine W.seq ?_
 refine W.region ?_
 refine SL.val (O.assign rfl rfl Taken.no) ?_
 refine SL.nil ?_
 refine E.to ?_
 refine W.seq ?_
 refine W.region ?_
 refine SL.val (O.move rfl rfl Taken.no) ?_
 refine SL.val (O.det (fun _ => G.R.conv rfl Try.underlying3 Try.underlying97) rfl Taken.no) ?_
 refine SL.val (O.det (fun _ => G.R.shl_c (q := 2) rfl rfl (by decide) (by decide)) rfl Taken.no) ?_
 refine SL.val (O.assign rfl rfl Taken.no) ?_
 refine SL.nil ?_
 refine E.to ?_
 refine W.seq ?_
 refine W.seq ?_
 refine W.region ?_
 refine SL.val (O.move rfl rfl Taken.no) ?_
 refine SL.val (O.det (fun _ => G.R.lss rfl rfl) rfl Taken.no) ?_
 refine SL.nil ?_
 refine E.to ?_
 first | refine W.cond_d rfl (fun hc1 => ?_) (fun hc1 => ?_) | refine W.cond_nd rfl (fun hc1 => ?_) (fun hc1 => ?_) | refine W.cond rfl (fun hc1 => ?_) (fun hc1 => ?_)
 ·skip
  refine W.seq ?_
  refine W.region ?_
  refine SL.val (O.move rfl rfl Taken.no) ?_
  refine SL.val (O.det (fun _ => G.R.com rfl) rfl Taken.no) ?_
  refine SL.val (O.assign rfl rfl Taken.no) ?_
  refine SL.nil ?_
  refine E.to ?_
  refine W.ret ?_
  refine E.thr ?_
  refine E.fin (rs := [_]) (rn []) (.inl rfl) rfl (.cons (ResOne.tmp rfl) .nil) ?_ ?_ rfl (fixL_spec rfl)
  ·skip
   exact iv_u64 (fold_neg ⟨by omega, by omega⟩).symm
  · exact SubS.nil
 ·skip
  refine W.skip ?_
  refine E.to ?_
  refine W.seq ?_
  refine W.region ?_
  refine SL.val (O.move rfl rfl Taken.no) ?_
  refine SL.val (O.assign rfl rfl Taken.no) ?_
  refine SL.nil ?_
  refine E.to ?_
  refine W.ret ?_
  refine E.fin (rs := [_]) (rn []) (.inl rfl) rfl (.cons (ResOne.tmp rfl) .nil) ?_ ?_ rfl (fixL_spec rfl)
  ·skip
   exact iv_u64 (fold_pos ⟨by omega, by omega⟩).symm
  · exact SubS.nil

set_option maxRecDepth 8000 in
/-- bookplate/bookplateref01.Folded. -/
theorem folded_h (n : Int) (hn : -9223372036854775808 ≤ n ∧ n ≤ 9223372036854775807) :
    Con Try.prog 55 [vI n] [] (vN .u64 (foldN n : Nat)) [] := by
 refine Con.enterL (n := 14) Try.func55 rfl rfl rfl (fun τ w ok vs hin => ?_)
 clear hin
 refine W.seq ?_
 refine W.region ?_
 refine SL.val (O.assign rfl rfl Taken.no) ?_
 refine SL.nil ?_
 refine E.to ?_
 refine W.seq ?_
 refine W.seq ?_
 refine W.region ?_
 refine SL.val (O.move rfl rfl Taken.no) ?_
 refine SL.val (O.det (fun _ => G.R.geq rfl rfl) rfl Taken.no) ?_
 refine SL.nil ?_
 refine E.to ?_
 first | refine W.cond_d rfl (fun hc1 => ?_) (fun hc1 => ?_) | refine W.cond_nd rfl (fun hc1 => ?_) (fun hc1 => ?_) | refine W.cond rfl (fun hc1 => ?_) (fun hc1 => ?_)
 ·skip
  refine W.seq ?_
  refine W.region ?_
  refine SL.val (O.move rfl rfl Taken.no) ?_
  refine SL.val (O.det (fun _ => G.R.conv rfl Try.underlying3 Try.underlying97) rfl Taken.no) ?_
  refine SL.val (O.det (fun _ => G.R.mul rfl rfl) rfl Taken.no) ?_
  refine SL.val (O.assign rfl rfl Taken.no) ?_
  refine SL.nil ?_
  refine E.to ?_
  refine W.ret ?_
  refine E.thr ?_
  refine E.fin (rs := [_]) (rn []) (.inl rfl) rfl (.cons (ResOne.tmp rfl) .nil) ?_ ?_ rfl (fixL_spec rfl)
  ·skip
   exact iv_u64 (by rw [foldN, if_pos (by omega), IntKind.wrap_u64, IntKind.wrap_u64]; omega)
  · exact SubS.nil
 ·skip
  refine W.skip ?_
  refine E.to ?_
  refine W.seq ?_
  refine W.region ?_
  refine SL.val (O.move rfl rfl Taken.no) ?_
  refine SL.val (O.det (fun _ => by first | exact G.R.add64 rfl rfl (by omega) | exact G.R.add rfl rfl) rfl Taken.no) ?_
  refine SL.val (O.det (fun _ => G.R.neg rfl) rfl Taken.no) ?_
  refine SL.val (O.det (fun _ => G.R.conv rfl Try.underlying3 Try.underlying97) rfl Taken.no) ?_
  refine SL.val (O.det (fun _ => G.R.mul rfl rfl) rfl Taken.no) ?_
  refine SL.val (O.det (fun _ => G.R.add rfl rfl) rfl Taken.no) ?_
  refine SL.val (O.assign rfl rfl Taken.no) ?_
  refine SL.nil ?_
  refine E.to ?_
  refine W.ret ?_
  refine E.fin (rs := [_]) (rn []) (.inl rfl) rfl (.cons (ResOne.tmp rfl) .nil) ?_ ?_ rfl (fixL_spec rfl)
  ·skip
   exact iv_u64 (by rw [foldN, if_neg (by omega)]; simp only [IntKind.wrap_u64, IntKind.wrap_i64]; omega)
  · exact SubS.nil

set_option maxRecDepth 8000 in
/-- bookplate/wire.unfold. -/
theorem unfold_h {u : Nat} (hu : u < 18446744073709551616) :
    Con Try.prog 65 [vN .u64 (u : Nat)] [] (vI (unfI u)) [] := by
 refine Con.enterL (n := 13) Try.func65 rfl rfl rfl (fun τ w ok vs hin => ?_)
 clear hin
 refine W.seq ?_
 refine W.region ?_
 refine SL.val (O.assign rfl rfl Taken.no) ?_
 refine SL.nil ?_
 refine E.to ?_
 refine W.seq ?_
 refine W.region ?_
 refine SL.val (O.move rfl rfl Taken.no) ?_
 refine SL.val (O.det (fun _ => G.R.shr_c (q := 2) rfl rfl (by decide) (by decide)) rfl Taken.no) ?_
 refine SL.val (O.det (fun _ => G.R.conv64 rfl Try.underlying97 Try.underlying3 (by omega)) rfl Taken.no) ?_
 refine SL.val (O.assign rfl rfl Taken.no) ?_
 refine SL.nil ?_
 refine E.to ?_
 refine W.seq ?_
 refine W.seq ?_
 refine W.region ?_
 refine SL.val (O.move rfl rfl Taken.no) ?_
 refine SL.val (O.det (fun _ => G.R.and rfl rfl) rfl Taken.no) ?_
 refine SL.val (O.det (fun _ => G.R.eql rfl rfl) rfl Taken.no) ?_
 refine SL.nil ?_
 refine E.to ?_
 first | refine W.cond_d rfl (fun hc1 => ?_) (fun hc1 => ?_) | refine W.cond_nd rfl (fun hc1 => ?_) (fun hc1 => ?_) | refine W.cond rfl (fun hc1 => ?_) (fun hc1 => ?_)
 ·skip
  have ho : u % 2 = 1 := by rw [and1_u64 hu] at hc1; omega
  refine W.seq ?_
  refine W.region ?_
  refine SL.val (O.move rfl rfl Taken.no) ?_
  refine SL.val (O.det (fun _ => G.R.com rfl) rfl Taken.no) ?_
  refine SL.val (O.assign rfl rfl Taken.no) ?_
  refine SL.nil ?_
  refine E.to ?_
  refine W.ret ?_
  refine E.thr ?_
  refine E.fin (rs := [_]) (rn []) (.inl rfl) rfl (.cons (ResOne.tmp rfl) .nil) ?_ ?_ rfl (fixL_spec rfl)
  ·skip
   exact iv_int (by rw [unfI, if_neg (by omega), ← com_i64 (show u / 2 < 9223372036854775808 by omega)]; congr 1)
  · exact SubS.nil
 ·skip
  have ho : u % 2 = 0 := by rw [and1_u64 hu] at hc1; omega
  refine W.skip ?_
  refine E.to ?_
  refine W.seq ?_
  refine W.region ?_
  refine SL.val (O.move rfl rfl Taken.no) ?_
  refine SL.val (O.assign rfl rfl Taken.no) ?_
  refine SL.nil ?_
  refine E.to ?_
  refine W.ret ?_
  refine E.fin (rs := [_]) (rn []) (.inl rfl) rfl (.cons (ResOne.tmp rfl) .nil) ?_ ?_ rfl (fixL_spec rfl)
  ·skip
   exact iv_int (by rw [unfI, if_pos ho]; omega)
  · exact SubS.nil

set_option maxRecDepth 8000 in
/-- bookplate/bookplateref01.unfolded. -/
theorem unfolded_h {u : Nat} (hu : u < 18446744073709551616) :
    Con Try.prog 66 [vN .u64 (u : Nat)] [] (vI (unfI u)) [] := by
 refine Con.enterL (n := 14) Try.func66 rfl rfl rfl (fun τ w ok vs hin => ?_)
 clear hin
 refine W.seq ?_
 refine W.region ?_
 refine SL.val (O.assign rfl rfl Taken.no) ?_
 refine SL.nil ?_
 refine E.to ?_
 refine W.seq ?_
 refine W.seq ?_
 refine W.region ?_
 refine SL.val (O.move rfl rfl Taken.no) ?_
 refine SL.val (O.det (fun _ => by first | exact G.R.rem0 rfl rfl (by omega) (by omega) | exact G.R.rem rfl rfl (by omega)) rfl Taken.no) ?_
 refine SL.val (O.det (fun _ => G.R.eql rfl rfl) rfl Taken.no) ?_
 refine SL.nil ?_
 refine E.to ?_
 first | refine W.cond_d rfl (fun hc1 => ?_) (fun hc1 => ?_) | refine W.cond_nd rfl (fun hc1 => ?_) (fun hc1 => ?_) | refine W.cond rfl (fun hc1 => ?_) (fun hc1 => ?_)
 ·skip
  refine W.seq ?_
  refine W.region ?_
  refine SL.val (O.move rfl rfl Taken.no) ?_
  refine SL.val (O.det (fun _ => G.R.mv (G.R.quo rfl rfl (by decide)) (congrArg (Value.int .u64) (show _ = (u : Int) / 2 by rw [IntKind.wrap_u64, Int.tdiv_eq_ediv_of_nonneg (by omega)]; omega))) rfl Taken.no) ?_
  refine SL.val (O.det (fun _ => G.R.conv64 rfl Try.underlying97 Try.underlying3 (by omega)) rfl Taken.no) ?_
  refine SL.val (O.assign rfl rfl Taken.no) ?_
  refine SL.nil ?_
  refine E.to ?_
  refine W.ret ?_
  refine E.thr ?_
  refine E.fin (rs := [_]) (rn []) (.inl rfl) rfl (.cons (ResOne.tmp rfl) .nil) ?_ ?_ rfl (fixL_spec rfl)
  ·skip
   exact iv_int (by rw [unfI, if_pos (by omega)]; omega)
  · exact SubS.nil
 ·skip
  refine W.skip ?_
  refine E.to ?_
  refine W.seq ?_
  refine W.region ?_
  refine SL.val (O.move rfl rfl Taken.no) ?_
  refine SL.val (O.det (fun _ => G.R.mv (G.R.quo rfl rfl (by decide)) (congrArg (Value.int .u64) (show _ = (u : Int) / 2 by rw [IntKind.wrap_u64, Int.tdiv_eq_ediv_of_nonneg (by omega)]; omega))) rfl Taken.no) ?_
  refine SL.val (O.det (fun _ => G.R.conv64 rfl Try.underlying97 Try.underlying3 (by omega)) rfl Taken.no) ?_
  refine SL.val (O.det (fun _ => G.R.neg rfl) rfl Taken.no) ?_
  refine SL.val (O.det (fun _ => by first | exact G.R.sub64 rfl rfl (by omega) | exact G.R.sub rfl rfl) rfl Taken.no) ?_
  refine SL.val (O.assign rfl rfl Taken.no) ?_
  refine SL.nil ?_
  refine E.to ?_
  refine W.ret ?_
  refine E.fin (rs := [_]) (rn []) (.inl rfl) rfl (.cons (ResOne.tmp rfl) .nil) ?_ ?_ rfl (fixL_spec rfl)
  ·skip
   exact iv_int (by rw [unfI, if_neg (by omega)]; simp only [IntKind.wrap_i64]; omega)
  · exact SubS.nil

set_option maxRecDepth 8000 in
/-- bookplate/wire.Int. -/
theorem int_h (n : Int) (hn : -9223372036854775808 ≤ n ∧ n ≤ 9223372036854775807) :
    Con Try.prog 31 [.u (.sc (.slice none 0 0)), vI n] [] (.own 0) [(0, .data 5 1 ((encI n).map eB))] := by
 have hf := foldN_lt hn
 obtain ⟨he1, he2⟩ := enc_start hn
 obtain ⟨i5, hi5, hz5, hs5, hb5⟩ := hinf5
 refine Con.enterL (n := 33) Try.func31 rfl rfl rfl (fun τ w ok vs hin => ?_)
 clear hin
 refine W.seq ?_
 refine W.region ?_
 refine SL.val (O.assign rfl rfl Taken.no) ?_
 refine SL.nil ?_
 refine E.to ?_
 refine W.seq ?_
 refine W.region ?_
 refine SL.memS (O.alloc (z := .agg #[.int .u8 0, .int .u8 0, .int .u8 0, .int .u8 0, .int .u8 0, .int .u8 0, .int .u8 0, .int .u8 0, .int .u8 0, .int .u8 0]) (is := [.u (.sc (.int .u8 0)), .u (.sc (.int .u8 0)), .u (.sc (.int .u8 0)), .u (.sc (.int .u8 0)), .u (.sc (.int .u8 0)), .u (.sc (.int .u8 0)), .u (.sc (.int .u8 0)), .u (.sc (.int .u8 0)), .u (.sc (.int .u8 0)), .u (.sc (.int .u8 0))]) 101 (by kernel_rfl) rfl rfl rfl Taken.no) rfl rfl (S' := (101, _) :: _) rfl ?_
 refine SL.nil ?_
 refine E.to ?_
 refine W.seq ?_
 refine W.region ?_
 refine SL.val (O.move rfl rfl Taken.no) ?_
 refine SL.val (O.callp rfl rfl rfl (fold_h _ (by omega)) (.cons (ArgOk.same rfl) .nil) hcallOk52 rfl Taken.no) ?_
 refine SL.val (O.assign rfl rfl Taken.no) ?_
 refine SL.nil ?_
 refine E.to ?_
 refine W.seq ?_
 refine W.region ?_
 refine SL.val (O.assign rfl rfl Taken.no) ?_
 refine SL.nil ?_
 refine E.to ?_
 refine W.seq ?_
 refine W.region ?_
 refine SL.val (O.move rfl rfl Taken.no) ?_
 refine SL.val (O.move rfl rfl Taken.no) ?_
 refine SL.val (O.det (fun _ => G.R.and rfl rfl) rfl Taken.no) ?_
 refine SL.val (O.det (fun _ => G.R.mv (G.R.conv rfl Try.underlying97 Try.underlying5) (congrArg (Value.int .u8) (show _ = (((UInt8.ofNat (foldN n % 128)).toNat : Nat) : Int) by rw [and127 hf, ofNat_lo, IntKind.wrap_u8]; omega))) rfl Taken.no) ?_
 refine SL.val (O.idx_ref (i := 9) (m := 1) rfl rfl (rfl) (by decide) Try.underlying96 (by kernel_rfl) rfl rfl Taken.no) ?_
 refine SL.effS (O.st_ref (m := 1) rfl rfl rfl (js := [_]) rfl rfl (by kernel_rfl) (by simp) (by exact Nat.le_of_ble_eq_true rfl) rfl (is' := ((arr (List.replicate 9 0 ++ [UInt8.ofNat (foldN n % 128)])).map UV.sc).map IV.u) (by rfl) Taken.no) (S' := (101, _) :: _) rfl ?_
 refine SL.nil ?_
 refine E.to ?_
 refine W.seq ?_
 refine W.seq ?_
 refine W.region ?_
 refine SL.val (O.move rfl rfl Taken.no) ?_
 refine SL.val (O.det (fun _ => G.R.shr_c (q := 128) rfl rfl (by decide) (by decide)) rfl Taken.no) ?_
 refine SL.val (O.assign rfl rfl Taken.no) ?_
 refine SL.nil ?_
 refine E.to ?_
 refine W.block ?_
 refine W.loopx3 (fun (a : Nat) (u : Nat) (s : Bs) => [(7, vI (a : Int)), (6, vN .u64 (u : Nat))]) (fun (a : Nat) (u : Nat) (s : Bs) => [(101, .cells 96 (((arr (List.replicate a 0 ++ s)).map UV.sc).map IV.u))]) (fun (a : Nat) (u : Nat) (s : Bs) => a ≤ 9 ∧ s.length + a = 10 ∧ u < 128 ^ a ∧ u < 18446744073709551616 ∧ encF a u ++ s = encI n) (fun (a : Nat) (u : Nat) (s : Bs) => a) (9) (foldN n / 128) ([UInt8.ofNat (foldN n % 128)]) (rn []) (.cons (t := 0) rfl (.cons (t := 4) rfl (.cons (t := 5) rfl .nil))) .nil rfl ?_ ?_ rfl rfl ?_ ?_
 · exact (SubF.cons rfl (SubF.cons rfl SubF.nil))
 · exact (SubS.val rfl (by exact sb_cells rfl) SubS.nil)
 ·skip
  exact ⟨by omega, rfl, he2, by omega, he1⟩
 intro a u s hinv
 obtain ⟨ha, hs, hu, hu2, he⟩ := hinv
 refine W.seq ?_
 refine W.seq ?_
 refine W.region ?_
 refine SL.val (O.move rfl rfl Taken.no) ?_
 refine SL.val (O.det (fun _ => G.R.gtr rfl rfl) rfl Taken.no) ?_
 refine SL.nil ?_
 refine E.to ?_
 first | refine W.cond_d rfl (fun hc1 => ?_) (fun hc1 => ?_) | refine W.cond_nd rfl (fun hc1 => ?_) (fun hc1 => ?_) | refine W.cond rfl (fun hc1 => ?_) (fun hc1 => ?_)
 ·skip
  have hst := enc_step he (by omega) hu
  have ha0 := hst.1
  refine W.skip ?_
  refine E.to ?_
  refine W.seq ?_
  refine W.block ?_
  refine W.seq ?_
  refine W.region ?_
  refine SL.val (O.move rfl rfl Taken.no) ?_
  refine SL.val (O.det (fun _ => by first | exact G.R.sub64 rfl rfl (by omega) | exact G.R.sub rfl rfl) rfl Taken.no) ?_
  refine SL.val (O.assign rfl rfl Taken.no) ?_
  refine SL.nil ?_
  refine E.to ?_
  refine W.region ?_
  refine SL.val (O.move rfl rfl Taken.no) ?_
  refine SL.val (O.move rfl rfl Taken.no) ?_
  refine SL.val (O.det (fun _ => G.R.and rfl rfl) rfl Taken.no) ?_
  refine SL.val (O.det (fun _ => G.R.mv (G.R.conv rfl Try.underlying97 Try.underlying5) (congrArg (Value.int .u8) (show _ = ((u % 128 : Nat) : Int) by rw [and127 hu2, IntKind.wrap_u8]; omega))) rfl Taken.no) ?_
  refine SL.val (O.det (fun _ => G.R.mv (G.R.or rfl rfl) (congrArg (Value.int .u8) (show _ = (((UInt8.ofNat (128 + u % 128)).toNat : Nat) : Int) by rw [or128 (Nat.mod_lt _ (by decide)), ofNat_hi]))) rfl Taken.no) ?_
  refine SL.val (O.idx_ref (i := (a - 1)) (m := 1) rfl rfl (by omega) (by omega) Try.underlying96 (by kernel_rfl) rfl rfl Taken.no) ?_
  refine SL.effS (O.st_ref (m := 1) rfl rfl rfl (js := [_]) rfl rfl (by kernel_rfl) (by simp) (by rw [List.length_map, List.length_map, arr_len, List.length_append, List.length_replicate]; simp; omega) rfl (is' := ((arr (List.replicate (a - 1) 0 ++ UInt8.ofNat (128 + u % 128) :: s)).map UV.sc).map IV.u) (by rw [Nat.zero_add, Nat.mul_one, ← arr_set ha0]; simp only [List.map_append, List.map_take, List.map_drop]; rfl) Taken.no) (S' := (101, _) :: _) rfl ?_
  refine SL.nil ?_
  refine E.inn ?_
  refine E.to ?_
  refine W.region ?_
  refine SL.val (O.move rfl rfl Taken.no) ?_
  refine SL.val (O.det (fun _ => G.R.shr_c (q := 128) rfl rfl (by decide) (by decide)) rfl Taken.no) ?_
  refine SL.val (O.assign rfl rfl Taken.no) ?_
  refine SL.nil ?_
  refine E.again ((a - 1), (u / 128), (UInt8.ofNat (128 + u % 128) :: s)) (rn []) ?_ ?_ rfl (fixL_spec rfl) ?_ ?_
  · exact (SubF.val rfl (by (try dsimp only); exact iv_int (by omega)) (SubF.val rfl (by (try dsimp only); exact iv_u64 (by omega)) (SubF.cons rfl (SubF.cons rfl (SubF.cons rfl SubF.nil)))))
  · exact (SubS.val rfl (by (try dsimp only); exact sb_cells rfl) SubS.nil)
  ·try dsimp only
   exact ⟨by omega, by rw [List.length_cons]; omega, hst.2.2, by omega, hst.2.1⟩
  · (try dsimp only); omega
 ·skip
  refine W.exit ?_
  refine E.th ?_
  refine E.th ?_
  refine E.hit ?_
  refine E.to ?_
  refine W.seq ?_
  refine W.region ?_
  refine SL.val (O.move rfl rfl Taken.no) ?_
  obtain rfl : u = 0 := by omega
  have hse := enc_end he
  refine SL.val (O.move rfl rfl Taken.no) ?_
  refine SL.freezeP ((arr (List.replicate a 0 ++ s)).map UV.sc) 101 rfl (by rfl) (F' := [(5, .u (.ptr (((arr (List.replicate a 0 ++ s)).map UV.sc).drop 0)))]) (⟨⟨_, rfl, rfl⟩, trivial⟩) ?_
  refine SL.pick (.cons (t := 0) rfl (.cons (t := 4) rfl (.cons (t := 5) rfl (.cons (t := 6) rfl (.cons (t := 7) rfl (.cons (t := 17) rfl (.cons (t := 18) rfl (.cons (t := 29) rfl (.cons (t := 30) rfl .nil))))))))) .nil ?_
  refine SL.val (O.sub_ptr (i := a) (rows := s.map eB) rfl rfl (by first | rfl | omega) (by omega) (by rw [List.drop_zero, List.length_map, arr_len, List.length_append, List.length_replicate]; omega) (by decide) (by exact arr_drop) Try.underlying96 (by kernel_rfl) rfl Taken.no) ?_
  refine SL.adopt 29 103 5 1 (by decide) rfl rfl rfl ?_
  refine SL.memS (O.app (k' := 102) rfl rfl (SlOf.fz rfl (by decide)) Try.underlying22 hi5 hz5 hs5 rfl rfl (rfl) (by rw [hb5]; (simp only [List.length_map, List.length_nil]; omega)) (by (simp only [List.length_map, List.length_nil]; omega)) rfl Taken.no) rfl rfl (S' := (102, _) :: (103, .dead) :: _) rfl ?_
  refine SL.val (O.assign rfl rfl Taken.no) ?_
  refine SL.nil ?_
  refine E.to ?_
  refine W.ret ?_
  refine E.fin (rs := [_]) (rn [(0, 102)]) (.inl rfl) rfl (.cons (ResOne.tmp rfl) .nil) ?_ ?_ rfl (fixL_spec rfl)
  ·skip
   rfl
  · exact (SubS.val rfl (by exact sb_data (by rw [hse]; rfl)) SubS.nil)

set_option maxRecDepth 8000 in
/-- bookplate/bookplateref01.Int. -/
theorem refInt_h (n : Int) (hn : -9223372036854775808 ≤ n ∧ n ≤ 9223372036854775807) :
    Con Try.prog 38 [vI n] [] (.own 0) [(0, .data 5 1 ((encI n).map eB))] := by
 have hf := foldN_lt hn
 obtain ⟨he1, he2⟩ := enc_start hn
 obtain ⟨i5, hi5, hz5, hs5, hb5⟩ := hinf5
 refine Con.enterL (n := 25) Try.func38 rfl rfl rfl (fun τ w ok vs hin => ?_)
 clear hin
 refine W.seq ?_
 refine W.region ?_
 refine SL.val (O.assign rfl rfl Taken.no) ?_
 refine SL.nil ?_
 refine E.to ?_
 refine W.seq ?_
 refine W.region ?_
 refine SL.val (O.move rfl rfl Taken.no) ?_
 refine SL.val (O.callp rfl rfl rfl (folded_h _ (by omega)) (.cons (ArgOk.same rfl) .nil) hcallOk55 rfl Taken.no) ?_
 refine SL.val (O.assign rfl rfl Taken.no) ?_
 refine SL.nil ?_
 refine E.to ?_
 refine W.seq ?_
 refine W.region ?_
 refine SL.val (O.move rfl rfl Taken.no) ?_
 refine SL.val (O.det (fun _ => by first | exact G.R.rem0 rfl rfl (by omega) (by omega) | exact G.R.rem rfl rfl (by omega)) rfl Taken.no) ?_
 refine SL.val (O.det (fun _ => G.R.mv (G.R.conv rfl Try.underlying97 Try.underlying5) (congrArg (Value.int .u8) (show _ = (((UInt8.ofNat (foldN n % 128)).toNat : Nat) : Int) by rw [ofNat_lo, IntKind.wrap_u8]; omega))) rfl Taken.no) ?_
 refine SL.memS (O.buildSlice 101 (rows := [UInt8.ofNat (foldN n % 128)].map eB) rfl rfl Try.underlying22 hi5 hz5 hs5 (by decide) rfl (by decide) rfl rfl rfl Taken.no) rfl rfl (S' := (101, .data 5 1 ([UInt8.ofNat (foldN n % 128)].map eB)) :: _) rfl ?_
 refine SL.val (O.assign rfl rfl Taken.no) ?_
 refine SL.nil ?_
 refine E.to ?_
 refine W.seq ?_
 refine W.seq ?_
 refine W.region ?_
 refine SL.val (O.move rfl rfl Taken.no) ?_
 refine SL.val (O.det (fun _ => G.R.mv (G.R.quo rfl rfl (by decide)) (congrArg (Value.int .u64) (show _ = ((foldN n / 128 : Nat) : Int) by rw [IntKind.wrap_u64, Int.tdiv_eq_ediv_of_nonneg (by omega)]; omega))) rfl Taken.no) ?_
 refine SL.val (O.assign rfl rfl Taken.no) ?_
 refine SL.nil ?_
 refine E.to ?_
 refine W.block ?_
 refine W.loopx3 (fun (a : Nat) (u : Nat) (s : Bs) => [(3, vN .u64 (u : Nat)), (4, .own 102)]) (fun (a : Nat) (u : Nat) (s : Bs) => [(102, .data 5 1 (s.map eB))]) (fun (a : Nat) (u : Nat) (s : Bs) => a ≤ 9 ∧ s.length + a = 10 ∧ u < 128 ^ a ∧ u < 18446744073709551616 ∧ encF a u ++ s = encI n) (fun (a : Nat) (u : Nat) (s : Bs) => a) (9) (foldN n / 128) ([UInt8.ofNat (foldN n % 128)]) (rn [(102, 101)]) (.cons (t := 2) rfl .nil) .nil rfl ?_ ?_ rfl rfl ?_ ?_
 · exact (SubF.cons rfl (SubF.cons rfl SubF.nil))
 · exact (SubS.cons rfl SubS.nil)
 ·skip
  exact ⟨by omega, rfl, he2, by omega, he1⟩
 intro a u s hinv
 obtain ⟨ha, hs, hu, hu2, he⟩ := hinv
 refine W.seq ?_
 refine W.seq ?_
 refine W.region ?_
 refine SL.val (O.move rfl rfl Taken.no) ?_
 refine SL.val (O.det (fun _ => G.R.gtr rfl rfl) rfl Taken.no) ?_
 refine SL.nil ?_
 refine E.to ?_
 first | refine W.cond_d rfl (fun hc1 => ?_) (fun hc1 => ?_) | refine W.cond_nd rfl (fun hc1 => ?_) (fun hc1 => ?_) | refine W.cond rfl (fun hc1 => ?_) (fun hc1 => ?_)
 ·skip
  have hst := enc_step he (by omega) hu
  have ha0 := hst.1
  refine W.skip ?_
  refine E.to ?_
  refine W.seq ?_
  refine W.block ?_
  refine W.region ?_
  refine SL.val (O.move rfl rfl Taken.no) ?_
  refine SL.val (O.det (fun _ => by first | exact G.R.rem0 rfl rfl (by omega) (by omega) | exact G.R.rem rfl rfl (by omega)) rfl Taken.no) ?_
  refine SL.val (O.det (fun _ => G.R.mv (G.R.conv rfl Try.underlying97 Try.underlying5) (congrArg (Value.int .u8) (show _ = ((u % 128 : Nat) : Int) by rw [IntKind.wrap_u8]; omega))) rfl Taken.no) ?_
  refine SL.val (O.det (fun _ => G.R.mv (G.R.add rfl rfl) (congrArg (Value.int .u8) (show _ = (((UInt8.ofNat (128 + u % 128)).toNat : Nat) : Int) by rw [ofNat_hi, IntKind.wrap_u8]; omega))) rfl Taken.no) ?_
  refine SL.memS (O.buildSlice 103 (rows := [UInt8.ofNat (128 + u % 128)].map eB) rfl rfl Try.underlying22 hi5 hz5 hs5 (by decide) rfl (by decide) rfl rfl rfl Taken.no) rfl rfl (S' := (103, .data 5 1 ([UInt8.ofNat (128 + u % 128)].map eB)) :: _) rfl ?_
  refine SL.val (O.move rfl rfl Taken.no) ?_
  refine SL.memS (O.app (k' := 104) rfl rfl (SlOf.own rfl rfl) Try.underlying22 hi5 hz5 hs5 rfl rfl (rfl) (by rw [hb5]; (simp only [List.length_map, List.length_singleton]; omega)) (by (simp only [List.length_map, List.length_singleton]; omega)) rfl Taken.no) rfl rfl (S' := (104, _) :: (103, .dead) :: _) rfl ?_
  refine SL.val (O.assign rfl rfl Taken.no) ?_
  refine SL.nil ?_
  refine E.inn ?_
  refine E.to ?_
  refine W.region ?_
  refine SL.val (O.move rfl rfl Taken.no) ?_
  refine SL.val (O.det (fun _ => G.R.mv (G.R.quo rfl rfl (by decide)) (congrArg (Value.int .u64) (show _ = ((u / 128 : Nat) : Int) by rw [IntKind.wrap_u64, Int.tdiv_eq_ediv_of_nonneg (by omega)]; omega))) rfl Taken.no) ?_
  refine SL.val (O.assign rfl rfl Taken.no) ?_
  refine SL.nil ?_
  refine E.again ((a - 1), (u / 128), (UInt8.ofNat (128 + u % 128) :: s)) (rn [(102, 104)]) ?_ ?_ rfl (fixL_spec rfl) ?_ ?_
  · exact (SubF.cons rfl (SubF.cons rfl (SubF.cons rfl SubF.nil)))
  · exact (SubS.cons rfl SubS.nil)
  ·try dsimp only
   exact ⟨by omega, by rw [List.length_cons]; omega, hst.2.2, by omega, hst.2.1⟩
  · (try dsimp only); omega
 ·skip
  refine W.exit ?_
  refine E.th ?_
  refine E.th ?_
  refine E.hit ?_
  refine E.to ?_
  refine W.seq ?_
  refine W.region ?_
  obtain rfl : u = 0 := by omega
  have hse := enc_end he
  refine SL.val (O.move rfl rfl Taken.no) ?_
  refine SL.val (O.assign rfl rfl Taken.no) ?_
  refine SL.nil ?_
  refine E.to ?_
  refine W.ret ?_
  refine E.fin (rs := [_]) (rn [(0, 102)]) (.inl rfl) rfl (.cons (ResOne.tmp rfl) .nil) ?_ ?_ rfl (fixL_spec rfl)
  ·skip
   rfl
  · exact (SubS.val rfl (by exact sb_data (by rw [hse])) SubS.nil)

end Go.Proofs.Ytemclhhlafjohaa
