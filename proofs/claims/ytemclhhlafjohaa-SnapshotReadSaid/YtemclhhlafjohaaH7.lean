/-
  The walks.
-/
import Derived.Test.YtemclhhlafjohaaH6
namespace Go.Proofs.Ytemclhhlafjohaa
open Go Go.RowKit Go.H Go.D21 Go.D20 Go.D02

theorem hcallOk50 : G.callOk Try.prog 50 = true := by kernel_rfl
theorem hcallOk53 : G.callOk Try.prog 53 = true := by kernel_rfl
theorem hcallOk65 : G.callOk Try.prog 65 = true := by kernel_rfl
theorem hcallOk66 : G.callOk Try.prog 66 = true := by kernel_rfl

theorem tup2 {a b c d : Int} (h : a = c) (k : b = d) : (IV.tup [vI a, vI b] : IV) = IV.tup [vI c, vI d] := by rw [h, k]
theorem tup3 {a b c d : Int} {e f : Bool} (h : a = c) (k : b = d) (m : e = f) : (IV.tup [vI a, vI b, vB e] : IV) = IV.tup [vI c, vI d, vB f] := by rw [h, k, m]
theorem lbyte (b : UInt8) : ((b.toNat : Nat) : Int) ≤ 255 := by have := b.toNat_lt; omega

set_option maxRecDepth 8000 in
/-- bookplate/wire.From. -/
theorem from_h {l : Bs} (hb : l.length ≤ 1000000) :
    Con Try.prog 28 [vL 1 (l.map eB)] [] (.ref 0 0) [(0, .cells 93 [.u (.sl 1 (l.map eB)), vI 0, vB false])] := by
 refine Con.enterL (n := 7) Try.func28 rfl rfl rfl (fun τ w ok vs hin => ?_)
 have hl0 := hin.len (i := 0) rfl
 try rw [List.length_map] at hl0
 clear hin
 refine W.seq ?_
 refine W.region ?_
 refine SL.val (O.assign rfl rfl Taken.no) ?_
 refine SL.nil ?_
 refine E.to ?_
 refine W.seq ?_
 refine W.region ?_
 refine SL.val (O.move rfl rfl Taken.no) ?_
 refine SL.memS (O.call (rn [(0, 101)]) [] rfl rfl rfl (clone_h (l := l) (by omega)) (.cons (ArgOk.same rfl) .nil) SubS.nil rfl rfl rfl rfl rfl (.inl rfl) hcallOk32 (r' := .own 101) rfl rfl Taken.no) rfl rfl (S' := (101, .data _ _ _) :: _) rfl ?_
 refine SL.freeze 101 rfl (F' := [(4, _)]) (⟨⟨_, rfl, rfl⟩, trivial⟩) ?_
 refine SL.val (O.build (res := [_, _, _]) (z := .agg #[.slice none 0 0, .int .i64 0, .bool false]) (places := [(0, 1), (1, 1), (2, 1)]) rfl rfl Try.underlying93 (by kernel_rfl) (fun _ => by kernel_rfl) rfl rfl Taken.no) ?_
 refine SL.memS (O.box (is := [_, _, _]) 102 rfl rfl (by simp) rfl rfl Taken.no) rfl rfl (S' := (102, _) :: _) rfl ?_
 refine SL.val (O.assign rfl rfl Taken.no) ?_
 refine SL.nil ?_
 refine E.to ?_
 refine W.ret ?_
 refine E.fin (rs := [_]) (rn [(0, 102)]) (.inl rfl) rfl (.cons (ResOne.tmp rfl) .nil) ?_ ?_ rfl (fixL_spec rfl)
 ·skip
  rfl
 · exact (SubS.cons rfl SubS.nil)

set_option maxRecDepth 8000 in
/-- (*bookplate/wire.Reader).group. -/
theorem group_h {l : Bs} (hb : l.length ≤ 1000000) :
    Con Try.prog 50 [.ref 0 0] [(0, .cells 93 [.u (.sl 1 (l.map eB)), vI 0, vB false])] (.tup [vI (gN l), vI (gS l)]) [(0, .cells 93 [.u (.sl 1 (l.map eB)), vI 0, vB false])] := by
 obtain ⟨i5, hi5, hz5, hs5, hb5⟩ := hinf5
 refine Con.enterL (n := 59) Try.func50 rfl rfl rfl (fun τ w ok vs hin => ?_)
 clear hin
 refine W.seq ?_
 refine W.region ?_
 refine SL.val (O.assign rfl rfl Taken.no) ?_
 refine SL.val (O.assign rfl rfl Taken.no) ?_
 refine SL.nil ?_
 refine E.to ?_
 refine W.seq ?_
 refine W.region ?_
 refine SL.val (O.assign rfl rfl Taken.no) ?_
 refine SL.nil ?_
 refine E.to ?_
 refine W.seq ?_
 refine W.seq ?_
 refine W.region ?_
 refine SL.val (O.move rfl rfl Taken.no) ?_
 refine SL.val (O.nilCheck rfl rfl rfl Taken.no) ?_
 refine SL.val (O.fld_ref (o' := 1) rfl Try.underlying93 rfl (m := 0) (by kernel_rfl) rfl rfl Taken.no) ?_
 refine SL.val (O.ld1 (PtI.ref rfl rfl) rfl Try.underlying3 rfl rfl Taken.no) ?_
 refine SL.val (O.assign rfl rfl Taken.no) ?_
 refine SL.nil ?_
 refine E.to ?_
 refine W.block ?_
 refine W.loopx1 (fun (j : Nat) => [(5, vI (j : Int)), (4, vN .u64 (val (l.take j) : Nat))]) (fun (j : Nat) => []) (fun (j : Nat) => j ≤ l.length ∧ j ≤ more l ∧ (0 < j → l[0]!.toNat ≠ 128) ∧ val (l.take j) < 18446744073709551616) (fun (j : Nat) => l.length - j) (0) (rn []) (.cons (t := 0) rfl .nil) (.cons (t := 0) rfl .nil) rfl ?_ ?_ rfl rfl ?_ ?_
 · exact (SubF.cons rfl (SubF.cons rfl SubF.nil))
 · exact SubS.nil
 ·skip
  exact ⟨by omega, by omega, fun h => by omega, by show val [] < _; decide⟩
 intro j hinv
 obtain ⟨hj, hm, h0, hv⟩ := hinv
 refine W.seq ?_
 refine W.seq ?_
 refine W.region ?_
 refine SL.val (O.move rfl rfl Taken.no) ?_
 refine SL.val (O.move rfl rfl Taken.no) ?_
 refine SL.val (O.nilCheck rfl rfl rfl Taken.no) ?_
 refine SL.val (O.fld_ref (o' := 0) rfl Try.underlying93 rfl (m := 0) (by kernel_rfl) rfl rfl Taken.no) ?_
 refine SL.val (O.ld1 (PtI.ref rfl rfl) rfl Try.underlying22 rfl rfl Taken.no) ?_
 refine SL.val (O.lenE (SlOf.fz rfl (by decide)) (by first | exact List.length_map _ | rfl) Try.underlying22 rfl Taken.no) ?_
 refine SL.val (O.det (fun _ => G.R.lss rfl rfl) rfl Taken.no) ?_
 refine SL.nil ?_
 refine E.to ?_
 first | refine W.cond_d rfl (fun hc1 => ?_) (fun hc1 => ?_) | refine W.cond_nd rfl (fun hc1 => ?_) (fun hc1 => ?_) | refine W.cond rfl (fun hc1 => ?_) (fun hc1 => ?_)
 ·skip
  have hjl : j < l.length := by omega
  refine W.skip ?_
  refine E.to ?_
  refine W.seq ?_
  refine W.block ?_
  refine W.seq ?_
  refine W.region ?_
  refine SL.val (O.move rfl rfl Taken.no) ?_
  refine SL.val (O.nilCheck rfl rfl rfl Taken.no) ?_
  refine SL.val (O.fld_ref (o' := 0) rfl Try.underlying93 rfl (m := 0) (by kernel_rfl) rfl rfl Taken.no) ?_
  refine SL.val (O.ld1 (PtI.ref rfl rfl) rfl Try.underlying22 rfl rfl Taken.no) ?_
  refine SL.val (O.move rfl rfl Taken.no) ?_
  refine SL.val (O.idx_fz rfl rfl (rfl) (row_get (by omega)) Try.underlying22 hi5 hs5 rfl Taken.no) ?_
  refine SL.val (O.ld1 (PtI.ofU (PtU.fz rfl)) rfl Try.underlying5 rfl rfl Taken.no) ?_
  refine SL.val (O.assign rfl rfl Taken.no) ?_
  refine SL.nil ?_
  refine E.to ?_
  refine W.seq ?_
  refine W.seq ?_
  refine W.region ?_
  refine SL.val (O.move rfl rfl Taken.no) ?_
  refine SL.val (O.move rfl rfl Taken.no) ?_
  refine SL.val (O.nilCheck rfl rfl rfl Taken.no) ?_
  refine SL.val (O.fld_ref (o' := 1) rfl Try.underlying93 rfl (m := 0) (by kernel_rfl) rfl rfl Taken.no) ?_
  refine SL.val (O.ld1 (PtI.ref rfl rfl) rfl Try.underlying3 rfl rfl Taken.no) ?_
  refine SL.val (O.det (fun _ => G.R.eql rfl rfl) rfl Taken.no) ?_
  refine SL.val (O.move rfl rfl Taken.no) ?_
  refine SL.case (j := 6) (g := 33) (want := true) rfl rfl (fun hg2 => ?_) (fun hg2 => ?_)
  ·skip
   first | have hg2p := G.gA1 hg2 | have hg2p := G.gA2 hg2 | have hg2p := hg2
   refine SL.val (O.move rfl rfl (Taken.yes rfl rfl hg2)) ?_
   refine SL.val (O.det (fun _ => G.R.eql rfl rfl) rfl (Taken.yes rfl rfl hg2)) ?_
   refine SL.val (O.pick_t rfl hg2 rfl rfl Taken.no) ?_
   refine SL.val (O.move rfl rfl Taken.no) ?_
   refine SL.case (j := 10) (g := 37) (want := false) rfl rfl (fun hg3 => ?_) (fun hg3 => ?_)
   ·skip
    first | have hg3p := G.gA3 hg3 | have hg3p := G.gA4 hg3 | have hg3p := hg3
    refine SL.val (O.move rfl rfl (Taken.yes rfl rfl hg3)) ?_
    refine SL.val (O.det (fun _ => G.R.shr_c (q := 144115188075855872) rfl rfl (by decide) (by decide)) rfl (Taken.yes rfl rfl hg3)) ?_
    refine SL.val (O.det (fun _ => G.R.neq rfl rfl) rfl (Taken.yes rfl rfl hg3)) ?_
    refine SL.val (O.pick_f rfl hg3 rfl rfl Taken.no) ?_
    refine SL.nil ?_
    refine E.to ?_
    refine W.pick (.cons (t := 0) rfl (.cons (t := 4) rfl (.cons (t := 5) rfl (.cons (t := 6) rfl (.cons (t := 41) rfl .nil))))) (.cons (t := 0) rfl .nil) ?_
    first | refine W.cond_d rfl (fun hc4 => ?_) (fun hc4 => ?_) | refine W.cond_nd rfl (fun hc4 => ?_) (fun hc4 => ?_) | refine W.cond rfl (fun hc4 => ?_) (fun hc4 => ?_)
    ·skip
     refine W.seq ?_
     refine W.region ?_
     refine SL.val (O.assign rfl rfl Taken.no) ?_
     refine SL.val (O.assign rfl rfl Taken.no) ?_
     refine SL.nil ?_
     refine E.to ?_
     refine W.ret ?_
     refine E.thr ?_
     refine E.inr ?_
     refine E.thr ?_
     refine E.thr ?_
     refine E.inr ?_
     refine E.thr ?_
     refine E.fin (rs := [_, _]) (rn []) (.inl rfl) rfl (.cons (ResOne.tmp rfl) (.cons (ResOne.tmp rfl) .nil)) ?_ ?_ rfl (fixL_spec rfl)
     ·skip
      have hn : ¬ grpGo l := by first | (have e0 : j = 0 := (by omega); subst e0; exact grp_128 (by omega) (by omega)) | exact fun q => grp_big hm (by omega) (by omega) q.1
      rw [(g_no hn).1, (g_no hn).2]; rfl
     · exact (SubS.cons rfl SubS.nil)
    ·skip
     have hlb := l[j]!.toNat_lt
     have hv57 : val (l.take j) < 144115188075855872 := by omega
     have h01 : l[0]!.toNat ≠ 128 := (Nat.eq_zero_or_pos j).elim (fun q => by subst q; omega) h0
     refine W.skip ?_
     refine E.to ?_
     refine W.seq ?_
     refine W.region ?_
     refine SL.val (O.move rfl rfl Taken.no) ?_
     refine SL.val (O.det (fun _ => G.R.shl_c (q := 128) rfl rfl (by decide) (by decide)) rfl Taken.no) ?_
     refine SL.val (O.move rfl rfl Taken.no) ?_
     refine SL.val (O.det (fun _ => G.R.and rfl rfl) rfl Taken.no) ?_
     refine SL.val (O.det (fun _ => by rw [and127_8]; exact G.R.conv_in rfl Try.underlying5 Try.underlying97 (IntWalk.u64_in _ (by omega))) rfl Taken.no) ?_
     refine SL.val (O.det (fun _ => G.R.mv (G.R.or rfl rfl) (congrArg (Value.int .u64) (show _ = ((128 * val (l.take j) + l[j]!.toNat % 128 : Nat) : Int) by rw [or_low hv57 (Nat.mod_lt _ (by decide))]))) rfl Taken.no) ?_
     refine SL.val (O.assign rfl rfl Taken.no) ?_
     refine SL.nil ?_
     refine E.to ?_
     refine W.seq ?_
     refine W.region ?_
     refine SL.val (O.move rfl rfl Taken.no) ?_
     refine SL.val (O.det (fun _ => G.R.lss rfl rfl) rfl Taken.no) ?_
     refine SL.nil ?_
     refine E.to ?_
     first | refine W.cond_d rfl (fun hc5 => ?_) (fun hc5 => ?_) | refine W.cond_nd rfl (fun hc5 => ?_) (fun hc5 => ?_) | refine W.cond rfl (fun hc5 => ?_) (fun hc5 => ?_)
     ·skip
      refine W.seq ?_
      refine W.draw [⟨[], [], [], []⟩, ⟨[], [], [], []⟩, ⟨[], [], [], []⟩, ⟨[], [], [], [0]⟩, ⟨[], [], [], [0]⟩, ⟨[], [], [], [0]⟩, ⟨[0], [], [], []⟩, ⟨[], [], [], []⟩, ⟨[], [], [], []⟩, ⟨[], [], [], []⟩, ⟨[], [], [], []⟩] rfl (by kernel_rfl) (by kernel_rfl) rfl rfl ?_
      refine WH.val (O.move rfl rfl Taken.no) rfl rfl ?_
      refine WH.val (O.callp rfl rfl rfl (unfold_h (u := 128 * val (l.take j) + l[j]!.toNat % 128) (by omega)) (.cons (ArgOk.same rfl) .nil) hcallOk65 rfl Taken.no) rfl rfl ?_
      refine WH.val (O.move rfl rfl Taken.no) rfl rfl ?_
      refine WH.val (O.move rfl rfl Taken.no) rfl rfl ?_
      refine WH.val (O.nilCheck rfl rfl rfl Taken.no) rfl rfl ?_
      refine WH.val (O.fld_ref (o' := 1) rfl Try.underlying93 rfl (m := 0) (by kernel_rfl) rfl rfl Taken.no) rfl rfl ?_
      refine WH.val (O.ld1 (PtI.ref rfl rfl) rfl Try.underlying3 rfl rfl Taken.no) rfl rfl ?_
      refine WH.val (O.det (fun _ => by first | exact G.R.sub64 rfl rfl (by omega) | exact G.R.sub rfl rfl) rfl Taken.no) rfl rfl ?_
      refine WH.val (O.det (fun _ => by first | exact G.R.add64 rfl rfl (by omega) | exact G.R.add rfl rfl) rfl Taken.no) rfl rfl ?_
      refine WH.val (O.assign rfl rfl Taken.no) rfl rfl ?_
      refine WH.val (O.assign rfl rfl Taken.no) rfl rfl ?_
      refine WH.nil ?_
      refine E.to ?_
      refine W.pick (.cons (t := 0) rfl (.cons (t := 2) rfl (.cons (t := 3) rfl (.cons (t := 4) rfl (.cons (t := 5) rfl .nil))))) (.cons (t := 0) rfl .nil) ?_
      refine W.ret ?_
      refine E.inr ?_
      refine E.thr ?_
      refine E.thr ?_
      refine E.inr ?_
      refine E.thr ?_
      refine E.fin (rs := [_, _]) (rn []) (.inl rfl) rfl (.cons (ResOne.tmp rfl) (.cons (ResOne.tmp rfl) .nil)) ?_ ?_ rfl (fixL_spec rfl)
      ·skip
       have he : more l = j := (Nat.lt_or_eq_of_le hm).elim (fun q => absurd (more_lt q).1 (by omega)) Eq.symm
       subst he
       have hg := grp_sml hjl hv57 h0
       exact tup2 (by rw [(g_yes hg).1, grpN, val_take (l := l) (k := more l) (by omega)]) (by rw [(g_yes hg).2]; omega)
      · exact (SubS.cons rfl SubS.nil)
     ·skip
      refine W.skip ?_
      refine E.inn ?_
      refine E.to ?_
      refine W.region ?_
      refine SL.val (O.move rfl rfl Taken.no) ?_
      refine SL.val (O.det (fun _ => by first | exact G.R.add64 rfl rfl (by omega) | exact G.R.add rfl rfl) rfl Taken.no) ?_
      refine SL.val (O.assign rfl rfl Taken.no) ?_
      refine SL.nil ?_
      refine E.again ((j + 1)) (rn []) ?_ ?_ rfl (fixL_spec rfl) ?_ ?_
      · exact (SubF.cons rfl (SubF.val rfl (by (try dsimp only); exact iv_u64 (by rw [val_take (l := l) (k := j) (by omega)])) (SubF.cons rfl SubF.nil)))
      · exact (SubS.cons rfl SubS.nil)
      ·try dsimp only
       exact ⟨by omega, more_next hm (by omega) (by omega), fun _ => h01, by rw [val_take (l := l) (k := j) (by omega)]; omega⟩
      · (try dsimp only); omega
   ·skip
    first | have hg3p := G.gA7 hg3 | have hg3p := G.gA8 hg3 | have hg3p := hg3
    refine SL.skip (OpOk.not rfl rfl rfl hg3) ?_
    refine SL.skip (OpOk.not rfl rfl rfl hg3) ?_
    refine SL.skip (OpOk.not rfl rfl rfl hg3) ?_
    refine SL.val (O.pick_t rfl (G.ne_f hg3) rfl rfl Taken.no) ?_
    refine SL.nil ?_
    refine E.to ?_
    refine W.pick (.cons (t := 0) rfl (.cons (t := 4) rfl (.cons (t := 5) rfl (.cons (t := 6) rfl (.cons (t := 41) rfl .nil))))) (.cons (t := 0) rfl .nil) ?_
    refine W.cond_t rfl ?_
    refine W.seq ?_
    refine W.region ?_
    refine SL.val (O.assign rfl rfl Taken.no) ?_
    refine SL.val (O.assign rfl rfl Taken.no) ?_
    refine SL.nil ?_
    refine E.to ?_
    refine W.ret ?_
    refine E.thr ?_
    refine E.inr ?_
    refine E.thr ?_
    refine E.thr ?_
    refine E.inr ?_
    refine E.thr ?_
    refine E.fin (rs := [_, _]) (rn []) (.inl rfl) rfl (.cons (ResOne.tmp rfl) (.cons (ResOne.tmp rfl) .nil)) ?_ ?_ rfl (fixL_spec rfl)
    ·skip
     have hn : ¬ grpGo l := by first | (have e0 : j = 0 := (by omega); subst e0; exact grp_128 (by omega) (by omega)) | exact fun q => grp_big hm (by omega) (by omega) q.1
     rw [(g_no hn).1, (g_no hn).2]; rfl
    · exact (SubS.cons rfl SubS.nil)
  ·skip
   first | have hg2p := G.gA5 hg2 | have hg2p := G.gA6 hg2 | have hg2p := hg2
   refine SL.skip (OpOk.not rfl rfl rfl hg2) ?_
   refine SL.skip (OpOk.not rfl rfl rfl hg2) ?_
   refine SL.val (O.pick_f rfl (G.ne_t hg2) rfl rfl Taken.no) ?_
   refine SL.val (O.move rfl rfl Taken.no) ?_
   have hg6 : false = false := by decide
   refine SL.val (O.move rfl rfl (Taken.yes rfl rfl hg6)) ?_
   refine SL.val (O.det (fun _ => G.R.shr_c (q := 144115188075855872) rfl rfl (by decide) (by decide)) rfl (Taken.yes rfl rfl hg6)) ?_
   refine SL.val (O.det (fun _ => G.R.neq rfl rfl) rfl (Taken.yes rfl rfl hg6)) ?_
   refine SL.val (O.pick_f rfl rfl rfl rfl Taken.no) ?_
   refine SL.nil ?_
   refine E.to ?_
   refine W.pick (.cons (t := 0) rfl (.cons (t := 4) rfl (.cons (t := 5) rfl (.cons (t := 6) rfl (.cons (t := 41) rfl .nil))))) (.cons (t := 0) rfl .nil) ?_
   first | refine W.cond_d rfl (fun hc7 => ?_) (fun hc7 => ?_) | refine W.cond_nd rfl (fun hc7 => ?_) (fun hc7 => ?_) | refine W.cond rfl (fun hc7 => ?_) (fun hc7 => ?_)
   ·skip
    refine W.seq ?_
    refine W.region ?_
    refine SL.val (O.assign rfl rfl Taken.no) ?_
    refine SL.val (O.assign rfl rfl Taken.no) ?_
    refine SL.nil ?_
    refine E.to ?_
    refine W.ret ?_
    refine E.thr ?_
    refine E.inr ?_
    refine E.thr ?_
    refine E.thr ?_
    refine E.inr ?_
    refine E.thr ?_
    refine E.fin (rs := [_, _]) (rn []) (.inl rfl) rfl (.cons (ResOne.tmp rfl) (.cons (ResOne.tmp rfl) .nil)) ?_ ?_ rfl (fixL_spec rfl)
    ·skip
     have hn : ¬ grpGo l := by first | (have e0 : j = 0 := (by omega); subst e0; exact grp_128 (by omega) (by omega)) | exact fun q => grp_big hm (by omega) (by omega) q.1
     rw [(g_no hn).1, (g_no hn).2]; rfl
    · exact (SubS.cons rfl SubS.nil)
   ·skip
    have hlb := l[j]!.toNat_lt
    have hv57 : val (l.take j) < 144115188075855872 := by omega
    have h01 : l[0]!.toNat ≠ 128 := (Nat.eq_zero_or_pos j).elim (fun q => by subst q; omega) h0
    refine W.skip ?_
    refine E.to ?_
    refine W.seq ?_
    refine W.region ?_
    refine SL.val (O.move rfl rfl Taken.no) ?_
    refine SL.val (O.det (fun _ => G.R.shl_c (q := 128) rfl rfl (by decide) (by decide)) rfl Taken.no) ?_
    refine SL.val (O.move rfl rfl Taken.no) ?_
    refine SL.val (O.det (fun _ => G.R.and rfl rfl) rfl Taken.no) ?_
    refine SL.val (O.det (fun _ => by rw [and127_8]; exact G.R.conv_in rfl Try.underlying5 Try.underlying97 (IntWalk.u64_in _ (by omega))) rfl Taken.no) ?_
    refine SL.val (O.det (fun _ => G.R.mv (G.R.or rfl rfl) (congrArg (Value.int .u64) (show _ = ((128 * val (l.take j) + l[j]!.toNat % 128 : Nat) : Int) by rw [or_low hv57 (Nat.mod_lt _ (by decide))]))) rfl Taken.no) ?_
    refine SL.val (O.assign rfl rfl Taken.no) ?_
    refine SL.nil ?_
    refine E.to ?_
    refine W.seq ?_
    refine W.region ?_
    refine SL.val (O.move rfl rfl Taken.no) ?_
    refine SL.val (O.det (fun _ => G.R.lss rfl rfl) rfl Taken.no) ?_
    refine SL.nil ?_
    refine E.to ?_
    first | refine W.cond_d rfl (fun hc8 => ?_) (fun hc8 => ?_) | refine W.cond_nd rfl (fun hc8 => ?_) (fun hc8 => ?_) | refine W.cond rfl (fun hc8 => ?_) (fun hc8 => ?_)
    ·skip
     refine W.seq ?_
     refine W.draw [⟨[], [], [], []⟩, ⟨[], [], [], []⟩, ⟨[], [], [], []⟩, ⟨[], [], [], [0]⟩, ⟨[], [], [], [0]⟩, ⟨[], [], [], [0]⟩, ⟨[0], [], [], []⟩, ⟨[], [], [], []⟩, ⟨[], [], [], []⟩, ⟨[], [], [], []⟩, ⟨[], [], [], []⟩] rfl (by kernel_rfl) (by kernel_rfl) rfl rfl ?_
     refine WH.val (O.move rfl rfl Taken.no) rfl rfl ?_
     refine WH.val (O.callp rfl rfl rfl (unfold_h (u := 128 * val (l.take j) + l[j]!.toNat % 128) (by omega)) (.cons (ArgOk.same rfl) .nil) hcallOk65 rfl Taken.no) rfl rfl ?_
     refine WH.val (O.move rfl rfl Taken.no) rfl rfl ?_
     refine WH.val (O.move rfl rfl Taken.no) rfl rfl ?_
     refine WH.val (O.nilCheck rfl rfl rfl Taken.no) rfl rfl ?_
     refine WH.val (O.fld_ref (o' := 1) rfl Try.underlying93 rfl (m := 0) (by kernel_rfl) rfl rfl Taken.no) rfl rfl ?_
     refine WH.val (O.ld1 (PtI.ref rfl rfl) rfl Try.underlying3 rfl rfl Taken.no) rfl rfl ?_
     refine WH.val (O.det (fun _ => by first | exact G.R.sub64 rfl rfl (by omega) | exact G.R.sub rfl rfl) rfl Taken.no) rfl rfl ?_
     refine WH.val (O.det (fun _ => by first | exact G.R.add64 rfl rfl (by omega) | exact G.R.add rfl rfl) rfl Taken.no) rfl rfl ?_
     refine WH.val (O.assign rfl rfl Taken.no) rfl rfl ?_
     refine WH.val (O.assign rfl rfl Taken.no) rfl rfl ?_
     refine WH.nil ?_
     refine E.to ?_
     refine W.pick (.cons (t := 0) rfl (.cons (t := 2) rfl (.cons (t := 3) rfl (.cons (t := 4) rfl (.cons (t := 5) rfl .nil))))) (.cons (t := 0) rfl .nil) ?_
     refine W.ret ?_
     refine E.inr ?_
     refine E.thr ?_
     refine E.thr ?_
     refine E.inr ?_
     refine E.thr ?_
     refine E.fin (rs := [_, _]) (rn []) (.inl rfl) rfl (.cons (ResOne.tmp rfl) (.cons (ResOne.tmp rfl) .nil)) ?_ ?_ rfl (fixL_spec rfl)
     ·skip
      have he : more l = j := (Nat.lt_or_eq_of_le hm).elim (fun q => absurd (more_lt q).1 (by omega)) Eq.symm
      subst he
      have hg := grp_sml hjl hv57 h0
      exact tup2 (by rw [(g_yes hg).1, grpN, val_take (l := l) (k := more l) (by omega)]) (by rw [(g_yes hg).2]; omega)
     · exact (SubS.cons rfl SubS.nil)
    ·skip
     refine W.skip ?_
     refine E.inn ?_
     refine E.to ?_
     refine W.region ?_
     refine SL.val (O.move rfl rfl Taken.no) ?_
     refine SL.val (O.det (fun _ => by first | exact G.R.add64 rfl rfl (by omega) | exact G.R.add rfl rfl) rfl Taken.no) ?_
     refine SL.val (O.assign rfl rfl Taken.no) ?_
     refine SL.nil ?_
     refine E.again ((j + 1)) (rn []) ?_ ?_ rfl (fixL_spec rfl) ?_ ?_
     · exact (SubF.cons rfl (SubF.val rfl (by (try dsimp only); exact iv_u64 (by rw [val_take (l := l) (k := j) (by omega)])) (SubF.cons rfl SubF.nil)))
     · exact (SubS.cons rfl SubS.nil)
     ·try dsimp only
      exact ⟨by omega, more_next hm (by omega) (by omega), fun _ => h01, by rw [val_take (l := l) (k := j) (by omega)]; omega⟩
     · (try dsimp only); omega
 ·skip
  refine W.exit ?_
  refine E.th ?_
  refine E.th ?_
  refine E.hit ?_
  refine E.to ?_
  refine W.seq ?_
  refine W.region ?_
  refine SL.val (O.assign rfl rfl Taken.no) ?_
  refine SL.val (O.assign rfl rfl Taken.no) ?_
  refine SL.nil ?_
  refine E.to ?_
  refine W.ret ?_
  refine E.fin (rs := [_, _]) (rn []) (.inl rfl) rfl (.cons (ResOne.tmp rfl) (.cons (ResOne.tmp rfl) .nil)) ?_ ?_ rfl (fixL_spec rfl)
  ·skip
   have hn : ¬ grpGo l := fun q => grp_none hm (by omega) q.1
   rw [(g_no hn).1, (g_no hn).2]; rfl
  · exact (SubS.cons rfl SubS.nil)

set_option maxRecDepth 8000 in
/-- (*bookplate/wire.Reader).Int. -/
theorem rint_h {l : Bs} (lo hi : Int) (hb : l.length ≤ 1000000) :
    Con Try.prog 29 [.ref 0 0, vI lo, vI hi] [(0, .cells 93 [.u (.sl 1 (l.map eB)), vI 0, vB false])] (vI (rdN l lo hi)) [(0, .cells 93 [.u (.sl 1 (l.map eB)), vI (rdA l lo hi), vB (decide (¬ inI l lo hi))])] := by
 refine Con.enterL (n := 46) Try.func29 rfl rfl rfl (fun τ w ok vs hin => ?_)
 clear hin
 refine W.seq ?_
 refine W.region ?_
 refine SL.val (O.assign rfl rfl Taken.no) ?_
 refine SL.nil ?_
 refine E.to ?_
 refine W.seq ?_
 refine W.seq ?_
 refine W.region ?_
 refine SL.val (O.move rfl rfl Taken.no) ?_
 refine SL.val (O.ptrnil (.inl ⟨_, _, rfl⟩) rfl (by kernel_rfl) rfl Taken.no) ?_
 refine SL.val (O.move rfl rfl Taken.no) ?_
 have hg1 : false = false := by decide
 refine SL.val (O.move rfl rfl (Taken.yes rfl rfl hg1)) ?_
 refine SL.val (O.nilCheck rfl rfl rfl (Taken.yes rfl rfl hg1)) ?_
 refine SL.val (O.fld_ref (o' := 2) rfl Try.underlying93 rfl (m := 0) (by kernel_rfl) rfl rfl (Taken.yes rfl rfl hg1)) ?_
 refine SL.val (O.ld1 (PtI.ref rfl rfl) rfl Try.underlying4 rfl rfl (Taken.yes rfl rfl hg1)) ?_
 refine SL.val (O.pick_f rfl rfl rfl rfl Taken.no) ?_
 refine SL.nil ?_
 refine E.to ?_
 first | refine W.cond_d rfl (fun hc2 => ?_) (fun hc2 => ?_) | refine W.cond_nd rfl (fun hc2 => ?_) (fun hc2 => ?_) | refine W.cond rfl (fun hc2 => ?_) (fun hc2 => ?_)
 ·skip
  exact absurd (show false = true by assumption) (by decide)
 ·skip
  refine W.skip ?_
  refine E.to ?_
  refine W.seq ?_
  refine W.region ?_
  refine SL.val (O.move rfl rfl Taken.no) ?_
  refine SL.memS (O.call (rn [(0, 0)]) [] rfl rfl rfl (group_h (l := l) (by omega)) (.cons (ArgOk.same rfl) .nil) (SubS.cons rfl SubS.nil) rfl rfl rfl rfl rfl (.inl rfl) hcallOk50 (r' := .tup [.u _, .u _]) rfl rfl Taken.no) rfl rfl (S' := (0, .cells _ [.u _, .u _, .u _]) :: _) rfl ?_
  refine SL.val (O.move rfl rfl Taken.no) ?_
  refine SL.val (O.extract rfl rfl rfl Taken.no) ?_
  refine SL.val (O.extract rfl rfl rfl Taken.no) ?_
  refine SL.val (O.assign rfl rfl Taken.no) ?_
  refine SL.val (O.assign rfl rfl Taken.no) ?_
  refine SL.nil ?_
  refine E.to ?_
  refine W.seq ?_
  refine W.seq ?_
  refine W.region ?_
  refine SL.val (O.move rfl rfl Taken.no) ?_
  refine SL.val (O.det (fun _ => G.R.eql rfl rfl) rfl Taken.no) ?_
  refine SL.val (O.move rfl rfl Taken.no) ?_
  refine SL.case (j := 2) (g := 24) (want := false) rfl rfl (fun hg3 => ?_) (fun hg3 => ?_)
  ·skip
   first | have hg3p := G.gA3 hg3 | have hg3p := G.gA4 hg3 | have hg3p := hg3
   refine SL.val (O.move rfl rfl (Taken.yes rfl rfl hg3)) ?_
   refine SL.val (O.move rfl rfl (Taken.yes rfl rfl hg3)) ?_
   refine SL.val (O.det (fun _ => G.R.lss rfl rfl) rfl (Taken.yes rfl rfl hg3)) ?_
   refine SL.val (O.pick_f rfl hg3 rfl rfl Taken.no) ?_
   refine SL.val (O.move rfl rfl Taken.no) ?_
   refine SL.case (j := 7) (g := 29) (want := false) rfl rfl (fun hg4 => ?_) (fun hg4 => ?_)
   ·skip
    first | have hg4p := G.gA3 hg4 | have hg4p := G.gA4 hg4 | have hg4p := hg4
    refine SL.val (O.move rfl rfl (Taken.yes rfl rfl hg4)) ?_
    refine SL.val (O.move rfl rfl (Taken.yes rfl rfl hg4)) ?_
    refine SL.val (O.det (fun _ => G.R.gtr rfl rfl) rfl (Taken.yes rfl rfl hg4)) ?_
    refine SL.val (O.pick_f rfl hg4 rfl rfl Taken.no) ?_
    refine SL.nil ?_
    refine E.to ?_
    refine W.pick (.cons (t := 0) rfl (.cons (t := 6) rfl (.cons (t := 7) rfl (.cons (t := 8) rfl (.cons (t := 33) rfl .nil))))) (.cons (t := 0) rfl .nil) ?_
    first | refine W.cond_d rfl (fun hc5 => ?_) (fun hc5 => ?_) | refine W.cond_nd rfl (fun hc5 => ?_) (fun hc5 => ?_) | refine W.cond rfl (fun hc5 => ?_) (fun hc5 => ?_)
    ·skip
     refine W.seq ?_
     refine W.region ?_
     refine SL.val (O.move rfl rfl Taken.no) ?_
     refine SL.val (O.nilCheck rfl rfl rfl Taken.no) ?_
     refine SL.val (O.fld_ref (o' := 2) rfl Try.underlying93 rfl (m := 0) (by kernel_rfl) rfl rfl Taken.no) ?_
     refine SL.effS (O.st_ref (m := 1) rfl rfl rfl (js := [_]) rfl rfl (by kernel_rfl) (by simp) (Nat.le_of_ble_eq_true rfl) rfl (is' := [_, _, _]) rfl Taken.no) (S' := (0, _) :: _) rfl ?_
     refine SL.nil ?_
     refine E.to ?_
     refine W.seq ?_
     refine W.region ?_
     refine SL.val (O.assign rfl rfl Taken.no) ?_
     refine SL.nil ?_
     refine E.to ?_
     refine W.ret ?_
     refine E.thr ?_
     have hn : ¬ inI l lo hi := fun q => by have := rd_in.1 q; omega
     refine E.fin (rs := [_]) (rn []) (.inl rfl) rfl (.cons (ResOne.tmp rfl) .nil) ?_ ?_ rfl (fixL_spec rfl)
     ·skip
      rw [(rd_no hn).1]; rfl
     · exact (SubS.val rfl (by rw [(rd_no hn).2.1, (rd_no hn).2.2]; rfl) SubS.nil)
    ·skip
     refine W.skip ?_
     refine E.to ?_
     refine W.seq ?_
     refine W.region ?_
     refine SL.val (O.move rfl rfl Taken.no) ?_
     refine SL.val (O.nilCheck rfl rfl rfl Taken.no) ?_
     refine SL.val (O.fld_ref (o' := 1) rfl Try.underlying93 rfl (m := 0) (by kernel_rfl) rfl rfl Taken.no) ?_
     refine SL.val (O.ld1 (PtI.ref rfl rfl) rfl Try.underlying3 rfl rfl Taken.no) ?_
     refine SL.val (O.move rfl rfl Taken.no) ?_
     refine SL.val (O.det (fun _ => by first | exact G.R.add64 rfl rfl (by omega) | exact G.R.add rfl rfl) rfl Taken.no) ?_
     refine SL.val (O.nilCheck rfl rfl rfl Taken.no) ?_
     refine SL.val (O.fld_ref (o' := 1) rfl Try.underlying93 rfl (m := 0) (by kernel_rfl) rfl rfl Taken.no) ?_
     refine SL.effS (O.st_ref (m := 1) rfl rfl rfl (js := [_]) rfl rfl (by kernel_rfl) (by simp) (Nat.le_of_ble_eq_true rfl) rfl (is' := [_, _, _]) rfl Taken.no) (S' := (0, _) :: _) rfl ?_
     refine SL.nil ?_
     refine E.to ?_
     refine W.seq ?_
     refine W.region ?_
     refine SL.val (O.move rfl rfl Taken.no) ?_
     refine SL.val (O.assign rfl rfl Taken.no) ?_
     refine SL.nil ?_
     refine E.to ?_
     refine W.ret ?_
     have hy : inI l lo hi := rd_in.2 ⟨by omega, by omega, by omega⟩
     have hml := more_le l
     have hgs := (g_yes hy.1).2
     refine E.fin (rs := [_]) (rn []) (.inl rfl) rfl (.cons (ResOne.tmp rfl) .nil) ?_ ?_ rfl (fixL_spec rfl)
     ·skip
      rw [(rd_yes hy).1, ← (g_yes hy.1).1]; rfl
     · exact (SubS.val rfl (by rw [(rd_yes hy).2.1, (rd_yes hy).2.2, hgs, IntKind.wrap_i64, show ((0 + ((more l + 1 : Nat) : Int) + 9223372036854775808) % 18446744073709551616 - 9223372036854775808) = ((more l + 1 : Nat) : Int) by omega]; rfl) SubS.nil)
   ·skip
    first | have hg4p := G.gA7 hg4 | have hg4p := G.gA8 hg4 | have hg4p := hg4
    refine SL.skip (OpOk.not rfl rfl rfl hg4) ?_
    refine SL.skip (OpOk.not rfl rfl rfl hg4) ?_
    refine SL.skip (OpOk.not rfl rfl rfl hg4) ?_
    refine SL.val (O.pick_t rfl (G.ne_f hg4) rfl rfl Taken.no) ?_
    refine SL.nil ?_
    refine E.to ?_
    refine W.pick (.cons (t := 0) rfl (.cons (t := 6) rfl (.cons (t := 7) rfl (.cons (t := 8) rfl (.cons (t := 33) rfl .nil))))) (.cons (t := 0) rfl .nil) ?_
    refine W.cond_t rfl ?_
    refine W.seq ?_
    refine W.region ?_
    refine SL.val (O.move rfl rfl Taken.no) ?_
    refine SL.val (O.nilCheck rfl rfl rfl Taken.no) ?_
    refine SL.val (O.fld_ref (o' := 2) rfl Try.underlying93 rfl (m := 0) (by kernel_rfl) rfl rfl Taken.no) ?_
    refine SL.effS (O.st_ref (m := 1) rfl rfl rfl (js := [_]) rfl rfl (by kernel_rfl) (by simp) (Nat.le_of_ble_eq_true rfl) rfl (is' := [_, _, _]) rfl Taken.no) (S' := (0, _) :: _) rfl ?_
    refine SL.nil ?_
    refine E.to ?_
    refine W.seq ?_
    refine W.region ?_
    refine SL.val (O.assign rfl rfl Taken.no) ?_
    refine SL.nil ?_
    refine E.to ?_
    refine W.ret ?_
    refine E.thr ?_
    have hn : ¬ inI l lo hi := fun q => by have := rd_in.1 q; omega
    refine E.fin (rs := [_]) (rn []) (.inl rfl) rfl (.cons (ResOne.tmp rfl) .nil) ?_ ?_ rfl (fixL_spec rfl)
    ·skip
     rw [(rd_no hn).1]; rfl
    · exact (SubS.val rfl (by rw [(rd_no hn).2.1, (rd_no hn).2.2]; rfl) SubS.nil)
  ·skip
   first | have hg3p := G.gA7 hg3 | have hg3p := G.gA8 hg3 | have hg3p := hg3
   refine SL.skip (OpOk.not rfl rfl rfl hg3) ?_
   refine SL.skip (OpOk.not rfl rfl rfl hg3) ?_
   refine SL.skip (OpOk.not rfl rfl rfl hg3) ?_
   refine SL.val (O.pick_t rfl (G.ne_f hg3) rfl rfl Taken.no) ?_
   refine SL.val (O.move rfl rfl Taken.no) ?_
   have hg6 : true ≠ false := by decide
   refine SL.skip (OpOk.not rfl rfl rfl hg6) ?_
   refine SL.skip (OpOk.not rfl rfl rfl hg6) ?_
   refine SL.skip (OpOk.not rfl rfl rfl hg6) ?_
   refine SL.val (O.pick_t rfl rfl rfl rfl Taken.no) ?_
   refine SL.nil ?_
   refine E.to ?_
   refine W.pick (.cons (t := 0) rfl (.cons (t := 6) rfl (.cons (t := 7) rfl (.cons (t := 8) rfl (.cons (t := 33) rfl .nil))))) (.cons (t := 0) rfl .nil) ?_
   refine W.cond_t rfl ?_
   refine W.seq ?_
   refine W.region ?_
   refine SL.val (O.move rfl rfl Taken.no) ?_
   refine SL.val (O.nilCheck rfl rfl rfl Taken.no) ?_
   refine SL.val (O.fld_ref (o' := 2) rfl Try.underlying93 rfl (m := 0) (by kernel_rfl) rfl rfl Taken.no) ?_
   refine SL.effS (O.st_ref (m := 1) rfl rfl rfl (js := [_]) rfl rfl (by kernel_rfl) (by simp) (Nat.le_of_ble_eq_true rfl) rfl (is' := [_, _, _]) rfl Taken.no) (S' := (0, _) :: _) rfl ?_
   refine SL.nil ?_
   refine E.to ?_
   refine W.seq ?_
   refine W.region ?_
   refine SL.val (O.assign rfl rfl Taken.no) ?_
   refine SL.nil ?_
   refine E.to ?_
   refine W.ret ?_
   refine E.thr ?_
   have hn : ¬ inI l lo hi := fun q => by have := rd_in.1 q; omega
   refine E.fin (rs := [_]) (rn []) (.inl rfl) rfl (.cons (ResOne.tmp rfl) .nil) ?_ ?_ rfl (fixL_spec rfl)
   ·skip
    rw [(rd_no hn).1]; rfl
   · exact (SubS.val rfl (by rw [(rd_no hn).2.1, (rd_no hn).2.2]; rfl) SubS.nil)

set_option maxRecDepth 8000 in
/-- bookplate/bookplateref01.group. -/
theorem refGroup_h {l : Bs} (hb : l.length ≤ 1000000) :
    Con Try.prog 53 [vL 1 (l.map eB), vI 0] [] (.tup [vI (qN l), vI (qE l), vB (decide (grpGo l))]) [] := by
 obtain ⟨i5, hi5, hz5, hs5, hb5⟩ := hinf5
 refine Con.enterL (n := 61) Try.func53 rfl rfl rfl (fun τ w ok vs hin => ?_)
 have hl0 := hin.len (i := 0) rfl
 try rw [List.length_map] at hl0
 clear hin
 refine W.seq ?_
 refine W.region ?_
 refine SL.val (O.assign rfl rfl Taken.no) ?_
 refine SL.val (O.assign rfl rfl Taken.no) ?_
 refine SL.val (O.assign rfl rfl Taken.no) ?_
 refine SL.nil ?_
 refine E.to ?_
 refine W.seq ?_
 refine W.region ?_
 refine SL.val (O.assign rfl rfl Taken.no) ?_
 refine SL.nil ?_
 refine E.to ?_
 refine W.seq ?_
 refine W.seq ?_
 refine W.region ?_
 refine SL.val (O.move rfl rfl Taken.no) ?_
 refine SL.val (O.assign rfl rfl Taken.no) ?_
 refine SL.nil ?_
 refine E.to ?_
 refine W.block ?_
 refine W.loopx1 (fun (j : Nat) => [(8, vI (j : Int)), (7, vN .u64 (val (l.take j) : Nat))]) (fun (j : Nat) => []) (fun (j : Nat) => j ≤ l.length ∧ j ≤ more l ∧ j ≤ 10 ∧ val (l.take j) < 18446744073709551616) (fun (j : Nat) => l.length - j) (0) (rn []) (.cons (t := 0) rfl (.cons (t := 1) rfl .nil)) .nil rfl ?_ ?_ rfl rfl ?_ ?_
 · exact (SubF.cons rfl (SubF.cons rfl SubF.nil))
 · exact SubS.nil
 ·skip
  exact ⟨by omega, by omega, by omega, by show val [] < _; decide⟩
 intro j hinv
 obtain ⟨hj, hm, h10, hv⟩ := hinv
 refine W.seq ?_
 refine W.seq ?_
 refine W.region ?_
 refine SL.val (O.move rfl rfl Taken.no) ?_
 refine SL.val (O.move rfl rfl Taken.no) ?_
 refine SL.val (O.lenE (SlOf.fz rfl (by decide)) (by first | exact List.length_map _ | rfl) Try.underlying22 rfl Taken.no) ?_
 refine SL.val (O.det (fun _ => G.R.lss rfl rfl) rfl Taken.no) ?_
 refine SL.val (O.move rfl rfl Taken.no) ?_
 refine SL.case (j := 4) (g := 14) (want := true) rfl rfl (fun hg1 => ?_) (fun hg1 => ?_)
 ·skip
  first | have hg1p := G.gA1 hg1 | have hg1p := G.gA2 hg1 | have hg1p := hg1
  refine SL.val (O.move rfl rfl (Taken.yes rfl rfl hg1)) ?_
  refine SL.val (O.move rfl rfl (Taken.yes rfl rfl hg1)) ?_
  refine SL.val (O.det (fun _ => by first | exact G.R.add64 rfl rfl (by omega) | exact G.R.add rfl rfl) rfl (Taken.yes rfl rfl hg1)) ?_
  refine SL.val (O.det (fun _ => G.R.lss rfl rfl) rfl (Taken.yes rfl rfl hg1)) ?_
  refine SL.val (O.pick_t rfl hg1 rfl rfl Taken.no) ?_
  refine SL.nil ?_
  refine E.to ?_
  first | refine W.cond_d rfl (fun hc2 => ?_) (fun hc2 => ?_) | refine W.cond_nd rfl (fun hc2 => ?_) (fun hc2 => ?_) | refine W.cond rfl (fun hc2 => ?_) (fun hc2 => ?_)
  ·skip
   have hjl : j < l.length := by omega
   have hj9 : j ≤ 9 := by omega
   refine W.skip ?_
   refine E.to ?_
   refine W.seq ?_
   refine W.block ?_
   refine W.seq ?_
   refine W.seq ?_
   refine W.region ?_
   refine SL.val (O.move rfl rfl Taken.no) ?_
   refine SL.val (O.move rfl rfl Taken.no) ?_
   refine SL.val (O.det (fun _ => by first | exact G.R.add64 rfl rfl (by omega) | exact G.R.add rfl rfl) rfl Taken.no) ?_
   refine SL.val (O.det (fun _ => G.R.eql rfl rfl) rfl Taken.no) ?_
   refine SL.val (O.move rfl rfl Taken.no) ?_
   refine SL.case (j := 4) (g := 26) (want := true) rfl rfl (fun hg3 => ?_) (fun hg3 => ?_)
   ·skip
    first | have hg3p := G.gA1 hg3 | have hg3p := G.gA2 hg3 | have hg3p := hg3
    refine SL.val (O.move rfl rfl (Taken.yes rfl rfl hg3)) ?_
    refine SL.val (O.move rfl rfl (Taken.yes rfl rfl hg3)) ?_
    refine SL.val (O.idx_fz (i := 0) rfl rfl (rfl) (row_get (by omega)) Try.underlying22 hi5 hs5 rfl (Taken.yes rfl rfl hg3)) ?_
    refine SL.val (O.ld1 (PtI.ofU (PtU.fz rfl)) rfl Try.underlying5 rfl rfl (Taken.yes rfl rfl hg3)) ?_
    refine SL.val (O.det (fun _ => G.R.gtr rfl rfl) rfl (Taken.yes rfl rfl hg3)) ?_
    refine SL.val (O.pick_t rfl hg3 rfl rfl Taken.no) ?_
    refine SL.nil ?_
    refine E.to ?_
    refine W.pick (.cons (t := 0) rfl (.cons (t := 1) rfl (.cons (t := 7) rfl (.cons (t := 8) rfl (.cons (t := 32) rfl .nil))))) .nil ?_
    first | refine W.cond_d rfl (fun hc4 => ?_) (fun hc4 => ?_) | refine W.cond_nd rfl (fun hc4 => ?_) (fun hc4 => ?_) | refine W.cond rfl (fun hc4 => ?_) (fun hc4 => ?_)
    ·skip
     refine W.seq ?_
     refine W.region ?_
     refine SL.val (O.assign rfl rfl Taken.no) ?_
     refine SL.val (O.assign rfl rfl Taken.no) ?_
     refine SL.val (O.assign rfl rfl Taken.no) ?_
     refine SL.nil ?_
     refine E.to ?_
     refine W.ret ?_
     refine E.thr ?_
     refine E.inr ?_
     refine E.thr ?_
     refine E.thr ?_
     refine E.inr ?_
     refine E.thr ?_
     refine E.fin (rs := [_, _, _]) (rn []) (.inl rfl) rfl (.cons (ResOne.tmp rfl) (.cons (ResOne.tmp rfl) (.cons (ResOne.tmp rfl) .nil))) ?_ ?_ rfl (fixL_spec rfl)
     ·skip
      have hn : ¬ grpOk l := fun q => by have h9 : more l = 9 := (by have := q.2.1; omega); have := q.2.2 h9; omega
      rw [(q_no hn).1, (q_no hn).2.1, (q_no hn).2.2]; rfl
     · exact SubS.nil
    ·skip
     refine W.skip ?_
     refine E.to ?_
     refine W.seq ?_
     refine W.region ?_
     have hlb := l[j]!.toNat_lt
     have hb0 : j = 9 → 128 ≤ l[0]!.toNat ∧ l[0]!.toNat ≤ 129 := fun e => ⟨(more_lt (by omega)).1, by omega⟩
     have hv57 := val57 hj9 hj hb0
     refine SL.val (O.move rfl rfl Taken.no) ?_
     refine SL.val (O.det (fun _ => G.R.mv (G.R.mul rfl rfl) (congrArg (Value.int .u64) (show _ = ((128 * val (l.take j) : Nat) : Int) by rw [IntKind.wrap_u64]; omega))) rfl Taken.no) ?_
     refine SL.val (O.move rfl rfl Taken.no) ?_
     refine SL.val (O.move rfl rfl Taken.no) ?_
     refine SL.val (O.idx_fz (i := j) rfl rfl (rfl) (row_get (by omega)) Try.underlying22 hi5 hs5 rfl Taken.no) ?_
     refine SL.val (O.ld1 (PtI.ofU (PtU.fz rfl)) rfl Try.underlying5 rfl rfl Taken.no) ?_
     refine SL.val (O.det (fun _ => by first | exact G.R.rem0 rfl rfl (by omega) (by omega) | exact G.R.rem rfl rfl (by omega)) rfl Taken.no) ?_
     refine SL.val (O.det (fun _ => by first | exact G.R.conv_in rfl Try.underlying5 Try.underlying97 (IntWalk.u64_in _ (by omega)) | exact G.R.conv rfl Try.underlying5 Try.underlying97) rfl Taken.no) ?_
     refine SL.val (O.det (fun _ => G.R.mv (G.R.add rfl rfl) (congrArg (Value.int .u64) (show _ = ((128 * val (l.take j) + l[j]!.toNat % 128 : Nat) : Int) by rw [IntKind.wrap_u64]; omega))) rfl Taken.no) ?_
     refine SL.val (O.assign rfl rfl Taken.no) ?_
     refine SL.nil ?_
     refine E.to ?_
     refine W.seq ?_
     refine W.region ?_
     refine SL.val (O.move rfl rfl Taken.no) ?_
     refine SL.val (O.move rfl rfl Taken.no) ?_
     refine SL.val (O.idx_fz (i := j) rfl rfl (rfl) (row_get (by omega)) Try.underlying22 hi5 hs5 rfl Taken.no) ?_
     refine SL.val (O.ld1 (PtI.ofU (PtU.fz rfl)) rfl Try.underlying5 rfl rfl Taken.no) ?_
     refine SL.val (O.det (fun _ => G.R.lss rfl rfl) rfl Taken.no) ?_
     refine SL.nil ?_
     refine E.to ?_
     first | refine W.cond_d rfl (fun hc5 => ?_) (fun hc5 => ?_) | refine W.cond_nd rfl (fun hc5 => ?_) (fun hc5 => ?_) | refine W.cond rfl (fun hc5 => ?_) (fun hc5 => ?_)
     ·skip
      have he : more l = j := (Nat.lt_or_eq_of_le hm).elim (fun q => absurd (more_lt q).1 (by omega)) Eq.symm
      have hg : grpOk l := ⟨by omega, by omega, fun e => (hb0 (by omega)).2⟩
      refine W.seq ?_
      refine W.draw [⟨[], [], [], []⟩, ⟨[], [], [], []⟩, ⟨[], [], [], []⟩, ⟨[], [], [], []⟩, ⟨[], [], [], []⟩, ⟨[], [], [], []⟩, ⟨[], [], [], []⟩, ⟨[], [], [], []⟩, ⟨[], [], [], []⟩, ⟨[], [], [], []⟩, ⟨[], [], [], []⟩, ⟨[], [], [], []⟩, ⟨[], [], [], []⟩, ⟨[], [], [], []⟩, ⟨[], [], [], []⟩, ⟨[], [], [], []⟩, ⟨[], [], [], []⟩] rfl (by kernel_rfl) (by kernel_rfl) rfl rfl ?_
      refine WH.val (O.move rfl rfl Taken.no) rfl rfl ?_
      refine WH.val (O.callp rfl rfl rfl (unfolded_h (u := 128 * val (l.take j) + l[j]!.toNat % 128) (by omega)) (.cons (ArgOk.same rfl) .nil) hcallOk66 rfl Taken.no) rfl rfl ?_
      refine WH.val (O.move rfl rfl Taken.no) rfl rfl ?_
      refine WH.val (O.det (fun _ => by first | exact G.R.add64 rfl rfl (by omega) | exact G.R.add rfl rfl) rfl Taken.no) rfl rfl ?_
      refine WH.val (O.move rfl rfl Taken.no) rfl rfl ?_
      refine WH.val (O.move rfl rfl Taken.no) rfl rfl ?_
      refine WH.val (O.det (fun _ => G.R.eql rfl rfl) rfl Taken.no) rfl rfl ?_
      refine WH.val (O.move rfl rfl Taken.no) rfl rfl ?_
      refine WH.case (j := 7) (g := 54) (want := false) rfl rfl (fun hg6 => ?_) (fun hg6 => ?_)
      ·skip
       first | have hg6p := G.gA3 hg6 | have hg6p := G.gA4 hg6 | have hg6p := hg6
       refine WH.val (O.move rfl rfl (Taken.yes rfl rfl hg6)) rfl rfl ?_
       refine WH.val (O.move rfl rfl (Taken.yes rfl rfl hg6)) rfl rfl ?_
       refine WH.val (O.idx_fz (i := 0) rfl rfl (rfl) (row_get (by omega)) Try.underlying22 hi5 hs5 rfl (Taken.yes rfl rfl hg6)) rfl rfl ?_
       refine WH.val (O.ld1 (PtI.ofU (PtU.fz rfl)) rfl Try.underlying5 rfl rfl (Taken.yes rfl rfl hg6)) rfl rfl ?_
       refine WH.val (O.det (fun _ => G.R.neq rfl rfl) rfl (Taken.yes rfl rfl hg6)) rfl rfl ?_
       refine WH.val (O.pick_f rfl hg6 rfl rfl Taken.no) rfl rfl ?_
       refine WH.val (O.assign rfl rfl Taken.no) rfl rfl ?_
       refine WH.val (O.assign rfl rfl Taken.no) rfl rfl ?_
       refine WH.val (O.assign rfl rfl Taken.no) rfl rfl ?_
       refine WH.nil ?_
       refine E.to ?_
       refine W.pick (.cons (t := 0) rfl (.cons (t := 1) rfl (.cons (t := 4) rfl (.cons (t := 5) rfl (.cons (t := 6) rfl (.cons (t := 7) rfl (.cons (t := 8) rfl .nil))))))) .nil ?_
       refine W.ret ?_
       refine E.inr ?_
       refine E.thr ?_
       refine E.thr ?_
       refine E.inr ?_
       refine E.thr ?_
       refine E.fin (rs := [_, _, _]) (rn []) (.inl rfl) rfl (.cons (ResOne.tmp rfl) (.cons (ResOne.tmp rfl) (.cons (ResOne.tmp rfl) .nil))) ?_ ?_ rfl (fixL_spec rfl)
       ·skip
        subst he
        exact tup3 (by rw [(q_yes hg).1, grpN, val_take (l := l) (k := more l) (by omega)]) (by rw [(q_yes hg).2]; omega) (by first | exact decide_eq_true ⟨hg, .inl (by omega)⟩ | exact decide_eq_decide.2 ⟨fun q => by have := q.2; omega, fun q => ⟨hg, .inr (by omega)⟩⟩)
       · exact SubS.nil
      ·skip
       first | have hg6p := G.gA7 hg6 | have hg6p := G.gA8 hg6 | have hg6p := hg6
       refine WH.skip (OpOk.not rfl rfl rfl hg6) ?_
       refine WH.skip (OpOk.not rfl rfl rfl hg6) ?_
       refine WH.skip (OpOk.not rfl rfl rfl hg6) ?_
       refine WH.skip (OpOk.not rfl rfl rfl hg6) ?_
       refine WH.skip (OpOk.not rfl rfl rfl hg6) ?_
       refine WH.val (O.pick_t rfl (G.ne_f hg6) rfl rfl Taken.no) rfl rfl ?_
       refine WH.val (O.assign rfl rfl Taken.no) rfl rfl ?_
       refine WH.val (O.assign rfl rfl Taken.no) rfl rfl ?_
       refine WH.val (O.assign rfl rfl Taken.no) rfl rfl ?_
       refine WH.nil ?_
       refine E.to ?_
       refine W.pick (.cons (t := 0) rfl (.cons (t := 1) rfl (.cons (t := 4) rfl (.cons (t := 5) rfl (.cons (t := 6) rfl (.cons (t := 7) rfl (.cons (t := 8) rfl .nil))))))) .nil ?_
       refine W.ret ?_
       refine E.inr ?_
       refine E.thr ?_
       refine E.thr ?_
       refine E.inr ?_
       refine E.thr ?_
       refine E.fin (rs := [_, _, _]) (rn []) (.inl rfl) rfl (.cons (ResOne.tmp rfl) (.cons (ResOne.tmp rfl) (.cons (ResOne.tmp rfl) .nil))) ?_ ?_ rfl (fixL_spec rfl)
       ·skip
        subst he
        exact tup3 (by rw [(q_yes hg).1, grpN, val_take (l := l) (k := more l) (by omega)]) (by rw [(q_yes hg).2]; omega) (by first | exact decide_eq_true ⟨hg, .inl (by omega)⟩ | exact decide_eq_decide.2 ⟨fun q => by have := q.2; omega, fun q => ⟨hg, .inr (by omega)⟩⟩)
       · exact SubS.nil
     ·skip
      refine W.skip ?_
      refine E.inn ?_
      refine E.to ?_
      refine W.region ?_
      refine SL.val (O.move rfl rfl Taken.no) ?_
      refine SL.val (O.det (fun _ => by first | exact G.R.add64 rfl rfl (by omega) | exact G.R.add rfl rfl) rfl Taken.no) ?_
      refine SL.val (O.assign rfl rfl Taken.no) ?_
      refine SL.nil ?_
      refine E.again ((j + 1)) (rn []) ?_ ?_ rfl (fixL_spec rfl) ?_ ?_
      · exact (SubF.cons rfl (SubF.val rfl (by (try dsimp only); exact iv_u64 (by rw [val_take (l := l) (k := j) (by omega)])) (SubF.cons rfl (SubF.cons rfl SubF.nil))))
      · exact SubS.nil
      ·try dsimp only
       exact ⟨by omega, more_next hm (by omega) (by omega), by omega, by rw [val_take (l := l) (k := j) (by omega)]; omega⟩
      · (try dsimp only); omega
   ·skip
    first | have hg3p := G.gA5 hg3 | have hg3p := G.gA6 hg3 | have hg3p := hg3
    refine SL.skip (OpOk.not rfl rfl rfl hg3) ?_
    refine SL.skip (OpOk.not rfl rfl rfl hg3) ?_
    refine SL.skip (OpOk.not rfl rfl rfl hg3) ?_
    refine SL.skip (OpOk.not rfl rfl rfl hg3) ?_
    refine SL.skip (OpOk.not rfl rfl rfl hg3) ?_
    refine SL.val (O.pick_f rfl (G.ne_t hg3) rfl rfl Taken.no) ?_
    refine SL.nil ?_
    refine E.to ?_
    refine W.pick (.cons (t := 0) rfl (.cons (t := 1) rfl (.cons (t := 7) rfl (.cons (t := 8) rfl (.cons (t := 32) rfl .nil))))) .nil ?_
    refine W.cond_f rfl ?_
    refine W.skip ?_
    refine E.to ?_
    refine W.seq ?_
    refine W.region ?_
    have hlb := l[j]!.toNat_lt
    have hb0 : j = 9 → 128 ≤ l[0]!.toNat ∧ l[0]!.toNat ≤ 129 := fun e => ⟨(more_lt (by omega)).1, by omega⟩
    have hv57 := val57 hj9 hj hb0
    refine SL.val (O.move rfl rfl Taken.no) ?_
    refine SL.val (O.det (fun _ => G.R.mv (G.R.mul rfl rfl) (congrArg (Value.int .u64) (show _ = ((128 * val (l.take j) : Nat) : Int) by rw [IntKind.wrap_u64]; omega))) rfl Taken.no) ?_
    refine SL.val (O.move rfl rfl Taken.no) ?_
    refine SL.val (O.move rfl rfl Taken.no) ?_
    refine SL.val (O.idx_fz (i := j) rfl rfl (rfl) (row_get (by omega)) Try.underlying22 hi5 hs5 rfl Taken.no) ?_
    refine SL.val (O.ld1 (PtI.ofU (PtU.fz rfl)) rfl Try.underlying5 rfl rfl Taken.no) ?_
    refine SL.val (O.det (fun _ => by first | exact G.R.rem0 rfl rfl (by omega) (by omega) | exact G.R.rem rfl rfl (by omega)) rfl Taken.no) ?_
    refine SL.val (O.det (fun _ => by first | exact G.R.conv_in rfl Try.underlying5 Try.underlying97 (IntWalk.u64_in _ (by omega)) | exact G.R.conv rfl Try.underlying5 Try.underlying97) rfl Taken.no) ?_
    refine SL.val (O.det (fun _ => G.R.mv (G.R.add rfl rfl) (congrArg (Value.int .u64) (show _ = ((128 * val (l.take j) + l[j]!.toNat % 128 : Nat) : Int) by rw [IntKind.wrap_u64]; omega))) rfl Taken.no) ?_
    refine SL.val (O.assign rfl rfl Taken.no) ?_
    refine SL.nil ?_
    refine E.to ?_
    refine W.seq ?_
    refine W.region ?_
    refine SL.val (O.move rfl rfl Taken.no) ?_
    refine SL.val (O.move rfl rfl Taken.no) ?_
    refine SL.val (O.idx_fz (i := j) rfl rfl (rfl) (row_get (by omega)) Try.underlying22 hi5 hs5 rfl Taken.no) ?_
    refine SL.val (O.ld1 (PtI.ofU (PtU.fz rfl)) rfl Try.underlying5 rfl rfl Taken.no) ?_
    refine SL.val (O.det (fun _ => G.R.lss rfl rfl) rfl Taken.no) ?_
    refine SL.nil ?_
    refine E.to ?_
    first | refine W.cond_d rfl (fun hc7 => ?_) (fun hc7 => ?_) | refine W.cond_nd rfl (fun hc7 => ?_) (fun hc7 => ?_) | refine W.cond rfl (fun hc7 => ?_) (fun hc7 => ?_)
    ·skip
     have he : more l = j := (Nat.lt_or_eq_of_le hm).elim (fun q => absurd (more_lt q).1 (by omega)) Eq.symm
     have hg : grpOk l := ⟨by omega, by omega, fun e => (hb0 (by omega)).2⟩
     refine W.seq ?_
     refine W.draw [⟨[], [], [], []⟩, ⟨[], [], [], []⟩, ⟨[], [], [], []⟩, ⟨[], [], [], []⟩, ⟨[], [], [], []⟩, ⟨[], [], [], []⟩, ⟨[], [], [], []⟩, ⟨[], [], [], []⟩, ⟨[], [], [], []⟩, ⟨[], [], [], []⟩, ⟨[], [], [], []⟩, ⟨[], [], [], []⟩, ⟨[], [], [], []⟩, ⟨[], [], [], []⟩, ⟨[], [], [], []⟩, ⟨[], [], [], []⟩, ⟨[], [], [], []⟩] rfl (by kernel_rfl) (by kernel_rfl) rfl rfl ?_
     refine WH.val (O.move rfl rfl Taken.no) rfl rfl ?_
     refine WH.val (O.callp rfl rfl rfl (unfolded_h (u := 128 * val (l.take j) + l[j]!.toNat % 128) (by omega)) (.cons (ArgOk.same rfl) .nil) hcallOk66 rfl Taken.no) rfl rfl ?_
     refine WH.val (O.move rfl rfl Taken.no) rfl rfl ?_
     refine WH.val (O.det (fun _ => by first | exact G.R.add64 rfl rfl (by omega) | exact G.R.add rfl rfl) rfl Taken.no) rfl rfl ?_
     refine WH.val (O.move rfl rfl Taken.no) rfl rfl ?_
     refine WH.val (O.move rfl rfl Taken.no) rfl rfl ?_
     refine WH.val (O.det (fun _ => G.R.eql rfl rfl) rfl Taken.no) rfl rfl ?_
     refine WH.val (O.move rfl rfl Taken.no) rfl rfl ?_
     refine WH.case (j := 7) (g := 54) (want := false) rfl rfl (fun hg8 => ?_) (fun hg8 => ?_)
     ·skip
      first | have hg8p := G.gA3 hg8 | have hg8p := G.gA4 hg8 | have hg8p := hg8
      refine WH.val (O.move rfl rfl (Taken.yes rfl rfl hg8)) rfl rfl ?_
      refine WH.val (O.move rfl rfl (Taken.yes rfl rfl hg8)) rfl rfl ?_
      refine WH.val (O.idx_fz (i := 0) rfl rfl (rfl) (row_get (by omega)) Try.underlying22 hi5 hs5 rfl (Taken.yes rfl rfl hg8)) rfl rfl ?_
      refine WH.val (O.ld1 (PtI.ofU (PtU.fz rfl)) rfl Try.underlying5 rfl rfl (Taken.yes rfl rfl hg8)) rfl rfl ?_
      refine WH.val (O.det (fun _ => G.R.neq rfl rfl) rfl (Taken.yes rfl rfl hg8)) rfl rfl ?_
      refine WH.val (O.pick_f rfl hg8 rfl rfl Taken.no) rfl rfl ?_
      refine WH.val (O.assign rfl rfl Taken.no) rfl rfl ?_
      refine WH.val (O.assign rfl rfl Taken.no) rfl rfl ?_
      refine WH.val (O.assign rfl rfl Taken.no) rfl rfl ?_
      refine WH.nil ?_
      refine E.to ?_
      refine W.pick (.cons (t := 0) rfl (.cons (t := 1) rfl (.cons (t := 4) rfl (.cons (t := 5) rfl (.cons (t := 6) rfl (.cons (t := 7) rfl (.cons (t := 8) rfl .nil))))))) .nil ?_
      refine W.ret ?_
      refine E.inr ?_
      refine E.thr ?_
      refine E.thr ?_
      refine E.inr ?_
      refine E.thr ?_
      refine E.fin (rs := [_, _, _]) (rn []) (.inl rfl) rfl (.cons (ResOne.tmp rfl) (.cons (ResOne.tmp rfl) (.cons (ResOne.tmp rfl) .nil))) ?_ ?_ rfl (fixL_spec rfl)
      ·skip
       subst he
       exact tup3 (by rw [(q_yes hg).1, grpN, val_take (l := l) (k := more l) (by omega)]) (by rw [(q_yes hg).2]; omega) (by first | exact decide_eq_true ⟨hg, .inl (by omega)⟩ | exact decide_eq_decide.2 ⟨fun q => by have := q.2; omega, fun q => ⟨hg, .inr (by omega)⟩⟩)
      · exact SubS.nil
     ·skip
      first | have hg8p := G.gA7 hg8 | have hg8p := G.gA8 hg8 | have hg8p := hg8
      refine WH.skip (OpOk.not rfl rfl rfl hg8) ?_
      refine WH.skip (OpOk.not rfl rfl rfl hg8) ?_
      refine WH.skip (OpOk.not rfl rfl rfl hg8) ?_
      refine WH.skip (OpOk.not rfl rfl rfl hg8) ?_
      refine WH.skip (OpOk.not rfl rfl rfl hg8) ?_
      refine WH.val (O.pick_t rfl (G.ne_f hg8) rfl rfl Taken.no) rfl rfl ?_
      refine WH.val (O.assign rfl rfl Taken.no) rfl rfl ?_
      refine WH.val (O.assign rfl rfl Taken.no) rfl rfl ?_
      refine WH.val (O.assign rfl rfl Taken.no) rfl rfl ?_
      refine WH.nil ?_
      refine E.to ?_
      refine W.pick (.cons (t := 0) rfl (.cons (t := 1) rfl (.cons (t := 4) rfl (.cons (t := 5) rfl (.cons (t := 6) rfl (.cons (t := 7) rfl (.cons (t := 8) rfl .nil))))))) .nil ?_
      refine W.ret ?_
      refine E.inr ?_
      refine E.thr ?_
      refine E.thr ?_
      refine E.inr ?_
      refine E.thr ?_
      refine E.fin (rs := [_, _, _]) (rn []) (.inl rfl) rfl (.cons (ResOne.tmp rfl) (.cons (ResOne.tmp rfl) (.cons (ResOne.tmp rfl) .nil))) ?_ ?_ rfl (fixL_spec rfl)
      ·skip
       subst he
       exact tup3 (by rw [(q_yes hg).1, grpN, val_take (l := l) (k := more l) (by omega)]) (by rw [(q_yes hg).2]; omega) (by first | exact decide_eq_true ⟨hg, .inl (by omega)⟩ | exact decide_eq_decide.2 ⟨fun q => by have := q.2; omega, fun q => ⟨hg, .inr (by omega)⟩⟩)
      · exact SubS.nil
    ·skip
     refine W.skip ?_
     refine E.inn ?_
     refine E.to ?_
     refine W.region ?_
     refine SL.val (O.move rfl rfl Taken.no) ?_
     refine SL.val (O.det (fun _ => by first | exact G.R.add64 rfl rfl (by omega) | exact G.R.add rfl rfl) rfl Taken.no) ?_
     refine SL.val (O.assign rfl rfl Taken.no) ?_
     refine SL.nil ?_
     refine E.again ((j + 1)) (rn []) ?_ ?_ rfl (fixL_spec rfl) ?_ ?_
     · exact (SubF.cons rfl (SubF.val rfl (by (try dsimp only); exact iv_u64 (by rw [val_take (l := l) (k := j) (by omega)])) (SubF.cons rfl (SubF.cons rfl SubF.nil))))
     · exact SubS.nil
     ·try dsimp only
      exact ⟨by omega, more_next hm (by omega) (by omega), by omega, by rw [val_take (l := l) (k := j) (by omega)]; omega⟩
     · (try dsimp only); omega
  ·skip
   refine W.exit ?_
   refine E.th ?_
   refine E.th ?_
   refine E.hit ?_
   refine E.to ?_
   refine W.seq ?_
   refine W.region ?_
   refine SL.val (O.assign rfl rfl Taken.no) ?_
   refine SL.val (O.assign rfl rfl Taken.no) ?_
   refine SL.val (O.assign rfl rfl Taken.no) ?_
   refine SL.nil ?_
   refine E.to ?_
   refine W.ret ?_
   refine E.fin (rs := [_, _, _]) (rn []) (.inl rfl) rfl (.cons (ResOne.tmp rfl) (.cons (ResOne.tmp rfl) (.cons (ResOne.tmp rfl) .nil))) ?_ ?_ rfl (fixL_spec rfl)
   ·skip
    have hn : ¬ grpOk l := by first | exact grp_none hm (by omega) | exact fun q => by have := q.2.1; omega
    rw [(q_no hn).1, (q_no hn).2.1, (q_no hn).2.2]; rfl
   · exact SubS.nil
 ·skip
  first | have hg1p := G.gA5 hg1 | have hg1p := G.gA6 hg1 | have hg1p := hg1
  refine SL.skip (OpOk.not rfl rfl rfl hg1) ?_
  refine SL.skip (OpOk.not rfl rfl rfl hg1) ?_
  refine SL.skip (OpOk.not rfl rfl rfl hg1) ?_
  refine SL.skip (OpOk.not rfl rfl rfl hg1) ?_
  refine SL.val (O.pick_f rfl (G.ne_t hg1) rfl rfl Taken.no) ?_
  refine SL.nil ?_
  refine E.to ?_
  refine W.cond_f rfl ?_
  refine W.exit ?_
  refine E.th ?_
  refine E.th ?_
  refine E.hit ?_
  refine E.to ?_
  refine W.seq ?_
  refine W.region ?_
  refine SL.val (O.assign rfl rfl Taken.no) ?_
  refine SL.val (O.assign rfl rfl Taken.no) ?_
  refine SL.val (O.assign rfl rfl Taken.no) ?_
  refine SL.nil ?_
  refine E.to ?_
  refine W.ret ?_
  refine E.fin (rs := [_, _, _]) (rn []) (.inl rfl) rfl (.cons (ResOne.tmp rfl) (.cons (ResOne.tmp rfl) (.cons (ResOne.tmp rfl) .nil))) ?_ ?_ rfl (fixL_spec rfl)
  ·skip
   have hn : ¬ grpOk l := by first | exact grp_none hm (by omega) | exact fun q => by have := q.2.1; omega
   rw [(q_no hn).1, (q_no hn).2.1, (q_no hn).2.2]; rfl
  · exact SubS.nil

set_option maxRecDepth 8000 in
/-- (*bookplate/bookplateref01.Reader).Int. -/
theorem refRint_h {l : Bs} (lo hi : Int) (hb : l.length ≤ 1000000) :
    Con Try.prog 34 [.ref 0 0, vI lo, vI hi] [(0, .cells 74 [.u (.sl 1 (l.map eB)), vI 0, vB false])] (vI (rdN l lo hi)) [(0, .cells 74 [.u (.sl 1 (l.map eB)), vI (rdA l lo hi), vB (decide (¬ inI l lo hi))])] := by
 refine Con.enterL (n := 49) Try.func34 rfl rfl rfl (fun τ w ok vs hin => ?_)
 clear hin
 refine W.seq ?_
 refine W.region ?_
 refine SL.val (O.assign rfl rfl Taken.no) ?_
 refine SL.nil ?_
 refine E.to ?_
 refine W.seq ?_
 refine W.draw [⟨[], [], [], [0]⟩, ⟨[], [], [], [0]⟩, ⟨[], [], [], [0]⟩, ⟨[0], [], [], []⟩, ⟨[], [], [], [0]⟩, ⟨[], [], [], [0]⟩, ⟨[], [], [], [0]⟩, ⟨[0], [], [], []⟩, ⟨[], [], [], []⟩, ⟨[], [], [], []⟩, ⟨[], [], [], []⟩, ⟨[], [], [], []⟩, ⟨[], [], [], []⟩, ⟨[], [], [], []⟩, ⟨[], [], [], []⟩, ⟨[], [], [], []⟩] rfl (by kernel_rfl) (by kernel_rfl) rfl rfl ?_
 refine WH.val (O.move rfl rfl Taken.no) rfl rfl ?_
 refine WH.val (O.nilCheck rfl rfl rfl Taken.no) rfl rfl ?_
 refine WH.val (O.fld_ref (o' := 0) rfl Try.underlying74 rfl (m := 0) (by kernel_rfl) rfl rfl Taken.no) rfl rfl ?_
 refine WH.val (O.ld1 (PtI.ref rfl rfl) rfl Try.underlying22 rfl rfl Taken.no) rfl rfl ?_
 refine WH.val (O.move rfl rfl Taken.no) rfl rfl ?_
 refine WH.val (O.nilCheck rfl rfl rfl Taken.no) rfl rfl ?_
 refine WH.val (O.fld_ref (o' := 1) rfl Try.underlying74 rfl (m := 0) (by kernel_rfl) rfl rfl Taken.no) rfl rfl ?_
 refine WH.val (O.ld1 (PtI.ref rfl rfl) rfl Try.underlying3 rfl rfl Taken.no) rfl rfl ?_
 refine WH.memS (O.call (rn []) [] rfl rfl rfl (refGroup_h (l := l) (by omega)) (.cons (ArgOk.same rfl) (.cons (ArgOk.same rfl) .nil)) SubS.nil rfl rfl rfl rfl rfl (.inl rfl) hcallOk53 (r' := .tup [.u _, .u _, .u _]) rfl rfl Taken.no) rfl rfl rfl rfl rfl (S' := _) rfl ?_
 refine WH.val (O.move rfl rfl Taken.no) rfl rfl ?_
 refine WH.val (O.extract rfl rfl rfl Taken.no) rfl rfl ?_
 refine WH.val (O.extract rfl rfl rfl Taken.no) rfl rfl ?_
 refine WH.val (O.extract rfl rfl rfl Taken.no) rfl rfl ?_
 refine WH.val (O.assign rfl rfl Taken.no) rfl rfl ?_
 refine WH.val (O.assign rfl rfl Taken.no) rfl rfl ?_
 refine WH.val (O.assign rfl rfl Taken.no) rfl rfl ?_
 refine WH.nil ?_
 refine E.to ?_
 refine W.seq ?_
 refine W.seq ?_
 refine W.region ?_
 refine SL.val (O.move rfl rfl Taken.no) ?_
 refine SL.val (O.nilCheck rfl rfl rfl Taken.no) ?_
 refine SL.val (O.fld_ref (o' := 2) rfl Try.underlying74 rfl (m := 0) (by kernel_rfl) rfl rfl Taken.no) ?_
 refine SL.val (O.ld1 (PtI.ref rfl rfl) rfl Try.underlying4 rfl rfl Taken.no) ?_
 refine SL.val (O.move rfl rfl Taken.no) ?_
 refine SL.case (j := 4) (g := 27) (want := false) rfl rfl (fun hg1 => ?_) (fun hg1 => ?_)
 ·skip
  first | have hg1p := G.gA3 hg1 | have hg1p := G.gA4 hg1 | have hg1p := hg1
  refine SL.val (O.move rfl rfl (Taken.yes rfl rfl hg1)) ?_
  refine SL.val (O.det (fun _ => G.R.not rfl) rfl (Taken.yes rfl rfl hg1)) ?_
  refine SL.val (O.pick_f rfl hg1 rfl rfl Taken.no) ?_
  refine SL.val (O.move rfl rfl Taken.no) ?_
  refine SL.case (j := 8) (g := 31) (want := false) rfl rfl (fun hg2 => ?_) (fun hg2 => ?_)
  ·skip
   first | have hg2p := G.gA3 hg2 | have hg2p := G.gA4 hg2 | have hg2p := hg2
   refine SL.val (O.move rfl rfl (Taken.yes rfl rfl hg2)) ?_
   refine SL.val (O.move rfl rfl (Taken.yes rfl rfl hg2)) ?_
   refine SL.val (O.det (fun _ => G.R.lss rfl rfl) rfl (Taken.yes rfl rfl hg2)) ?_
   refine SL.val (O.pick_f rfl hg2 rfl rfl Taken.no) ?_
   refine SL.val (O.move rfl rfl Taken.no) ?_
   refine SL.case (j := 13) (g := 36) (want := false) rfl rfl (fun hg3 => ?_) (fun hg3 => ?_)
   ·skip
    first | have hg3p := G.gA3 hg3 | have hg3p := G.gA4 hg3 | have hg3p := hg3
    refine SL.val (O.move rfl rfl (Taken.yes rfl rfl hg3)) ?_
    refine SL.val (O.move rfl rfl (Taken.yes rfl rfl hg3)) ?_
    refine SL.val (O.det (fun _ => G.R.gtr rfl rfl) rfl (Taken.yes rfl rfl hg3)) ?_
    refine SL.val (O.pick_f rfl hg3 rfl rfl Taken.no) ?_
    refine SL.nil ?_
    refine E.to ?_
    refine W.pick (.cons (t := 0) rfl (.cons (t := 6) rfl (.cons (t := 7) rfl (.cons (t := 8) rfl (.cons (t := 40) rfl .nil))))) (.cons (t := 0) rfl .nil) ?_
    first | refine W.cond_d rfl (fun hc4 => ?_) (fun hc4 => ?_) | refine W.cond_nd rfl (fun hc4 => ?_) (fun hc4 => ?_) | refine W.cond rfl (fun hc4 => ?_) (fun hc4 => ?_)
    ·skip
     refine W.seq ?_
     refine W.region ?_
     refine SL.val (O.move rfl rfl Taken.no) ?_
     refine SL.val (O.nilCheck rfl rfl rfl Taken.no) ?_
     refine SL.val (O.fld_ref (o' := 2) rfl Try.underlying74 rfl (m := 0) (by kernel_rfl) rfl rfl Taken.no) ?_
     refine SL.effS (O.st_ref (m := 1) rfl rfl rfl (js := [_]) rfl rfl (by kernel_rfl) (by simp) (Nat.le_of_ble_eq_true rfl) rfl (is' := [_, _, _]) rfl Taken.no) (S' := (0, _) :: _) rfl ?_
     refine SL.nil ?_
     refine E.to ?_
     refine W.seq ?_
     refine W.region ?_
     refine SL.val (O.assign rfl rfl Taken.no) ?_
     refine SL.nil ?_
     refine E.to ?_
     refine W.ret ?_
     refine E.thr ?_
     have hn : ¬ inI l lo hi := fun q => by have h1 := q_yes q.1.1; have h2 := q.2; have h3 := q.1; first | omega | simp_all
     refine E.fin (rs := [_]) (rn []) (.inl rfl) rfl (.cons (ResOne.tmp rfl) .nil) ?_ ?_ rfl (fixL_spec rfl)
     ·skip
      rw [(rd_no hn).1]; rfl
     · exact (SubS.val rfl (by rw [(rd_no hn).2.1, (rd_no hn).2.2]; rfl) SubS.nil)
    ·skip
     refine W.skip ?_
     refine E.to ?_
     refine W.seq ?_
     refine W.region ?_
     refine SL.val (O.move rfl rfl Taken.no) ?_
     refine SL.val (O.move rfl rfl Taken.no) ?_
     refine SL.val (O.nilCheck rfl rfl rfl Taken.no) ?_
     refine SL.val (O.fld_ref (o' := 1) rfl Try.underlying74 rfl (m := 0) (by kernel_rfl) rfl rfl Taken.no) ?_
     refine SL.effS (O.st_ref (m := 1) rfl rfl rfl (js := [_]) rfl rfl (by kernel_rfl) (by simp) (Nat.le_of_ble_eq_true rfl) rfl (is' := [_, _, _]) rfl Taken.no) (S' := (0, _) :: _) rfl ?_
     refine SL.nil ?_
     refine E.to ?_
     refine W.seq ?_
     refine W.region ?_
     refine SL.val (O.move rfl rfl Taken.no) ?_
     refine SL.val (O.assign rfl rfl Taken.no) ?_
     refine SL.nil ?_
     refine E.to ?_
     refine W.ret ?_
     have hgo : grpGo l := by first | assumption | simp_all
     have hq := q_yes hgo.1
     have hy : inI l lo hi := ⟨hgo, by omega, by omega⟩
     refine E.fin (rs := [_]) (rn []) (.inl rfl) rfl (.cons (ResOne.tmp rfl) .nil) ?_ ?_ rfl (fixL_spec rfl)
     ·skip
      rw [(rd_yes hy).1, ← hq.1]; rfl
     · exact (SubS.val rfl (by rw [(rd_yes hy).2.1, (rd_yes hy).2.2, ← hq.2]; rfl) SubS.nil)
   ·skip
    first | have hg3p := G.gA7 hg3 | have hg3p := G.gA8 hg3 | have hg3p := hg3
    refine SL.skip (OpOk.not rfl rfl rfl hg3) ?_
    refine SL.skip (OpOk.not rfl rfl rfl hg3) ?_
    refine SL.skip (OpOk.not rfl rfl rfl hg3) ?_
    refine SL.val (O.pick_t rfl (G.ne_f hg3) rfl rfl Taken.no) ?_
    refine SL.nil ?_
    refine E.to ?_
    refine W.pick (.cons (t := 0) rfl (.cons (t := 6) rfl (.cons (t := 7) rfl (.cons (t := 8) rfl (.cons (t := 40) rfl .nil))))) (.cons (t := 0) rfl .nil) ?_
    refine W.cond_t rfl ?_
    refine W.seq ?_
    refine W.region ?_
    refine SL.val (O.move rfl rfl Taken.no) ?_
    refine SL.val (O.nilCheck rfl rfl rfl Taken.no) ?_
    refine SL.val (O.fld_ref (o' := 2) rfl Try.underlying74 rfl (m := 0) (by kernel_rfl) rfl rfl Taken.no) ?_
    refine SL.effS (O.st_ref (m := 1) rfl rfl rfl (js := [_]) rfl rfl (by kernel_rfl) (by simp) (Nat.le_of_ble_eq_true rfl) rfl (is' := [_, _, _]) rfl Taken.no) (S' := (0, _) :: _) rfl ?_
    refine SL.nil ?_
    refine E.to ?_
    refine W.seq ?_
    refine W.region ?_
    refine SL.val (O.assign rfl rfl Taken.no) ?_
    refine SL.nil ?_
    refine E.to ?_
    refine W.ret ?_
    refine E.thr ?_
    have hn : ¬ inI l lo hi := fun q => by have h1 := q_yes q.1.1; have h2 := q.2; have h3 := q.1; first | omega | simp_all
    refine E.fin (rs := [_]) (rn []) (.inl rfl) rfl (.cons (ResOne.tmp rfl) .nil) ?_ ?_ rfl (fixL_spec rfl)
    ·skip
     rw [(rd_no hn).1]; rfl
    · exact (SubS.val rfl (by rw [(rd_no hn).2.1, (rd_no hn).2.2]; rfl) SubS.nil)
  ·skip
   first | have hg2p := G.gA7 hg2 | have hg2p := G.gA8 hg2 | have hg2p := hg2
   refine SL.skip (OpOk.not rfl rfl rfl hg2) ?_
   refine SL.skip (OpOk.not rfl rfl rfl hg2) ?_
   refine SL.skip (OpOk.not rfl rfl rfl hg2) ?_
   refine SL.val (O.pick_t rfl (G.ne_f hg2) rfl rfl Taken.no) ?_
   refine SL.val (O.move rfl rfl Taken.no) ?_
   have hg5 : true ≠ false := by decide
   refine SL.skip (OpOk.not rfl rfl rfl hg5) ?_
   refine SL.skip (OpOk.not rfl rfl rfl hg5) ?_
   refine SL.skip (OpOk.not rfl rfl rfl hg5) ?_
   refine SL.val (O.pick_t rfl rfl rfl rfl Taken.no) ?_
   refine SL.nil ?_
   refine E.to ?_
   refine W.pick (.cons (t := 0) rfl (.cons (t := 6) rfl (.cons (t := 7) rfl (.cons (t := 8) rfl (.cons (t := 40) rfl .nil))))) (.cons (t := 0) rfl .nil) ?_
   refine W.cond_t rfl ?_
   refine W.seq ?_
   refine W.region ?_
   refine SL.val (O.move rfl rfl Taken.no) ?_
   refine SL.val (O.nilCheck rfl rfl rfl Taken.no) ?_
   refine SL.val (O.fld_ref (o' := 2) rfl Try.underlying74 rfl (m := 0) (by kernel_rfl) rfl rfl Taken.no) ?_
   refine SL.effS (O.st_ref (m := 1) rfl rfl rfl (js := [_]) rfl rfl (by kernel_rfl) (by simp) (Nat.le_of_ble_eq_true rfl) rfl (is' := [_, _, _]) rfl Taken.no) (S' := (0, _) :: _) rfl ?_
   refine SL.nil ?_
   refine E.to ?_
   refine W.seq ?_
   refine W.region ?_
   refine SL.val (O.assign rfl rfl Taken.no) ?_
   refine SL.nil ?_
   refine E.to ?_
   refine W.ret ?_
   refine E.thr ?_
   have hn : ¬ inI l lo hi := fun q => by have h1 := q_yes q.1.1; have h2 := q.2; have h3 := q.1; first | omega | simp_all
   refine E.fin (rs := [_]) (rn []) (.inl rfl) rfl (.cons (ResOne.tmp rfl) .nil) ?_ ?_ rfl (fixL_spec rfl)
   ·skip
    rw [(rd_no hn).1]; rfl
   · exact (SubS.val rfl (by rw [(rd_no hn).2.1, (rd_no hn).2.2]; rfl) SubS.nil)
 ·skip
  first | have hg1p := G.gA7 hg1 | have hg1p := G.gA8 hg1 | have hg1p := hg1
  refine SL.skip (OpOk.not rfl rfl rfl hg1) ?_
  refine SL.skip (OpOk.not rfl rfl rfl hg1) ?_
  refine SL.val (O.pick_t rfl (G.ne_f hg1) rfl rfl Taken.no) ?_
  refine SL.val (O.move rfl rfl Taken.no) ?_
  have hg6 : true ≠ false := by decide
  refine SL.skip (OpOk.not rfl rfl rfl hg6) ?_
  refine SL.skip (OpOk.not rfl rfl rfl hg6) ?_
  refine SL.skip (OpOk.not rfl rfl rfl hg6) ?_
  refine SL.val (O.pick_t rfl rfl rfl rfl Taken.no) ?_
  refine SL.val (O.move rfl rfl Taken.no) ?_
  have hg7 : true ≠ false := by decide
  refine SL.skip (OpOk.not rfl rfl rfl hg7) ?_
  refine SL.skip (OpOk.not rfl rfl rfl hg7) ?_
  refine SL.skip (OpOk.not rfl rfl rfl hg7) ?_
  refine SL.val (O.pick_t rfl rfl rfl rfl Taken.no) ?_
  refine SL.nil ?_
  refine E.to ?_
  refine W.pick (.cons (t := 0) rfl (.cons (t := 6) rfl (.cons (t := 7) rfl (.cons (t := 8) rfl (.cons (t := 40) rfl .nil))))) (.cons (t := 0) rfl .nil) ?_
  refine W.cond_t rfl ?_
  refine W.seq ?_
  refine W.region ?_
  refine SL.val (O.move rfl rfl Taken.no) ?_
  refine SL.val (O.nilCheck rfl rfl rfl Taken.no) ?_
  refine SL.val (O.fld_ref (o' := 2) rfl Try.underlying74 rfl (m := 0) (by kernel_rfl) rfl rfl Taken.no) ?_
  refine SL.effS (O.st_ref (m := 1) rfl rfl rfl (js := [_]) rfl rfl (by kernel_rfl) (by simp) (Nat.le_of_ble_eq_true rfl) rfl (is' := [_, _, _]) rfl Taken.no) (S' := (0, _) :: _) rfl ?_
  refine SL.nil ?_
  refine E.to ?_
  refine W.seq ?_
  refine W.region ?_
  refine SL.val (O.assign rfl rfl Taken.no) ?_
  refine SL.nil ?_
  refine E.to ?_
  refine W.ret ?_
  refine E.thr ?_
  have hn : ¬ inI l lo hi := fun q => by have h1 := q_yes q.1.1; have h2 := q.2; have h3 := q.1; first | omega | simp_all
  refine E.fin (rs := [_]) (rn []) (.inl rfl) rfl (.cons (ResOne.tmp rfl) .nil) ?_ ?_ rfl (fixL_spec rfl)
  ·skip
   rw [(rd_no hn).1]; rfl
  · exact (SubS.val rfl (by rw [(rd_no hn).2.1, (rd_no hn).2.2]; rfl) SubS.nil)

set_option maxRecDepth 8000 in
/-- (*bookplate/bookplateref01.Reader).Rest. -/
theorem refRest_h {l : Bs} {a : Int} {bad : Bool} (ha : 0 ≤ a ∧ a ≤ l.length) (hb : l.length ≤ 1000000) :
    Con Try.prog 35 [.ref 0 0] [(0, .cells 74 [.u (.sl 1 (l.map eB)), vI a, vB bad])] (vI (l.length - a)) [(0, .cells 74 [.u (.sl 1 (l.map eB)), vI a, vB bad])] := by
 refine Con.enterL (n := 13) Try.func35 rfl rfl rfl (fun τ w ok vs hin => ?_)
 clear hin
 refine W.seq ?_
 refine W.region ?_
 refine SL.val (O.assign rfl rfl Taken.no) ?_
 refine SL.nil ?_
 refine E.to ?_
 refine W.seq ?_
 refine W.draw [⟨[], [], [], [0]⟩, ⟨[], [], [], [0]⟩, ⟨[], [], [], [0]⟩, ⟨[0], [], [], []⟩, ⟨[], [], [], []⟩, ⟨[], [], [], [0]⟩, ⟨[], [], [], [0]⟩, ⟨[], [], [], [0]⟩, ⟨[0], [], [], []⟩, ⟨[], [], [], []⟩, ⟨[], [], [], []⟩] rfl (by kernel_rfl) (by kernel_rfl) rfl rfl ?_
 refine WH.val (O.move rfl rfl Taken.no) rfl rfl ?_
 refine WH.val (O.nilCheck rfl rfl rfl Taken.no) rfl rfl ?_
 refine WH.val (O.fld_ref (o' := 0) rfl Try.underlying74 rfl (m := 0) (by kernel_rfl) rfl rfl Taken.no) rfl rfl ?_
 refine WH.val (O.ld1 (PtI.ref rfl rfl) rfl Try.underlying22 rfl rfl Taken.no) rfl rfl ?_
 refine WH.val (O.lenE (SlOf.fz rfl (by decide)) (by first | exact List.length_map _ | rfl) Try.underlying22 rfl Taken.no) rfl rfl ?_
 refine WH.val (O.move rfl rfl Taken.no) rfl rfl ?_
 refine WH.val (O.nilCheck rfl rfl rfl Taken.no) rfl rfl ?_
 refine WH.val (O.fld_ref (o' := 1) rfl Try.underlying74 rfl (m := 0) (by kernel_rfl) rfl rfl Taken.no) rfl rfl ?_
 refine WH.val (O.ld1 (PtI.ref rfl rfl) rfl Try.underlying3 rfl rfl Taken.no) rfl rfl ?_
 refine WH.val (O.det (fun _ => by first | exact G.R.sub64 rfl rfl (by omega) | exact G.R.sub rfl rfl) rfl Taken.no) rfl rfl ?_
 refine WH.val (O.assign rfl rfl Taken.no) rfl rfl ?_
 refine WH.nil ?_
 refine E.to ?_
 refine W.ret ?_
 refine E.fin (rs := [_]) (rn []) (.inl rfl) rfl (.cons (ResOne.tmp rfl) .nil) ?_ ?_ rfl (fixL_spec rfl)
 ·skip
  rfl
 · exact (SubS.cons rfl SubS.nil)

end Go.Proofs.Ytemclhhlafjohaa
