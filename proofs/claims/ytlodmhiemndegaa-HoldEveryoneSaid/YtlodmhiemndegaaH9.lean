/-
  The walks.
-/
import Derived.Test.YtlodmhiemndegaaH8
namespace Go.Proofs.Ytlodmhiemndegaa
open Go Go.RowKit Go.H Go.D57

theorem hcallOk49 : G.callOk Try.prog 49 = true := by kernel_rfl

/-- bookplate/hold.Cancel. -/
theorem holdCancel_h {q : List Hd} (id : Int) :
    Con Try.prog 28 [vL 5 (q.map eH), vI id] [] (.tup [vL 5 ((canQ q id).map eH), vI (canE q id)]) [] := by
  have hir := ixI_range q id
  refine Con.enterL (n := 25) Try.func28 rfl rfl rfl (fun τ w ok vs hin => ?_)
  have hl0 := hin.len (i := 0) rfl
  try rw [List.length_map] at hl0
  clear hin
  refine W.seq ?_
  refine W.region ?_
  refine SL.val (O.assign rfl rfl Taken.no) ?_
  refine SL.val (O.assign rfl rfl Taken.no) ?_
  refine SL.nil ?_
  refine E.to ?_
  refine W.seq ?_
  refine W.block ?_
  refine W.seq ?_
  refine W.region ?_
  refine SL.val (O.move rfl rfl Taken.no) ?_
  refine SL.val (O.callp rfl rfl rfl (valid_h) (.cons (ArgOk.same rfl) .nil) hcallOk23 rfl Taken.no) ?_
  refine SL.val (O.det (fun _ => G.R.not rfl) rfl Taken.no) ?_
  refine SL.val (O.assign rfl rfl Taken.no) ?_
  refine SL.nil ?_
  refine E.to ?_
  first | refine W.cond_d rfl (fun hc1 => ?_) (fun hc1 => ?_) | refine W.cond_nd rfl (fun hc1 => ?_) (fun hc1 => ?_) | refine W.cond rfl (fun hc1 => ?_) (fun hc1 => ?_)
  · skip
    refine W.seq ?_
    refine W.region ?_
    refine SL.val (O.assign rfl rfl Taken.no) ?_
    refine SL.val (O.assign rfl rfl Taken.no) ?_
    refine SL.nil ?_
    refine E.to ?_
    refine W.ret ?_
    refine E.inr ?_
    refine E.thr ?_
    refine E.nilsl 4 5 rfl ?_
    refine E.fin (rs := [_, _]) (rn []) (.inl rfl) rfl (.cons (ResOne.tmp rfl) (.cons (ResOne.tmp rfl) .nil)) ?_ ?_ rfl (fixL_spec rfl)
    · skip
      rw [(can_1 id (by first | assumption | simp_all)).1, (can_1 id (by first | assumption | simp_all)).2]; rfl
    · exact SubS.nil
  · skip
    refine W.seq ?_
    refine W.region ?_
    refine SL.val (O.move rfl rfl Taken.no) ?_
    refine SL.val (O.move rfl rfl Taken.no) ?_
    refine SL.val (O.callp rfl rfl rfl (index_h) (.cons (ArgOk.same rfl) (.cons (ArgOk.same rfl) .nil)) hcallOk37 rfl Taken.no) ?_
    refine SL.as (i' := vI (ixI q id)) 14 rfl (by rfl) ?_
    refine SL.val (O.det (fun _ => G.R.lss rfl rfl) rfl Taken.no) ?_
    refine SL.val (O.assign rfl rfl Taken.no) ?_
    refine SL.nil ?_
    refine E.to ?_
    first | refine W.cond_d rfl (fun hc2 => ?_) (fun hc2 => ?_) | refine W.cond_nd rfl (fun hc2 => ?_) (fun hc2 => ?_) | refine W.cond rfl (fun hc2 => ?_) (fun hc2 => ?_)
    · skip
      refine W.seq ?_
      refine W.region ?_
      refine SL.val (O.assign rfl rfl Taken.no) ?_
      refine SL.val (O.assign rfl rfl Taken.no) ?_
      refine SL.nil ?_
      refine E.to ?_
      refine W.ret ?_
      refine E.inr ?_
      refine E.thr ?_
      refine E.nilsl 4 5 rfl ?_
      refine E.fin (rs := [_, _]) (rn []) (.inl rfl) rfl (.cons (ResOne.tmp rfl) (.cons (ResOne.tmp rfl) .nil)) ?_ ?_ rfl (fixL_spec rfl)
      · skip
        rw [(can_9 (id := id) (by assumption) (by assumption)).1, (can_9 (id := id) (by assumption) (by assumption)).2]; rfl
      · exact SubS.nil
    · skip
      have hv : validQ q := by assumption
      have h60 := hv.2
      obtain ⟨j, hj⟩ : ∃ j : Nat, ixI q id = j := ⟨(ixI q id).toNat, by omega⟩
      refine W.skip ?_
      refine E.inn ?_
      refine E.to ?_
      refine W.seq ?_
      refine W.region ?_
      refine SL.val (O.move rfl rfl Taken.no) ?_
      refine SL.val (O.move rfl rfl Taken.no) ?_
      refine SL.val (O.callp rfl rfl rfl (index_h) (.cons (ArgOk.same rfl) (.cons (ArgOk.same rfl) .nil)) hcallOk37 rfl Taken.no) ?_
      refine SL.as (i' := vI ((ixI q id).toNat : Nat)) 18 rfl (by exact iv_int (show ixI q id = _ by omega)) ?_
      refine SL.val (O.assign rfl rfl Taken.no) ?_
      refine SL.nil ?_
      refine E.to ?_
      refine W.seq ?_
      refine W.region ?_
      refine SL.val (O.move rfl rfl Taken.no) ?_
      refine SL.memS (O.call (rn [(0, 101)]) [] rfl rfl rfl (clone_h (by first | omega | (simp <;> omega))) (.cons (ArgOk.same rfl) .nil) SubS.nil rfl rfl rfl rfl rfl (.inl rfl) hcallOk39 (r' := .own 101) rfl rfl Taken.no) rfl rfl (S' := (101, .data _ _ _) :: _) rfl ?_
      refine SL.val (O.move rfl rfl Taken.no) ?_
      refine SL.val (O.move rfl rfl Taken.no) ?_
      refine SL.val (O.det (fun _ => G.R.mv (G.R.add64 rfl rfl (by omega)) (congrArg (Value.int .i64) (show _ = (((ixI q id).toNat + 1 : Nat) : Int) by omega))) rfl Taken.no) ?_
      refine SL.memS (O.call (rn [(0, 101)]) [] rfl rfl rfl (Con.fz (delete_h (q := q) (ixI q id).toNat ((ixI q id).toNat + 1) (by omega) (by omega) (by omega)) rfl rfl) (.cons (ArgOk.same rfl) (.cons (ArgOk.same rfl) (.cons (ArgOk.same rfl) .nil))) (SubS.cons rfl SubS.nil) rfl rfl rfl rfl rfl (.inl rfl) hcallOk38 (r' := .u _) rfl rfl Taken.no) rfl rfl (S' := (101, .dead) :: _) rfl ?_
      refine SL.val (O.assign rfl rfl Taken.no) ?_
      refine SL.val (O.assign rfl rfl Taken.no) ?_
      refine SL.nil ?_
      refine E.to ?_
      refine W.pick (.cons (t := 4) rfl (.cons (t := 5) rfl .nil)) .nil ?_
      refine W.ret ?_
      refine E.fin (rs := [_, _]) (rn []) (.inl rfl) rfl (.cons (ResOne.tmp rfl) (.cons (ResOne.tmp rfl) .nil)) ?_ ?_ rfl (fixL_spec rfl)
      · skip
        rw [(can_0 (id := id) (by assumption) (by assumption)).1, (can_0 (id := id) (by assumption) (by assumption)).2]; rfl
      · exact SubS.nil

/-- bookplate/bookplateref57.Cancel. -/
theorem refCancel_h {q : List Hd} (id : Int) :
    Con Try.prog 29 [vL 5 (q.map eH), vI id] [] (.tup [vL 5 ((canQ q id).map eH), vI (canE q id)]) [] := by
  have hir := ixI_range q id
  obtain ⟨i32, hi32, hz32, hs32, hb32⟩ := hinf32
  refine Con.enterL (n := 25) Try.func29 rfl rfl rfl (fun τ w ok vs hin => ?_)
  have hl0 := hin.len (i := 0) rfl
  try rw [List.length_map] at hl0
  clear hin
  refine W.seq ?_
  refine W.region ?_
  refine SL.val (O.assign rfl rfl Taken.no) ?_
  refine SL.val (O.assign rfl rfl Taken.no) ?_
  refine SL.nil ?_
  refine E.to ?_
  refine W.seq ?_
  refine W.seq ?_
  refine W.region ?_
  refine SL.val (O.move rfl rfl Taken.no) ?_
  refine SL.val (O.callp rfl rfl rfl (refvalid_h) (.cons (ArgOk.same rfl) .nil) hcallOk24 rfl Taken.no) ?_
  refine SL.val (O.det (fun _ => G.R.not rfl) rfl Taken.no) ?_
  refine SL.nil ?_
  refine E.to ?_
  first | refine W.cond_d rfl (fun hc1 => ?_) (fun hc1 => ?_) | refine W.cond_nd rfl (fun hc1 => ?_) (fun hc1 => ?_) | refine W.cond rfl (fun hc1 => ?_) (fun hc1 => ?_)
  · skip
    refine W.seq ?_
    refine W.region ?_
    refine SL.val (O.assign rfl rfl Taken.no) ?_
    refine SL.val (O.assign rfl rfl Taken.no) ?_
    refine SL.nil ?_
    refine E.to ?_
    refine W.ret ?_
    refine E.thr ?_
    refine E.nilsl 4 5 rfl ?_
    refine E.fin (rs := [_, _]) (rn []) (.inl rfl) rfl (.cons (ResOne.tmp rfl) (.cons (ResOne.tmp rfl) .nil)) ?_ ?_ rfl (fixL_spec rfl)
    · skip
      rw [(can_1 id (by first | assumption | simp_all)).1, (can_1 id (by first | assumption | simp_all)).2]; rfl
    · exact SubS.nil
  · skip
    have hv : validQ q := by first | assumption | (rename_i z; simpa using z)
    have h60 := hv.2
    refine W.skip ?_
    refine E.to ?_
    refine W.seq ?_
    refine W.region ?_
    refine SL.val (O.move rfl rfl Taken.no) ?_
    refine SL.val (O.move rfl rfl Taken.no) ?_
    refine SL.val (O.callp rfl rfl rfl (find_h) (.cons (ArgOk.same rfl) (.cons (ArgOk.same rfl) .nil)) hcallOk49 rfl Taken.no) ?_
    refine SL.as (i' := vI (ixI q id)) 12 rfl (by rfl) ?_
    refine SL.val (O.assign rfl rfl Taken.no) ?_
    refine SL.nil ?_
    refine E.to ?_
    refine W.seq ?_
    refine W.seq ?_
    refine W.region ?_
    refine SL.val (O.move rfl rfl Taken.no) ?_
    refine SL.val (O.det (fun _ => G.R.lss rfl rfl) rfl Taken.no) ?_
    refine SL.nil ?_
    refine E.to ?_
    first | refine W.cond_d rfl (fun hc2 => ?_) (fun hc2 => ?_) | refine W.cond_nd rfl (fun hc2 => ?_) (fun hc2 => ?_) | refine W.cond rfl (fun hc2 => ?_) (fun hc2 => ?_)
    · skip
      refine W.seq ?_
      refine W.region ?_
      refine SL.val (O.assign rfl rfl Taken.no) ?_
      refine SL.val (O.assign rfl rfl Taken.no) ?_
      refine SL.nil ?_
      refine E.to ?_
      refine W.ret ?_
      refine E.thr ?_
      refine E.nilsl 4 5 rfl ?_
      refine E.fin (rs := [_, _]) (rn []) (.inl rfl) rfl (.cons (ResOne.tmp rfl) (.cons (ResOne.tmp rfl) .nil)) ?_ ?_ rfl (fixL_spec rfl)
      · skip
        rw [(can_9 (id := id) (by assumption) (by assumption)).1, (can_9 (id := id) (by assumption) (by assumption)).2]; rfl
      · exact SubS.nil
    · skip
      refine W.skip ?_
      refine E.to ?_
      refine W.seq ?_
      refine W.draw [⟨[101], [101], [101]⟩, ⟨[], [], []⟩, ⟨[], [], []⟩, ⟨[], [], []⟩, ⟨[101, 102], [101, 102], [102]⟩, ⟨[], [], []⟩, ⟨[], [], []⟩, ⟨[], [], []⟩, ⟨[], [], []⟩, ⟨[102, 103], [102, 103], [103]⟩, ⟨[103], [], []⟩, ⟨[], [], []⟩] rfl (by kernel_rfl) (by kernel_rfl) rfl rfl ?_
      refine WH.memS (O.buildSlice 101 rfl rfl Try.underlying22 hi32 hz32 hs32 (by decide) rfl (by decide) rfl rfl rfl Taken.no) rfl rfl rfl rfl rfl (S' := (101, _) :: _) rfl ?_
      refine WH.val (O.move rfl rfl Taken.no) rfl rfl ?_
      refine WH.val (O.move rfl rfl Taken.no) rfl rfl ?_
      refine WH.val (O.sub_fz (j := (ixI q id).toNat) rfl Bnd.no (Bnd.at rfl (by omega)) (by first | omega | (simp only [List.length_map, Nat.le_refl, Nat.zero_le] <;> omega) | (simp <;> omega)) (by first | omega | (simp only [List.length_map] <;> omega) | (simp <;> omega)) sub_hi Try.underlying22 hi32 hs32 rfl Taken.no) rfl rfl ?_
      refine WH.memS (O.app (k' := 102) rfl rfl (SlOf.fz rfl (by decide)) Try.underlying22 hi32 hz32 hs32 rfl rfl (by first | exact map_snoc rfl | exact app_map | exact List.nil_append _ | rfl) (by rw [hb32]; first | omega | (simp only [List.length_map]; omega) | (simp <;> omega)) (by first | omega | (simp only [List.length_map]; omega) | (simp <;> omega)) rfl Taken.no) rfl rfl rfl rfl rfl (S' := (102, _) :: (101, .dead) :: _) rfl ?_
      refine WH.val (O.move rfl rfl Taken.no) rfl rfl ?_
      refine WH.val (O.move rfl rfl Taken.no) rfl rfl ?_
      refine WH.val (O.det (fun _ => by first | exact G.R.add64 rfl rfl (by omega) | exact G.R.add rfl rfl) rfl Taken.no) rfl rfl ?_
      refine WH.val (O.sub_fz (i := ((ixI q id).toNat + 1)) rfl (Bnd.at rfl (by omega)) Bnd.no (by first | omega | (simp only [List.length_map] <;> omega) | (simp <;> omega)) (by first | omega | (simp only [List.length_map, Nat.le_refl, Nat.zero_le] <;> omega) | (simp <;> omega)) sub_lo Try.underlying22 hi32 hs32 rfl Taken.no) rfl rfl ?_
      refine WH.memS (O.app (k' := 103) rfl rfl (SlOf.fz rfl (by decide)) Try.underlying22 hi32 hz32 hs32 rfl rfl (by first | exact map_snoc rfl | exact app_map | exact List.nil_append _ | rfl) (by rw [hb32]; first | omega | (simp only [List.length_map]; omega) | (simp <;> omega)) (by first | omega | (simp only [List.length_map]; omega) | (simp <;> omega)) rfl Taken.no) rfl rfl rfl rfl rfl (S' := (103, _) :: (102, .dead) :: _) rfl ?_
      refine WH.val (O.assign rfl rfl Taken.no) rfl rfl ?_
      refine WH.val (O.assign rfl rfl Taken.no) rfl rfl ?_
      refine WH.nil ?_
      refine E.to ?_
      refine W.pick (.cons (t := 4) rfl (.cons (t := 5) rfl .nil)) (.cons (t := 103) rfl .nil) ?_
      refine W.ret ?_
      refine E.freeze 103 rfl (F' := [(4, _)]) (⟨⟨_, rfl, rfl⟩, trivial⟩) ?_
      refine E.fin (rs := [_, _]) (rn []) (.inl rfl) rfl (.cons (ResOne.tmp rfl) (.cons (ResOne.tmp rfl) .nil)) ?_ ?_ rfl (fixL_spec rfl)
      · skip
        rw [(can_0 (id := id) (by assumption) (by assumption)).1, (can_0 (id := id) (by assumption) (by assumption)).2]; rfl
      · exact SubS.nil

end Go.Proofs.Ytlodmhiemndegaa
