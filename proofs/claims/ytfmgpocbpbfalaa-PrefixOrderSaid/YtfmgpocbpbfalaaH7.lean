/-
  The walks.
-/
import Derived.Test.YtfmgpocbpbfalaaH6
import Derived.Test.YtfmgpocbpbfalaaU41
namespace Go.Proofs.Ytfmgpocbpbfalaa
open Go Go.RowKit Go.H Go.D41

theorem hinf5 : ∃ i, Try.prog.info? 5 = some i ∧ i.zero = some (.int .u8 0) ∧ i.size = 1 ∧ i.bytes = 1 := G.info_of (by kernel_rfl)
theorem hcallOk10 : G.callOk Try.prog 10 = true := by kernel_rfl
theorem hcallOk11 : G.callOk Try.prog 11 = true := by kernel_rfl
theorem hcallOk21 : G.callOk Try.prog 21 = true := by kernel_rfl
theorem hcallOk25 : G.callOk Try.prog 25 = true := by kernel_rfl

set_option maxRecDepth 8000 in
set_option maxHeartbeats 1600000 in
/-- bookplate/bookplatelaw41.PrefixLongest. -/
theorem prefixLongest_h {l : List Str} {s : Str} :
    Con Try.prog 4 [vL 1 (l.map eStr), vT s] [] (vB true) [] := by
 refine Con.enterL (n := 68) Try.func4 rfl rfl rfl (fun τ w ok vs hin => ?_)
 have hl0 := hin.len (i := 0) rfl
 try rw [List.length_map] at hl0
 clear hin
 refine W.seq ?_
 refine W.region ?_
 refine SL.val (O.assign rfl rfl Taken.no) ?_
 refine SL.nil ?_
 refine E.to ?_
 refine W.seq ?_
 refine W.seq ?_
 refine W.region ?_
 refine SL.val (O.callp rfl rfl rfl (awake_h) .nil hcallOk10 rfl Taken.no) ?_
 refine SL.as (i' := vB true) 10 rfl (by rfl) ?_
 refine SL.val (O.det (fun _ => G.R.mv (G.R.not rfl) rfl) rfl Taken.no) ?_
 refine SL.nil ?_
 refine E.to ?_
 refine W.cond_f rfl ?_
 refine W.skip ?_
 refine E.to ?_
 refine W.seq ?_
 refine W.seq ?_
 refine W.region ?_
 refine SL.val (O.move rfl rfl Taken.no) ?_
 refine SL.val (O.callp rfl rfl rfl (few_h (l := l)) (.cons (ArgOk.same rfl) .nil) hcallOk11 rfl Taken.no) ?_
 refine SL.val (O.det (fun _ => G.R.not rfl) rfl Taken.no) ?_
 refine SL.nil ?_
 refine E.to ?_
 first | refine W.cond_d rfl (fun hc1 => ?_) (fun hc1 => ?_) | refine W.cond_nd rfl (fun hc1 => ?_) (fun hc1 => ?_) | refine W.cond rfl (fun hc1 => ?_) (fun hc1 => ?_)
 ·skip
  refine W.seq ?_
  refine W.region ?_
  refine SL.val (O.assign rfl rfl Taken.no) ?_
  refine SL.nil ?_
  refine E.to ?_
  refine W.ret ?_
  refine E.thr ?_
  refine E.fin (rs := [_]) (rn []) (.inl rfl) rfl (.cons (ResOne.tmp rfl) .nil) ?_ ?_ rfl (fixL_spec rfl)
  ·skip
   rfl
  · exact SubS.nil
 ·skip
  have hf : fewS l := by simp_all
  have hf40 := hf.1
  refine W.skip ?_
  refine E.to ?_
  refine W.seq ?_
  refine W.region ?_
  refine SL.val (O.move rfl rfl Taken.no) ?_
  refine SL.memS (O.call (rn []) [] rfl rfl rfl (of_h (l := l) (by omega)) (.cons (ArgOk.same rfl) .nil) SubS.nil rfl rfl rfl rfl rfl (.inl rfl) hcallOk12 (r' := .tup [.agg [.u _, .u _, .u _], .u _]) rfl rfl Taken.no) rfl rfl (S' := _) rfl ?_
  refine SL.val (O.move rfl rfl Taken.no) ?_
  refine SL.val (O.extract rfl rfl rfl Taken.no) ?_
  refine SL.val (O.extract rfl rfl rfl Taken.no) ?_
  refine SL.memS (O.alloc (z := .agg #[.string (Go.G.bs []), .bool false, .slice none 0 0]) (is := [.u (.sc (.string (Go.G.bs []))), .u (.sc (.bool false)), .u (.sc (.slice none 0 0))]) 101 (by kernel_rfl) rfl rfl rfl Taken.no) rfl rfl (S' := (101, _) :: _) rfl ?_
  refine SL.effS (O.st_ref (m := 3) rfl rfl rfl (js := [_, _, _]) rfl rfl (by kernel_rfl) (by simp) (Nat.le_of_ble_eq_true rfl) rfl (is' := [_, _, _]) rfl Taken.no) (S' := (101, _) :: _) rfl ?_
  refine SL.val (O.assign rfl rfl Taken.no) ?_
  refine SL.nil ?_
  refine E.to ?_
  refine W.seq ?_
  refine W.seq ?_
  refine W.region ?_
  refine SL.val (O.move rfl rfl Taken.no) ?_
  refine SL.val (O.det (fun _ => G.R.lenL rfl Try.underlying9) rfl Taken.no) ?_
  refine SL.val (O.det (fun _ => G.R.gtr rfl rfl) rfl Taken.no) ?_
  refine SL.val (O.move rfl rfl Taken.no) ?_
  refine SL.case (j := 3) (g := 23) (want := false) rfl rfl (fun hg2 => ?_) (fun hg2 => ?_)
  ·skip
   first | have hg2p := G.gA3 hg2 | have hg2p := G.gA4 hg2 | have hg2p := hg2
   refine SL.val (O.move rfl rfl (Taken.yes rfl rfl hg2)) ?_
   refine SL.val (O.det (fun _ => G.R.neq rfl rfl) rfl (Taken.yes rfl rfl hg2)) ?_
   refine SL.val (O.pick_f rfl hg2 rfl rfl Taken.no) ?_
   refine SL.nil ?_
   refine E.to ?_
   first | refine W.cond_d rfl (fun hc3 => ?_) (fun hc3 => ?_) | refine W.cond_nd rfl (fun hc3 => ?_) (fun hc3 => ?_) | refine W.cond rfl (fun hc3 => ?_) (fun hc3 => ?_)
   ·skip
    refine W.seq ?_
    refine W.region ?_
    refine SL.val (O.assign rfl rfl Taken.no) ?_
    refine SL.nil ?_
    refine E.to ?_
    refine W.ret ?_
    refine E.thr ?_
    refine E.fin (rs := [_]) (rn []) (.inl rfl) rfl (.cons (ResOne.tmp rfl) .nil) ?_ ?_ rfl (fixL_spec rfl)
    ·skip
     rfl
    · exact SubS.nil
   ·skip
    have hE : ofE l = 0 := by omega
    have ho := of_facts (l := l) (by omega) hE
    have hb : bd 1000 (ofT l) := bd_mono ho.1 (by decide)
    have hA := ho.2.2.2.2.2.1
    have hin := hb.2.2
    have hsl : s.length ≤ 120 := by omega
    refine W.skip ?_
    refine E.to ?_
    refine W.seq ?_
    refine W.region ?_
    refine SL.val (O.ldN (m := 3) (PtI.ref rfl rfl) (js := [_, _, _]) rfl (Nat.le_of_ble_eq_true rfl) Try.underlying27 rfl (by kernel_rfl) rfl Taken.no) ?_
    refine SL.val (O.move rfl rfl Taken.no) ?_
    refine SL.memS (O.call (rn []) [] rfl rfl rfl (longest_h (t := ofT l) (s := s) hb ho.2.2.1 (by omega)) (.cons (ArgOk.aggU (.cons (ArgOk.same rfl) (.cons (ArgOk.same rfl) (.cons (ArgOk.same rfl) .nil)))) (.cons (ArgOk.same rfl) .nil)) SubS.nil rfl rfl rfl rfl rfl (.inl rfl) hcallOk17 (r' := .tup [.u _, .u _]) rfl rfl Taken.no) rfl rfl (S' := _) rfl ?_
    refine SL.val (O.move rfl rfl Taken.no) ?_
    refine SL.val (O.extract rfl rfl rfl Taken.no) ?_
    refine SL.val (O.extract rfl rfl rfl Taken.no) ?_
    refine SL.val (O.assign rfl rfl Taken.no) ?_
    refine SL.val (O.assign rfl rfl Taken.no) ?_
    refine SL.nil ?_
    refine E.to ?_
    refine W.pick (.cons (t := 1) rfl (.cons (t := 4) rfl (.cons (t := 5) rfl (.cons (t := 7) rfl (.cons (t := 8) rfl .nil))))) (.cons (t := 101) rfl .nil) ?_
    refine W.seq ?_
    refine W.seq ?_
    refine W.region ?_
    refine SL.val (O.move rfl rfl Taken.no) ?_
    refine SL.val (O.move rfl rfl Taken.no) ?_
    refine SL.case (j := 1) (g := 34) (want := true) rfl rfl (fun hg4 => ?_) (fun hg4 => ?_)
    ·skip
     first | have hg4p := G.gA1 hg4 | have hg4p := G.gA2 hg4 | have hg4p := hg4
     have hpos : 0 < lonN s (ofT l).inn := by first | assumption | exact of_decide_eq_true (by assumption)
     have hll := lon_len s (ofT l).inn
     have hlle := lonN_le s (ofT l).inn
     refine SL.val (O.ldN (m := 3) (PtI.ref rfl rfl) (js := [_, _, _]) rfl (Nat.le_of_ble_eq_true rfl) Try.underlying27 rfl (by kernel_rfl) rfl (Taken.yes rfl rfl hg4)) ?_
     refine SL.val (O.move rfl rfl (Taken.yes rfl rfl hg4)) ?_
     refine SL.val (O.callp rfl rfl rfl (has_h (t := ofT l) (s := lonO s (ofT l).inn) hb (by omega)) (.cons (ArgOk.aggU (.cons (ArgOk.same rfl) (.cons (ArgOk.same rfl) (.cons (ArgOk.same rfl) .nil)))) (.cons (ArgOk.same rfl) .nil)) hcallOk18 rfl (Taken.yes rfl rfl hg4)) ?_
     refine SL.as (i' := vB true) 37 rfl (by exact iv_bool (dec_t (lon_mem hpos))) ?_
     refine SL.val (O.det (fun _ => G.R.mv (G.R.not rfl) rfl) rfl (Taken.yes rfl rfl hg4)) ?_
     refine SL.val (O.move rfl rfl (Taken.yes rfl rfl hg4)) ?_
     have hg5 : false = false := by decide
     refine SL.val (O.move rfl rfl (Taken.yes rfl rfl hg5)) ?_
     refine SL.val (O.move rfl rfl (Taken.yes rfl rfl hg5)) ?_
     refine SL.val (O.callp rfl rfl rfl (begins_h (s := s) (p := lonO s (ofT l).inn)) (.cons (ArgOk.same rfl) (.cons (ArgOk.same rfl) .nil)) hcallOk19 rfl (Taken.yes rfl rfl hg5)) ?_
     refine SL.as (i' := vB true) 42 rfl (by exact iv_bool (dec_t (lon_pre s (ofT l).inn))) ?_
     refine SL.val (O.det (fun _ => G.R.mv (G.R.not rfl) rfl) rfl (Taken.yes rfl rfl hg5)) ?_
     refine SL.val (O.pick_f rfl rfl rfl rfl (Taken.yes rfl rfl hg4)) ?_
     refine SL.val (O.pick_t rfl hg4 rfl rfl Taken.no) ?_
     refine SL.val (O.move rfl rfl Taken.no) ?_
     have hg6 : false = false := by decide
     refine SL.val (O.move rfl rfl (Taken.yes rfl rfl hg6)) ?_
     refine SL.val (O.det (fun _ => G.R.not rfl) rfl (Taken.yes rfl rfl hg6)) ?_
     refine SL.val (O.move rfl rfl (Taken.yes rfl rfl hg6)) ?_
     refine SL.case (j := 16) (g := 49) (want := true) rfl rfl (fun hg7 => ?_) (fun hg7 => ?_)
     ·skip
      first | have hg7p := G.gA1 hg7 | have hg7p := G.gA2 hg7 | have hg7p := hg7
      have hz : ¬ 0 < lonN s (ofT l).inn := by first | assumption | exact of_decide_eq_false (nb_t (by assumption))
      refine SL.val (O.move rfl rfl (Taken.yes rfl rfl hg7)) ?_
      refine SL.val (O.det (fun _ => G.R.mv (G.R.strneL (b := [])  rfl rfl) (congrArg Value.bool (decide_eq_false (by exact fun q => q (lon_nil hz))))) rfl (Taken.yes rfl rfl hg7)) ?_
      refine SL.val (O.pick_t rfl hg7 rfl rfl (Taken.yes rfl rfl hg6)) ?_
      refine SL.val (O.pick_f rfl rfl rfl rfl Taken.no) ?_
      refine SL.nil ?_
      refine E.to ?_
      refine W.pick (.cons (t := 1) rfl (.cons (t := 4) rfl (.cons (t := 5) rfl (.cons (t := 7) rfl (.cons (t := 53) rfl .nil))))) (.cons (t := 101) rfl .nil) ?_
      refine W.cond_f rfl ?_
      refine W.skip ?_
      refine E.to ?_
      refine W.seq ?_
      refine W.seq ?_
      refine W.region ?_
      have hll := lon_len s (ofT l).inn
      have hlle := lonN_le s (ofT l).inn
      refine SL.val (O.move rfl rfl Taken.no) ?_
      refine SL.val (O.det (fun _ => G.R.lenL rfl Try.underlying9) rfl Taken.no) ?_
      refine SL.val (O.det (fun _ => by first | exact G.R.add64 rfl rfl (by omega) | exact G.R.add rfl rfl) rfl Taken.no) ?_
      refine SL.val (O.assign rfl rfl Taken.no) ?_
      refine SL.nil ?_
      refine E.to ?_
      refine W.block ?_
      refine W.loopx1 (fun (n : Nat) => [(9, vI (n : Int))]) (fun (n : Nat) => []) (fun (n : Nat) => lonN s (ofT l).inn < n ∧ n ≤ s.length + 1) (fun (n : Nat) => s.length + 1 - n) ((lonO s (ofT l).inn).length + 1) (rn []) (.cons (t := 1) rfl (.cons (t := 5) rfl .nil)) (.cons (t := 101) rfl .nil) rfl ?_ ?_ rfl rfl ?_ ?_
      · exact (SubF.cons rfl SubF.nil)
      · exact SubS.nil
      ·skip
       exact ⟨by omega, by omega⟩
      intro n hinv
      obtain ⟨hn1, hn2⟩ := hinv
      refine W.seq ?_
      refine W.seq ?_
      refine W.region ?_
      refine SL.val (O.move rfl rfl Taken.no) ?_
      refine SL.val (O.move rfl rfl Taken.no) ?_
      refine SL.val (O.det (fun _ => G.R.lenL rfl Try.underlying9) rfl Taken.no) ?_
      refine SL.val (O.det (fun _ => G.R.leq rfl rfl) rfl Taken.no) ?_
      refine SL.nil ?_
      refine E.to ?_
      first | refine W.cond_d rfl (fun hc8 => ?_) (fun hc8 => ?_) | refine W.cond_nd rfl (fun hc8 => ?_) (fun hc8 => ?_) | refine W.cond rfl (fun hc8 => ?_) (fun hc8 => ?_)
      ·skip
       refine W.skip ?_
       refine E.to ?_
       refine W.seq ?_
       refine W.block ?_
       refine W.seq ?_
       refine W.draw [⟨[101], [], []⟩, ⟨[], [], []⟩, ⟨[], [], []⟩, ⟨[], [], []⟩, ⟨[], [], []⟩] rfl (by kernel_rfl) (by kernel_rfl) rfl rfl ?_
       refine WH.val (O.ldN (m := 3) (PtI.ref rfl rfl) (js := [_, _, _]) rfl (Nat.le_of_ble_eq_true rfl) Try.underlying27 rfl (by kernel_rfl) rfl Taken.no) rfl rfl ?_
       refine WH.val (O.move rfl rfl Taken.no) rfl rfl ?_
       refine WH.val (O.move rfl rfl Taken.no) rfl rfl ?_
       refine WH.val (O.det (fun _ => G.R.strtoL (j := n) rfl rfl Try.underlying9 (by omega)) rfl Taken.no) rfl rfl ?_
       refine WH.val (OpOk.re (i' := vB false) (O.callp rfl rfl rfl (has_h (t := ofT l) (s := s.take n) hb (by rw [List.length_take]; omega)) (.cons (ArgOk.aggU (.cons (ArgOk.same rfl) (.cons (ArgOk.same rfl) (.cons (ArgOk.same rfl) .nil)))) (.cons (ArgOk.same rfl) .nil)) hcallOk18 rfl Taken.no) (by exact iv_bool (dec_f (lon_no hn1 (by omega))))) rfl rfl ?_
       refine WH.nil ?_
       refine E.to ?_
       refine W.cond_f rfl ?_
       refine W.skip ?_
       refine E.inn ?_
       refine E.to ?_
       refine W.region ?_
       refine SL.val (O.move rfl rfl Taken.no) ?_
       refine SL.val (O.det (fun _ => by first | exact G.R.add64 rfl rfl (by omega) | exact G.R.add rfl rfl) rfl Taken.no) ?_
       refine SL.val (O.assign rfl rfl Taken.no) ?_
       refine SL.nil ?_
       refine E.again ((n + 1)) (rn []) ?_ ?_ rfl (fixL_spec rfl) ?_ ?_
       · exact (SubF.cons rfl (SubF.cons rfl (SubF.cons rfl SubF.nil)))
       · exact (SubS.cons rfl SubS.nil)
       ·try dsimp only
        exact ⟨by omega, by omega⟩
       · (try dsimp only); omega
      ·skip
       refine W.exit ?_
       refine E.th ?_
       refine E.th ?_
       refine E.hit ?_
       refine E.to ?_
       refine W.seq ?_
       refine W.region ?_
       refine SL.val (O.assign rfl rfl Taken.no) ?_
       refine SL.nil ?_
       refine E.to ?_
       refine W.ret ?_
       refine E.fin (rs := [_]) (rn []) (.inl rfl) rfl (.cons (ResOne.tmp rfl) .nil) ?_ ?_ rfl (fixL_spec rfl)
       ·skip
        rfl
       · exact SubS.nil
     ·skip
      first | have hg7p := G.gA5 hg7 | have hg7p := G.gA6 hg7 | have hg7p := hg7
      refine SL.skip (OpOk.not rfl rfl rfl hg7) ?_
      refine SL.skip (OpOk.not rfl rfl rfl hg7) ?_
      refine SL.val (O.pick_f rfl (G.ne_t hg7) rfl rfl (Taken.yes rfl rfl hg6)) ?_
      refine SL.val (O.pick_f rfl rfl rfl rfl Taken.no) ?_
      refine SL.nil ?_
      refine E.to ?_
      refine W.pick (.cons (t := 1) rfl (.cons (t := 4) rfl (.cons (t := 5) rfl (.cons (t := 7) rfl (.cons (t := 53) rfl .nil))))) (.cons (t := 101) rfl .nil) ?_
      refine W.cond_f rfl ?_
      refine W.skip ?_
      refine E.to ?_
      refine W.seq ?_
      refine W.seq ?_
      refine W.region ?_
      have hll := lon_len s (ofT l).inn
      have hlle := lonN_le s (ofT l).inn
      refine SL.val (O.move rfl rfl Taken.no) ?_
      refine SL.val (O.det (fun _ => G.R.lenL rfl Try.underlying9) rfl Taken.no) ?_
      refine SL.val (O.det (fun _ => by first | exact G.R.add64 rfl rfl (by omega) | exact G.R.add rfl rfl) rfl Taken.no) ?_
      refine SL.val (O.assign rfl rfl Taken.no) ?_
      refine SL.nil ?_
      refine E.to ?_
      refine W.block ?_
      refine W.loopx1 (fun (n : Nat) => [(9, vI (n : Int))]) (fun (n : Nat) => []) (fun (n : Nat) => lonN s (ofT l).inn < n ∧ n ≤ s.length + 1) (fun (n : Nat) => s.length + 1 - n) ((lonO s (ofT l).inn).length + 1) (rn []) (.cons (t := 1) rfl (.cons (t := 5) rfl .nil)) (.cons (t := 101) rfl .nil) rfl ?_ ?_ rfl rfl ?_ ?_
      · exact (SubF.cons rfl SubF.nil)
      · exact SubS.nil
      ·skip
       exact ⟨by omega, by omega⟩
      intro n hinv
      obtain ⟨hn1, hn2⟩ := hinv
      refine W.seq ?_
      refine W.seq ?_
      refine W.region ?_
      refine SL.val (O.move rfl rfl Taken.no) ?_
      refine SL.val (O.move rfl rfl Taken.no) ?_
      refine SL.val (O.det (fun _ => G.R.lenL rfl Try.underlying9) rfl Taken.no) ?_
      refine SL.val (O.det (fun _ => G.R.leq rfl rfl) rfl Taken.no) ?_
      refine SL.nil ?_
      refine E.to ?_
      first | refine W.cond_d rfl (fun hc9 => ?_) (fun hc9 => ?_) | refine W.cond_nd rfl (fun hc9 => ?_) (fun hc9 => ?_) | refine W.cond rfl (fun hc9 => ?_) (fun hc9 => ?_)
      ·skip
       refine W.skip ?_
       refine E.to ?_
       refine W.seq ?_
       refine W.block ?_
       refine W.seq ?_
       refine W.draw [⟨[101], [], []⟩, ⟨[], [], []⟩, ⟨[], [], []⟩, ⟨[], [], []⟩, ⟨[], [], []⟩] rfl (by kernel_rfl) (by kernel_rfl) rfl rfl ?_
       refine WH.val (O.ldN (m := 3) (PtI.ref rfl rfl) (js := [_, _, _]) rfl (Nat.le_of_ble_eq_true rfl) Try.underlying27 rfl (by kernel_rfl) rfl Taken.no) rfl rfl ?_
       refine WH.val (O.move rfl rfl Taken.no) rfl rfl ?_
       refine WH.val (O.move rfl rfl Taken.no) rfl rfl ?_
       refine WH.val (O.det (fun _ => G.R.strtoL (j := n) rfl rfl Try.underlying9 (by omega)) rfl Taken.no) rfl rfl ?_
       refine WH.val (OpOk.re (i' := vB false) (O.callp rfl rfl rfl (has_h (t := ofT l) (s := s.take n) hb (by rw [List.length_take]; omega)) (.cons (ArgOk.aggU (.cons (ArgOk.same rfl) (.cons (ArgOk.same rfl) (.cons (ArgOk.same rfl) .nil)))) (.cons (ArgOk.same rfl) .nil)) hcallOk18 rfl Taken.no) (by exact iv_bool (dec_f (lon_no hn1 (by omega))))) rfl rfl ?_
       refine WH.nil ?_
       refine E.to ?_
       refine W.cond_f rfl ?_
       refine W.skip ?_
       refine E.inn ?_
       refine E.to ?_
       refine W.region ?_
       refine SL.val (O.move rfl rfl Taken.no) ?_
       refine SL.val (O.det (fun _ => by first | exact G.R.add64 rfl rfl (by omega) | exact G.R.add rfl rfl) rfl Taken.no) ?_
       refine SL.val (O.assign rfl rfl Taken.no) ?_
       refine SL.nil ?_
       refine E.again ((n + 1)) (rn []) ?_ ?_ rfl (fixL_spec rfl) ?_ ?_
       · exact (SubF.cons rfl (SubF.cons rfl (SubF.cons rfl SubF.nil)))
       · exact (SubS.cons rfl SubS.nil)
       ·try dsimp only
        exact ⟨by omega, by omega⟩
       · (try dsimp only); omega
      ·skip
       refine W.exit ?_
       refine E.th ?_
       refine E.th ?_
       refine E.hit ?_
       refine E.to ?_
       refine W.seq ?_
       refine W.region ?_
       refine SL.val (O.assign rfl rfl Taken.no) ?_
       refine SL.nil ?_
       refine E.to ?_
       refine W.ret ?_
       refine E.fin (rs := [_]) (rn []) (.inl rfl) rfl (.cons (ResOne.tmp rfl) .nil) ?_ ?_ rfl (fixL_spec rfl)
       ·skip
        rfl
       · exact SubS.nil
    ·skip
     first | have hg4p := G.gA5 hg4 | have hg4p := G.gA6 hg4 | have hg4p := hg4
     refine SL.skip (OpOk.not rfl rfl rfl hg4) ?_
     refine SL.skip (OpOk.not rfl rfl rfl hg4) ?_
     refine SL.skip (OpOk.not rfl rfl rfl hg4) ?_
     refine SL.skip (OpOk.not rfl rfl rfl hg4) ?_
     refine SL.skip (OpOk.not rfl rfl rfl hg4) ?_
     refine SL.skip (OpOk.not2 rfl rfl rfl) ?_
     refine SL.skip (OpOk.not2 rfl rfl rfl) ?_
     refine SL.skip (OpOk.not2 rfl rfl rfl) ?_
     refine SL.skip (OpOk.not2 rfl rfl rfl) ?_
     refine SL.skip (OpOk.not rfl rfl rfl hg4) ?_
     refine SL.val (O.pick_f rfl (G.ne_t hg4) rfl rfl Taken.no) ?_
     refine SL.val (O.move rfl rfl Taken.no) ?_
     have hg10 : false = false := by decide
     refine SL.val (O.move rfl rfl (Taken.yes rfl rfl hg10)) ?_
     refine SL.val (O.det (fun _ => G.R.not rfl) rfl (Taken.yes rfl rfl hg10)) ?_
     refine SL.val (O.move rfl rfl (Taken.yes rfl rfl hg10)) ?_
     refine SL.case (j := 16) (g := 49) (want := true) rfl rfl (fun hg11 => ?_) (fun hg11 => ?_)
     ·skip
      first | have hg11p := G.gA1 hg11 | have hg11p := G.gA2 hg11 | have hg11p := hg11
      have hz : ¬ 0 < lonN s (ofT l).inn := by first | assumption | exact of_decide_eq_false (nb_t (by assumption))
      refine SL.val (O.move rfl rfl (Taken.yes rfl rfl hg11)) ?_
      refine SL.val (O.det (fun _ => G.R.mv (G.R.strneL (b := [])  rfl rfl) (congrArg Value.bool (decide_eq_false (by exact fun q => q (lon_nil hz))))) rfl (Taken.yes rfl rfl hg11)) ?_
      refine SL.val (O.pick_t rfl hg11 rfl rfl (Taken.yes rfl rfl hg10)) ?_
      refine SL.val (O.pick_f rfl rfl rfl rfl Taken.no) ?_
      refine SL.nil ?_
      refine E.to ?_
      refine W.pick (.cons (t := 1) rfl (.cons (t := 4) rfl (.cons (t := 5) rfl (.cons (t := 7) rfl (.cons (t := 53) rfl .nil))))) (.cons (t := 101) rfl .nil) ?_
      refine W.cond_f rfl ?_
      refine W.skip ?_
      refine E.to ?_
      refine W.seq ?_
      refine W.seq ?_
      refine W.region ?_
      have hll := lon_len s (ofT l).inn
      have hlle := lonN_le s (ofT l).inn
      refine SL.val (O.move rfl rfl Taken.no) ?_
      refine SL.val (O.det (fun _ => G.R.lenL rfl Try.underlying9) rfl Taken.no) ?_
      refine SL.val (O.det (fun _ => by first | exact G.R.add64 rfl rfl (by omega) | exact G.R.add rfl rfl) rfl Taken.no) ?_
      refine SL.val (O.assign rfl rfl Taken.no) ?_
      refine SL.nil ?_
      refine E.to ?_
      refine W.block ?_
      refine W.loopx1 (fun (n : Nat) => [(9, vI (n : Int))]) (fun (n : Nat) => []) (fun (n : Nat) => lonN s (ofT l).inn < n ∧ n ≤ s.length + 1) (fun (n : Nat) => s.length + 1 - n) ((lonO s (ofT l).inn).length + 1) (rn []) (.cons (t := 1) rfl (.cons (t := 5) rfl .nil)) (.cons (t := 101) rfl .nil) rfl ?_ ?_ rfl rfl ?_ ?_
      · exact (SubF.cons rfl SubF.nil)
      · exact SubS.nil
      ·skip
       exact ⟨by omega, by omega⟩
      intro n hinv
      obtain ⟨hn1, hn2⟩ := hinv
      refine W.seq ?_
      refine W.seq ?_
      refine W.region ?_
      refine SL.val (O.move rfl rfl Taken.no) ?_
      refine SL.val (O.move rfl rfl Taken.no) ?_
      refine SL.val (O.det (fun _ => G.R.lenL rfl Try.underlying9) rfl Taken.no) ?_
      refine SL.val (O.det (fun _ => G.R.leq rfl rfl) rfl Taken.no) ?_
      refine SL.nil ?_
      refine E.to ?_
      first | refine W.cond_d rfl (fun hc12 => ?_) (fun hc12 => ?_) | refine W.cond_nd rfl (fun hc12 => ?_) (fun hc12 => ?_) | refine W.cond rfl (fun hc12 => ?_) (fun hc12 => ?_)
      ·skip
       refine W.skip ?_
       refine E.to ?_
       refine W.seq ?_
       refine W.block ?_
       refine W.seq ?_
       refine W.draw [⟨[101], [], []⟩, ⟨[], [], []⟩, ⟨[], [], []⟩, ⟨[], [], []⟩, ⟨[], [], []⟩] rfl (by kernel_rfl) (by kernel_rfl) rfl rfl ?_
       refine WH.val (O.ldN (m := 3) (PtI.ref rfl rfl) (js := [_, _, _]) rfl (Nat.le_of_ble_eq_true rfl) Try.underlying27 rfl (by kernel_rfl) rfl Taken.no) rfl rfl ?_
       refine WH.val (O.move rfl rfl Taken.no) rfl rfl ?_
       refine WH.val (O.move rfl rfl Taken.no) rfl rfl ?_
       refine WH.val (O.det (fun _ => G.R.strtoL (j := n) rfl rfl Try.underlying9 (by omega)) rfl Taken.no) rfl rfl ?_
       refine WH.val (OpOk.re (i' := vB false) (O.callp rfl rfl rfl (has_h (t := ofT l) (s := s.take n) hb (by rw [List.length_take]; omega)) (.cons (ArgOk.aggU (.cons (ArgOk.same rfl) (.cons (ArgOk.same rfl) (.cons (ArgOk.same rfl) .nil)))) (.cons (ArgOk.same rfl) .nil)) hcallOk18 rfl Taken.no) (by exact iv_bool (dec_f (lon_no hn1 (by omega))))) rfl rfl ?_
       refine WH.nil ?_
       refine E.to ?_
       refine W.cond_f rfl ?_
       refine W.skip ?_
       refine E.inn ?_
       refine E.to ?_
       refine W.region ?_
       refine SL.val (O.move rfl rfl Taken.no) ?_
       refine SL.val (O.det (fun _ => by first | exact G.R.add64 rfl rfl (by omega) | exact G.R.add rfl rfl) rfl Taken.no) ?_
       refine SL.val (O.assign rfl rfl Taken.no) ?_
       refine SL.nil ?_
       refine E.again ((n + 1)) (rn []) ?_ ?_ rfl (fixL_spec rfl) ?_ ?_
       · exact (SubF.cons rfl (SubF.cons rfl (SubF.cons rfl SubF.nil)))
       · exact (SubS.cons rfl SubS.nil)
       ·try dsimp only
        exact ⟨by omega, by omega⟩
       · (try dsimp only); omega
      ·skip
       refine W.exit ?_
       refine E.th ?_
       refine E.th ?_
       refine E.hit ?_
       refine E.to ?_
       refine W.seq ?_
       refine W.region ?_
       refine SL.val (O.assign rfl rfl Taken.no) ?_
       refine SL.nil ?_
       refine E.to ?_
       refine W.ret ?_
       refine E.fin (rs := [_]) (rn []) (.inl rfl) rfl (.cons (ResOne.tmp rfl) .nil) ?_ ?_ rfl (fixL_spec rfl)
       ·skip
        rfl
       · exact SubS.nil
     ·skip
      first | have hg11p := G.gA5 hg11 | have hg11p := G.gA6 hg11 | have hg11p := hg11
      refine SL.skip (OpOk.not rfl rfl rfl hg11) ?_
      refine SL.skip (OpOk.not rfl rfl rfl hg11) ?_
      refine SL.val (O.pick_f rfl (G.ne_t hg11) rfl rfl (Taken.yes rfl rfl hg10)) ?_
      refine SL.val (O.pick_f rfl rfl rfl rfl Taken.no) ?_
      refine SL.nil ?_
      refine E.to ?_
      refine W.pick (.cons (t := 1) rfl (.cons (t := 4) rfl (.cons (t := 5) rfl (.cons (t := 7) rfl (.cons (t := 53) rfl .nil))))) (.cons (t := 101) rfl .nil) ?_
      refine W.cond_f rfl ?_
      refine W.skip ?_
      refine E.to ?_
      refine W.seq ?_
      refine W.seq ?_
      refine W.region ?_
      have hll := lon_len s (ofT l).inn
      have hlle := lonN_le s (ofT l).inn
      refine SL.val (O.move rfl rfl Taken.no) ?_
      refine SL.val (O.det (fun _ => G.R.lenL rfl Try.underlying9) rfl Taken.no) ?_
      refine SL.val (O.det (fun _ => by first | exact G.R.add64 rfl rfl (by omega) | exact G.R.add rfl rfl) rfl Taken.no) ?_
      refine SL.val (O.assign rfl rfl Taken.no) ?_
      refine SL.nil ?_
      refine E.to ?_
      refine W.block ?_
      refine W.loopx1 (fun (n : Nat) => [(9, vI (n : Int))]) (fun (n : Nat) => []) (fun (n : Nat) => lonN s (ofT l).inn < n ∧ n ≤ s.length + 1) (fun (n : Nat) => s.length + 1 - n) ((lonO s (ofT l).inn).length + 1) (rn []) (.cons (t := 1) rfl (.cons (t := 5) rfl .nil)) (.cons (t := 101) rfl .nil) rfl ?_ ?_ rfl rfl ?_ ?_
      · exact (SubF.cons rfl SubF.nil)
      · exact SubS.nil
      ·skip
       exact ⟨by omega, by omega⟩
      intro n hinv
      obtain ⟨hn1, hn2⟩ := hinv
      refine W.seq ?_
      refine W.seq ?_
      refine W.region ?_
      refine SL.val (O.move rfl rfl Taken.no) ?_
      refine SL.val (O.move rfl rfl Taken.no) ?_
      refine SL.val (O.det (fun _ => G.R.lenL rfl Try.underlying9) rfl Taken.no) ?_
      refine SL.val (O.det (fun _ => G.R.leq rfl rfl) rfl Taken.no) ?_
      refine SL.nil ?_
      refine E.to ?_
      first | refine W.cond_d rfl (fun hc13 => ?_) (fun hc13 => ?_) | refine W.cond_nd rfl (fun hc13 => ?_) (fun hc13 => ?_) | refine W.cond rfl (fun hc13 => ?_) (fun hc13 => ?_)
      ·skip
       refine W.skip ?_
       refine E.to ?_
       refine W.seq ?_
       refine W.block ?_
       refine W.seq ?_
       refine W.draw [⟨[101], [], []⟩, ⟨[], [], []⟩, ⟨[], [], []⟩, ⟨[], [], []⟩, ⟨[], [], []⟩] rfl (by kernel_rfl) (by kernel_rfl) rfl rfl ?_
       refine WH.val (O.ldN (m := 3) (PtI.ref rfl rfl) (js := [_, _, _]) rfl (Nat.le_of_ble_eq_true rfl) Try.underlying27 rfl (by kernel_rfl) rfl Taken.no) rfl rfl ?_
       refine WH.val (O.move rfl rfl Taken.no) rfl rfl ?_
       refine WH.val (O.move rfl rfl Taken.no) rfl rfl ?_
       refine WH.val (O.det (fun _ => G.R.strtoL (j := n) rfl rfl Try.underlying9 (by omega)) rfl Taken.no) rfl rfl ?_
       refine WH.val (OpOk.re (i' := vB false) (O.callp rfl rfl rfl (has_h (t := ofT l) (s := s.take n) hb (by rw [List.length_take]; omega)) (.cons (ArgOk.aggU (.cons (ArgOk.same rfl) (.cons (ArgOk.same rfl) (.cons (ArgOk.same rfl) .nil)))) (.cons (ArgOk.same rfl) .nil)) hcallOk18 rfl Taken.no) (by exact iv_bool (dec_f (lon_no hn1 (by omega))))) rfl rfl ?_
       refine WH.nil ?_
       refine E.to ?_
       refine W.cond_f rfl ?_
       refine W.skip ?_
       refine E.inn ?_
       refine E.to ?_
       refine W.region ?_
       refine SL.val (O.move rfl rfl Taken.no) ?_
       refine SL.val (O.det (fun _ => by first | exact G.R.add64 rfl rfl (by omega) | exact G.R.add rfl rfl) rfl Taken.no) ?_
       refine SL.val (O.assign rfl rfl Taken.no) ?_
       refine SL.nil ?_
       refine E.again ((n + 1)) (rn []) ?_ ?_ rfl (fixL_spec rfl) ?_ ?_
       · exact (SubF.cons rfl (SubF.cons rfl (SubF.cons rfl SubF.nil)))
       · exact (SubS.cons rfl SubS.nil)
       ·try dsimp only
        exact ⟨by omega, by omega⟩
       · (try dsimp only); omega
      ·skip
       refine W.exit ?_
       refine E.th ?_
       refine E.th ?_
       refine E.hit ?_
       refine E.to ?_
       refine W.seq ?_
       refine W.region ?_
       refine SL.val (O.assign rfl rfl Taken.no) ?_
       refine SL.nil ?_
       refine E.to ?_
       refine W.ret ?_
       refine E.fin (rs := [_]) (rn []) (.inl rfl) rfl (.cons (ResOne.tmp rfl) .nil) ?_ ?_ rfl (fixL_spec rfl)
       ·skip
        rfl
       · exact SubS.nil
  ·skip
   first | have hg2p := G.gA7 hg2 | have hg2p := G.gA8 hg2 | have hg2p := hg2
   refine SL.skip (OpOk.not rfl rfl rfl hg2) ?_
   refine SL.skip (OpOk.not rfl rfl rfl hg2) ?_
   refine SL.val (O.pick_t rfl (G.ne_f hg2) rfl rfl Taken.no) ?_
   refine SL.nil ?_
   refine E.to ?_
   refine W.cond_t rfl ?_
   refine W.seq ?_
   refine W.region ?_
   refine SL.val (O.assign rfl rfl Taken.no) ?_
   refine SL.nil ?_
   refine E.to ?_
   refine W.ret ?_
   refine E.thr ?_
   refine E.fin (rs := [_]) (rn []) (.inl rfl) rfl (.cons (ResOne.tmp rfl) .nil) ?_ ?_ rfl (fixL_spec rfl)
   ·skip
    rfl
   · exact SubS.nil

set_option maxRecDepth 8000 in
set_option maxHeartbeats 1600000 in
/-- bookplate/bookplatelaw41.PrefixOrder. -/
theorem prefixOrder_h {l : List Str} {s : Str} :
    Con Try.prog 6 [vL 1 (l.map eStr), vT s] [] (vB true) [] := by
 obtain ⟨i5, hi5, hz5, hs5, hb5⟩ := hinf5
 obtain ⟨i9, hi9, hz9, hs9, hb9⟩ := hinf9
 refine Con.enterL (n := 120) Try.func6 rfl rfl rfl (fun τ w ok vs hin => ?_)
 have hl0 := hin.len (i := 0) rfl
 try rw [List.length_map] at hl0
 clear hin
 refine W.seq ?_
 refine W.region ?_
 refine SL.val (O.assign rfl rfl Taken.no) ?_
 refine SL.nil ?_
 refine E.to ?_
 refine W.seq ?_
 refine W.seq ?_
 refine W.region ?_
 refine SL.val (O.callp rfl rfl rfl (awake_h) .nil hcallOk10 rfl Taken.no) ?_
 refine SL.as (i' := vB true) 13 rfl (by rfl) ?_
 refine SL.val (O.det (fun _ => G.R.mv (G.R.not rfl) rfl) rfl Taken.no) ?_
 refine SL.nil ?_
 refine E.to ?_
 refine W.cond_f rfl ?_
 refine W.skip ?_
 refine E.to ?_
 refine W.seq ?_
 refine W.seq ?_
 refine W.region ?_
 refine SL.val (O.move rfl rfl Taken.no) ?_
 refine SL.val (O.callp rfl rfl rfl (few_h (l := l)) (.cons (ArgOk.same rfl) .nil) hcallOk11 rfl Taken.no) ?_
 refine SL.val (O.det (fun _ => G.R.not rfl) rfl Taken.no) ?_
 refine SL.nil ?_
 refine E.to ?_
 first | refine W.cond_d rfl (fun hc1 => ?_) (fun hc1 => ?_) | refine W.cond_nd rfl (fun hc1 => ?_) (fun hc1 => ?_) | refine W.cond rfl (fun hc1 => ?_) (fun hc1 => ?_)
 ·skip
  refine W.seq ?_
  refine W.region ?_
  refine SL.val (O.assign rfl rfl Taken.no) ?_
  refine SL.nil ?_
  refine E.to ?_
  refine W.ret ?_
  refine E.thr ?_
  refine E.fin (rs := [_]) (rn []) (.inl rfl) rfl (.cons (ResOne.tmp rfl) .nil) ?_ ?_ rfl (fixL_spec rfl)
  ·skip
   rfl
  · exact SubS.nil
 ·skip
  have hf : fewS l := by simp_all
  have hf40 := hf.1
  refine W.skip ?_
  refine E.to ?_
  refine W.seq ?_
  refine W.region ?_
  refine SL.val (O.move rfl rfl Taken.no) ?_
  refine SL.memS (O.call (rn []) [] rfl rfl rfl (of_h (l := l) (by omega)) (.cons (ArgOk.same rfl) .nil) SubS.nil rfl rfl rfl rfl rfl (.inl rfl) hcallOk12 (r' := .tup [.agg [.u _, .u _, .u _], .u _]) rfl rfl Taken.no) rfl rfl (S' := _) rfl ?_
  refine SL.val (O.move rfl rfl Taken.no) ?_
  refine SL.val (O.extract rfl rfl rfl Taken.no) ?_
  refine SL.val (O.extract rfl rfl rfl Taken.no) ?_
  refine SL.memS (O.alloc (z := .agg #[.string (Go.G.bs []), .bool false, .slice none 0 0]) (is := [.u (.sc (.string (Go.G.bs []))), .u (.sc (.bool false)), .u (.sc (.slice none 0 0))]) 101 (by kernel_rfl) rfl rfl rfl Taken.no) rfl rfl (S' := (101, _) :: _) rfl ?_
  refine SL.effS (O.st_ref (m := 3) rfl rfl rfl (js := [_, _, _]) rfl rfl (by kernel_rfl) (by simp) (Nat.le_of_ble_eq_true rfl) rfl (is' := [_, _, _]) rfl Taken.no) (S' := (101, _) :: _) rfl ?_
  refine SL.val (O.assign rfl rfl Taken.no) ?_
  refine SL.nil ?_
  refine E.to ?_
  refine W.seq ?_
  refine W.seq ?_
  refine W.region ?_
  refine SL.val (O.move rfl rfl Taken.no) ?_
  refine SL.val (O.det (fun _ => G.R.lenL rfl Try.underlying9) rfl Taken.no) ?_
  refine SL.val (O.det (fun _ => G.R.gtr rfl rfl) rfl Taken.no) ?_
  refine SL.val (O.move rfl rfl Taken.no) ?_
  refine SL.case (j := 3) (g := 26) (want := false) rfl rfl (fun hg2 => ?_) (fun hg2 => ?_)
  ·skip
   first | have hg2p := G.gA3 hg2 | have hg2p := G.gA4 hg2 | have hg2p := hg2
   refine SL.val (O.move rfl rfl (Taken.yes rfl rfl hg2)) ?_
   refine SL.val (O.det (fun _ => G.R.neq rfl rfl) rfl (Taken.yes rfl rfl hg2)) ?_
   refine SL.val (O.pick_f rfl hg2 rfl rfl Taken.no) ?_
   refine SL.nil ?_
   refine E.to ?_
   first | refine W.cond_d rfl (fun hc3 => ?_) (fun hc3 => ?_) | refine W.cond_nd rfl (fun hc3 => ?_) (fun hc3 => ?_) | refine W.cond rfl (fun hc3 => ?_) (fun hc3 => ?_)
   ·skip
    refine W.seq ?_
    refine W.region ?_
    refine SL.val (O.assign rfl rfl Taken.no) ?_
    refine SL.nil ?_
    refine E.to ?_
    refine W.ret ?_
    refine E.thr ?_
    refine E.fin (rs := [_]) (rn []) (.inl rfl) rfl (.cons (ResOne.tmp rfl) .nil) ?_ ?_ rfl (fixL_spec rfl)
    ·skip
     rfl
    · exact SubS.nil
   ·skip
    have hE : ofE l = 0 := by omega
    have ho := of_facts (l := l) (by omega) hE
    have hb : bd 1000 (ofT l) := bd_mono ho.1 (by decide)
    have hA := ho.2.2.2.2.2.1
    have hin := hb.2.2
    have hsl : s.length ≤ 110 := by omega
    refine W.skip ?_
    refine E.to ?_
    refine W.seq ?_
    refine W.draw [⟨[101], [], []⟩, ⟨[101], [], []⟩, ⟨[], [], []⟩, ⟨[], [], []⟩, ⟨[], [], []⟩, ⟨[], [], []⟩, ⟨[], [], []⟩, ⟨[], [], []⟩, ⟨[], [], []⟩, ⟨[], [], []⟩] rfl (by kernel_rfl) (by kernel_rfl) rfl rfl ?_
    refine WH.val (O.ldN (m := 3) (PtI.ref rfl rfl) (js := [_, _, _]) rfl (Nat.le_of_ble_eq_true rfl) Try.underlying27 rfl (by kernel_rfl) rfl Taken.no) rfl rfl ?_
    refine WH.val (O.ldN (m := 3) (PtI.ref rfl rfl) (js := [_, _, _]) rfl (Nat.le_of_ble_eq_true rfl) Try.underlying27 rfl (by kernel_rfl) rfl Taken.no) rfl rfl ?_
    refine WH.val (O.move rfl rfl Taken.no) rfl rfl ?_
    refine WH.val (O.callp rfl rfl rfl (Rank_h (t := ofT l) (s := s) hb) (.cons (ArgOk.aggU (.cons (ArgOk.same rfl) (.cons (ArgOk.same rfl) (.cons (ArgOk.same rfl) .nil)))) (.cons (ArgOk.same rfl) .nil)) hcallOk29 rfl Taken.no) rfl rfl ?_
    refine WH.memS (O.call (rn []) [] rfl rfl rfl (Nth_h (t := ofT l) hb ((rnk s (ofT l).inn : Nat) : Int)) (.cons (ArgOk.aggU (.cons (ArgOk.same rfl) (.cons (ArgOk.same rfl) (.cons (ArgOk.same rfl) .nil)))) (.cons (ArgOk.same rfl) .nil)) SubS.nil rfl rfl rfl rfl rfl (.inl rfl) hcallOk21 (r' := .tup [.u _, .u _]) rfl rfl Taken.no) rfl rfl rfl rfl rfl (S' := _) rfl ?_
    refine WH.val (O.move rfl rfl Taken.no) rfl rfl ?_
    refine WH.val (O.extract rfl rfl rfl Taken.no) rfl rfl ?_
    refine WH.val (O.extract rfl rfl rfl Taken.no) rfl rfl ?_
    refine WH.val (O.assign rfl rfl Taken.no) rfl rfl ?_
    refine WH.val (O.assign rfl rfl Taken.no) rfl rfl ?_
    refine WH.nil ?_
    refine E.to ?_
    refine W.pick (.cons (t := 1) rfl (.cons (t := 4) rfl (.cons (t := 5) rfl (.cons (t := 7) rfl (.cons (t := 8) rfl .nil))))) (.cons (t := 101) rfl .nil) ?_
    refine W.seq ?_
    refine W.seq ?_
    refine W.region ?_
    refine SL.val (O.move rfl rfl Taken.no) ?_
    refine SL.val (O.move rfl rfl Taken.no) ?_
    refine SL.case (j := 1) (g := 39) (want := true) rfl rfl (fun hg4 => ?_) (fun hg4 => ?_)
    ·skip
     first | have hg4p := G.gA1 hg4 | have hg4p := G.gA2 hg4 | have hg4p := hg4
     refine SL.val (O.move rfl rfl (Taken.yes rfl rfl hg4)) ?_
     refine SL.val (O.move rfl rfl (Taken.yes rfl rfl hg4)) ?_
     refine SL.val (O.det (fun _ => G.R.streqL rfl rfl) rfl (Taken.yes rfl rfl hg4)) ?_
     refine SL.val (O.pick_t rfl hg4 rfl rfl Taken.no) ?_
     refine SL.val (O.ldN (m := 3) (PtI.ref rfl rfl) (js := [_, _, _]) rfl (Nat.le_of_ble_eq_true rfl) Try.underlying27 rfl (by kernel_rfl) rfl Taken.no) ?_
     refine SL.val (O.move rfl rfl Taken.no) ?_
     refine SL.val (O.callp rfl rfl rfl (has_h (t := ofT l) (s := s) hb (by omega)) (.cons (ArgOk.aggU (.cons (ArgOk.same rfl) (.cons (ArgOk.same rfl) (.cons (ArgOk.same rfl) .nil)))) (.cons (ArgOk.same rfl) .nil)) hcallOk18 rfl Taken.no) ?_
     refine SL.val (O.det (fun _ => G.R.mv (G.R.boolneq rfl rfl Try.underlying4) (congrArg Value.bool (show _ = false by first | (rw [rk_y hA (by assumption)]; simp; done) | (rw [rk_n hA (by first | assumption | exact Bool.eq_false_iff.1 (by assumption))]; rfl)))) rfl Taken.no) ?_
     refine SL.val (O.move rfl rfl Taken.no) ?_
     have hg5 : false = false := by decide
     refine SL.val (O.move rfl rfl (Taken.yes rfl rfl hg5)) ?_
     refine SL.val (O.move rfl rfl (Taken.yes rfl rfl hg5)) ?_
     refine SL.case (j := 12) (g := 50) (want := true) rfl rfl (fun hg6 => ?_) (fun hg6 => ?_)
     ·skip
      first | have hg6p := G.gA1 hg6 | have hg6p := G.gA2 hg6 | have hg6p := hg6
      refine SL.val (O.move rfl rfl (Taken.yes rfl rfl hg6)) ?_
      refine SL.val (O.move rfl rfl (Taken.yes rfl rfl hg6)) ?_
      refine SL.val (O.det (fun _ => G.R.mv (G.R.strltL rfl rfl) (congrArg Value.bool (rk_lt hA (by assumption)))) rfl (Taken.yes rfl rfl hg6)) ?_
      refine SL.val (O.pick_t rfl hg6 rfl rfl (Taken.yes rfl rfl hg5)) ?_
      refine SL.val (O.pick_f rfl rfl rfl rfl Taken.no) ?_
      refine SL.nil ?_
      refine E.to ?_
      refine W.cond_f rfl ?_
      refine W.skip ?_
      refine E.to ?_
      refine W.seq ?_
      refine W.region ?_
      refine SL.val (O.ldN (m := 3) (PtI.ref rfl rfl) (js := [_, _, _]) rfl (Nat.le_of_ble_eq_true rfl) Try.underlying27 rfl (by kernel_rfl) rfl Taken.no) ?_
      refine SL.val (O.move rfl rfl Taken.no) ?_
      refine SL.val (O.callp rfl rfl rfl (With_h (t := ofT l) (p := s) hb (by omega)) (.cons (ArgOk.aggU (.cons (ArgOk.same rfl) (.cons (ArgOk.same rfl) (.cons (ArgOk.same rfl) .nil)))) (.cons (ArgOk.same rfl) .nil)) hcallOk26 rfl Taken.no) ?_
      refine SL.val (O.assign rfl rfl Taken.no) ?_
      refine SL.nil ?_
      refine E.to ?_
      refine W.pick (.cons (t := 1) rfl (.cons (t := 4) rfl (.cons (t := 5) rfl (.cons (t := 9) rfl .nil)))) (.cons (t := 101) rfl .nil) ?_
      refine W.seq ?_
      refine W.region ?_
      refine SL.val (O.assign rfl rfl Taken.no) ?_
      refine SL.nil ?_
      refine E.to ?_
      refine W.seq ?_
      refine W.seq ?_
      refine W.region ?_
      refine SL.val (O.ldN (m := 3) (PtI.ref rfl rfl) (js := [_, _, _]) rfl (Nat.le_of_ble_eq_true rfl) Try.underlying27 rfl (by kernel_rfl) rfl Taken.no) ?_
      refine SL.val (O.move rfl rfl Taken.no) ?_
      refine SL.val (O.callp rfl rfl rfl (has_h (t := ofT l) (s := s) hb (by omega)) (.cons (ArgOk.aggU (.cons (ArgOk.same rfl) (.cons (ArgOk.same rfl) (.cons (ArgOk.same rfl) .nil)))) (.cons (ArgOk.same rfl) .nil)) hcallOk18 rfl Taken.no) ?_
      refine SL.nil ?_
      refine E.to ?_
      first | refine W.cond_d rfl (fun hc7 => ?_) (fun hc7 => ?_) | refine W.cond_nd rfl (fun hc7 => ?_) (fun hc7 => ?_) | refine W.cond rfl (fun hc7 => ?_) (fun hc7 => ?_)
      ·skip
       refine W.region ?_
       refine SL.val (O.move rfl rfl Taken.no) ?_
       refine SL.val (O.move rfl rfl Taken.no) ?_
       refine SL.memS (O.buildSlice 102 rfl rfl Try.underlying22 hi9 hz9 hs9 (by decide) rfl (by decide) rfl rfl rfl Taken.no) rfl rfl (S' := (102, _) :: _) rfl ?_
       refine SL.adopt 62 104 9 1 (by decide) rfl rfl rfl ?_
       refine SL.memS (O.app (k' := 103) rfl rfl (SlOf.own rfl rfl) Try.underlying22 hi9 hz9 hs9 rfl rfl (by first | exact map_snoc rfl | exact app_map | exact List.nil_append _ | rfl) (by rw [hb9]; first | omega | (simp only [List.length_map]; omega) | (simp <;> omega)) (by first | omega | (simp only [List.length_map]; omega) | (simp <;> omega)) rfl Taken.no) rfl rfl (S' := (103, _) :: (104, .dead) :: _) rfl ?_
       refine SL.val (O.assign rfl rfl Taken.no) ?_
       refine SL.nil ?_
       refine E.to ?_
       refine W.seq ?_
       refine W.seq ?_
       refine W.region ?_
       refine SL.val (O.assign rfl rfl Taken.no) ?_
       refine SL.nil ?_
       refine E.to ?_
       refine W.block ?_
       refine W.loopx1 (fun (c : Nat) => [(11, vI (c : Int)), (10, .own 105)]) (fun (c : Nat) => [(105, .data 9 1 ((ordK s (ofT l).inn c).map eStr))]) (fun (c : Nat) => c ≤ 256) (fun (c : Nat) => 256 - c) (0) (rn [(105, 103)]) (.cons (t := 1) rfl (.cons (t := 4) rfl (.cons (t := 5) rfl (.cons (t := 9) rfl .nil)))) (.cons (t := 101) rfl (.cons (t := 102) rfl .nil)) rfl ?_ ?_ rfl rfl ?_ ?_
       · exact (SubF.cons rfl (SubF.cons rfl SubF.nil))
       · exact (SubS.val rfl (by first | exact sb_data (by rw [ordK, if_pos (by assumption)]; rfl) | exact sb_data (by rw [ordK, if_neg (by assumption)]; rfl)) SubS.nil)
       ·skip
        omega
       intro c hinv
       have hc := hinv
       have hol := ordK_len s (ofT l).inn c
       have hol2 : c * (ofT l).inn.length ≤ 256 * 1000 := Nat.mul_le_mul hc hin
       refine W.seq ?_
       refine W.seq ?_
       refine W.region ?_
       refine SL.val (O.move rfl rfl Taken.no) ?_
       refine SL.val (O.det (fun _ => G.R.lss rfl rfl) rfl Taken.no) ?_
       refine SL.nil ?_
       refine E.to ?_
       first | refine W.cond_d rfl (fun hc8 => ?_) (fun hc8 => ?_) | refine W.cond_nd rfl (fun hc8 => ?_) (fun hc8 => ?_) | refine W.cond rfl (fun hc8 => ?_) (fun hc8 => ?_)
       ·skip
        refine W.skip ?_
        refine E.to ?_
        refine W.seq ?_
        refine W.block ?_
        refine W.region ?_
        refine SL.val (O.move rfl rfl Taken.no) ?_
        refine SL.val (O.ldN (m := 3) (PtI.ref rfl rfl) (js := [_, _, _]) rfl (Nat.le_of_ble_eq_true rfl) Try.underlying27 rfl (by kernel_rfl) rfl Taken.no) ?_
        refine SL.val (O.move rfl rfl Taken.no) ?_
        refine SL.val (O.move rfl rfl Taken.no) ?_
        refine SL.val (O.det (fun _ => by first | exact G.R.conv8 rfl Try.underlying3 Try.underlying5 (by omega) | exact G.R.conv rfl Try.underlying3 Try.underlying5) rfl Taken.no) ?_
        refine SL.memS (O.buildSlice 106 (rows := ([UInt8.ofNat c] : List UInt8).map eB) rfl rfl Try.underlying55 hi5 hz5 hs5 (by decide) rfl (by decide) rfl (by show _ = [[_]]; rw [UInt8.toNat_ofNat', Nat.mod_eq_of_lt (by omega)]; rfl) rfl Taken.no) rfl rfl (S' := (106, .data 5 1 (([UInt8.ofNat c] : List UInt8).map eB)) :: _) rfl ?_
        refine SL.val (O.b2s (l := [UInt8.ofNat c]) (SlOf.own rfl rfl) Try.underlying55 Try.underlying5 Try.underlying9 rfl Taken.no) ?_
        refine SL.val (O.det (fun _ => G.R.strcatL rfl rfl (by rw [List.length_singleton]; omega)) rfl Taken.no) ?_
        refine SL.val (O.callp rfl rfl rfl (With_h (t := ofT l) (p := s ++ [UInt8.ofNat c]) hb (by rw [List.length_append, List.length_singleton]; omega)) (.cons (ArgOk.aggU (.cons (ArgOk.same rfl) (.cons (ArgOk.same rfl) (.cons (ArgOk.same rfl) .nil)))) (.cons (ArgOk.same rfl) .nil)) hcallOk26 rfl Taken.no) ?_
        refine SL.memS (O.app (k' := 107) rfl rfl (SlOf.fz rfl (by decide)) Try.underlying22 hi9 hz9 hs9 rfl rfl (by exact app_map) (by rw [hb9]; (have hwl := wthL_len (s ++ [UInt8.ofNat c]) (ofT l).inn; simp only [List.length_map]; omega)) (by (have hwl := wthL_len (s ++ [UInt8.ofNat c]) (ofT l).inn; simp only [List.length_map]; omega)) rfl Taken.no) rfl rfl (S' := (107, _) :: (105, .dead) :: _) rfl ?_
        refine SL.val (O.assign rfl rfl Taken.no) ?_
        refine SL.nil ?_
        refine E.inn ?_
        refine E.to ?_
        refine W.region ?_
        refine SL.val (O.move rfl rfl Taken.no) ?_
        refine SL.val (O.det (fun _ => by first | exact G.R.add64 rfl rfl (by omega) | exact G.R.add rfl rfl) rfl Taken.no) ?_
        refine SL.val (O.assign rfl rfl Taken.no) ?_
        refine SL.nil ?_
        refine E.again ((c + 1)) (rn [(105, 107)]) ?_ ?_ rfl (fixL_spec rfl) ?_ ?_
        · exact (SubF.cons rfl (SubF.cons rfl (SubF.cons rfl (SubF.cons rfl (SubF.cons rfl (SubF.cons rfl SubF.nil))))))
        · exact (SubS.val rfl (by (try dsimp only); exact sb_data (by rw [ordK])) (SubS.cons rfl (SubS.cons rfl SubS.nil)))
        ·try dsimp only
         omega
        · (try dsimp only); omega
       ·skip
        refine W.exit ?_
        refine E.th ?_
        refine E.th ?_
        refine E.hit ?_
        refine E.to ?_
        refine W.seq ?_
        refine W.seq ?_
        refine W.region ?_
        refine SL.val (O.assign rfl rfl Taken.no) ?_
        refine SL.nil ?_
        refine E.to ?_
        refine W.block ?_
        refine W.loopx1 (fun (k : Nat) => [(12, vI (k : Int))]) (fun (k : Nat) => []) (fun (k : Nat) => k ≤ (wthL s (ofT l).inn).length) (fun (k : Nat) => (wthL s (ofT l).inn).length - k) (0) (rn []) (.cons (t := 1) rfl (.cons (t := 5) rfl (.cons (t := 9) rfl (.cons (t := 10) rfl .nil)))) (.cons (t := 101) rfl (.cons (t := 102) rfl (.cons (t := 105) rfl .nil))) rfl ?_ ?_ rfl rfl ?_ ?_
        · exact (SubF.cons rfl SubF.nil)
        · exact SubS.nil
        ·skip
         omega
        intro k hinv
        have hk := hinv
        have hwl := wthL_len s (ofT l).inn
        refine W.seq ?_
        refine W.seq ?_
        refine W.region ?_
        refine SL.val (O.move rfl rfl Taken.no) ?_
        refine SL.val (O.move rfl rfl Taken.no) ?_
        refine SL.val (O.lenE (SlOf.fz rfl (by decide)) (by first | exact List.length_map _ | rfl) Try.underlying22 rfl Taken.no) ?_
        refine SL.val (O.det (fun _ => G.R.lss rfl rfl) rfl Taken.no) ?_
        refine SL.nil ?_
        refine E.to ?_
        first | refine W.cond_d rfl (fun hc9 => ?_) (fun hc9 => ?_) | refine W.cond_nd rfl (fun hc9 => ?_) (fun hc9 => ?_) | refine W.cond rfl (fun hc9 => ?_) (fun hc9 => ?_)
        ·skip
         have hk2 : k < (wthL s (ofT l).inn).length := by omega
         refine W.skip ?_
         refine E.to ?_
         refine W.seq ?_
         refine W.block ?_
         refine W.seq ?_
         refine W.draw [⟨[], [], []⟩, ⟨[], [], []⟩, ⟨[], [], []⟩, ⟨[], [], []⟩, ⟨[], [], []⟩, ⟨[], [], []⟩, ⟨[], [], []⟩, ⟨[], [], []⟩, ⟨[], [], []⟩, ⟨[], [], []⟩, ⟨[], [], []⟩, ⟨[], [], []⟩, ⟨[], [], []⟩, ⟨[], [], []⟩, ⟨[], [], []⟩, ⟨[], [], []⟩, ⟨[], [], []⟩, ⟨[], [], []⟩, ⟨[], [], []⟩, ⟨[], [], []⟩, ⟨[], [], []⟩, ⟨[], [], []⟩, ⟨[], [], []⟩] rfl (by kernel_rfl) (by kernel_rfl) rfl rfl ?_
         refine WH.val (O.move rfl rfl Taken.no) rfl rfl ?_
         refine WH.val (O.move rfl rfl Taken.no) rfl rfl ?_
         refine WH.val (O.idx_fz rfl rfl (rfl) (row_get (by omega)) Try.underlying22 hi9 hs9 rfl Taken.no) rfl rfl ?_
         refine WH.val (O.ld1 (PtI.ofU (PtU.fz rfl)) rfl Try.underlying9 rfl rfl Taken.no) rfl rfl ?_
         refine WH.val (O.move rfl rfl Taken.no) rfl rfl ?_
         refine WH.val (OpOk.re (i' := vB true) (O.callp rfl rfl rfl (begins_h (s := (wthL s (ofT l).inn)[k]!) (p := s)) (.cons (ArgOk.same rfl) (.cons (ArgOk.same rfl) .nil)) hcallOk19 rfl Taken.no) (by exact iv_bool (dec_t (wth_at hk2)))) rfl rfl ?_
         refine WH.val (O.det (fun _ => G.R.mv (G.R.not rfl) rfl) rfl Taken.no) rfl rfl ?_
         refine WH.val (O.move rfl rfl Taken.no) rfl rfl ?_
         have hg10 : false = false := by decide
         refine WH.val (O.move rfl rfl (Taken.yes rfl rfl hg10)) rfl rfl ?_
         refine WH.val (O.det (fun _ => G.R.gtr rfl rfl) rfl (Taken.yes rfl rfl hg10)) rfl rfl ?_
         refine WH.val (O.move rfl rfl (Taken.yes rfl rfl hg10)) rfl rfl ?_
         refine WH.case (j := 10) (g := 96) (want := true) rfl rfl (fun hg11 => ?_) (fun hg11 => ?_)
         ·skip
          first | have hg11p := G.gA1 hg11 | have hg11p := G.gA2 hg11 | have hg11p := hg11
          refine WH.val (O.move rfl rfl (Taken.yes rfl rfl hg11)) rfl rfl ?_
          refine WH.val (O.move rfl rfl (Taken.yes rfl rfl hg11)) rfl rfl ?_
          refine WH.val (O.det (fun _ => by first | exact G.R.sub64 rfl rfl (by omega) | exact G.R.sub rfl rfl) rfl (Taken.yes rfl rfl hg11)) rfl rfl ?_
          refine WH.val (O.idx_fz (i := (k - 1)) rfl rfl (by omega) (row_get (by omega)) Try.underlying22 hi9 hs9 rfl (Taken.yes rfl rfl hg11)) rfl rfl ?_
          refine WH.val (O.ld1 (PtI.ofU (PtU.fz rfl)) rfl Try.underlying9 rfl rfl (Taken.yes rfl rfl hg11)) rfl rfl ?_
          refine WH.val (O.move rfl rfl (Taken.yes rfl rfl hg11)) rfl rfl ?_
          refine WH.val (O.move rfl rfl (Taken.yes rfl rfl hg11)) rfl rfl ?_
          refine WH.val (O.idx_fz rfl rfl (rfl) (row_get (by omega)) Try.underlying22 hi9 hs9 rfl (Taken.yes rfl rfl hg11)) rfl rfl ?_
          refine WH.val (O.ld1 (PtI.ofU (PtU.fz rfl)) rfl Try.underlying9 rfl rfl (Taken.yes rfl rfl hg11)) rfl rfl ?_
          refine WH.val (O.det (fun _ => G.R.mv (G.R.strgeL rfl rfl) (congrArg Value.bool (by rw [wth_asc hA (by omega) hk2]))) rfl (Taken.yes rfl rfl hg11)) rfl rfl ?_
          refine WH.val (O.pick_t rfl hg11 rfl rfl (Taken.yes rfl rfl hg10)) rfl rfl ?_
          refine WH.val (O.pick_f rfl rfl rfl rfl Taken.no) rfl rfl ?_
          refine WH.nil ?_
          refine E.to ?_
          refine W.pick (.cons (t := 1) rfl (.cons (t := 5) rfl (.cons (t := 9) rfl (.cons (t := 10) rfl (.cons (t := 12) rfl (.cons (t := 108) rfl .nil)))))) (.cons (t := 101) rfl (.cons (t := 102) rfl (.cons (t := 105) rfl .nil))) ?_
          refine W.cond_f rfl ?_
          refine W.skip ?_
          refine E.inn ?_
          refine E.to ?_
          refine W.region ?_
          refine SL.val (O.move rfl rfl Taken.no) ?_
          refine SL.val (O.det (fun _ => by first | exact G.R.add64 rfl rfl (by omega) | exact G.R.add rfl rfl) rfl Taken.no) ?_
          refine SL.val (O.assign rfl rfl Taken.no) ?_
          refine SL.nil ?_
          refine E.again ((k + 1)) (rn []) ?_ ?_ rfl (fixL_spec rfl) ?_ ?_
          · exact (SubF.cons rfl (SubF.cons rfl (SubF.cons rfl (SubF.cons rfl (SubF.cons rfl SubF.nil)))))
          · exact (SubS.cons rfl (SubS.cons rfl (SubS.cons rfl SubS.nil)))
          ·try dsimp only
           omega
          · (try dsimp only); omega
         ·skip
          first | have hg11p := G.gA5 hg11 | have hg11p := G.gA6 hg11 | have hg11p := hg11
          refine WH.skip (OpOk.not rfl rfl rfl hg11) ?_
          refine WH.skip (OpOk.not rfl rfl rfl hg11) ?_
          refine WH.skip (OpOk.not rfl rfl rfl hg11) ?_
          refine WH.skip (OpOk.not rfl rfl rfl hg11) ?_
          refine WH.skip (OpOk.not rfl rfl rfl hg11) ?_
          refine WH.skip (OpOk.not rfl rfl rfl hg11) ?_
          refine WH.skip (OpOk.not rfl rfl rfl hg11) ?_
          refine WH.skip (OpOk.not rfl rfl rfl hg11) ?_
          refine WH.skip (OpOk.not rfl rfl rfl hg11) ?_
          refine WH.skip (OpOk.not rfl rfl rfl hg11) ?_
          refine WH.val (O.pick_f rfl (G.ne_t hg11) rfl rfl (Taken.yes rfl rfl hg10)) rfl rfl ?_
          refine WH.val (O.pick_f rfl rfl rfl rfl Taken.no) rfl rfl ?_
          refine WH.nil ?_
          refine E.to ?_
          refine W.pick (.cons (t := 1) rfl (.cons (t := 5) rfl (.cons (t := 9) rfl (.cons (t := 10) rfl (.cons (t := 12) rfl (.cons (t := 108) rfl .nil)))))) (.cons (t := 101) rfl (.cons (t := 102) rfl (.cons (t := 105) rfl .nil))) ?_
          refine W.cond_f rfl ?_
          refine W.skip ?_
          refine E.inn ?_
          refine E.to ?_
          refine W.region ?_
          refine SL.val (O.move rfl rfl Taken.no) ?_
          refine SL.val (O.det (fun _ => by first | exact G.R.add64 rfl rfl (by omega) | exact G.R.add rfl rfl) rfl Taken.no) ?_
          refine SL.val (O.assign rfl rfl Taken.no) ?_
          refine SL.nil ?_
          refine E.again ((k + 1)) (rn []) ?_ ?_ rfl (fixL_spec rfl) ?_ ?_
          · exact (SubF.cons rfl (SubF.cons rfl (SubF.cons rfl (SubF.cons rfl (SubF.cons rfl SubF.nil)))))
          · exact (SubS.cons rfl (SubS.cons rfl (SubS.cons rfl SubS.nil)))
          ·try dsimp only
           omega
          · (try dsimp only); omega
        ·skip
         refine W.exit ?_
         refine E.th ?_
         refine E.th ?_
         refine E.hit ?_
         refine E.to ?_
         refine W.seq ?_
         refine W.region ?_
         obtain rfl : c = 256 := by omega
         refine SL.val (O.move rfl rfl Taken.no) ?_
         refine SL.val (O.move rfl rfl Taken.no) ?_
         refine SL.memS (O.call (rn []) [105] rfl rfl rfl (sameTexts_h (a := (wthL s (ofT l).inn)) (b := ordK s (ofT l).inn 256)) (.cons (ArgOk.same rfl) (.cons (ArgOk.own rfl rfl) .nil)) SubS.nil rfl rfl rfl rfl rfl (.inr ⟨rfl, fun x hx => by simp at hx⟩) hcallOk25 (r' := .u _) rfl rfl Taken.no) rfl rfl (S' := _) rfl ?_
         refine SL.as (i' := vB true) 111 rfl (by exact iv_bool (dec_t (ord_all hA))) ?_
         refine SL.val (O.move rfl rfl Taken.no) ?_
         have hg12 : true = true := by decide
         refine SL.val (O.ldN (m := 3) (PtI.ref rfl rfl) (js := [_, _, _]) rfl (Nat.le_of_ble_eq_true rfl) Try.underlying27 rfl (by kernel_rfl) rfl (Taken.yes rfl rfl hg12)) ?_
         refine SL.val (O.move rfl rfl (Taken.yes rfl rfl hg12)) ?_
         refine SL.val (O.callp rfl rfl rfl (Count_h (t := ofT l) (p := s) hb (by omega)) (.cons (ArgOk.aggU (.cons (ArgOk.same rfl) (.cons (ArgOk.same rfl) (.cons (ArgOk.same rfl) .nil)))) (.cons (ArgOk.same rfl) .nil)) hcallOk28 rfl (Taken.yes rfl rfl hg12)) ?_
         refine SL.val (O.move rfl rfl (Taken.yes rfl rfl hg12)) ?_
         refine SL.val (O.lenE (n := (wthL s (ofT l).inn).length) (SlOf.fz rfl (by decide)) (by rw [List.length_map]) Try.underlying22 rfl (Taken.yes rfl rfl hg12)) ?_
         refine SL.val (O.det (fun _ => G.R.mv (G.R.eql rfl rfl) (congrArg Value.bool (decide_eq_true (by rfl)))) rfl (Taken.yes rfl rfl hg12)) ?_
         refine SL.val (O.pick_t rfl rfl rfl rfl Taken.no) ?_
         refine SL.val (O.assign rfl rfl Taken.no) ?_
         refine SL.nil ?_
         refine E.to ?_
         refine W.ret ?_
         refine E.fin (rs := [_]) (rn []) (.inl rfl) rfl (.cons (ResOne.tmp rfl) .nil) ?_ ?_ rfl (fixL_spec rfl)
         ·skip
          rfl
         · exact SubS.nil
      ·skip
       refine W.skip ?_
       refine E.to ?_
       refine W.seq ?_
       refine W.seq ?_
       refine W.region ?_
       refine SL.val (O.assign rfl rfl Taken.no) ?_
       refine SL.nil ?_
       refine E.to ?_
       refine W.block ?_
       refine W.adopt 10 109 9 1 (by decide) rfl rfl rfl ?_
       refine W.loopx1 (fun (c : Nat) => [(11, vI (c : Int)), (10, .own 108)]) (fun (c : Nat) => [(108, .data 9 1 ((ordK s (ofT l).inn c).map eStr))]) (fun (c : Nat) => c ≤ 256) (fun (c : Nat) => 256 - c) (0) (rn [(108, 109)]) (.cons (t := 1) rfl (.cons (t := 4) rfl (.cons (t := 5) rfl (.cons (t := 9) rfl .nil)))) (.cons (t := 101) rfl .nil) rfl ?_ ?_ rfl rfl ?_ ?_
       · exact (SubF.cons rfl (SubF.cons rfl SubF.nil))
       · exact (SubS.val rfl (by first | exact sb_data (by rw [ordK, if_pos (by assumption)]; rfl) | exact sb_data (by rw [ordK, if_neg (by assumption)]; rfl)) SubS.nil)
       ·skip
        omega
       intro c hinv
       have hc := hinv
       have hol := ordK_len s (ofT l).inn c
       have hol2 : c * (ofT l).inn.length ≤ 256 * 1000 := Nat.mul_le_mul hc hin
       refine W.seq ?_
       refine W.seq ?_
       refine W.region ?_
       refine SL.val (O.move rfl rfl Taken.no) ?_
       refine SL.val (O.det (fun _ => G.R.lss rfl rfl) rfl Taken.no) ?_
       refine SL.nil ?_
       refine E.to ?_
       first | refine W.cond_d rfl (fun hc13 => ?_) (fun hc13 => ?_) | refine W.cond_nd rfl (fun hc13 => ?_) (fun hc13 => ?_) | refine W.cond rfl (fun hc13 => ?_) (fun hc13 => ?_)
       ·skip
        refine W.skip ?_
        refine E.to ?_
        refine W.seq ?_
        refine W.block ?_
        refine W.region ?_
        refine SL.val (O.move rfl rfl Taken.no) ?_
        refine SL.val (O.ldN (m := 3) (PtI.ref rfl rfl) (js := [_, _, _]) rfl (Nat.le_of_ble_eq_true rfl) Try.underlying27 rfl (by kernel_rfl) rfl Taken.no) ?_
        refine SL.val (O.move rfl rfl Taken.no) ?_
        refine SL.val (O.move rfl rfl Taken.no) ?_
        refine SL.val (O.det (fun _ => by first | exact G.R.conv8 rfl Try.underlying3 Try.underlying5 (by omega) | exact G.R.conv rfl Try.underlying3 Try.underlying5) rfl Taken.no) ?_
        refine SL.memS (O.buildSlice 110 (rows := ([UInt8.ofNat c] : List UInt8).map eB) rfl rfl Try.underlying55 hi5 hz5 hs5 (by decide) rfl (by decide) rfl (by show _ = [[_]]; rw [UInt8.toNat_ofNat', Nat.mod_eq_of_lt (by omega)]; rfl) rfl Taken.no) rfl rfl (S' := (110, .data 5 1 (([UInt8.ofNat c] : List UInt8).map eB)) :: _) rfl ?_
        refine SL.val (O.b2s (l := [UInt8.ofNat c]) (SlOf.own rfl rfl) Try.underlying55 Try.underlying5 Try.underlying9 rfl Taken.no) ?_
        refine SL.val (O.det (fun _ => G.R.strcatL rfl rfl (by rw [List.length_singleton]; omega)) rfl Taken.no) ?_
        refine SL.val (O.callp rfl rfl rfl (With_h (t := ofT l) (p := s ++ [UInt8.ofNat c]) hb (by rw [List.length_append, List.length_singleton]; omega)) (.cons (ArgOk.aggU (.cons (ArgOk.same rfl) (.cons (ArgOk.same rfl) (.cons (ArgOk.same rfl) .nil)))) (.cons (ArgOk.same rfl) .nil)) hcallOk26 rfl Taken.no) ?_
        refine SL.memS (O.app (k' := 111) rfl rfl (SlOf.fz rfl (by decide)) Try.underlying22 hi9 hz9 hs9 rfl rfl (by exact app_map) (by rw [hb9]; (have hwl := wthL_len (s ++ [UInt8.ofNat c]) (ofT l).inn; simp only [List.length_map]; omega)) (by (have hwl := wthL_len (s ++ [UInt8.ofNat c]) (ofT l).inn; simp only [List.length_map]; omega)) rfl Taken.no) rfl rfl (S' := (111, _) :: (108, .dead) :: _) rfl ?_
        refine SL.val (O.assign rfl rfl Taken.no) ?_
        refine SL.nil ?_
        refine E.inn ?_
        refine E.to ?_
        refine W.region ?_
        refine SL.val (O.move rfl rfl Taken.no) ?_
        refine SL.val (O.det (fun _ => by first | exact G.R.add64 rfl rfl (by omega) | exact G.R.add rfl rfl) rfl Taken.no) ?_
        refine SL.val (O.assign rfl rfl Taken.no) ?_
        refine SL.nil ?_
        refine E.again ((c + 1)) (rn [(108, 111)]) ?_ ?_ rfl (fixL_spec rfl) ?_ ?_
        · exact (SubF.cons rfl (SubF.cons rfl (SubF.cons rfl (SubF.cons rfl (SubF.cons rfl (SubF.cons rfl SubF.nil))))))
        · exact (SubS.val rfl (by (try dsimp only); exact sb_data (by rw [ordK])) (SubS.cons rfl SubS.nil))
        ·try dsimp only
         omega
        · (try dsimp only); omega
       ·skip
        refine W.exit ?_
        refine E.th ?_
        refine E.th ?_
        refine E.hit ?_
        refine E.to ?_
        refine W.seq ?_
        refine W.seq ?_
        refine W.region ?_
        refine SL.val (O.assign rfl rfl Taken.no) ?_
        refine SL.nil ?_
        refine E.to ?_
        refine W.block ?_
        refine W.loopx1 (fun (k : Nat) => [(12, vI (k : Int))]) (fun (k : Nat) => []) (fun (k : Nat) => k ≤ (wthL s (ofT l).inn).length) (fun (k : Nat) => (wthL s (ofT l).inn).length - k) (0) (rn []) (.cons (t := 1) rfl (.cons (t := 5) rfl (.cons (t := 9) rfl (.cons (t := 10) rfl .nil)))) (.cons (t := 101) rfl (.cons (t := 108) rfl .nil)) rfl ?_ ?_ rfl rfl ?_ ?_
        · exact (SubF.cons rfl SubF.nil)
        · exact SubS.nil
        ·skip
         omega
        intro k hinv
        have hk := hinv
        have hwl := wthL_len s (ofT l).inn
        refine W.seq ?_
        refine W.seq ?_
        refine W.region ?_
        refine SL.val (O.move rfl rfl Taken.no) ?_
        refine SL.val (O.move rfl rfl Taken.no) ?_
        refine SL.val (O.lenE (SlOf.fz rfl (by decide)) (by first | exact List.length_map _ | rfl) Try.underlying22 rfl Taken.no) ?_
        refine SL.val (O.det (fun _ => G.R.lss rfl rfl) rfl Taken.no) ?_
        refine SL.nil ?_
        refine E.to ?_
        first | refine W.cond_d rfl (fun hc14 => ?_) (fun hc14 => ?_) | refine W.cond_nd rfl (fun hc14 => ?_) (fun hc14 => ?_) | refine W.cond rfl (fun hc14 => ?_) (fun hc14 => ?_)
        ·skip
         have hk2 : k < (wthL s (ofT l).inn).length := by omega
         refine W.skip ?_
         refine E.to ?_
         refine W.seq ?_
         refine W.block ?_
         refine W.seq ?_
         refine W.draw [⟨[], [], []⟩, ⟨[], [], []⟩, ⟨[], [], []⟩, ⟨[], [], []⟩, ⟨[], [], []⟩, ⟨[], [], []⟩, ⟨[], [], []⟩, ⟨[], [], []⟩, ⟨[], [], []⟩, ⟨[], [], []⟩, ⟨[], [], []⟩, ⟨[], [], []⟩, ⟨[], [], []⟩, ⟨[], [], []⟩, ⟨[], [], []⟩, ⟨[], [], []⟩, ⟨[], [], []⟩, ⟨[], [], []⟩, ⟨[], [], []⟩, ⟨[], [], []⟩, ⟨[], [], []⟩, ⟨[], [], []⟩, ⟨[], [], []⟩] rfl (by kernel_rfl) (by kernel_rfl) rfl rfl ?_
         refine WH.val (O.move rfl rfl Taken.no) rfl rfl ?_
         refine WH.val (O.move rfl rfl Taken.no) rfl rfl ?_
         refine WH.val (O.idx_fz rfl rfl (rfl) (row_get (by omega)) Try.underlying22 hi9 hs9 rfl Taken.no) rfl rfl ?_
         refine WH.val (O.ld1 (PtI.ofU (PtU.fz rfl)) rfl Try.underlying9 rfl rfl Taken.no) rfl rfl ?_
         refine WH.val (O.move rfl rfl Taken.no) rfl rfl ?_
         refine WH.val (OpOk.re (i' := vB true) (O.callp rfl rfl rfl (begins_h (s := (wthL s (ofT l).inn)[k]!) (p := s)) (.cons (ArgOk.same rfl) (.cons (ArgOk.same rfl) .nil)) hcallOk19 rfl Taken.no) (by exact iv_bool (dec_t (wth_at hk2)))) rfl rfl ?_
         refine WH.val (O.det (fun _ => G.R.mv (G.R.not rfl) rfl) rfl Taken.no) rfl rfl ?_
         refine WH.val (O.move rfl rfl Taken.no) rfl rfl ?_
         have hg15 : false = false := by decide
         refine WH.val (O.move rfl rfl (Taken.yes rfl rfl hg15)) rfl rfl ?_
         refine WH.val (O.det (fun _ => G.R.gtr rfl rfl) rfl (Taken.yes rfl rfl hg15)) rfl rfl ?_
         refine WH.val (O.move rfl rfl (Taken.yes rfl rfl hg15)) rfl rfl ?_
         refine WH.case (j := 10) (g := 96) (want := true) rfl rfl (fun hg16 => ?_) (fun hg16 => ?_)
         ·skip
          first | have hg16p := G.gA1 hg16 | have hg16p := G.gA2 hg16 | have hg16p := hg16
          refine WH.val (O.move rfl rfl (Taken.yes rfl rfl hg16)) rfl rfl ?_
          refine WH.val (O.move rfl rfl (Taken.yes rfl rfl hg16)) rfl rfl ?_
          refine WH.val (O.det (fun _ => by first | exact G.R.sub64 rfl rfl (by omega) | exact G.R.sub rfl rfl) rfl (Taken.yes rfl rfl hg16)) rfl rfl ?_
          refine WH.val (O.idx_fz (i := (k - 1)) rfl rfl (by omega) (row_get (by omega)) Try.underlying22 hi9 hs9 rfl (Taken.yes rfl rfl hg16)) rfl rfl ?_
          refine WH.val (O.ld1 (PtI.ofU (PtU.fz rfl)) rfl Try.underlying9 rfl rfl (Taken.yes rfl rfl hg16)) rfl rfl ?_
          refine WH.val (O.move rfl rfl (Taken.yes rfl rfl hg16)) rfl rfl ?_
          refine WH.val (O.move rfl rfl (Taken.yes rfl rfl hg16)) rfl rfl ?_
          refine WH.val (O.idx_fz rfl rfl (rfl) (row_get (by omega)) Try.underlying22 hi9 hs9 rfl (Taken.yes rfl rfl hg16)) rfl rfl ?_
          refine WH.val (O.ld1 (PtI.ofU (PtU.fz rfl)) rfl Try.underlying9 rfl rfl (Taken.yes rfl rfl hg16)) rfl rfl ?_
          refine WH.val (O.det (fun _ => G.R.mv (G.R.strgeL rfl rfl) (congrArg Value.bool (by rw [wth_asc hA (by omega) hk2]))) rfl (Taken.yes rfl rfl hg16)) rfl rfl ?_
          refine WH.val (O.pick_t rfl hg16 rfl rfl (Taken.yes rfl rfl hg15)) rfl rfl ?_
          refine WH.val (O.pick_f rfl rfl rfl rfl Taken.no) rfl rfl ?_
          refine WH.nil ?_
          refine E.to ?_
          refine W.pick (.cons (t := 1) rfl (.cons (t := 5) rfl (.cons (t := 9) rfl (.cons (t := 10) rfl (.cons (t := 12) rfl (.cons (t := 108) rfl .nil)))))) (.cons (t := 101) rfl (.cons (t := 108) rfl .nil)) ?_
          refine W.cond_f rfl ?_
          refine W.skip ?_
          refine E.inn ?_
          refine E.to ?_
          refine W.region ?_
          refine SL.val (O.move rfl rfl Taken.no) ?_
          refine SL.val (O.det (fun _ => by first | exact G.R.add64 rfl rfl (by omega) | exact G.R.add rfl rfl) rfl Taken.no) ?_
          refine SL.val (O.assign rfl rfl Taken.no) ?_
          refine SL.nil ?_
          refine E.again ((k + 1)) (rn []) ?_ ?_ rfl (fixL_spec rfl) ?_ ?_
          · exact (SubF.cons rfl (SubF.cons rfl (SubF.cons rfl (SubF.cons rfl (SubF.cons rfl SubF.nil)))))
          · exact (SubS.cons rfl (SubS.cons rfl SubS.nil))
          ·try dsimp only
           omega
          · (try dsimp only); omega
         ·skip
          first | have hg16p := G.gA5 hg16 | have hg16p := G.gA6 hg16 | have hg16p := hg16
          refine WH.skip (OpOk.not rfl rfl rfl hg16) ?_
          refine WH.skip (OpOk.not rfl rfl rfl hg16) ?_
          refine WH.skip (OpOk.not rfl rfl rfl hg16) ?_
          refine WH.skip (OpOk.not rfl rfl rfl hg16) ?_
          refine WH.skip (OpOk.not rfl rfl rfl hg16) ?_
          refine WH.skip (OpOk.not rfl rfl rfl hg16) ?_
          refine WH.skip (OpOk.not rfl rfl rfl hg16) ?_
          refine WH.skip (OpOk.not rfl rfl rfl hg16) ?_
          refine WH.skip (OpOk.not rfl rfl rfl hg16) ?_
          refine WH.skip (OpOk.not rfl rfl rfl hg16) ?_
          refine WH.val (O.pick_f rfl (G.ne_t hg16) rfl rfl (Taken.yes rfl rfl hg15)) rfl rfl ?_
          refine WH.val (O.pick_f rfl rfl rfl rfl Taken.no) rfl rfl ?_
          refine WH.nil ?_
          refine E.to ?_
          refine W.pick (.cons (t := 1) rfl (.cons (t := 5) rfl (.cons (t := 9) rfl (.cons (t := 10) rfl (.cons (t := 12) rfl (.cons (t := 108) rfl .nil)))))) (.cons (t := 101) rfl (.cons (t := 108) rfl .nil)) ?_
          refine W.cond_f rfl ?_
          refine W.skip ?_
          refine E.inn ?_
          refine E.to ?_
          refine W.region ?_
          refine SL.val (O.move rfl rfl Taken.no) ?_
          refine SL.val (O.det (fun _ => by first | exact G.R.add64 rfl rfl (by omega) | exact G.R.add rfl rfl) rfl Taken.no) ?_
          refine SL.val (O.assign rfl rfl Taken.no) ?_
          refine SL.nil ?_
          refine E.again ((k + 1)) (rn []) ?_ ?_ rfl (fixL_spec rfl) ?_ ?_
          · exact (SubF.cons rfl (SubF.cons rfl (SubF.cons rfl (SubF.cons rfl (SubF.cons rfl SubF.nil)))))
          · exact (SubS.cons rfl (SubS.cons rfl SubS.nil))
          ·try dsimp only
           omega
          · (try dsimp only); omega
        ·skip
         refine W.exit ?_
         refine E.th ?_
         refine E.th ?_
         refine E.hit ?_
         refine E.to ?_
         refine W.seq ?_
         refine W.region ?_
         obtain rfl : c = 256 := by omega
         refine SL.val (O.move rfl rfl Taken.no) ?_
         refine SL.val (O.move rfl rfl Taken.no) ?_
         refine SL.memS (O.call (rn []) [108] rfl rfl rfl (sameTexts_h (a := (wthL s (ofT l).inn)) (b := ordK s (ofT l).inn 256)) (.cons (ArgOk.same rfl) (.cons (ArgOk.own rfl rfl) .nil)) SubS.nil rfl rfl rfl rfl rfl (.inr ⟨rfl, fun x hx => by simp at hx⟩) hcallOk25 (r' := .u _) rfl rfl Taken.no) rfl rfl (S' := _) rfl ?_
         refine SL.as (i' := vB true) 111 rfl (by exact iv_bool (dec_t (ord_all hA))) ?_
         refine SL.val (O.move rfl rfl Taken.no) ?_
         have hg17 : true = true := by decide
         refine SL.val (O.ldN (m := 3) (PtI.ref rfl rfl) (js := [_, _, _]) rfl (Nat.le_of_ble_eq_true rfl) Try.underlying27 rfl (by kernel_rfl) rfl (Taken.yes rfl rfl hg17)) ?_
         refine SL.val (O.move rfl rfl (Taken.yes rfl rfl hg17)) ?_
         refine SL.val (O.callp rfl rfl rfl (Count_h (t := ofT l) (p := s) hb (by omega)) (.cons (ArgOk.aggU (.cons (ArgOk.same rfl) (.cons (ArgOk.same rfl) (.cons (ArgOk.same rfl) .nil)))) (.cons (ArgOk.same rfl) .nil)) hcallOk28 rfl (Taken.yes rfl rfl hg17)) ?_
         refine SL.val (O.move rfl rfl (Taken.yes rfl rfl hg17)) ?_
         refine SL.val (O.lenE (n := (wthL s (ofT l).inn).length) (SlOf.fz rfl (by decide)) (by rw [List.length_map]) Try.underlying22 rfl (Taken.yes rfl rfl hg17)) ?_
         refine SL.val (O.det (fun _ => G.R.mv (G.R.eql rfl rfl) (congrArg Value.bool (decide_eq_true (by rfl)))) rfl (Taken.yes rfl rfl hg17)) ?_
         refine SL.val (O.pick_t rfl rfl rfl rfl Taken.no) ?_
         refine SL.val (O.assign rfl rfl Taken.no) ?_
         refine SL.nil ?_
         refine E.to ?_
         refine W.ret ?_
         refine E.fin (rs := [_]) (rn []) (.inl rfl) rfl (.cons (ResOne.tmp rfl) .nil) ?_ ?_ rfl (fixL_spec rfl)
         ·skip
          rfl
         · exact SubS.nil
     ·skip
      first | have hg6p := G.gA5 hg6 | have hg6p := G.gA6 hg6 | have hg6p := hg6
      refine SL.skip (OpOk.not rfl rfl rfl hg6) ?_
      refine SL.skip (OpOk.not rfl rfl rfl hg6) ?_
      refine SL.skip (OpOk.not rfl rfl rfl hg6) ?_
      refine SL.val (O.pick_f rfl (G.ne_t hg6) rfl rfl (Taken.yes rfl rfl hg5)) ?_
      refine SL.val (O.pick_f rfl rfl rfl rfl Taken.no) ?_
      refine SL.nil ?_
      refine E.to ?_
      refine W.cond_f rfl ?_
      refine W.skip ?_
      refine E.to ?_
      refine W.seq ?_
      refine W.region ?_
      refine SL.val (O.ldN (m := 3) (PtI.ref rfl rfl) (js := [_, _, _]) rfl (Nat.le_of_ble_eq_true rfl) Try.underlying27 rfl (by kernel_rfl) rfl Taken.no) ?_
      refine SL.val (O.move rfl rfl Taken.no) ?_
      refine SL.val (O.callp rfl rfl rfl (With_h (t := ofT l) (p := s) hb (by omega)) (.cons (ArgOk.aggU (.cons (ArgOk.same rfl) (.cons (ArgOk.same rfl) (.cons (ArgOk.same rfl) .nil)))) (.cons (ArgOk.same rfl) .nil)) hcallOk26 rfl Taken.no) ?_
      refine SL.val (O.assign rfl rfl Taken.no) ?_
      refine SL.nil ?_
      refine E.to ?_
      refine W.pick (.cons (t := 1) rfl (.cons (t := 4) rfl (.cons (t := 5) rfl (.cons (t := 9) rfl .nil)))) (.cons (t := 101) rfl .nil) ?_
      refine W.seq ?_
      refine W.region ?_
      refine SL.val (O.assign rfl rfl Taken.no) ?_
      refine SL.nil ?_
      refine E.to ?_
      refine W.seq ?_
      refine W.seq ?_
      refine W.region ?_
      refine SL.val (O.ldN (m := 3) (PtI.ref rfl rfl) (js := [_, _, _]) rfl (Nat.le_of_ble_eq_true rfl) Try.underlying27 rfl (by kernel_rfl) rfl Taken.no) ?_
      refine SL.val (O.move rfl rfl Taken.no) ?_
      refine SL.val (O.callp rfl rfl rfl (has_h (t := ofT l) (s := s) hb (by omega)) (.cons (ArgOk.aggU (.cons (ArgOk.same rfl) (.cons (ArgOk.same rfl) (.cons (ArgOk.same rfl) .nil)))) (.cons (ArgOk.same rfl) .nil)) hcallOk18 rfl Taken.no) ?_
      refine SL.nil ?_
      refine E.to ?_
      first | refine W.cond_d rfl (fun hc18 => ?_) (fun hc18 => ?_) | refine W.cond_nd rfl (fun hc18 => ?_) (fun hc18 => ?_) | refine W.cond rfl (fun hc18 => ?_) (fun hc18 => ?_)
      ·skip
       refine W.region ?_
       refine SL.val (O.move rfl rfl Taken.no) ?_
       refine SL.val (O.move rfl rfl Taken.no) ?_
       refine SL.memS (O.buildSlice 112 rfl rfl Try.underlying22 hi9 hz9 hs9 (by decide) rfl (by decide) rfl rfl rfl Taken.no) rfl rfl (S' := (112, _) :: _) rfl ?_
       refine SL.adopt 62 114 9 1 (by decide) rfl rfl rfl ?_
       refine SL.memS (O.app (k' := 113) rfl rfl (SlOf.own rfl rfl) Try.underlying22 hi9 hz9 hs9 rfl rfl (by first | exact map_snoc rfl | exact app_map | exact List.nil_append _ | rfl) (by rw [hb9]; first | omega | (simp only [List.length_map]; omega) | (simp <;> omega)) (by first | omega | (simp only [List.length_map]; omega) | (simp <;> omega)) rfl Taken.no) rfl rfl (S' := (113, _) :: (114, .dead) :: _) rfl ?_
       refine SL.val (O.assign rfl rfl Taken.no) ?_
       refine SL.nil ?_
       refine E.to ?_
       refine W.seq ?_
       refine W.seq ?_
       refine W.region ?_
       refine SL.val (O.assign rfl rfl Taken.no) ?_
       refine SL.nil ?_
       refine E.to ?_
       refine W.block ?_
       refine W.loopx1 (fun (c : Nat) => [(11, vI (c : Int)), (10, .own 115)]) (fun (c : Nat) => [(115, .data 9 1 ((ordK s (ofT l).inn c).map eStr))]) (fun (c : Nat) => c ≤ 256) (fun (c : Nat) => 256 - c) (0) (rn [(115, 113)]) (.cons (t := 1) rfl (.cons (t := 4) rfl (.cons (t := 5) rfl (.cons (t := 9) rfl .nil)))) (.cons (t := 101) rfl (.cons (t := 112) rfl .nil)) rfl ?_ ?_ rfl rfl ?_ ?_
       · exact (SubF.cons rfl (SubF.cons rfl SubF.nil))
       · exact (SubS.val rfl (by first | exact sb_data (by rw [ordK, if_pos (by assumption)]; rfl) | exact sb_data (by rw [ordK, if_neg (by assumption)]; rfl)) SubS.nil)
       ·skip
        omega
       intro c hinv
       have hc := hinv
       have hol := ordK_len s (ofT l).inn c
       have hol2 : c * (ofT l).inn.length ≤ 256 * 1000 := Nat.mul_le_mul hc hin
       refine W.seq ?_
       refine W.seq ?_
       refine W.region ?_
       refine SL.val (O.move rfl rfl Taken.no) ?_
       refine SL.val (O.det (fun _ => G.R.lss rfl rfl) rfl Taken.no) ?_
       refine SL.nil ?_
       refine E.to ?_
       first | refine W.cond_d rfl (fun hc19 => ?_) (fun hc19 => ?_) | refine W.cond_nd rfl (fun hc19 => ?_) (fun hc19 => ?_) | refine W.cond rfl (fun hc19 => ?_) (fun hc19 => ?_)
       ·skip
        refine W.skip ?_
        refine E.to ?_
        refine W.seq ?_
        refine W.block ?_
        refine W.region ?_
        refine SL.val (O.move rfl rfl Taken.no) ?_
        refine SL.val (O.ldN (m := 3) (PtI.ref rfl rfl) (js := [_, _, _]) rfl (Nat.le_of_ble_eq_true rfl) Try.underlying27 rfl (by kernel_rfl) rfl Taken.no) ?_
        refine SL.val (O.move rfl rfl Taken.no) ?_
        refine SL.val (O.move rfl rfl Taken.no) ?_
        refine SL.val (O.det (fun _ => by first | exact G.R.conv8 rfl Try.underlying3 Try.underlying5 (by omega) | exact G.R.conv rfl Try.underlying3 Try.underlying5) rfl Taken.no) ?_
        refine SL.memS (O.buildSlice 116 (rows := ([UInt8.ofNat c] : List UInt8).map eB) rfl rfl Try.underlying55 hi5 hz5 hs5 (by decide) rfl (by decide) rfl (by show _ = [[_]]; rw [UInt8.toNat_ofNat', Nat.mod_eq_of_lt (by omega)]; rfl) rfl Taken.no) rfl rfl (S' := (116, .data 5 1 (([UInt8.ofNat c] : List UInt8).map eB)) :: _) rfl ?_
        refine SL.val (O.b2s (l := [UInt8.ofNat c]) (SlOf.own rfl rfl) Try.underlying55 Try.underlying5 Try.underlying9 rfl Taken.no) ?_
        refine SL.val (O.det (fun _ => G.R.strcatL rfl rfl (by rw [List.length_singleton]; omega)) rfl Taken.no) ?_
        refine SL.val (O.callp rfl rfl rfl (With_h (t := ofT l) (p := s ++ [UInt8.ofNat c]) hb (by rw [List.length_append, List.length_singleton]; omega)) (.cons (ArgOk.aggU (.cons (ArgOk.same rfl) (.cons (ArgOk.same rfl) (.cons (ArgOk.same rfl) .nil)))) (.cons (ArgOk.same rfl) .nil)) hcallOk26 rfl Taken.no) ?_
        refine SL.memS (O.app (k' := 117) rfl rfl (SlOf.fz rfl (by decide)) Try.underlying22 hi9 hz9 hs9 rfl rfl (by exact app_map) (by rw [hb9]; (have hwl := wthL_len (s ++ [UInt8.ofNat c]) (ofT l).inn; simp only [List.length_map]; omega)) (by (have hwl := wthL_len (s ++ [UInt8.ofNat c]) (ofT l).inn; simp only [List.length_map]; omega)) rfl Taken.no) rfl rfl (S' := (117, _) :: (115, .dead) :: _) rfl ?_
        refine SL.val (O.assign rfl rfl Taken.no) ?_
        refine SL.nil ?_
        refine E.inn ?_
        refine E.to ?_
        refine W.region ?_
        refine SL.val (O.move rfl rfl Taken.no) ?_
        refine SL.val (O.det (fun _ => by first | exact G.R.add64 rfl rfl (by omega) | exact G.R.add rfl rfl) rfl Taken.no) ?_
        refine SL.val (O.assign rfl rfl Taken.no) ?_
        refine SL.nil ?_
        refine E.again ((c + 1)) (rn [(115, 117)]) ?_ ?_ rfl (fixL_spec rfl) ?_ ?_
        · exact (SubF.cons rfl (SubF.cons rfl (SubF.cons rfl (SubF.cons rfl (SubF.cons rfl (SubF.cons rfl SubF.nil))))))
        · exact (SubS.val rfl (by (try dsimp only); exact sb_data (by rw [ordK])) (SubS.cons rfl (SubS.cons rfl SubS.nil)))
        ·try dsimp only
         omega
        · (try dsimp only); omega
       ·skip
        refine W.exit ?_
        refine E.th ?_
        refine E.th ?_
        refine E.hit ?_
        refine E.to ?_
        refine W.seq ?_
        refine W.seq ?_
        refine W.region ?_
        refine SL.val (O.assign rfl rfl Taken.no) ?_
        refine SL.nil ?_
        refine E.to ?_
        refine W.block ?_
        refine W.loopx1 (fun (k : Nat) => [(12, vI (k : Int))]) (fun (k : Nat) => []) (fun (k : Nat) => k ≤ (wthL s (ofT l).inn).length) (fun (k : Nat) => (wthL s (ofT l).inn).length - k) (0) (rn []) (.cons (t := 1) rfl (.cons (t := 5) rfl (.cons (t := 9) rfl (.cons (t := 10) rfl .nil)))) (.cons (t := 101) rfl (.cons (t := 112) rfl (.cons (t := 115) rfl .nil))) rfl ?_ ?_ rfl rfl ?_ ?_
        · exact (SubF.cons rfl SubF.nil)
        · exact SubS.nil
        ·skip
         omega
        intro k hinv
        have hk := hinv
        have hwl := wthL_len s (ofT l).inn
        refine W.seq ?_
        refine W.seq ?_
        refine W.region ?_
        refine SL.val (O.move rfl rfl Taken.no) ?_
        refine SL.val (O.move rfl rfl Taken.no) ?_
        refine SL.val (O.lenE (SlOf.fz rfl (by decide)) (by first | exact List.length_map _ | rfl) Try.underlying22 rfl Taken.no) ?_
        refine SL.val (O.det (fun _ => G.R.lss rfl rfl) rfl Taken.no) ?_
        refine SL.nil ?_
        refine E.to ?_
        first | refine W.cond_d rfl (fun hc20 => ?_) (fun hc20 => ?_) | refine W.cond_nd rfl (fun hc20 => ?_) (fun hc20 => ?_) | refine W.cond rfl (fun hc20 => ?_) (fun hc20 => ?_)
        ·skip
         have hk2 : k < (wthL s (ofT l).inn).length := by omega
         refine W.skip ?_
         refine E.to ?_
         refine W.seq ?_
         refine W.block ?_
         refine W.seq ?_
         refine W.draw [⟨[], [], []⟩, ⟨[], [], []⟩, ⟨[], [], []⟩, ⟨[], [], []⟩, ⟨[], [], []⟩, ⟨[], [], []⟩, ⟨[], [], []⟩, ⟨[], [], []⟩, ⟨[], [], []⟩, ⟨[], [], []⟩, ⟨[], [], []⟩, ⟨[], [], []⟩, ⟨[], [], []⟩, ⟨[], [], []⟩, ⟨[], [], []⟩, ⟨[], [], []⟩, ⟨[], [], []⟩, ⟨[], [], []⟩, ⟨[], [], []⟩, ⟨[], [], []⟩, ⟨[], [], []⟩, ⟨[], [], []⟩, ⟨[], [], []⟩] rfl (by kernel_rfl) (by kernel_rfl) rfl rfl ?_
         refine WH.val (O.move rfl rfl Taken.no) rfl rfl ?_
         refine WH.val (O.move rfl rfl Taken.no) rfl rfl ?_
         refine WH.val (O.idx_fz rfl rfl (rfl) (row_get (by omega)) Try.underlying22 hi9 hs9 rfl Taken.no) rfl rfl ?_
         refine WH.val (O.ld1 (PtI.ofU (PtU.fz rfl)) rfl Try.underlying9 rfl rfl Taken.no) rfl rfl ?_
         refine WH.val (O.move rfl rfl Taken.no) rfl rfl ?_
         refine WH.val (OpOk.re (i' := vB true) (O.callp rfl rfl rfl (begins_h (s := (wthL s (ofT l).inn)[k]!) (p := s)) (.cons (ArgOk.same rfl) (.cons (ArgOk.same rfl) .nil)) hcallOk19 rfl Taken.no) (by exact iv_bool (dec_t (wth_at hk2)))) rfl rfl ?_
         refine WH.val (O.det (fun _ => G.R.mv (G.R.not rfl) rfl) rfl Taken.no) rfl rfl ?_
         refine WH.val (O.move rfl rfl Taken.no) rfl rfl ?_
         have hg21 : false = false := by decide
         refine WH.val (O.move rfl rfl (Taken.yes rfl rfl hg21)) rfl rfl ?_
         refine WH.val (O.det (fun _ => G.R.gtr rfl rfl) rfl (Taken.yes rfl rfl hg21)) rfl rfl ?_
         refine WH.val (O.move rfl rfl (Taken.yes rfl rfl hg21)) rfl rfl ?_
         refine WH.case (j := 10) (g := 96) (want := true) rfl rfl (fun hg22 => ?_) (fun hg22 => ?_)
         ·skip
          first | have hg22p := G.gA1 hg22 | have hg22p := G.gA2 hg22 | have hg22p := hg22
          refine WH.val (O.move rfl rfl (Taken.yes rfl rfl hg22)) rfl rfl ?_
          refine WH.val (O.move rfl rfl (Taken.yes rfl rfl hg22)) rfl rfl ?_
          refine WH.val (O.det (fun _ => by first | exact G.R.sub64 rfl rfl (by omega) | exact G.R.sub rfl rfl) rfl (Taken.yes rfl rfl hg22)) rfl rfl ?_
          refine WH.val (O.idx_fz (i := (k - 1)) rfl rfl (by omega) (row_get (by omega)) Try.underlying22 hi9 hs9 rfl (Taken.yes rfl rfl hg22)) rfl rfl ?_
          refine WH.val (O.ld1 (PtI.ofU (PtU.fz rfl)) rfl Try.underlying9 rfl rfl (Taken.yes rfl rfl hg22)) rfl rfl ?_
          refine WH.val (O.move rfl rfl (Taken.yes rfl rfl hg22)) rfl rfl ?_
          refine WH.val (O.move rfl rfl (Taken.yes rfl rfl hg22)) rfl rfl ?_
          refine WH.val (O.idx_fz rfl rfl (rfl) (row_get (by omega)) Try.underlying22 hi9 hs9 rfl (Taken.yes rfl rfl hg22)) rfl rfl ?_
          refine WH.val (O.ld1 (PtI.ofU (PtU.fz rfl)) rfl Try.underlying9 rfl rfl (Taken.yes rfl rfl hg22)) rfl rfl ?_
          refine WH.val (O.det (fun _ => G.R.mv (G.R.strgeL rfl rfl) (congrArg Value.bool (by rw [wth_asc hA (by omega) hk2]))) rfl (Taken.yes rfl rfl hg22)) rfl rfl ?_
          refine WH.val (O.pick_t rfl hg22 rfl rfl (Taken.yes rfl rfl hg21)) rfl rfl ?_
          refine WH.val (O.pick_f rfl rfl rfl rfl Taken.no) rfl rfl ?_
          refine WH.nil ?_
          refine E.to ?_
          refine W.pick (.cons (t := 1) rfl (.cons (t := 5) rfl (.cons (t := 9) rfl (.cons (t := 10) rfl (.cons (t := 12) rfl (.cons (t := 108) rfl .nil)))))) (.cons (t := 101) rfl (.cons (t := 112) rfl (.cons (t := 115) rfl .nil))) ?_
          refine W.cond_f rfl ?_
          refine W.skip ?_
          refine E.inn ?_
          refine E.to ?_
          refine W.region ?_
          refine SL.val (O.move rfl rfl Taken.no) ?_
          refine SL.val (O.det (fun _ => by first | exact G.R.add64 rfl rfl (by omega) | exact G.R.add rfl rfl) rfl Taken.no) ?_
          refine SL.val (O.assign rfl rfl Taken.no) ?_
          refine SL.nil ?_
          refine E.again ((k + 1)) (rn []) ?_ ?_ rfl (fixL_spec rfl) ?_ ?_
          · exact (SubF.cons rfl (SubF.cons rfl (SubF.cons rfl (SubF.cons rfl (SubF.cons rfl SubF.nil)))))
          · exact (SubS.cons rfl (SubS.cons rfl (SubS.cons rfl SubS.nil)))
          ·try dsimp only
           omega
          · (try dsimp only); omega
         ·skip
          first | have hg22p := G.gA5 hg22 | have hg22p := G.gA6 hg22 | have hg22p := hg22
          refine WH.skip (OpOk.not rfl rfl rfl hg22) ?_
          refine WH.skip (OpOk.not rfl rfl rfl hg22) ?_
          refine WH.skip (OpOk.not rfl rfl rfl hg22) ?_
          refine WH.skip (OpOk.not rfl rfl rfl hg22) ?_
          refine WH.skip (OpOk.not rfl rfl rfl hg22) ?_
          refine WH.skip (OpOk.not rfl rfl rfl hg22) ?_
          refine WH.skip (OpOk.not rfl rfl rfl hg22) ?_
          refine WH.skip (OpOk.not rfl rfl rfl hg22) ?_
          refine WH.skip (OpOk.not rfl rfl rfl hg22) ?_
          refine WH.skip (OpOk.not rfl rfl rfl hg22) ?_
          refine WH.val (O.pick_f rfl (G.ne_t hg22) rfl rfl (Taken.yes rfl rfl hg21)) rfl rfl ?_
          refine WH.val (O.pick_f rfl rfl rfl rfl Taken.no) rfl rfl ?_
          refine WH.nil ?_
          refine E.to ?_
          refine W.pick (.cons (t := 1) rfl (.cons (t := 5) rfl (.cons (t := 9) rfl (.cons (t := 10) rfl (.cons (t := 12) rfl (.cons (t := 108) rfl .nil)))))) (.cons (t := 101) rfl (.cons (t := 112) rfl (.cons (t := 115) rfl .nil))) ?_
          refine W.cond_f rfl ?_
          refine W.skip ?_
          refine E.inn ?_
          refine E.to ?_
          refine W.region ?_
          refine SL.val (O.move rfl rfl Taken.no) ?_
          refine SL.val (O.det (fun _ => by first | exact G.R.add64 rfl rfl (by omega) | exact G.R.add rfl rfl) rfl Taken.no) ?_
          refine SL.val (O.assign rfl rfl Taken.no) ?_
          refine SL.nil ?_
          refine E.again ((k + 1)) (rn []) ?_ ?_ rfl (fixL_spec rfl) ?_ ?_
          · exact (SubF.cons rfl (SubF.cons rfl (SubF.cons rfl (SubF.cons rfl (SubF.cons rfl SubF.nil)))))
          · exact (SubS.cons rfl (SubS.cons rfl (SubS.cons rfl SubS.nil)))
          ·try dsimp only
           omega
          · (try dsimp only); omega
        ·skip
         refine W.exit ?_
         refine E.th ?_
         refine E.th ?_
         refine E.hit ?_
         refine E.to ?_
         refine W.seq ?_
         refine W.region ?_
         obtain rfl : c = 256 := by omega
         refine SL.val (O.move rfl rfl Taken.no) ?_
         refine SL.val (O.move rfl rfl Taken.no) ?_
         refine SL.memS (O.call (rn []) [115] rfl rfl rfl (sameTexts_h (a := (wthL s (ofT l).inn)) (b := ordK s (ofT l).inn 256)) (.cons (ArgOk.same rfl) (.cons (ArgOk.own rfl rfl) .nil)) SubS.nil rfl rfl rfl rfl rfl (.inr ⟨rfl, fun x hx => by simp at hx⟩) hcallOk25 (r' := .u _) rfl rfl Taken.no) rfl rfl (S' := _) rfl ?_
         refine SL.as (i' := vB true) 111 rfl (by exact iv_bool (dec_t (ord_all hA))) ?_
         refine SL.val (O.move rfl rfl Taken.no) ?_
         have hg23 : true = true := by decide
         refine SL.val (O.ldN (m := 3) (PtI.ref rfl rfl) (js := [_, _, _]) rfl (Nat.le_of_ble_eq_true rfl) Try.underlying27 rfl (by kernel_rfl) rfl (Taken.yes rfl rfl hg23)) ?_
         refine SL.val (O.move rfl rfl (Taken.yes rfl rfl hg23)) ?_
         refine SL.val (O.callp rfl rfl rfl (Count_h (t := ofT l) (p := s) hb (by omega)) (.cons (ArgOk.aggU (.cons (ArgOk.same rfl) (.cons (ArgOk.same rfl) (.cons (ArgOk.same rfl) .nil)))) (.cons (ArgOk.same rfl) .nil)) hcallOk28 rfl (Taken.yes rfl rfl hg23)) ?_
         refine SL.val (O.move rfl rfl (Taken.yes rfl rfl hg23)) ?_
         refine SL.val (O.lenE (n := (wthL s (ofT l).inn).length) (SlOf.fz rfl (by decide)) (by rw [List.length_map]) Try.underlying22 rfl (Taken.yes rfl rfl hg23)) ?_
         refine SL.val (O.det (fun _ => G.R.mv (G.R.eql rfl rfl) (congrArg Value.bool (decide_eq_true (by rfl)))) rfl (Taken.yes rfl rfl hg23)) ?_
         refine SL.val (O.pick_t rfl rfl rfl rfl Taken.no) ?_
         refine SL.val (O.assign rfl rfl Taken.no) ?_
         refine SL.nil ?_
         refine E.to ?_
         refine W.ret ?_
         refine E.fin (rs := [_]) (rn []) (.inl rfl) rfl (.cons (ResOne.tmp rfl) .nil) ?_ ?_ rfl (fixL_spec rfl)
         ·skip
          rfl
         · exact SubS.nil
      ·skip
       refine W.skip ?_
       refine E.to ?_
       refine W.seq ?_
       refine W.seq ?_
       refine W.region ?_
       refine SL.val (O.assign rfl rfl Taken.no) ?_
       refine SL.nil ?_
       refine E.to ?_
       refine W.block ?_
       refine W.adopt 10 119 9 1 (by decide) rfl rfl rfl ?_
       refine W.loopx1 (fun (c : Nat) => [(11, vI (c : Int)), (10, .own 118)]) (fun (c : Nat) => [(118, .data 9 1 ((ordK s (ofT l).inn c).map eStr))]) (fun (c : Nat) => c ≤ 256) (fun (c : Nat) => 256 - c) (0) (rn [(118, 119)]) (.cons (t := 1) rfl (.cons (t := 4) rfl (.cons (t := 5) rfl (.cons (t := 9) rfl .nil)))) (.cons (t := 101) rfl .nil) rfl ?_ ?_ rfl rfl ?_ ?_
       · exact (SubF.cons rfl (SubF.cons rfl SubF.nil))
       · exact (SubS.val rfl (by first | exact sb_data (by rw [ordK, if_pos (by assumption)]; rfl) | exact sb_data (by rw [ordK, if_neg (by assumption)]; rfl)) SubS.nil)
       ·skip
        omega
       intro c hinv
       have hc := hinv
       have hol := ordK_len s (ofT l).inn c
       have hol2 : c * (ofT l).inn.length ≤ 256 * 1000 := Nat.mul_le_mul hc hin
       refine W.seq ?_
       refine W.seq ?_
       refine W.region ?_
       refine SL.val (O.move rfl rfl Taken.no) ?_
       refine SL.val (O.det (fun _ => G.R.lss rfl rfl) rfl Taken.no) ?_
       refine SL.nil ?_
       refine E.to ?_
       first | refine W.cond_d rfl (fun hc24 => ?_) (fun hc24 => ?_) | refine W.cond_nd rfl (fun hc24 => ?_) (fun hc24 => ?_) | refine W.cond rfl (fun hc24 => ?_) (fun hc24 => ?_)
       ·skip
        refine W.skip ?_
        refine E.to ?_
        refine W.seq ?_
        refine W.block ?_
        refine W.region ?_
        refine SL.val (O.move rfl rfl Taken.no) ?_
        refine SL.val (O.ldN (m := 3) (PtI.ref rfl rfl) (js := [_, _, _]) rfl (Nat.le_of_ble_eq_true rfl) Try.underlying27 rfl (by kernel_rfl) rfl Taken.no) ?_
        refine SL.val (O.move rfl rfl Taken.no) ?_
        refine SL.val (O.move rfl rfl Taken.no) ?_
        refine SL.val (O.det (fun _ => by first | exact G.R.conv8 rfl Try.underlying3 Try.underlying5 (by omega) | exact G.R.conv rfl Try.underlying3 Try.underlying5) rfl Taken.no) ?_
        refine SL.memS (O.buildSlice 120 (rows := ([UInt8.ofNat c] : List UInt8).map eB) rfl rfl Try.underlying55 hi5 hz5 hs5 (by decide) rfl (by decide) rfl (by show _ = [[_]]; rw [UInt8.toNat_ofNat', Nat.mod_eq_of_lt (by omega)]; rfl) rfl Taken.no) rfl rfl (S' := (120, .data 5 1 (([UInt8.ofNat c] : List UInt8).map eB)) :: _) rfl ?_
        refine SL.val (O.b2s (l := [UInt8.ofNat c]) (SlOf.own rfl rfl) Try.underlying55 Try.underlying5 Try.underlying9 rfl Taken.no) ?_
        refine SL.val (O.det (fun _ => G.R.strcatL rfl rfl (by rw [List.length_singleton]; omega)) rfl Taken.no) ?_
        refine SL.val (O.callp rfl rfl rfl (With_h (t := ofT l) (p := s ++ [UInt8.ofNat c]) hb (by rw [List.length_append, List.length_singleton]; omega)) (.cons (ArgOk.aggU (.cons (ArgOk.same rfl) (.cons (ArgOk.same rfl) (.cons (ArgOk.same rfl) .nil)))) (.cons (ArgOk.same rfl) .nil)) hcallOk26 rfl Taken.no) ?_
        refine SL.memS (O.app (k' := 121) rfl rfl (SlOf.fz rfl (by decide)) Try.underlying22 hi9 hz9 hs9 rfl rfl (by exact app_map) (by rw [hb9]; (have hwl := wthL_len (s ++ [UInt8.ofNat c]) (ofT l).inn; simp only [List.length_map]; omega)) (by (have hwl := wthL_len (s ++ [UInt8.ofNat c]) (ofT l).inn; simp only [List.length_map]; omega)) rfl Taken.no) rfl rfl (S' := (121, _) :: (118, .dead) :: _) rfl ?_
        refine SL.val (O.assign rfl rfl Taken.no) ?_
        refine SL.nil ?_
        refine E.inn ?_
        refine E.to ?_
        refine W.region ?_
        refine SL.val (O.move rfl rfl Taken.no) ?_
        refine SL.val (O.det (fun _ => by first | exact G.R.add64 rfl rfl (by omega) | exact G.R.add rfl rfl) rfl Taken.no) ?_
        refine SL.val (O.assign rfl rfl Taken.no) ?_
        refine SL.nil ?_
        refine E.again ((c + 1)) (rn [(118, 121)]) ?_ ?_ rfl (fixL_spec rfl) ?_ ?_
        · exact (SubF.cons rfl (SubF.cons rfl (SubF.cons rfl (SubF.cons rfl (SubF.cons rfl (SubF.cons rfl SubF.nil))))))
        · exact (SubS.val rfl (by (try dsimp only); exact sb_data (by rw [ordK])) (SubS.cons rfl SubS.nil))
        ·try dsimp only
         omega
        · (try dsimp only); omega
       ·skip
        refine W.exit ?_
        refine E.th ?_
        refine E.th ?_
        refine E.hit ?_
        refine E.to ?_
        refine W.seq ?_
        refine W.seq ?_
        refine W.region ?_
        refine SL.val (O.assign rfl rfl Taken.no) ?_
        refine SL.nil ?_
        refine E.to ?_
        refine W.block ?_
        refine W.loopx1 (fun (k : Nat) => [(12, vI (k : Int))]) (fun (k : Nat) => []) (fun (k : Nat) => k ≤ (wthL s (ofT l).inn).length) (fun (k : Nat) => (wthL s (ofT l).inn).length - k) (0) (rn []) (.cons (t := 1) rfl (.cons (t := 5) rfl (.cons (t := 9) rfl (.cons (t := 10) rfl .nil)))) (.cons (t := 101) rfl (.cons (t := 118) rfl .nil)) rfl ?_ ?_ rfl rfl ?_ ?_
        · exact (SubF.cons rfl SubF.nil)
        · exact SubS.nil
        ·skip
         omega
        intro k hinv
        have hk := hinv
        have hwl := wthL_len s (ofT l).inn
        refine W.seq ?_
        refine W.seq ?_
        refine W.region ?_
        refine SL.val (O.move rfl rfl Taken.no) ?_
        refine SL.val (O.move rfl rfl Taken.no) ?_
        refine SL.val (O.lenE (SlOf.fz rfl (by decide)) (by first | exact List.length_map _ | rfl) Try.underlying22 rfl Taken.no) ?_
        refine SL.val (O.det (fun _ => G.R.lss rfl rfl) rfl Taken.no) ?_
        refine SL.nil ?_
        refine E.to ?_
        first | refine W.cond_d rfl (fun hc25 => ?_) (fun hc25 => ?_) | refine W.cond_nd rfl (fun hc25 => ?_) (fun hc25 => ?_) | refine W.cond rfl (fun hc25 => ?_) (fun hc25 => ?_)
        ·skip
         have hk2 : k < (wthL s (ofT l).inn).length := by omega
         refine W.skip ?_
         refine E.to ?_
         refine W.seq ?_
         refine W.block ?_
         refine W.seq ?_
         refine W.draw [⟨[], [], []⟩, ⟨[], [], []⟩, ⟨[], [], []⟩, ⟨[], [], []⟩, ⟨[], [], []⟩, ⟨[], [], []⟩, ⟨[], [], []⟩, ⟨[], [], []⟩, ⟨[], [], []⟩, ⟨[], [], []⟩, ⟨[], [], []⟩, ⟨[], [], []⟩, ⟨[], [], []⟩, ⟨[], [], []⟩, ⟨[], [], []⟩, ⟨[], [], []⟩, ⟨[], [], []⟩, ⟨[], [], []⟩, ⟨[], [], []⟩, ⟨[], [], []⟩, ⟨[], [], []⟩, ⟨[], [], []⟩, ⟨[], [], []⟩] rfl (by kernel_rfl) (by kernel_rfl) rfl rfl ?_
         refine WH.val (O.move rfl rfl Taken.no) rfl rfl ?_
         refine WH.val (O.move rfl rfl Taken.no) rfl rfl ?_
         refine WH.val (O.idx_fz rfl rfl (rfl) (row_get (by omega)) Try.underlying22 hi9 hs9 rfl Taken.no) rfl rfl ?_
         refine WH.val (O.ld1 (PtI.ofU (PtU.fz rfl)) rfl Try.underlying9 rfl rfl Taken.no) rfl rfl ?_
         refine WH.val (O.move rfl rfl Taken.no) rfl rfl ?_
         refine WH.val (OpOk.re (i' := vB true) (O.callp rfl rfl rfl (begins_h (s := (wthL s (ofT l).inn)[k]!) (p := s)) (.cons (ArgOk.same rfl) (.cons (ArgOk.same rfl) .nil)) hcallOk19 rfl Taken.no) (by exact iv_bool (dec_t (wth_at hk2)))) rfl rfl ?_
         refine WH.val (O.det (fun _ => G.R.mv (G.R.not rfl) rfl) rfl Taken.no) rfl rfl ?_
         refine WH.val (O.move rfl rfl Taken.no) rfl rfl ?_
         have hg26 : false = false := by decide
         refine WH.val (O.move rfl rfl (Taken.yes rfl rfl hg26)) rfl rfl ?_
         refine WH.val (O.det (fun _ => G.R.gtr rfl rfl) rfl (Taken.yes rfl rfl hg26)) rfl rfl ?_
         refine WH.val (O.move rfl rfl (Taken.yes rfl rfl hg26)) rfl rfl ?_
         refine WH.case (j := 10) (g := 96) (want := true) rfl rfl (fun hg27 => ?_) (fun hg27 => ?_)
         ·skip
          first | have hg27p := G.gA1 hg27 | have hg27p := G.gA2 hg27 | have hg27p := hg27
          refine WH.val (O.move rfl rfl (Taken.yes rfl rfl hg27)) rfl rfl ?_
          refine WH.val (O.move rfl rfl (Taken.yes rfl rfl hg27)) rfl rfl ?_
          refine WH.val (O.det (fun _ => by first | exact G.R.sub64 rfl rfl (by omega) | exact G.R.sub rfl rfl) rfl (Taken.yes rfl rfl hg27)) rfl rfl ?_
          refine WH.val (O.idx_fz (i := (k - 1)) rfl rfl (by omega) (row_get (by omega)) Try.underlying22 hi9 hs9 rfl (Taken.yes rfl rfl hg27)) rfl rfl ?_
          refine WH.val (O.ld1 (PtI.ofU (PtU.fz rfl)) rfl Try.underlying9 rfl rfl (Taken.yes rfl rfl hg27)) rfl rfl ?_
          refine WH.val (O.move rfl rfl (Taken.yes rfl rfl hg27)) rfl rfl ?_
          refine WH.val (O.move rfl rfl (Taken.yes rfl rfl hg27)) rfl rfl ?_
          refine WH.val (O.idx_fz rfl rfl (rfl) (row_get (by omega)) Try.underlying22 hi9 hs9 rfl (Taken.yes rfl rfl hg27)) rfl rfl ?_
          refine WH.val (O.ld1 (PtI.ofU (PtU.fz rfl)) rfl Try.underlying9 rfl rfl (Taken.yes rfl rfl hg27)) rfl rfl ?_
          refine WH.val (O.det (fun _ => G.R.mv (G.R.strgeL rfl rfl) (congrArg Value.bool (by rw [wth_asc hA (by omega) hk2]))) rfl (Taken.yes rfl rfl hg27)) rfl rfl ?_
          refine WH.val (O.pick_t rfl hg27 rfl rfl (Taken.yes rfl rfl hg26)) rfl rfl ?_
          refine WH.val (O.pick_f rfl rfl rfl rfl Taken.no) rfl rfl ?_
          refine WH.nil ?_
          refine E.to ?_
          refine W.pick (.cons (t := 1) rfl (.cons (t := 5) rfl (.cons (t := 9) rfl (.cons (t := 10) rfl (.cons (t := 12) rfl (.cons (t := 108) rfl .nil)))))) (.cons (t := 101) rfl (.cons (t := 118) rfl .nil)) ?_
          refine W.cond_f rfl ?_
          refine W.skip ?_
          refine E.inn ?_
          refine E.to ?_
          refine W.region ?_
          refine SL.val (O.move rfl rfl Taken.no) ?_
          refine SL.val (O.det (fun _ => by first | exact G.R.add64 rfl rfl (by omega) | exact G.R.add rfl rfl) rfl Taken.no) ?_
          refine SL.val (O.assign rfl rfl Taken.no) ?_
          refine SL.nil ?_
          refine E.again ((k + 1)) (rn []) ?_ ?_ rfl (fixL_spec rfl) ?_ ?_
          · exact (SubF.cons rfl (SubF.cons rfl (SubF.cons rfl (SubF.cons rfl (SubF.cons rfl SubF.nil)))))
          · exact (SubS.cons rfl (SubS.cons rfl SubS.nil))
          ·try dsimp only
           omega
          · (try dsimp only); omega
         ·skip
          first | have hg27p := G.gA5 hg27 | have hg27p := G.gA6 hg27 | have hg27p := hg27
          refine WH.skip (OpOk.not rfl rfl rfl hg27) ?_
          refine WH.skip (OpOk.not rfl rfl rfl hg27) ?_
          refine WH.skip (OpOk.not rfl rfl rfl hg27) ?_
          refine WH.skip (OpOk.not rfl rfl rfl hg27) ?_
          refine WH.skip (OpOk.not rfl rfl rfl hg27) ?_
          refine WH.skip (OpOk.not rfl rfl rfl hg27) ?_
          refine WH.skip (OpOk.not rfl rfl rfl hg27) ?_
          refine WH.skip (OpOk.not rfl rfl rfl hg27) ?_
          refine WH.skip (OpOk.not rfl rfl rfl hg27) ?_
          refine WH.skip (OpOk.not rfl rfl rfl hg27) ?_
          refine WH.val (O.pick_f rfl (G.ne_t hg27) rfl rfl (Taken.yes rfl rfl hg26)) rfl rfl ?_
          refine WH.val (O.pick_f rfl rfl rfl rfl Taken.no) rfl rfl ?_
          refine WH.nil ?_
          refine E.to ?_
          refine W.pick (.cons (t := 1) rfl (.cons (t := 5) rfl (.cons (t := 9) rfl (.cons (t := 10) rfl (.cons (t := 12) rfl (.cons (t := 108) rfl .nil)))))) (.cons (t := 101) rfl (.cons (t := 118) rfl .nil)) ?_
          refine W.cond_f rfl ?_
          refine W.skip ?_
          refine E.inn ?_
          refine E.to ?_
          refine W.region ?_
          refine SL.val (O.move rfl rfl Taken.no) ?_
          refine SL.val (O.det (fun _ => by first | exact G.R.add64 rfl rfl (by omega) | exact G.R.add rfl rfl) rfl Taken.no) ?_
          refine SL.val (O.assign rfl rfl Taken.no) ?_
          refine SL.nil ?_
          refine E.again ((k + 1)) (rn []) ?_ ?_ rfl (fixL_spec rfl) ?_ ?_
          · exact (SubF.cons rfl (SubF.cons rfl (SubF.cons rfl (SubF.cons rfl (SubF.cons rfl SubF.nil)))))
          · exact (SubS.cons rfl (SubS.cons rfl SubS.nil))
          ·try dsimp only
           omega
          · (try dsimp only); omega
        ·skip
         refine W.exit ?_
         refine E.th ?_
         refine E.th ?_
         refine E.hit ?_
         refine E.to ?_
         refine W.seq ?_
         refine W.region ?_
         obtain rfl : c = 256 := by omega
         refine SL.val (O.move rfl rfl Taken.no) ?_
         refine SL.val (O.move rfl rfl Taken.no) ?_
         refine SL.memS (O.call (rn []) [118] rfl rfl rfl (sameTexts_h (a := (wthL s (ofT l).inn)) (b := ordK s (ofT l).inn 256)) (.cons (ArgOk.same rfl) (.cons (ArgOk.own rfl rfl) .nil)) SubS.nil rfl rfl rfl rfl rfl (.inr ⟨rfl, fun x hx => by simp at hx⟩) hcallOk25 (r' := .u _) rfl rfl Taken.no) rfl rfl (S' := _) rfl ?_
         refine SL.as (i' := vB true) 111 rfl (by exact iv_bool (dec_t (ord_all hA))) ?_
         refine SL.val (O.move rfl rfl Taken.no) ?_
         have hg28 : true = true := by decide
         refine SL.val (O.ldN (m := 3) (PtI.ref rfl rfl) (js := [_, _, _]) rfl (Nat.le_of_ble_eq_true rfl) Try.underlying27 rfl (by kernel_rfl) rfl (Taken.yes rfl rfl hg28)) ?_
         refine SL.val (O.move rfl rfl (Taken.yes rfl rfl hg28)) ?_
         refine SL.val (O.callp rfl rfl rfl (Count_h (t := ofT l) (p := s) hb (by omega)) (.cons (ArgOk.aggU (.cons (ArgOk.same rfl) (.cons (ArgOk.same rfl) (.cons (ArgOk.same rfl) .nil)))) (.cons (ArgOk.same rfl) .nil)) hcallOk28 rfl (Taken.yes rfl rfl hg28)) ?_
         refine SL.val (O.move rfl rfl (Taken.yes rfl rfl hg28)) ?_
         refine SL.val (O.lenE (n := (wthL s (ofT l).inn).length) (SlOf.fz rfl (by decide)) (by rw [List.length_map]) Try.underlying22 rfl (Taken.yes rfl rfl hg28)) ?_
         refine SL.val (O.det (fun _ => G.R.mv (G.R.eql rfl rfl) (congrArg Value.bool (decide_eq_true (by rfl)))) rfl (Taken.yes rfl rfl hg28)) ?_
         refine SL.val (O.pick_t rfl rfl rfl rfl Taken.no) ?_
         refine SL.val (O.assign rfl rfl Taken.no) ?_
         refine SL.nil ?_
         refine E.to ?_
         refine W.ret ?_
         refine E.fin (rs := [_]) (rn []) (.inl rfl) rfl (.cons (ResOne.tmp rfl) .nil) ?_ ?_ rfl (fixL_spec rfl)
         ·skip
          rfl
         · exact SubS.nil
    ·skip
     first | have hg4p := G.gA5 hg4 | have hg4p := G.gA6 hg4 | have hg4p := hg4
     refine SL.skip (OpOk.not rfl rfl rfl hg4) ?_
     refine SL.skip (OpOk.not rfl rfl rfl hg4) ?_
     refine SL.skip (OpOk.not rfl rfl rfl hg4) ?_
     refine SL.val (O.pick_f rfl (G.ne_t hg4) rfl rfl Taken.no) ?_
     refine SL.val (O.ldN (m := 3) (PtI.ref rfl rfl) (js := [_, _, _]) rfl (Nat.le_of_ble_eq_true rfl) Try.underlying27 rfl (by kernel_rfl) rfl Taken.no) ?_
     refine SL.val (O.move rfl rfl Taken.no) ?_
     refine SL.val (O.callp rfl rfl rfl (has_h (t := ofT l) (s := s) hb (by omega)) (.cons (ArgOk.aggU (.cons (ArgOk.same rfl) (.cons (ArgOk.same rfl) (.cons (ArgOk.same rfl) .nil)))) (.cons (ArgOk.same rfl) .nil)) hcallOk18 rfl Taken.no) ?_
     refine SL.val (O.det (fun _ => G.R.mv (G.R.boolneq rfl rfl Try.underlying4) (congrArg Value.bool (show _ = false by first | (rw [rk_y hA (by assumption)]; simp; done) | (rw [rk_n hA (by first | assumption | exact Bool.eq_false_iff.1 (by assumption))]; rfl)))) rfl Taken.no) ?_
     refine SL.val (O.move rfl rfl Taken.no) ?_
     have hg29 : false = false := by decide
     refine SL.val (O.move rfl rfl (Taken.yes rfl rfl hg29)) ?_
     refine SL.val (O.move rfl rfl (Taken.yes rfl rfl hg29)) ?_
     refine SL.case (j := 12) (g := 50) (want := true) rfl rfl (fun hg30 => ?_) (fun hg30 => ?_)
     ·skip
      first | have hg30p := G.gA1 hg30 | have hg30p := G.gA2 hg30 | have hg30p := hg30
      refine SL.val (O.move rfl rfl (Taken.yes rfl rfl hg30)) ?_
      refine SL.val (O.move rfl rfl (Taken.yes rfl rfl hg30)) ?_
      refine SL.val (O.det (fun _ => G.R.mv (G.R.strltL rfl rfl) (congrArg Value.bool (rk_lt hA (by assumption)))) rfl (Taken.yes rfl rfl hg30)) ?_
      refine SL.val (O.pick_t rfl hg30 rfl rfl (Taken.yes rfl rfl hg29)) ?_
      refine SL.val (O.pick_f rfl rfl rfl rfl Taken.no) ?_
      refine SL.nil ?_
      refine E.to ?_
      refine W.cond_f rfl ?_
      refine W.skip ?_
      refine E.to ?_
      refine W.seq ?_
      refine W.region ?_
      refine SL.val (O.ldN (m := 3) (PtI.ref rfl rfl) (js := [_, _, _]) rfl (Nat.le_of_ble_eq_true rfl) Try.underlying27 rfl (by kernel_rfl) rfl Taken.no) ?_
      refine SL.val (O.move rfl rfl Taken.no) ?_
      refine SL.val (O.callp rfl rfl rfl (With_h (t := ofT l) (p := s) hb (by omega)) (.cons (ArgOk.aggU (.cons (ArgOk.same rfl) (.cons (ArgOk.same rfl) (.cons (ArgOk.same rfl) .nil)))) (.cons (ArgOk.same rfl) .nil)) hcallOk26 rfl Taken.no) ?_
      refine SL.val (O.assign rfl rfl Taken.no) ?_
      refine SL.nil ?_
      refine E.to ?_
      refine W.pick (.cons (t := 1) rfl (.cons (t := 4) rfl (.cons (t := 5) rfl (.cons (t := 9) rfl .nil)))) (.cons (t := 101) rfl .nil) ?_
      refine W.seq ?_
      refine W.region ?_
      refine SL.val (O.assign rfl rfl Taken.no) ?_
      refine SL.nil ?_
      refine E.to ?_
      refine W.seq ?_
      refine W.seq ?_
      refine W.region ?_
      refine SL.val (O.ldN (m := 3) (PtI.ref rfl rfl) (js := [_, _, _]) rfl (Nat.le_of_ble_eq_true rfl) Try.underlying27 rfl (by kernel_rfl) rfl Taken.no) ?_
      refine SL.val (O.move rfl rfl Taken.no) ?_
      refine SL.val (O.callp rfl rfl rfl (has_h (t := ofT l) (s := s) hb (by omega)) (.cons (ArgOk.aggU (.cons (ArgOk.same rfl) (.cons (ArgOk.same rfl) (.cons (ArgOk.same rfl) .nil)))) (.cons (ArgOk.same rfl) .nil)) hcallOk18 rfl Taken.no) ?_
      refine SL.nil ?_
      refine E.to ?_
      first | refine W.cond_d rfl (fun hc31 => ?_) (fun hc31 => ?_) | refine W.cond_nd rfl (fun hc31 => ?_) (fun hc31 => ?_) | refine W.cond rfl (fun hc31 => ?_) (fun hc31 => ?_)
      ·skip
       refine W.region ?_
       refine SL.val (O.move rfl rfl Taken.no) ?_
       refine SL.val (O.move rfl rfl Taken.no) ?_
       refine SL.memS (O.buildSlice 122 rfl rfl Try.underlying22 hi9 hz9 hs9 (by decide) rfl (by decide) rfl rfl rfl Taken.no) rfl rfl (S' := (122, _) :: _) rfl ?_
       refine SL.adopt 62 124 9 1 (by decide) rfl rfl rfl ?_
       refine SL.memS (O.app (k' := 123) rfl rfl (SlOf.own rfl rfl) Try.underlying22 hi9 hz9 hs9 rfl rfl (by first | exact map_snoc rfl | exact app_map | exact List.nil_append _ | rfl) (by rw [hb9]; first | omega | (simp only [List.length_map]; omega) | (simp <;> omega)) (by first | omega | (simp only [List.length_map]; omega) | (simp <;> omega)) rfl Taken.no) rfl rfl (S' := (123, _) :: (124, .dead) :: _) rfl ?_
       refine SL.val (O.assign rfl rfl Taken.no) ?_
       refine SL.nil ?_
       refine E.to ?_
       refine W.seq ?_
       refine W.seq ?_
       refine W.region ?_
       refine SL.val (O.assign rfl rfl Taken.no) ?_
       refine SL.nil ?_
       refine E.to ?_
       refine W.block ?_
       refine W.loopx1 (fun (c : Nat) => [(11, vI (c : Int)), (10, .own 125)]) (fun (c : Nat) => [(125, .data 9 1 ((ordK s (ofT l).inn c).map eStr))]) (fun (c : Nat) => c ≤ 256) (fun (c : Nat) => 256 - c) (0) (rn [(125, 123)]) (.cons (t := 1) rfl (.cons (t := 4) rfl (.cons (t := 5) rfl (.cons (t := 9) rfl .nil)))) (.cons (t := 101) rfl (.cons (t := 122) rfl .nil)) rfl ?_ ?_ rfl rfl ?_ ?_
       · exact (SubF.cons rfl (SubF.cons rfl SubF.nil))
       · exact (SubS.val rfl (by first | exact sb_data (by rw [ordK, if_pos (by assumption)]; rfl) | exact sb_data (by rw [ordK, if_neg (by assumption)]; rfl)) SubS.nil)
       ·skip
        omega
       intro c hinv
       have hc := hinv
       have hol := ordK_len s (ofT l).inn c
       have hol2 : c * (ofT l).inn.length ≤ 256 * 1000 := Nat.mul_le_mul hc hin
       refine W.seq ?_
       refine W.seq ?_
       refine W.region ?_
       refine SL.val (O.move rfl rfl Taken.no) ?_
       refine SL.val (O.det (fun _ => G.R.lss rfl rfl) rfl Taken.no) ?_
       refine SL.nil ?_
       refine E.to ?_
       first | refine W.cond_d rfl (fun hc32 => ?_) (fun hc32 => ?_) | refine W.cond_nd rfl (fun hc32 => ?_) (fun hc32 => ?_) | refine W.cond rfl (fun hc32 => ?_) (fun hc32 => ?_)
       ·skip
        refine W.skip ?_
        refine E.to ?_
        refine W.seq ?_
        refine W.block ?_
        refine W.region ?_
        refine SL.val (O.move rfl rfl Taken.no) ?_
        refine SL.val (O.ldN (m := 3) (PtI.ref rfl rfl) (js := [_, _, _]) rfl (Nat.le_of_ble_eq_true rfl) Try.underlying27 rfl (by kernel_rfl) rfl Taken.no) ?_
        refine SL.val (O.move rfl rfl Taken.no) ?_
        refine SL.val (O.move rfl rfl Taken.no) ?_
        refine SL.val (O.det (fun _ => by first | exact G.R.conv8 rfl Try.underlying3 Try.underlying5 (by omega) | exact G.R.conv rfl Try.underlying3 Try.underlying5) rfl Taken.no) ?_
        refine SL.memS (O.buildSlice 126 (rows := ([UInt8.ofNat c] : List UInt8).map eB) rfl rfl Try.underlying55 hi5 hz5 hs5 (by decide) rfl (by decide) rfl (by show _ = [[_]]; rw [UInt8.toNat_ofNat', Nat.mod_eq_of_lt (by omega)]; rfl) rfl Taken.no) rfl rfl (S' := (126, .data 5 1 (([UInt8.ofNat c] : List UInt8).map eB)) :: _) rfl ?_
        refine SL.val (O.b2s (l := [UInt8.ofNat c]) (SlOf.own rfl rfl) Try.underlying55 Try.underlying5 Try.underlying9 rfl Taken.no) ?_
        refine SL.val (O.det (fun _ => G.R.strcatL rfl rfl (by rw [List.length_singleton]; omega)) rfl Taken.no) ?_
        refine SL.val (O.callp rfl rfl rfl (With_h (t := ofT l) (p := s ++ [UInt8.ofNat c]) hb (by rw [List.length_append, List.length_singleton]; omega)) (.cons (ArgOk.aggU (.cons (ArgOk.same rfl) (.cons (ArgOk.same rfl) (.cons (ArgOk.same rfl) .nil)))) (.cons (ArgOk.same rfl) .nil)) hcallOk26 rfl Taken.no) ?_
        refine SL.memS (O.app (k' := 127) rfl rfl (SlOf.fz rfl (by decide)) Try.underlying22 hi9 hz9 hs9 rfl rfl (by exact app_map) (by rw [hb9]; (have hwl := wthL_len (s ++ [UInt8.ofNat c]) (ofT l).inn; simp only [List.length_map]; omega)) (by (have hwl := wthL_len (s ++ [UInt8.ofNat c]) (ofT l).inn; simp only [List.length_map]; omega)) rfl Taken.no) rfl rfl (S' := (127, _) :: (125, .dead) :: _) rfl ?_
        refine SL.val (O.assign rfl rfl Taken.no) ?_
        refine SL.nil ?_
        refine E.inn ?_
        refine E.to ?_
        refine W.region ?_
        refine SL.val (O.move rfl rfl Taken.no) ?_
        refine SL.val (O.det (fun _ => by first | exact G.R.add64 rfl rfl (by omega) | exact G.R.add rfl rfl) rfl Taken.no) ?_
        refine SL.val (O.assign rfl rfl Taken.no) ?_
        refine SL.nil ?_
        refine E.again ((c + 1)) (rn [(125, 127)]) ?_ ?_ rfl (fixL_spec rfl) ?_ ?_
        · exact (SubF.cons rfl (SubF.cons rfl (SubF.cons rfl (SubF.cons rfl (SubF.cons rfl (SubF.cons rfl SubF.nil))))))
        · exact (SubS.val rfl (by (try dsimp only); exact sb_data (by rw [ordK])) (SubS.cons rfl (SubS.cons rfl SubS.nil)))
        ·try dsimp only
         omega
        · (try dsimp only); omega
       ·skip
        refine W.exit ?_
        refine E.th ?_
        refine E.th ?_
        refine E.hit ?_
        refine E.to ?_
        refine W.seq ?_
        refine W.seq ?_
        refine W.region ?_
        refine SL.val (O.assign rfl rfl Taken.no) ?_
        refine SL.nil ?_
        refine E.to ?_
        refine W.block ?_
        refine W.loopx1 (fun (k : Nat) => [(12, vI (k : Int))]) (fun (k : Nat) => []) (fun (k : Nat) => k ≤ (wthL s (ofT l).inn).length) (fun (k : Nat) => (wthL s (ofT l).inn).length - k) (0) (rn []) (.cons (t := 1) rfl (.cons (t := 5) rfl (.cons (t := 9) rfl (.cons (t := 10) rfl .nil)))) (.cons (t := 101) rfl (.cons (t := 122) rfl (.cons (t := 125) rfl .nil))) rfl ?_ ?_ rfl rfl ?_ ?_
        · exact (SubF.cons rfl SubF.nil)
        · exact SubS.nil
        ·skip
         omega
        intro k hinv
        have hk := hinv
        have hwl := wthL_len s (ofT l).inn
        refine W.seq ?_
        refine W.seq ?_
        refine W.region ?_
        refine SL.val (O.move rfl rfl Taken.no) ?_
        refine SL.val (O.move rfl rfl Taken.no) ?_
        refine SL.val (O.lenE (SlOf.fz rfl (by decide)) (by first | exact List.length_map _ | rfl) Try.underlying22 rfl Taken.no) ?_
        refine SL.val (O.det (fun _ => G.R.lss rfl rfl) rfl Taken.no) ?_
        refine SL.nil ?_
        refine E.to ?_
        first | refine W.cond_d rfl (fun hc33 => ?_) (fun hc33 => ?_) | refine W.cond_nd rfl (fun hc33 => ?_) (fun hc33 => ?_) | refine W.cond rfl (fun hc33 => ?_) (fun hc33 => ?_)
        ·skip
         have hk2 : k < (wthL s (ofT l).inn).length := by omega
         refine W.skip ?_
         refine E.to ?_
         refine W.seq ?_
         refine W.block ?_
         refine W.seq ?_
         refine W.draw [⟨[], [], []⟩, ⟨[], [], []⟩, ⟨[], [], []⟩, ⟨[], [], []⟩, ⟨[], [], []⟩, ⟨[], [], []⟩, ⟨[], [], []⟩, ⟨[], [], []⟩, ⟨[], [], []⟩, ⟨[], [], []⟩, ⟨[], [], []⟩, ⟨[], [], []⟩, ⟨[], [], []⟩, ⟨[], [], []⟩, ⟨[], [], []⟩, ⟨[], [], []⟩, ⟨[], [], []⟩, ⟨[], [], []⟩, ⟨[], [], []⟩, ⟨[], [], []⟩, ⟨[], [], []⟩, ⟨[], [], []⟩, ⟨[], [], []⟩] rfl (by kernel_rfl) (by kernel_rfl) rfl rfl ?_
         refine WH.val (O.move rfl rfl Taken.no) rfl rfl ?_
         refine WH.val (O.move rfl rfl Taken.no) rfl rfl ?_
         refine WH.val (O.idx_fz rfl rfl (rfl) (row_get (by omega)) Try.underlying22 hi9 hs9 rfl Taken.no) rfl rfl ?_
         refine WH.val (O.ld1 (PtI.ofU (PtU.fz rfl)) rfl Try.underlying9 rfl rfl Taken.no) rfl rfl ?_
         refine WH.val (O.move rfl rfl Taken.no) rfl rfl ?_
         refine WH.val (OpOk.re (i' := vB true) (O.callp rfl rfl rfl (begins_h (s := (wthL s (ofT l).inn)[k]!) (p := s)) (.cons (ArgOk.same rfl) (.cons (ArgOk.same rfl) .nil)) hcallOk19 rfl Taken.no) (by exact iv_bool (dec_t (wth_at hk2)))) rfl rfl ?_
         refine WH.val (O.det (fun _ => G.R.mv (G.R.not rfl) rfl) rfl Taken.no) rfl rfl ?_
         refine WH.val (O.move rfl rfl Taken.no) rfl rfl ?_
         have hg34 : false = false := by decide
         refine WH.val (O.move rfl rfl (Taken.yes rfl rfl hg34)) rfl rfl ?_
         refine WH.val (O.det (fun _ => G.R.gtr rfl rfl) rfl (Taken.yes rfl rfl hg34)) rfl rfl ?_
         refine WH.val (O.move rfl rfl (Taken.yes rfl rfl hg34)) rfl rfl ?_
         refine WH.case (j := 10) (g := 96) (want := true) rfl rfl (fun hg35 => ?_) (fun hg35 => ?_)
         ·skip
          first | have hg35p := G.gA1 hg35 | have hg35p := G.gA2 hg35 | have hg35p := hg35
          refine WH.val (O.move rfl rfl (Taken.yes rfl rfl hg35)) rfl rfl ?_
          refine WH.val (O.move rfl rfl (Taken.yes rfl rfl hg35)) rfl rfl ?_
          refine WH.val (O.det (fun _ => by first | exact G.R.sub64 rfl rfl (by omega) | exact G.R.sub rfl rfl) rfl (Taken.yes rfl rfl hg35)) rfl rfl ?_
          refine WH.val (O.idx_fz (i := (k - 1)) rfl rfl (by omega) (row_get (by omega)) Try.underlying22 hi9 hs9 rfl (Taken.yes rfl rfl hg35)) rfl rfl ?_
          refine WH.val (O.ld1 (PtI.ofU (PtU.fz rfl)) rfl Try.underlying9 rfl rfl (Taken.yes rfl rfl hg35)) rfl rfl ?_
          refine WH.val (O.move rfl rfl (Taken.yes rfl rfl hg35)) rfl rfl ?_
          refine WH.val (O.move rfl rfl (Taken.yes rfl rfl hg35)) rfl rfl ?_
          refine WH.val (O.idx_fz rfl rfl (rfl) (row_get (by omega)) Try.underlying22 hi9 hs9 rfl (Taken.yes rfl rfl hg35)) rfl rfl ?_
          refine WH.val (O.ld1 (PtI.ofU (PtU.fz rfl)) rfl Try.underlying9 rfl rfl (Taken.yes rfl rfl hg35)) rfl rfl ?_
          refine WH.val (O.det (fun _ => G.R.mv (G.R.strgeL rfl rfl) (congrArg Value.bool (by rw [wth_asc hA (by omega) hk2]))) rfl (Taken.yes rfl rfl hg35)) rfl rfl ?_
          refine WH.val (O.pick_t rfl hg35 rfl rfl (Taken.yes rfl rfl hg34)) rfl rfl ?_
          refine WH.val (O.pick_f rfl rfl rfl rfl Taken.no) rfl rfl ?_
          refine WH.nil ?_
          refine E.to ?_
          refine W.pick (.cons (t := 1) rfl (.cons (t := 5) rfl (.cons (t := 9) rfl (.cons (t := 10) rfl (.cons (t := 12) rfl (.cons (t := 108) rfl .nil)))))) (.cons (t := 101) rfl (.cons (t := 122) rfl (.cons (t := 125) rfl .nil))) ?_
          refine W.cond_f rfl ?_
          refine W.skip ?_
          refine E.inn ?_
          refine E.to ?_
          refine W.region ?_
          refine SL.val (O.move rfl rfl Taken.no) ?_
          refine SL.val (O.det (fun _ => by first | exact G.R.add64 rfl rfl (by omega) | exact G.R.add rfl rfl) rfl Taken.no) ?_
          refine SL.val (O.assign rfl rfl Taken.no) ?_
          refine SL.nil ?_
          refine E.again ((k + 1)) (rn []) ?_ ?_ rfl (fixL_spec rfl) ?_ ?_
          · exact (SubF.cons rfl (SubF.cons rfl (SubF.cons rfl (SubF.cons rfl (SubF.cons rfl SubF.nil)))))
          · exact (SubS.cons rfl (SubS.cons rfl (SubS.cons rfl SubS.nil)))
          ·try dsimp only
           omega
          · (try dsimp only); omega
         ·skip
          first | have hg35p := G.gA5 hg35 | have hg35p := G.gA6 hg35 | have hg35p := hg35
          refine WH.skip (OpOk.not rfl rfl rfl hg35) ?_
          refine WH.skip (OpOk.not rfl rfl rfl hg35) ?_
          refine WH.skip (OpOk.not rfl rfl rfl hg35) ?_
          refine WH.skip (OpOk.not rfl rfl rfl hg35) ?_
          refine WH.skip (OpOk.not rfl rfl rfl hg35) ?_
          refine WH.skip (OpOk.not rfl rfl rfl hg35) ?_
          refine WH.skip (OpOk.not rfl rfl rfl hg35) ?_
          refine WH.skip (OpOk.not rfl rfl rfl hg35) ?_
          refine WH.skip (OpOk.not rfl rfl rfl hg35) ?_
          refine WH.skip (OpOk.not rfl rfl rfl hg35) ?_
          refine WH.val (O.pick_f rfl (G.ne_t hg35) rfl rfl (Taken.yes rfl rfl hg34)) rfl rfl ?_
          refine WH.val (O.pick_f rfl rfl rfl rfl Taken.no) rfl rfl ?_
          refine WH.nil ?_
          refine E.to ?_
          refine W.pick (.cons (t := 1) rfl (.cons (t := 5) rfl (.cons (t := 9) rfl (.cons (t := 10) rfl (.cons (t := 12) rfl (.cons (t := 108) rfl .nil)))))) (.cons (t := 101) rfl (.cons (t := 122) rfl (.cons (t := 125) rfl .nil))) ?_
          refine W.cond_f rfl ?_
          refine W.skip ?_
          refine E.inn ?_
          refine E.to ?_
          refine W.region ?_
          refine SL.val (O.move rfl rfl Taken.no) ?_
          refine SL.val (O.det (fun _ => by first | exact G.R.add64 rfl rfl (by omega) | exact G.R.add rfl rfl) rfl Taken.no) ?_
          refine SL.val (O.assign rfl rfl Taken.no) ?_
          refine SL.nil ?_
          refine E.again ((k + 1)) (rn []) ?_ ?_ rfl (fixL_spec rfl) ?_ ?_
          · exact (SubF.cons rfl (SubF.cons rfl (SubF.cons rfl (SubF.cons rfl (SubF.cons rfl SubF.nil)))))
          · exact (SubS.cons rfl (SubS.cons rfl (SubS.cons rfl SubS.nil)))
          ·try dsimp only
           omega
          · (try dsimp only); omega
        ·skip
         refine W.exit ?_
         refine E.th ?_
         refine E.th ?_
         refine E.hit ?_
         refine E.to ?_
         refine W.seq ?_
         refine W.region ?_
         obtain rfl : c = 256 := by omega
         refine SL.val (O.move rfl rfl Taken.no) ?_
         refine SL.val (O.move rfl rfl Taken.no) ?_
         refine SL.memS (O.call (rn []) [125] rfl rfl rfl (sameTexts_h (a := (wthL s (ofT l).inn)) (b := ordK s (ofT l).inn 256)) (.cons (ArgOk.same rfl) (.cons (ArgOk.own rfl rfl) .nil)) SubS.nil rfl rfl rfl rfl rfl (.inr ⟨rfl, fun x hx => by simp at hx⟩) hcallOk25 (r' := .u _) rfl rfl Taken.no) rfl rfl (S' := _) rfl ?_
         refine SL.as (i' := vB true) 111 rfl (by exact iv_bool (dec_t (ord_all hA))) ?_
         refine SL.val (O.move rfl rfl Taken.no) ?_
         have hg36 : true = true := by decide
         refine SL.val (O.ldN (m := 3) (PtI.ref rfl rfl) (js := [_, _, _]) rfl (Nat.le_of_ble_eq_true rfl) Try.underlying27 rfl (by kernel_rfl) rfl (Taken.yes rfl rfl hg36)) ?_
         refine SL.val (O.move rfl rfl (Taken.yes rfl rfl hg36)) ?_
         refine SL.val (O.callp rfl rfl rfl (Count_h (t := ofT l) (p := s) hb (by omega)) (.cons (ArgOk.aggU (.cons (ArgOk.same rfl) (.cons (ArgOk.same rfl) (.cons (ArgOk.same rfl) .nil)))) (.cons (ArgOk.same rfl) .nil)) hcallOk28 rfl (Taken.yes rfl rfl hg36)) ?_
         refine SL.val (O.move rfl rfl (Taken.yes rfl rfl hg36)) ?_
         refine SL.val (O.lenE (n := (wthL s (ofT l).inn).length) (SlOf.fz rfl (by decide)) (by rw [List.length_map]) Try.underlying22 rfl (Taken.yes rfl rfl hg36)) ?_
         refine SL.val (O.det (fun _ => G.R.mv (G.R.eql rfl rfl) (congrArg Value.bool (decide_eq_true (by rfl)))) rfl (Taken.yes rfl rfl hg36)) ?_
         refine SL.val (O.pick_t rfl rfl rfl rfl Taken.no) ?_
         refine SL.val (O.assign rfl rfl Taken.no) ?_
         refine SL.nil ?_
         refine E.to ?_
         refine W.ret ?_
         refine E.fin (rs := [_]) (rn []) (.inl rfl) rfl (.cons (ResOne.tmp rfl) .nil) ?_ ?_ rfl (fixL_spec rfl)
         ·skip
          rfl
         · exact SubS.nil
      ·skip
       refine W.skip ?_
       refine E.to ?_
       refine W.seq ?_
       refine W.seq ?_
       refine W.region ?_
       refine SL.val (O.assign rfl rfl Taken.no) ?_
       refine SL.nil ?_
       refine E.to ?_
       refine W.block ?_
       refine W.adopt 10 129 9 1 (by decide) rfl rfl rfl ?_
       refine W.loopx1 (fun (c : Nat) => [(11, vI (c : Int)), (10, .own 128)]) (fun (c : Nat) => [(128, .data 9 1 ((ordK s (ofT l).inn c).map eStr))]) (fun (c : Nat) => c ≤ 256) (fun (c : Nat) => 256 - c) (0) (rn [(128, 129)]) (.cons (t := 1) rfl (.cons (t := 4) rfl (.cons (t := 5) rfl (.cons (t := 9) rfl .nil)))) (.cons (t := 101) rfl .nil) rfl ?_ ?_ rfl rfl ?_ ?_
       · exact (SubF.cons rfl (SubF.cons rfl SubF.nil))
       · exact (SubS.val rfl (by first | exact sb_data (by rw [ordK, if_pos (by assumption)]; rfl) | exact sb_data (by rw [ordK, if_neg (by assumption)]; rfl)) SubS.nil)
       ·skip
        omega
       intro c hinv
       have hc := hinv
       have hol := ordK_len s (ofT l).inn c
       have hol2 : c * (ofT l).inn.length ≤ 256 * 1000 := Nat.mul_le_mul hc hin
       refine W.seq ?_
       refine W.seq ?_
       refine W.region ?_
       refine SL.val (O.move rfl rfl Taken.no) ?_
       refine SL.val (O.det (fun _ => G.R.lss rfl rfl) rfl Taken.no) ?_
       refine SL.nil ?_
       refine E.to ?_
       first | refine W.cond_d rfl (fun hc37 => ?_) (fun hc37 => ?_) | refine W.cond_nd rfl (fun hc37 => ?_) (fun hc37 => ?_) | refine W.cond rfl (fun hc37 => ?_) (fun hc37 => ?_)
       ·skip
        refine W.skip ?_
        refine E.to ?_
        refine W.seq ?_
        refine W.block ?_
        refine W.region ?_
        refine SL.val (O.move rfl rfl Taken.no) ?_
        refine SL.val (O.ldN (m := 3) (PtI.ref rfl rfl) (js := [_, _, _]) rfl (Nat.le_of_ble_eq_true rfl) Try.underlying27 rfl (by kernel_rfl) rfl Taken.no) ?_
        refine SL.val (O.move rfl rfl Taken.no) ?_
        refine SL.val (O.move rfl rfl Taken.no) ?_
        refine SL.val (O.det (fun _ => by first | exact G.R.conv8 rfl Try.underlying3 Try.underlying5 (by omega) | exact G.R.conv rfl Try.underlying3 Try.underlying5) rfl Taken.no) ?_
        refine SL.memS (O.buildSlice 130 (rows := ([UInt8.ofNat c] : List UInt8).map eB) rfl rfl Try.underlying55 hi5 hz5 hs5 (by decide) rfl (by decide) rfl (by show _ = [[_]]; rw [UInt8.toNat_ofNat', Nat.mod_eq_of_lt (by omega)]; rfl) rfl Taken.no) rfl rfl (S' := (130, .data 5 1 (([UInt8.ofNat c] : List UInt8).map eB)) :: _) rfl ?_
        refine SL.val (O.b2s (l := [UInt8.ofNat c]) (SlOf.own rfl rfl) Try.underlying55 Try.underlying5 Try.underlying9 rfl Taken.no) ?_
        refine SL.val (O.det (fun _ => G.R.strcatL rfl rfl (by rw [List.length_singleton]; omega)) rfl Taken.no) ?_
        refine SL.val (O.callp rfl rfl rfl (With_h (t := ofT l) (p := s ++ [UInt8.ofNat c]) hb (by rw [List.length_append, List.length_singleton]; omega)) (.cons (ArgOk.aggU (.cons (ArgOk.same rfl) (.cons (ArgOk.same rfl) (.cons (ArgOk.same rfl) .nil)))) (.cons (ArgOk.same rfl) .nil)) hcallOk26 rfl Taken.no) ?_
        refine SL.memS (O.app (k' := 131) rfl rfl (SlOf.fz rfl (by decide)) Try.underlying22 hi9 hz9 hs9 rfl rfl (by exact app_map) (by rw [hb9]; (have hwl := wthL_len (s ++ [UInt8.ofNat c]) (ofT l).inn; simp only [List.length_map]; omega)) (by (have hwl := wthL_len (s ++ [UInt8.ofNat c]) (ofT l).inn; simp only [List.length_map]; omega)) rfl Taken.no) rfl rfl (S' := (131, _) :: (128, .dead) :: _) rfl ?_
        refine SL.val (O.assign rfl rfl Taken.no) ?_
        refine SL.nil ?_
        refine E.inn ?_
        refine E.to ?_
        refine W.region ?_
        refine SL.val (O.move rfl rfl Taken.no) ?_
        refine SL.val (O.det (fun _ => by first | exact G.R.add64 rfl rfl (by omega) | exact G.R.add rfl rfl) rfl Taken.no) ?_
        refine SL.val (O.assign rfl rfl Taken.no) ?_
        refine SL.nil ?_
        refine E.again ((c + 1)) (rn [(128, 131)]) ?_ ?_ rfl (fixL_spec rfl) ?_ ?_
        · exact (SubF.cons rfl (SubF.cons rfl (SubF.cons rfl (SubF.cons rfl (SubF.cons rfl (SubF.cons rfl SubF.nil))))))
        · exact (SubS.val rfl (by (try dsimp only); exact sb_data (by rw [ordK])) (SubS.cons rfl SubS.nil))
        ·try dsimp only
         omega
        · (try dsimp only); omega
       ·skip
        refine W.exit ?_
        refine E.th ?_
        refine E.th ?_
        refine E.hit ?_
        refine E.to ?_
        refine W.seq ?_
        refine W.seq ?_
        refine W.region ?_
        refine SL.val (O.assign rfl rfl Taken.no) ?_
        refine SL.nil ?_
        refine E.to ?_
        refine W.block ?_
        refine W.loopx1 (fun (k : Nat) => [(12, vI (k : Int))]) (fun (k : Nat) => []) (fun (k : Nat) => k ≤ (wthL s (ofT l).inn).length) (fun (k : Nat) => (wthL s (ofT l).inn).length - k) (0) (rn []) (.cons (t := 1) rfl (.cons (t := 5) rfl (.cons (t := 9) rfl (.cons (t := 10) rfl .nil)))) (.cons (t := 101) rfl (.cons (t := 128) rfl .nil)) rfl ?_ ?_ rfl rfl ?_ ?_
        · exact (SubF.cons rfl SubF.nil)
        · exact SubS.nil
        ·skip
         omega
        intro k hinv
        have hk := hinv
        have hwl := wthL_len s (ofT l).inn
        refine W.seq ?_
        refine W.seq ?_
        refine W.region ?_
        refine SL.val (O.move rfl rfl Taken.no) ?_
        refine SL.val (O.move rfl rfl Taken.no) ?_
        refine SL.val (O.lenE (SlOf.fz rfl (by decide)) (by first | exact List.length_map _ | rfl) Try.underlying22 rfl Taken.no) ?_
        refine SL.val (O.det (fun _ => G.R.lss rfl rfl) rfl Taken.no) ?_
        refine SL.nil ?_
        refine E.to ?_
        first | refine W.cond_d rfl (fun hc38 => ?_) (fun hc38 => ?_) | refine W.cond_nd rfl (fun hc38 => ?_) (fun hc38 => ?_) | refine W.cond rfl (fun hc38 => ?_) (fun hc38 => ?_)
        ·skip
         have hk2 : k < (wthL s (ofT l).inn).length := by omega
         refine W.skip ?_
         refine E.to ?_
         refine W.seq ?_
         refine W.block ?_
         refine W.seq ?_
         refine W.draw [⟨[], [], []⟩, ⟨[], [], []⟩, ⟨[], [], []⟩, ⟨[], [], []⟩, ⟨[], [], []⟩, ⟨[], [], []⟩, ⟨[], [], []⟩, ⟨[], [], []⟩, ⟨[], [], []⟩, ⟨[], [], []⟩, ⟨[], [], []⟩, ⟨[], [], []⟩, ⟨[], [], []⟩, ⟨[], [], []⟩, ⟨[], [], []⟩, ⟨[], [], []⟩, ⟨[], [], []⟩, ⟨[], [], []⟩, ⟨[], [], []⟩, ⟨[], [], []⟩, ⟨[], [], []⟩, ⟨[], [], []⟩, ⟨[], [], []⟩] rfl (by kernel_rfl) (by kernel_rfl) rfl rfl ?_
         refine WH.val (O.move rfl rfl Taken.no) rfl rfl ?_
         refine WH.val (O.move rfl rfl Taken.no) rfl rfl ?_
         refine WH.val (O.idx_fz rfl rfl (rfl) (row_get (by omega)) Try.underlying22 hi9 hs9 rfl Taken.no) rfl rfl ?_
         refine WH.val (O.ld1 (PtI.ofU (PtU.fz rfl)) rfl Try.underlying9 rfl rfl Taken.no) rfl rfl ?_
         refine WH.val (O.move rfl rfl Taken.no) rfl rfl ?_
         refine WH.val (OpOk.re (i' := vB true) (O.callp rfl rfl rfl (begins_h (s := (wthL s (ofT l).inn)[k]!) (p := s)) (.cons (ArgOk.same rfl) (.cons (ArgOk.same rfl) .nil)) hcallOk19 rfl Taken.no) (by exact iv_bool (dec_t (wth_at hk2)))) rfl rfl ?_
         refine WH.val (O.det (fun _ => G.R.mv (G.R.not rfl) rfl) rfl Taken.no) rfl rfl ?_
         refine WH.val (O.move rfl rfl Taken.no) rfl rfl ?_
         have hg39 : false = false := by decide
         refine WH.val (O.move rfl rfl (Taken.yes rfl rfl hg39)) rfl rfl ?_
         refine WH.val (O.det (fun _ => G.R.gtr rfl rfl) rfl (Taken.yes rfl rfl hg39)) rfl rfl ?_
         refine WH.val (O.move rfl rfl (Taken.yes rfl rfl hg39)) rfl rfl ?_
         refine WH.case (j := 10) (g := 96) (want := true) rfl rfl (fun hg40 => ?_) (fun hg40 => ?_)
         ·skip
          first | have hg40p := G.gA1 hg40 | have hg40p := G.gA2 hg40 | have hg40p := hg40
          refine WH.val (O.move rfl rfl (Taken.yes rfl rfl hg40)) rfl rfl ?_
          refine WH.val (O.move rfl rfl (Taken.yes rfl rfl hg40)) rfl rfl ?_
          refine WH.val (O.det (fun _ => by first | exact G.R.sub64 rfl rfl (by omega) | exact G.R.sub rfl rfl) rfl (Taken.yes rfl rfl hg40)) rfl rfl ?_
          refine WH.val (O.idx_fz (i := (k - 1)) rfl rfl (by omega) (row_get (by omega)) Try.underlying22 hi9 hs9 rfl (Taken.yes rfl rfl hg40)) rfl rfl ?_
          refine WH.val (O.ld1 (PtI.ofU (PtU.fz rfl)) rfl Try.underlying9 rfl rfl (Taken.yes rfl rfl hg40)) rfl rfl ?_
          refine WH.val (O.move rfl rfl (Taken.yes rfl rfl hg40)) rfl rfl ?_
          refine WH.val (O.move rfl rfl (Taken.yes rfl rfl hg40)) rfl rfl ?_
          refine WH.val (O.idx_fz rfl rfl (rfl) (row_get (by omega)) Try.underlying22 hi9 hs9 rfl (Taken.yes rfl rfl hg40)) rfl rfl ?_
          refine WH.val (O.ld1 (PtI.ofU (PtU.fz rfl)) rfl Try.underlying9 rfl rfl (Taken.yes rfl rfl hg40)) rfl rfl ?_
          refine WH.val (O.det (fun _ => G.R.mv (G.R.strgeL rfl rfl) (congrArg Value.bool (by rw [wth_asc hA (by omega) hk2]))) rfl (Taken.yes rfl rfl hg40)) rfl rfl ?_
          refine WH.val (O.pick_t rfl hg40 rfl rfl (Taken.yes rfl rfl hg39)) rfl rfl ?_
          refine WH.val (O.pick_f rfl rfl rfl rfl Taken.no) rfl rfl ?_
          refine WH.nil ?_
          refine E.to ?_
          refine W.pick (.cons (t := 1) rfl (.cons (t := 5) rfl (.cons (t := 9) rfl (.cons (t := 10) rfl (.cons (t := 12) rfl (.cons (t := 108) rfl .nil)))))) (.cons (t := 101) rfl (.cons (t := 128) rfl .nil)) ?_
          refine W.cond_f rfl ?_
          refine W.skip ?_
          refine E.inn ?_
          refine E.to ?_
          refine W.region ?_
          refine SL.val (O.move rfl rfl Taken.no) ?_
          refine SL.val (O.det (fun _ => by first | exact G.R.add64 rfl rfl (by omega) | exact G.R.add rfl rfl) rfl Taken.no) ?_
          refine SL.val (O.assign rfl rfl Taken.no) ?_
          refine SL.nil ?_
          refine E.again ((k + 1)) (rn []) ?_ ?_ rfl (fixL_spec rfl) ?_ ?_
          · exact (SubF.cons rfl (SubF.cons rfl (SubF.cons rfl (SubF.cons rfl (SubF.cons rfl SubF.nil)))))
          · exact (SubS.cons rfl (SubS.cons rfl SubS.nil))
          ·try dsimp only
           omega
          · (try dsimp only); omega
         ·skip
          first | have hg40p := G.gA5 hg40 | have hg40p := G.gA6 hg40 | have hg40p := hg40
          refine WH.skip (OpOk.not rfl rfl rfl hg40) ?_
          refine WH.skip (OpOk.not rfl rfl rfl hg40) ?_
          refine WH.skip (OpOk.not rfl rfl rfl hg40) ?_
          refine WH.skip (OpOk.not rfl rfl rfl hg40) ?_
          refine WH.skip (OpOk.not rfl rfl rfl hg40) ?_
          refine WH.skip (OpOk.not rfl rfl rfl hg40) ?_
          refine WH.skip (OpOk.not rfl rfl rfl hg40) ?_
          refine WH.skip (OpOk.not rfl rfl rfl hg40) ?_
          refine WH.skip (OpOk.not rfl rfl rfl hg40) ?_
          refine WH.skip (OpOk.not rfl rfl rfl hg40) ?_
          refine WH.val (O.pick_f rfl (G.ne_t hg40) rfl rfl (Taken.yes rfl rfl hg39)) rfl rfl ?_
          refine WH.val (O.pick_f rfl rfl rfl rfl Taken.no) rfl rfl ?_
          refine WH.nil ?_
          refine E.to ?_
          refine W.pick (.cons (t := 1) rfl (.cons (t := 5) rfl (.cons (t := 9) rfl (.cons (t := 10) rfl (.cons (t := 12) rfl (.cons (t := 108) rfl .nil)))))) (.cons (t := 101) rfl (.cons (t := 128) rfl .nil)) ?_
          refine W.cond_f rfl ?_
          refine W.skip ?_
          refine E.inn ?_
          refine E.to ?_
          refine W.region ?_
          refine SL.val (O.move rfl rfl Taken.no) ?_
          refine SL.val (O.det (fun _ => by first | exact G.R.add64 rfl rfl (by omega) | exact G.R.add rfl rfl) rfl Taken.no) ?_
          refine SL.val (O.assign rfl rfl Taken.no) ?_
          refine SL.nil ?_
          refine E.again ((k + 1)) (rn []) ?_ ?_ rfl (fixL_spec rfl) ?_ ?_
          · exact (SubF.cons rfl (SubF.cons rfl (SubF.cons rfl (SubF.cons rfl (SubF.cons rfl SubF.nil)))))
          · exact (SubS.cons rfl (SubS.cons rfl SubS.nil))
          ·try dsimp only
           omega
          · (try dsimp only); omega
        ·skip
         refine W.exit ?_
         refine E.th ?_
         refine E.th ?_
         refine E.hit ?_
         refine E.to ?_
         refine W.seq ?_
         refine W.region ?_
         obtain rfl : c = 256 := by omega
         refine SL.val (O.move rfl rfl Taken.no) ?_
         refine SL.val (O.move rfl rfl Taken.no) ?_
         refine SL.memS (O.call (rn []) [128] rfl rfl rfl (sameTexts_h (a := (wthL s (ofT l).inn)) (b := ordK s (ofT l).inn 256)) (.cons (ArgOk.same rfl) (.cons (ArgOk.own rfl rfl) .nil)) SubS.nil rfl rfl rfl rfl rfl (.inr ⟨rfl, fun x hx => by simp at hx⟩) hcallOk25 (r' := .u _) rfl rfl Taken.no) rfl rfl (S' := _) rfl ?_
         refine SL.as (i' := vB true) 111 rfl (by exact iv_bool (dec_t (ord_all hA))) ?_
         refine SL.val (O.move rfl rfl Taken.no) ?_
         have hg41 : true = true := by decide
         refine SL.val (O.ldN (m := 3) (PtI.ref rfl rfl) (js := [_, _, _]) rfl (Nat.le_of_ble_eq_true rfl) Try.underlying27 rfl (by kernel_rfl) rfl (Taken.yes rfl rfl hg41)) ?_
         refine SL.val (O.move rfl rfl (Taken.yes rfl rfl hg41)) ?_
         refine SL.val (O.callp rfl rfl rfl (Count_h (t := ofT l) (p := s) hb (by omega)) (.cons (ArgOk.aggU (.cons (ArgOk.same rfl) (.cons (ArgOk.same rfl) (.cons (ArgOk.same rfl) .nil)))) (.cons (ArgOk.same rfl) .nil)) hcallOk28 rfl (Taken.yes rfl rfl hg41)) ?_
         refine SL.val (O.move rfl rfl (Taken.yes rfl rfl hg41)) ?_
         refine SL.val (O.lenE (n := (wthL s (ofT l).inn).length) (SlOf.fz rfl (by decide)) (by rw [List.length_map]) Try.underlying22 rfl (Taken.yes rfl rfl hg41)) ?_
         refine SL.val (O.det (fun _ => G.R.mv (G.R.eql rfl rfl) (congrArg Value.bool (decide_eq_true (by rfl)))) rfl (Taken.yes rfl rfl hg41)) ?_
         refine SL.val (O.pick_t rfl rfl rfl rfl Taken.no) ?_
         refine SL.val (O.assign rfl rfl Taken.no) ?_
         refine SL.nil ?_
         refine E.to ?_
         refine W.ret ?_
         refine E.fin (rs := [_]) (rn []) (.inl rfl) rfl (.cons (ResOne.tmp rfl) .nil) ?_ ?_ rfl (fixL_spec rfl)
         ·skip
          rfl
         · exact SubS.nil
     ·skip
      first | have hg30p := G.gA5 hg30 | have hg30p := G.gA6 hg30 | have hg30p := hg30
      refine SL.skip (OpOk.not rfl rfl rfl hg30) ?_
      refine SL.skip (OpOk.not rfl rfl rfl hg30) ?_
      refine SL.skip (OpOk.not rfl rfl rfl hg30) ?_
      refine SL.val (O.pick_f rfl (G.ne_t hg30) rfl rfl (Taken.yes rfl rfl hg29)) ?_
      refine SL.val (O.pick_f rfl rfl rfl rfl Taken.no) ?_
      refine SL.nil ?_
      refine E.to ?_
      refine W.cond_f rfl ?_
      refine W.skip ?_
      refine E.to ?_
      refine W.seq ?_
      refine W.region ?_
      refine SL.val (O.ldN (m := 3) (PtI.ref rfl rfl) (js := [_, _, _]) rfl (Nat.le_of_ble_eq_true rfl) Try.underlying27 rfl (by kernel_rfl) rfl Taken.no) ?_
      refine SL.val (O.move rfl rfl Taken.no) ?_
      refine SL.val (O.callp rfl rfl rfl (With_h (t := ofT l) (p := s) hb (by omega)) (.cons (ArgOk.aggU (.cons (ArgOk.same rfl) (.cons (ArgOk.same rfl) (.cons (ArgOk.same rfl) .nil)))) (.cons (ArgOk.same rfl) .nil)) hcallOk26 rfl Taken.no) ?_
      refine SL.val (O.assign rfl rfl Taken.no) ?_
      refine SL.nil ?_
      refine E.to ?_
      refine W.pick (.cons (t := 1) rfl (.cons (t := 4) rfl (.cons (t := 5) rfl (.cons (t := 9) rfl .nil)))) (.cons (t := 101) rfl .nil) ?_
      refine W.seq ?_
      refine W.region ?_
      refine SL.val (O.assign rfl rfl Taken.no) ?_
      refine SL.nil ?_
      refine E.to ?_
      refine W.seq ?_
      refine W.seq ?_
      refine W.region ?_
      refine SL.val (O.ldN (m := 3) (PtI.ref rfl rfl) (js := [_, _, _]) rfl (Nat.le_of_ble_eq_true rfl) Try.underlying27 rfl (by kernel_rfl) rfl Taken.no) ?_
      refine SL.val (O.move rfl rfl Taken.no) ?_
      refine SL.val (O.callp rfl rfl rfl (has_h (t := ofT l) (s := s) hb (by omega)) (.cons (ArgOk.aggU (.cons (ArgOk.same rfl) (.cons (ArgOk.same rfl) (.cons (ArgOk.same rfl) .nil)))) (.cons (ArgOk.same rfl) .nil)) hcallOk18 rfl Taken.no) ?_
      refine SL.nil ?_
      refine E.to ?_
      first | refine W.cond_d rfl (fun hc42 => ?_) (fun hc42 => ?_) | refine W.cond_nd rfl (fun hc42 => ?_) (fun hc42 => ?_) | refine W.cond rfl (fun hc42 => ?_) (fun hc42 => ?_)
      ·skip
       refine W.region ?_
       refine SL.val (O.move rfl rfl Taken.no) ?_
       refine SL.val (O.move rfl rfl Taken.no) ?_
       refine SL.memS (O.buildSlice 132 rfl rfl Try.underlying22 hi9 hz9 hs9 (by decide) rfl (by decide) rfl rfl rfl Taken.no) rfl rfl (S' := (132, _) :: _) rfl ?_
       refine SL.adopt 62 134 9 1 (by decide) rfl rfl rfl ?_
       refine SL.memS (O.app (k' := 133) rfl rfl (SlOf.own rfl rfl) Try.underlying22 hi9 hz9 hs9 rfl rfl (by first | exact map_snoc rfl | exact app_map | exact List.nil_append _ | rfl) (by rw [hb9]; first | omega | (simp only [List.length_map]; omega) | (simp <;> omega)) (by first | omega | (simp only [List.length_map]; omega) | (simp <;> omega)) rfl Taken.no) rfl rfl (S' := (133, _) :: (134, .dead) :: _) rfl ?_
       refine SL.val (O.assign rfl rfl Taken.no) ?_
       refine SL.nil ?_
       refine E.to ?_
       refine W.seq ?_
       refine W.seq ?_
       refine W.region ?_
       refine SL.val (O.assign rfl rfl Taken.no) ?_
       refine SL.nil ?_
       refine E.to ?_
       refine W.block ?_
       refine W.loopx1 (fun (c : Nat) => [(11, vI (c : Int)), (10, .own 135)]) (fun (c : Nat) => [(135, .data 9 1 ((ordK s (ofT l).inn c).map eStr))]) (fun (c : Nat) => c ≤ 256) (fun (c : Nat) => 256 - c) (0) (rn [(135, 133)]) (.cons (t := 1) rfl (.cons (t := 4) rfl (.cons (t := 5) rfl (.cons (t := 9) rfl .nil)))) (.cons (t := 101) rfl (.cons (t := 132) rfl .nil)) rfl ?_ ?_ rfl rfl ?_ ?_
       · exact (SubF.cons rfl (SubF.cons rfl SubF.nil))
       · exact (SubS.val rfl (by first | exact sb_data (by rw [ordK, if_pos (by assumption)]; rfl) | exact sb_data (by rw [ordK, if_neg (by assumption)]; rfl)) SubS.nil)
       ·skip
        omega
       intro c hinv
       have hc := hinv
       have hol := ordK_len s (ofT l).inn c
       have hol2 : c * (ofT l).inn.length ≤ 256 * 1000 := Nat.mul_le_mul hc hin
       refine W.seq ?_
       refine W.seq ?_
       refine W.region ?_
       refine SL.val (O.move rfl rfl Taken.no) ?_
       refine SL.val (O.det (fun _ => G.R.lss rfl rfl) rfl Taken.no) ?_
       refine SL.nil ?_
       refine E.to ?_
       first | refine W.cond_d rfl (fun hc43 => ?_) (fun hc43 => ?_) | refine W.cond_nd rfl (fun hc43 => ?_) (fun hc43 => ?_) | refine W.cond rfl (fun hc43 => ?_) (fun hc43 => ?_)
       ·skip
        refine W.skip ?_
        refine E.to ?_
        refine W.seq ?_
        refine W.block ?_
        refine W.region ?_
        refine SL.val (O.move rfl rfl Taken.no) ?_
        refine SL.val (O.ldN (m := 3) (PtI.ref rfl rfl) (js := [_, _, _]) rfl (Nat.le_of_ble_eq_true rfl) Try.underlying27 rfl (by kernel_rfl) rfl Taken.no) ?_
        refine SL.val (O.move rfl rfl Taken.no) ?_
        refine SL.val (O.move rfl rfl Taken.no) ?_
        refine SL.val (O.det (fun _ => by first | exact G.R.conv8 rfl Try.underlying3 Try.underlying5 (by omega) | exact G.R.conv rfl Try.underlying3 Try.underlying5) rfl Taken.no) ?_
        refine SL.memS (O.buildSlice 136 (rows := ([UInt8.ofNat c] : List UInt8).map eB) rfl rfl Try.underlying55 hi5 hz5 hs5 (by decide) rfl (by decide) rfl (by show _ = [[_]]; rw [UInt8.toNat_ofNat', Nat.mod_eq_of_lt (by omega)]; rfl) rfl Taken.no) rfl rfl (S' := (136, .data 5 1 (([UInt8.ofNat c] : List UInt8).map eB)) :: _) rfl ?_
        refine SL.val (O.b2s (l := [UInt8.ofNat c]) (SlOf.own rfl rfl) Try.underlying55 Try.underlying5 Try.underlying9 rfl Taken.no) ?_
        refine SL.val (O.det (fun _ => G.R.strcatL rfl rfl (by rw [List.length_singleton]; omega)) rfl Taken.no) ?_
        refine SL.val (O.callp rfl rfl rfl (With_h (t := ofT l) (p := s ++ [UInt8.ofNat c]) hb (by rw [List.length_append, List.length_singleton]; omega)) (.cons (ArgOk.aggU (.cons (ArgOk.same rfl) (.cons (ArgOk.same rfl) (.cons (ArgOk.same rfl) .nil)))) (.cons (ArgOk.same rfl) .nil)) hcallOk26 rfl Taken.no) ?_
        refine SL.memS (O.app (k' := 137) rfl rfl (SlOf.fz rfl (by decide)) Try.underlying22 hi9 hz9 hs9 rfl rfl (by exact app_map) (by rw [hb9]; (have hwl := wthL_len (s ++ [UInt8.ofNat c]) (ofT l).inn; simp only [List.length_map]; omega)) (by (have hwl := wthL_len (s ++ [UInt8.ofNat c]) (ofT l).inn; simp only [List.length_map]; omega)) rfl Taken.no) rfl rfl (S' := (137, _) :: (135, .dead) :: _) rfl ?_
        refine SL.val (O.assign rfl rfl Taken.no) ?_
        refine SL.nil ?_
        refine E.inn ?_
        refine E.to ?_
        refine W.region ?_
        refine SL.val (O.move rfl rfl Taken.no) ?_
        refine SL.val (O.det (fun _ => by first | exact G.R.add64 rfl rfl (by omega) | exact G.R.add rfl rfl) rfl Taken.no) ?_
        refine SL.val (O.assign rfl rfl Taken.no) ?_
        refine SL.nil ?_
        refine E.again ((c + 1)) (rn [(135, 137)]) ?_ ?_ rfl (fixL_spec rfl) ?_ ?_
        · exact (SubF.cons rfl (SubF.cons rfl (SubF.cons rfl (SubF.cons rfl (SubF.cons rfl (SubF.cons rfl SubF.nil))))))
        · exact (SubS.val rfl (by (try dsimp only); exact sb_data (by rw [ordK])) (SubS.cons rfl (SubS.cons rfl SubS.nil)))
        ·try dsimp only
         omega
        · (try dsimp only); omega
       ·skip
        refine W.exit ?_
        refine E.th ?_
        refine E.th ?_
        refine E.hit ?_
        refine E.to ?_
        refine W.seq ?_
        refine W.seq ?_
        refine W.region ?_
        refine SL.val (O.assign rfl rfl Taken.no) ?_
        refine SL.nil ?_
        refine E.to ?_
        refine W.block ?_
        refine W.loopx1 (fun (k : Nat) => [(12, vI (k : Int))]) (fun (k : Nat) => []) (fun (k : Nat) => k ≤ (wthL s (ofT l).inn).length) (fun (k : Nat) => (wthL s (ofT l).inn).length - k) (0) (rn []) (.cons (t := 1) rfl (.cons (t := 5) rfl (.cons (t := 9) rfl (.cons (t := 10) rfl .nil)))) (.cons (t := 101) rfl (.cons (t := 132) rfl (.cons (t := 135) rfl .nil))) rfl ?_ ?_ rfl rfl ?_ ?_
        · exact (SubF.cons rfl SubF.nil)
        · exact SubS.nil
        ·skip
         omega
        intro k hinv
        have hk := hinv
        have hwl := wthL_len s (ofT l).inn
        refine W.seq ?_
        refine W.seq ?_
        refine W.region ?_
        refine SL.val (O.move rfl rfl Taken.no) ?_
        refine SL.val (O.move rfl rfl Taken.no) ?_
        refine SL.val (O.lenE (SlOf.fz rfl (by decide)) (by first | exact List.length_map _ | rfl) Try.underlying22 rfl Taken.no) ?_
        refine SL.val (O.det (fun _ => G.R.lss rfl rfl) rfl Taken.no) ?_
        refine SL.nil ?_
        refine E.to ?_
        first | refine W.cond_d rfl (fun hc44 => ?_) (fun hc44 => ?_) | refine W.cond_nd rfl (fun hc44 => ?_) (fun hc44 => ?_) | refine W.cond rfl (fun hc44 => ?_) (fun hc44 => ?_)
        ·skip
         have hk2 : k < (wthL s (ofT l).inn).length := by omega
         refine W.skip ?_
         refine E.to ?_
         refine W.seq ?_
         refine W.block ?_
         refine W.seq ?_
         refine W.draw [⟨[], [], []⟩, ⟨[], [], []⟩, ⟨[], [], []⟩, ⟨[], [], []⟩, ⟨[], [], []⟩, ⟨[], [], []⟩, ⟨[], [], []⟩, ⟨[], [], []⟩, ⟨[], [], []⟩, ⟨[], [], []⟩, ⟨[], [], []⟩, ⟨[], [], []⟩, ⟨[], [], []⟩, ⟨[], [], []⟩, ⟨[], [], []⟩, ⟨[], [], []⟩, ⟨[], [], []⟩, ⟨[], [], []⟩, ⟨[], [], []⟩, ⟨[], [], []⟩, ⟨[], [], []⟩, ⟨[], [], []⟩, ⟨[], [], []⟩] rfl (by kernel_rfl) (by kernel_rfl) rfl rfl ?_
         refine WH.val (O.move rfl rfl Taken.no) rfl rfl ?_
         refine WH.val (O.move rfl rfl Taken.no) rfl rfl ?_
         refine WH.val (O.idx_fz rfl rfl (rfl) (row_get (by omega)) Try.underlying22 hi9 hs9 rfl Taken.no) rfl rfl ?_
         refine WH.val (O.ld1 (PtI.ofU (PtU.fz rfl)) rfl Try.underlying9 rfl rfl Taken.no) rfl rfl ?_
         refine WH.val (O.move rfl rfl Taken.no) rfl rfl ?_
         refine WH.val (OpOk.re (i' := vB true) (O.callp rfl rfl rfl (begins_h (s := (wthL s (ofT l).inn)[k]!) (p := s)) (.cons (ArgOk.same rfl) (.cons (ArgOk.same rfl) .nil)) hcallOk19 rfl Taken.no) (by exact iv_bool (dec_t (wth_at hk2)))) rfl rfl ?_
         refine WH.val (O.det (fun _ => G.R.mv (G.R.not rfl) rfl) rfl Taken.no) rfl rfl ?_
         refine WH.val (O.move rfl rfl Taken.no) rfl rfl ?_
         have hg45 : false = false := by decide
         refine WH.val (O.move rfl rfl (Taken.yes rfl rfl hg45)) rfl rfl ?_
         refine WH.val (O.det (fun _ => G.R.gtr rfl rfl) rfl (Taken.yes rfl rfl hg45)) rfl rfl ?_
         refine WH.val (O.move rfl rfl (Taken.yes rfl rfl hg45)) rfl rfl ?_
         refine WH.case (j := 10) (g := 96) (want := true) rfl rfl (fun hg46 => ?_) (fun hg46 => ?_)
         ·skip
          first | have hg46p := G.gA1 hg46 | have hg46p := G.gA2 hg46 | have hg46p := hg46
          refine WH.val (O.move rfl rfl (Taken.yes rfl rfl hg46)) rfl rfl ?_
          refine WH.val (O.move rfl rfl (Taken.yes rfl rfl hg46)) rfl rfl ?_
          refine WH.val (O.det (fun _ => by first | exact G.R.sub64 rfl rfl (by omega) | exact G.R.sub rfl rfl) rfl (Taken.yes rfl rfl hg46)) rfl rfl ?_
          refine WH.val (O.idx_fz (i := (k - 1)) rfl rfl (by omega) (row_get (by omega)) Try.underlying22 hi9 hs9 rfl (Taken.yes rfl rfl hg46)) rfl rfl ?_
          refine WH.val (O.ld1 (PtI.ofU (PtU.fz rfl)) rfl Try.underlying9 rfl rfl (Taken.yes rfl rfl hg46)) rfl rfl ?_
          refine WH.val (O.move rfl rfl (Taken.yes rfl rfl hg46)) rfl rfl ?_
          refine WH.val (O.move rfl rfl (Taken.yes rfl rfl hg46)) rfl rfl ?_
          refine WH.val (O.idx_fz rfl rfl (rfl) (row_get (by omega)) Try.underlying22 hi9 hs9 rfl (Taken.yes rfl rfl hg46)) rfl rfl ?_
          refine WH.val (O.ld1 (PtI.ofU (PtU.fz rfl)) rfl Try.underlying9 rfl rfl (Taken.yes rfl rfl hg46)) rfl rfl ?_
          refine WH.val (O.det (fun _ => G.R.mv (G.R.strgeL rfl rfl) (congrArg Value.bool (by rw [wth_asc hA (by omega) hk2]))) rfl (Taken.yes rfl rfl hg46)) rfl rfl ?_
          refine WH.val (O.pick_t rfl hg46 rfl rfl (Taken.yes rfl rfl hg45)) rfl rfl ?_
          refine WH.val (O.pick_f rfl rfl rfl rfl Taken.no) rfl rfl ?_
          refine WH.nil ?_
          refine E.to ?_
          refine W.pick (.cons (t := 1) rfl (.cons (t := 5) rfl (.cons (t := 9) rfl (.cons (t := 10) rfl (.cons (t := 12) rfl (.cons (t := 108) rfl .nil)))))) (.cons (t := 101) rfl (.cons (t := 132) rfl (.cons (t := 135) rfl .nil))) ?_
          refine W.cond_f rfl ?_
          refine W.skip ?_
          refine E.inn ?_
          refine E.to ?_
          refine W.region ?_
          refine SL.val (O.move rfl rfl Taken.no) ?_
          refine SL.val (O.det (fun _ => by first | exact G.R.add64 rfl rfl (by omega) | exact G.R.add rfl rfl) rfl Taken.no) ?_
          refine SL.val (O.assign rfl rfl Taken.no) ?_
          refine SL.nil ?_
          refine E.again ((k + 1)) (rn []) ?_ ?_ rfl (fixL_spec rfl) ?_ ?_
          · exact (SubF.cons rfl (SubF.cons rfl (SubF.cons rfl (SubF.cons rfl (SubF.cons rfl SubF.nil)))))
          · exact (SubS.cons rfl (SubS.cons rfl (SubS.cons rfl SubS.nil)))
          ·try dsimp only
           omega
          · (try dsimp only); omega
         ·skip
          first | have hg46p := G.gA5 hg46 | have hg46p := G.gA6 hg46 | have hg46p := hg46
          refine WH.skip (OpOk.not rfl rfl rfl hg46) ?_
          refine WH.skip (OpOk.not rfl rfl rfl hg46) ?_
          refine WH.skip (OpOk.not rfl rfl rfl hg46) ?_
          refine WH.skip (OpOk.not rfl rfl rfl hg46) ?_
          refine WH.skip (OpOk.not rfl rfl rfl hg46) ?_
          refine WH.skip (OpOk.not rfl rfl rfl hg46) ?_
          refine WH.skip (OpOk.not rfl rfl rfl hg46) ?_
          refine WH.skip (OpOk.not rfl rfl rfl hg46) ?_
          refine WH.skip (OpOk.not rfl rfl rfl hg46) ?_
          refine WH.skip (OpOk.not rfl rfl rfl hg46) ?_
          refine WH.val (O.pick_f rfl (G.ne_t hg46) rfl rfl (Taken.yes rfl rfl hg45)) rfl rfl ?_
          refine WH.val (O.pick_f rfl rfl rfl rfl Taken.no) rfl rfl ?_
          refine WH.nil ?_
          refine E.to ?_
          refine W.pick (.cons (t := 1) rfl (.cons (t := 5) rfl (.cons (t := 9) rfl (.cons (t := 10) rfl (.cons (t := 12) rfl (.cons (t := 108) rfl .nil)))))) (.cons (t := 101) rfl (.cons (t := 132) rfl (.cons (t := 135) rfl .nil))) ?_
          refine W.cond_f rfl ?_
          refine W.skip ?_
          refine E.inn ?_
          refine E.to ?_
          refine W.region ?_
          refine SL.val (O.move rfl rfl Taken.no) ?_
          refine SL.val (O.det (fun _ => by first | exact G.R.add64 rfl rfl (by omega) | exact G.R.add rfl rfl) rfl Taken.no) ?_
          refine SL.val (O.assign rfl rfl Taken.no) ?_
          refine SL.nil ?_
          refine E.again ((k + 1)) (rn []) ?_ ?_ rfl (fixL_spec rfl) ?_ ?_
          · exact (SubF.cons rfl (SubF.cons rfl (SubF.cons rfl (SubF.cons rfl (SubF.cons rfl SubF.nil)))))
          · exact (SubS.cons rfl (SubS.cons rfl (SubS.cons rfl SubS.nil)))
          ·try dsimp only
           omega
          · (try dsimp only); omega
        ·skip
         refine W.exit ?_
         refine E.th ?_
         refine E.th ?_
         refine E.hit ?_
         refine E.to ?_
         refine W.seq ?_
         refine W.region ?_
         obtain rfl : c = 256 := by omega
         refine SL.val (O.move rfl rfl Taken.no) ?_
         refine SL.val (O.move rfl rfl Taken.no) ?_
         refine SL.memS (O.call (rn []) [135] rfl rfl rfl (sameTexts_h (a := (wthL s (ofT l).inn)) (b := ordK s (ofT l).inn 256)) (.cons (ArgOk.same rfl) (.cons (ArgOk.own rfl rfl) .nil)) SubS.nil rfl rfl rfl rfl rfl (.inr ⟨rfl, fun x hx => by simp at hx⟩) hcallOk25 (r' := .u _) rfl rfl Taken.no) rfl rfl (S' := _) rfl ?_
         refine SL.as (i' := vB true) 111 rfl (by exact iv_bool (dec_t (ord_all hA))) ?_
         refine SL.val (O.move rfl rfl Taken.no) ?_
         have hg47 : true = true := by decide
         refine SL.val (O.ldN (m := 3) (PtI.ref rfl rfl) (js := [_, _, _]) rfl (Nat.le_of_ble_eq_true rfl) Try.underlying27 rfl (by kernel_rfl) rfl (Taken.yes rfl rfl hg47)) ?_
         refine SL.val (O.move rfl rfl (Taken.yes rfl rfl hg47)) ?_
         refine SL.val (O.callp rfl rfl rfl (Count_h (t := ofT l) (p := s) hb (by omega)) (.cons (ArgOk.aggU (.cons (ArgOk.same rfl) (.cons (ArgOk.same rfl) (.cons (ArgOk.same rfl) .nil)))) (.cons (ArgOk.same rfl) .nil)) hcallOk28 rfl (Taken.yes rfl rfl hg47)) ?_
         refine SL.val (O.move rfl rfl (Taken.yes rfl rfl hg47)) ?_
         refine SL.val (O.lenE (n := (wthL s (ofT l).inn).length) (SlOf.fz rfl (by decide)) (by rw [List.length_map]) Try.underlying22 rfl (Taken.yes rfl rfl hg47)) ?_
         refine SL.val (O.det (fun _ => G.R.mv (G.R.eql rfl rfl) (congrArg Value.bool (decide_eq_true (by rfl)))) rfl (Taken.yes rfl rfl hg47)) ?_
         refine SL.val (O.pick_t rfl rfl rfl rfl Taken.no) ?_
         refine SL.val (O.assign rfl rfl Taken.no) ?_
         refine SL.nil ?_
         refine E.to ?_
         refine W.ret ?_
         refine E.fin (rs := [_]) (rn []) (.inl rfl) rfl (.cons (ResOne.tmp rfl) .nil) ?_ ?_ rfl (fixL_spec rfl)
         ·skip
          rfl
         · exact SubS.nil
      ·skip
       refine W.skip ?_
       refine E.to ?_
       refine W.seq ?_
       refine W.seq ?_
       refine W.region ?_
       refine SL.val (O.assign rfl rfl Taken.no) ?_
       refine SL.nil ?_
       refine E.to ?_
       refine W.block ?_
       refine W.adopt 10 139 9 1 (by decide) rfl rfl rfl ?_
       refine W.loopx1 (fun (c : Nat) => [(11, vI (c : Int)), (10, .own 138)]) (fun (c : Nat) => [(138, .data 9 1 ((ordK s (ofT l).inn c).map eStr))]) (fun (c : Nat) => c ≤ 256) (fun (c : Nat) => 256 - c) (0) (rn [(138, 139)]) (.cons (t := 1) rfl (.cons (t := 4) rfl (.cons (t := 5) rfl (.cons (t := 9) rfl .nil)))) (.cons (t := 101) rfl .nil) rfl ?_ ?_ rfl rfl ?_ ?_
       · exact (SubF.cons rfl (SubF.cons rfl SubF.nil))
       · exact (SubS.val rfl (by first | exact sb_data (by rw [ordK, if_pos (by assumption)]; rfl) | exact sb_data (by rw [ordK, if_neg (by assumption)]; rfl)) SubS.nil)
       ·skip
        omega
       intro c hinv
       have hc := hinv
       have hol := ordK_len s (ofT l).inn c
       have hol2 : c * (ofT l).inn.length ≤ 256 * 1000 := Nat.mul_le_mul hc hin
       refine W.seq ?_
       refine W.seq ?_
       refine W.region ?_
       refine SL.val (O.move rfl rfl Taken.no) ?_
       refine SL.val (O.det (fun _ => G.R.lss rfl rfl) rfl Taken.no) ?_
       refine SL.nil ?_
       refine E.to ?_
       first | refine W.cond_d rfl (fun hc48 => ?_) (fun hc48 => ?_) | refine W.cond_nd rfl (fun hc48 => ?_) (fun hc48 => ?_) | refine W.cond rfl (fun hc48 => ?_) (fun hc48 => ?_)
       ·skip
        refine W.skip ?_
        refine E.to ?_
        refine W.seq ?_
        refine W.block ?_
        refine W.region ?_
        refine SL.val (O.move rfl rfl Taken.no) ?_
        refine SL.val (O.ldN (m := 3) (PtI.ref rfl rfl) (js := [_, _, _]) rfl (Nat.le_of_ble_eq_true rfl) Try.underlying27 rfl (by kernel_rfl) rfl Taken.no) ?_
        refine SL.val (O.move rfl rfl Taken.no) ?_
        refine SL.val (O.move rfl rfl Taken.no) ?_
        refine SL.val (O.det (fun _ => by first | exact G.R.conv8 rfl Try.underlying3 Try.underlying5 (by omega) | exact G.R.conv rfl Try.underlying3 Try.underlying5) rfl Taken.no) ?_
        refine SL.memS (O.buildSlice 140 (rows := ([UInt8.ofNat c] : List UInt8).map eB) rfl rfl Try.underlying55 hi5 hz5 hs5 (by decide) rfl (by decide) rfl (by show _ = [[_]]; rw [UInt8.toNat_ofNat', Nat.mod_eq_of_lt (by omega)]; rfl) rfl Taken.no) rfl rfl (S' := (140, .data 5 1 (([UInt8.ofNat c] : List UInt8).map eB)) :: _) rfl ?_
        refine SL.val (O.b2s (l := [UInt8.ofNat c]) (SlOf.own rfl rfl) Try.underlying55 Try.underlying5 Try.underlying9 rfl Taken.no) ?_
        refine SL.val (O.det (fun _ => G.R.strcatL rfl rfl (by rw [List.length_singleton]; omega)) rfl Taken.no) ?_
        refine SL.val (O.callp rfl rfl rfl (With_h (t := ofT l) (p := s ++ [UInt8.ofNat c]) hb (by rw [List.length_append, List.length_singleton]; omega)) (.cons (ArgOk.aggU (.cons (ArgOk.same rfl) (.cons (ArgOk.same rfl) (.cons (ArgOk.same rfl) .nil)))) (.cons (ArgOk.same rfl) .nil)) hcallOk26 rfl Taken.no) ?_
        refine SL.memS (O.app (k' := 141) rfl rfl (SlOf.fz rfl (by decide)) Try.underlying22 hi9 hz9 hs9 rfl rfl (by exact app_map) (by rw [hb9]; (have hwl := wthL_len (s ++ [UInt8.ofNat c]) (ofT l).inn; simp only [List.length_map]; omega)) (by (have hwl := wthL_len (s ++ [UInt8.ofNat c]) (ofT l).inn; simp only [List.length_map]; omega)) rfl Taken.no) rfl rfl (S' := (141, _) :: (138, .dead) :: _) rfl ?_
        refine SL.val (O.assign rfl rfl Taken.no) ?_
        refine SL.nil ?_
        refine E.inn ?_
        refine E.to ?_
        refine W.region ?_
        refine SL.val (O.move rfl rfl Taken.no) ?_
        refine SL.val (O.det (fun _ => by first | exact G.R.add64 rfl rfl (by omega) | exact G.R.add rfl rfl) rfl Taken.no) ?_
        refine SL.val (O.assign rfl rfl Taken.no) ?_
        refine SL.nil ?_
        refine E.again ((c + 1)) (rn [(138, 141)]) ?_ ?_ rfl (fixL_spec rfl) ?_ ?_
        · exact (SubF.cons rfl (SubF.cons rfl (SubF.cons rfl (SubF.cons rfl (SubF.cons rfl (SubF.cons rfl SubF.nil))))))
        · exact (SubS.val rfl (by (try dsimp only); exact sb_data (by rw [ordK])) (SubS.cons rfl SubS.nil))
        ·try dsimp only
         omega
        · (try dsimp only); omega
       ·skip
        refine W.exit ?_
        refine E.th ?_
        refine E.th ?_
        refine E.hit ?_
        refine E.to ?_
        refine W.seq ?_
        refine W.seq ?_
        refine W.region ?_
        refine SL.val (O.assign rfl rfl Taken.no) ?_
        refine SL.nil ?_
        refine E.to ?_
        refine W.block ?_
        refine W.loopx1 (fun (k : Nat) => [(12, vI (k : Int))]) (fun (k : Nat) => []) (fun (k : Nat) => k ≤ (wthL s (ofT l).inn).length) (fun (k : Nat) => (wthL s (ofT l).inn).length - k) (0) (rn []) (.cons (t := 1) rfl (.cons (t := 5) rfl (.cons (t := 9) rfl (.cons (t := 10) rfl .nil)))) (.cons (t := 101) rfl (.cons (t := 138) rfl .nil)) rfl ?_ ?_ rfl rfl ?_ ?_
        · exact (SubF.cons rfl SubF.nil)
        · exact SubS.nil
        ·skip
         omega
        intro k hinv
        have hk := hinv
        have hwl := wthL_len s (ofT l).inn
        refine W.seq ?_
        refine W.seq ?_
        refine W.region ?_
        refine SL.val (O.move rfl rfl Taken.no) ?_
        refine SL.val (O.move rfl rfl Taken.no) ?_
        refine SL.val (O.lenE (SlOf.fz rfl (by decide)) (by first | exact List.length_map _ | rfl) Try.underlying22 rfl Taken.no) ?_
        refine SL.val (O.det (fun _ => G.R.lss rfl rfl) rfl Taken.no) ?_
        refine SL.nil ?_
        refine E.to ?_
        first | refine W.cond_d rfl (fun hc49 => ?_) (fun hc49 => ?_) | refine W.cond_nd rfl (fun hc49 => ?_) (fun hc49 => ?_) | refine W.cond rfl (fun hc49 => ?_) (fun hc49 => ?_)
        ·skip
         have hk2 : k < (wthL s (ofT l).inn).length := by omega
         refine W.skip ?_
         refine E.to ?_
         refine W.seq ?_
         refine W.block ?_
         refine W.seq ?_
         refine W.draw [⟨[], [], []⟩, ⟨[], [], []⟩, ⟨[], [], []⟩, ⟨[], [], []⟩, ⟨[], [], []⟩, ⟨[], [], []⟩, ⟨[], [], []⟩, ⟨[], [], []⟩, ⟨[], [], []⟩, ⟨[], [], []⟩, ⟨[], [], []⟩, ⟨[], [], []⟩, ⟨[], [], []⟩, ⟨[], [], []⟩, ⟨[], [], []⟩, ⟨[], [], []⟩, ⟨[], [], []⟩, ⟨[], [], []⟩, ⟨[], [], []⟩, ⟨[], [], []⟩, ⟨[], [], []⟩, ⟨[], [], []⟩, ⟨[], [], []⟩] rfl (by kernel_rfl) (by kernel_rfl) rfl rfl ?_
         refine WH.val (O.move rfl rfl Taken.no) rfl rfl ?_
         refine WH.val (O.move rfl rfl Taken.no) rfl rfl ?_
         refine WH.val (O.idx_fz rfl rfl (rfl) (row_get (by omega)) Try.underlying22 hi9 hs9 rfl Taken.no) rfl rfl ?_
         refine WH.val (O.ld1 (PtI.ofU (PtU.fz rfl)) rfl Try.underlying9 rfl rfl Taken.no) rfl rfl ?_
         refine WH.val (O.move rfl rfl Taken.no) rfl rfl ?_
         refine WH.val (OpOk.re (i' := vB true) (O.callp rfl rfl rfl (begins_h (s := (wthL s (ofT l).inn)[k]!) (p := s)) (.cons (ArgOk.same rfl) (.cons (ArgOk.same rfl) .nil)) hcallOk19 rfl Taken.no) (by exact iv_bool (dec_t (wth_at hk2)))) rfl rfl ?_
         refine WH.val (O.det (fun _ => G.R.mv (G.R.not rfl) rfl) rfl Taken.no) rfl rfl ?_
         refine WH.val (O.move rfl rfl Taken.no) rfl rfl ?_
         have hg50 : false = false := by decide
         refine WH.val (O.move rfl rfl (Taken.yes rfl rfl hg50)) rfl rfl ?_
         refine WH.val (O.det (fun _ => G.R.gtr rfl rfl) rfl (Taken.yes rfl rfl hg50)) rfl rfl ?_
         refine WH.val (O.move rfl rfl (Taken.yes rfl rfl hg50)) rfl rfl ?_
         refine WH.case (j := 10) (g := 96) (want := true) rfl rfl (fun hg51 => ?_) (fun hg51 => ?_)
         ·skip
          first | have hg51p := G.gA1 hg51 | have hg51p := G.gA2 hg51 | have hg51p := hg51
          refine WH.val (O.move rfl rfl (Taken.yes rfl rfl hg51)) rfl rfl ?_
          refine WH.val (O.move rfl rfl (Taken.yes rfl rfl hg51)) rfl rfl ?_
          refine WH.val (O.det (fun _ => by first | exact G.R.sub64 rfl rfl (by omega) | exact G.R.sub rfl rfl) rfl (Taken.yes rfl rfl hg51)) rfl rfl ?_
          refine WH.val (O.idx_fz (i := (k - 1)) rfl rfl (by omega) (row_get (by omega)) Try.underlying22 hi9 hs9 rfl (Taken.yes rfl rfl hg51)) rfl rfl ?_
          refine WH.val (O.ld1 (PtI.ofU (PtU.fz rfl)) rfl Try.underlying9 rfl rfl (Taken.yes rfl rfl hg51)) rfl rfl ?_
          refine WH.val (O.move rfl rfl (Taken.yes rfl rfl hg51)) rfl rfl ?_
          refine WH.val (O.move rfl rfl (Taken.yes rfl rfl hg51)) rfl rfl ?_
          refine WH.val (O.idx_fz rfl rfl (rfl) (row_get (by omega)) Try.underlying22 hi9 hs9 rfl (Taken.yes rfl rfl hg51)) rfl rfl ?_
          refine WH.val (O.ld1 (PtI.ofU (PtU.fz rfl)) rfl Try.underlying9 rfl rfl (Taken.yes rfl rfl hg51)) rfl rfl ?_
          refine WH.val (O.det (fun _ => G.R.mv (G.R.strgeL rfl rfl) (congrArg Value.bool (by rw [wth_asc hA (by omega) hk2]))) rfl (Taken.yes rfl rfl hg51)) rfl rfl ?_
          refine WH.val (O.pick_t rfl hg51 rfl rfl (Taken.yes rfl rfl hg50)) rfl rfl ?_
          refine WH.val (O.pick_f rfl rfl rfl rfl Taken.no) rfl rfl ?_
          refine WH.nil ?_
          refine E.to ?_
          refine W.pick (.cons (t := 1) rfl (.cons (t := 5) rfl (.cons (t := 9) rfl (.cons (t := 10) rfl (.cons (t := 12) rfl (.cons (t := 108) rfl .nil)))))) (.cons (t := 101) rfl (.cons (t := 138) rfl .nil)) ?_
          refine W.cond_f rfl ?_
          refine W.skip ?_
          refine E.inn ?_
          refine E.to ?_
          refine W.region ?_
          refine SL.val (O.move rfl rfl Taken.no) ?_
          refine SL.val (O.det (fun _ => by first | exact G.R.add64 rfl rfl (by omega) | exact G.R.add rfl rfl) rfl Taken.no) ?_
          refine SL.val (O.assign rfl rfl Taken.no) ?_
          refine SL.nil ?_
          refine E.again ((k + 1)) (rn []) ?_ ?_ rfl (fixL_spec rfl) ?_ ?_
          · exact (SubF.cons rfl (SubF.cons rfl (SubF.cons rfl (SubF.cons rfl (SubF.cons rfl SubF.nil)))))
          · exact (SubS.cons rfl (SubS.cons rfl SubS.nil))
          ·try dsimp only
           omega
          · (try dsimp only); omega
         ·skip
          first | have hg51p := G.gA5 hg51 | have hg51p := G.gA6 hg51 | have hg51p := hg51
          refine WH.skip (OpOk.not rfl rfl rfl hg51) ?_
          refine WH.skip (OpOk.not rfl rfl rfl hg51) ?_
          refine WH.skip (OpOk.not rfl rfl rfl hg51) ?_
          refine WH.skip (OpOk.not rfl rfl rfl hg51) ?_
          refine WH.skip (OpOk.not rfl rfl rfl hg51) ?_
          refine WH.skip (OpOk.not rfl rfl rfl hg51) ?_
          refine WH.skip (OpOk.not rfl rfl rfl hg51) ?_
          refine WH.skip (OpOk.not rfl rfl rfl hg51) ?_
          refine WH.skip (OpOk.not rfl rfl rfl hg51) ?_
          refine WH.skip (OpOk.not rfl rfl rfl hg51) ?_
          refine WH.val (O.pick_f rfl (G.ne_t hg51) rfl rfl (Taken.yes rfl rfl hg50)) rfl rfl ?_
          refine WH.val (O.pick_f rfl rfl rfl rfl Taken.no) rfl rfl ?_
          refine WH.nil ?_
          refine E.to ?_
          refine W.pick (.cons (t := 1) rfl (.cons (t := 5) rfl (.cons (t := 9) rfl (.cons (t := 10) rfl (.cons (t := 12) rfl (.cons (t := 108) rfl .nil)))))) (.cons (t := 101) rfl (.cons (t := 138) rfl .nil)) ?_
          refine W.cond_f rfl ?_
          refine W.skip ?_
          refine E.inn ?_
          refine E.to ?_
          refine W.region ?_
          refine SL.val (O.move rfl rfl Taken.no) ?_
          refine SL.val (O.det (fun _ => by first | exact G.R.add64 rfl rfl (by omega) | exact G.R.add rfl rfl) rfl Taken.no) ?_
          refine SL.val (O.assign rfl rfl Taken.no) ?_
          refine SL.nil ?_
          refine E.again ((k + 1)) (rn []) ?_ ?_ rfl (fixL_spec rfl) ?_ ?_
          · exact (SubF.cons rfl (SubF.cons rfl (SubF.cons rfl (SubF.cons rfl (SubF.cons rfl SubF.nil)))))
          · exact (SubS.cons rfl (SubS.cons rfl SubS.nil))
          ·try dsimp only
           omega
          · (try dsimp only); omega
        ·skip
         refine W.exit ?_
         refine E.th ?_
         refine E.th ?_
         refine E.hit ?_
         refine E.to ?_
         refine W.seq ?_
         refine W.region ?_
         obtain rfl : c = 256 := by omega
         refine SL.val (O.move rfl rfl Taken.no) ?_
         refine SL.val (O.move rfl rfl Taken.no) ?_
         refine SL.memS (O.call (rn []) [138] rfl rfl rfl (sameTexts_h (a := (wthL s (ofT l).inn)) (b := ordK s (ofT l).inn 256)) (.cons (ArgOk.same rfl) (.cons (ArgOk.own rfl rfl) .nil)) SubS.nil rfl rfl rfl rfl rfl (.inr ⟨rfl, fun x hx => by simp at hx⟩) hcallOk25 (r' := .u _) rfl rfl Taken.no) rfl rfl (S' := _) rfl ?_
         refine SL.as (i' := vB true) 111 rfl (by exact iv_bool (dec_t (ord_all hA))) ?_
         refine SL.val (O.move rfl rfl Taken.no) ?_
         have hg52 : true = true := by decide
         refine SL.val (O.ldN (m := 3) (PtI.ref rfl rfl) (js := [_, _, _]) rfl (Nat.le_of_ble_eq_true rfl) Try.underlying27 rfl (by kernel_rfl) rfl (Taken.yes rfl rfl hg52)) ?_
         refine SL.val (O.move rfl rfl (Taken.yes rfl rfl hg52)) ?_
         refine SL.val (O.callp rfl rfl rfl (Count_h (t := ofT l) (p := s) hb (by omega)) (.cons (ArgOk.aggU (.cons (ArgOk.same rfl) (.cons (ArgOk.same rfl) (.cons (ArgOk.same rfl) .nil)))) (.cons (ArgOk.same rfl) .nil)) hcallOk28 rfl (Taken.yes rfl rfl hg52)) ?_
         refine SL.val (O.move rfl rfl (Taken.yes rfl rfl hg52)) ?_
         refine SL.val (O.lenE (n := (wthL s (ofT l).inn).length) (SlOf.fz rfl (by decide)) (by rw [List.length_map]) Try.underlying22 rfl (Taken.yes rfl rfl hg52)) ?_
         refine SL.val (O.det (fun _ => G.R.mv (G.R.eql rfl rfl) (congrArg Value.bool (decide_eq_true (by rfl)))) rfl (Taken.yes rfl rfl hg52)) ?_
         refine SL.val (O.pick_t rfl rfl rfl rfl Taken.no) ?_
         refine SL.val (O.assign rfl rfl Taken.no) ?_
         refine SL.nil ?_
         refine E.to ?_
         refine W.ret ?_
         refine E.fin (rs := [_]) (rn []) (.inl rfl) rfl (.cons (ResOne.tmp rfl) .nil) ?_ ?_ rfl (fixL_spec rfl)
         ·skip
          rfl
         · exact SubS.nil
  ·skip
   first | have hg2p := G.gA7 hg2 | have hg2p := G.gA8 hg2 | have hg2p := hg2
   refine SL.skip (OpOk.not rfl rfl rfl hg2) ?_
   refine SL.skip (OpOk.not rfl rfl rfl hg2) ?_
   refine SL.val (O.pick_t rfl (G.ne_f hg2) rfl rfl Taken.no) ?_
   refine SL.nil ?_
   refine E.to ?_
   refine W.cond_t rfl ?_
   refine W.seq ?_
   refine W.region ?_
   refine SL.val (O.assign rfl rfl Taken.no) ?_
   refine SL.nil ?_
   refine E.to ?_
   refine W.ret ?_
   refine E.thr ?_
   refine E.fin (rs := [_]) (rn []) (.inl rfl) rfl (.cons (ResOne.tmp rfl) .nil) ?_ ?_ rfl (fixL_spec rfl)
   ·skip
    rfl
   · exact SubS.nil

end Go.Proofs.Ytfmgpocbpbfalaa
