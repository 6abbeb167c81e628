/-
  The walks.
-/
import Derived.Test.YtfmgpocbpbfalaaHStr
import Derived.Test.YtfmgpocbpbfalaaHEq
import Derived.Test.YtfmgpocbpbfalaaHMax
import Derived.Test.YtfmgpocbpbfalaaRows
import Derived.Test.YtfmgpocbpbfalaaINS
import Derived.Test.YtfmgpocbpbfalaaS41
namespace Go.Proofs.Ytfmgpocbpbfalaa
open Go Go.RowKit Go.H Go.D41

theorem hinf27 : ∃ i, Try.prog.info? 27 = some i ∧ i.zero = some (.agg #[.string (Go.G.bs []), .bool false, .slice none 0 0]) ∧ i.size = 3 ∧ i.bytes = 48 := G.info_of (by kernel_rfl)
theorem hcallOk46 : G.callOk Try.prog 46 = true := by kernel_rfl
theorem hcallOk47 : G.callOk Try.prog 47 = true := by kernel_rfl
theorem hcallOk48 : G.callOk Try.prog 48 = true := by kernel_rfl
theorem hcallOk59 : G.callOk Try.prog 59 = true := by kernel_rfl
theorem hcallOk60 : G.callOk Try.prog 60 = true := by kernel_rfl
theorem hcallOk61 : G.callOk Try.prog 61 = true := by kernel_rfl

mutual
def eTr : Tr → List UV
  | .nd l w ks => [uT l, uB w, .sl 3 (eTrs ks)]
termination_by structural t => t
def eTrs : List Tr → List (List UV)
  | [] => []
  | k :: r => eTr k :: eTrs r
termination_by structural l => l
end
theorem eTrs_map : ∀ ks : List Tr, eTrs ks = ks.map eTr
  | [] => rfl
  | k :: r => by rw [eTrs, eTrs_map r]; rfl
theorem eTr_eq (t : Tr) : eTr t = [uT t.lab, uB t.wd, .sl 3 (t.kids.map eTr)] := by
  cases t with
  | nd l w ks => rw [eTr, eTrs_map]; rfl
theorem nb_t {b : Bool} (h : (!b) = true) : b = false := by cases b <;> simp at h ⊢
theorem nb_n {b : Bool} (h : (!b) ≠ false) : b = false := by cases b <;> simp at h ⊢
theorem nb_m {b : Bool} (h : (!b) ≠ true) : b = true := by cases b <;> simp at h ⊢
theorem nb_f {b : Bool} (h : (!b) = false) : b = true := by cases b <;> simp at h ⊢
theorem row_tr {ks : List Tr} {i : Nat} (h : i < ks.length) : (ks.map eTr)[i]? = some [uT ks[i]!.lab, uB ks[i]!.wd, .sl 3 (ks[i]!.kids.map eTr)] := by rw [row_get h, eTr_eq]

set_option maxRecDepth 8000 in
/-- bookplate/prefix.word. -/
theorem word_h {w : Str} :
    Con Try.prog 42 [vT w] [] (vB (decide (wrd w))) [] := by
 refine Con.enterL (n := 11) Try.func42 rfl rfl rfl (fun τ w ok vs hin => ?_)
 clear hin
 refine W.seq ?_
 refine W.region ?_
 refine SL.val (O.assign rfl rfl Taken.no) ?_
 refine SL.nil ?_
 refine E.to ?_
 refine W.seq ?_
 refine W.region ?_
 refine SL.val (O.move rfl rfl Taken.no) ?_
 refine SL.val (O.det (fun _ => G.R.lenL rfl Try.underlying9) rfl Taken.no) ?_
 refine SL.val (O.det (fun _ => G.R.geq rfl rfl) rfl Taken.no) ?_
 refine SL.val (O.move rfl rfl Taken.no) ?_
 refine SL.case (j := 3) (g := 6) (want := true) rfl rfl (fun hg1 => ?_) (fun hg1 => ?_)
 ·skip
  first | have hg1p := G.gA1 hg1 | have hg1p := G.gA2 hg1 | have hg1p := hg1
  refine SL.val (O.move rfl rfl (Taken.yes rfl rfl hg1)) ?_
  refine SL.val (O.det (fun _ => G.R.lenL rfl Try.underlying9) rfl (Taken.yes rfl rfl hg1)) ?_
  refine SL.val (O.det (fun _ => G.R.leq rfl rfl) rfl (Taken.yes rfl rfl hg1)) ?_
  refine SL.val (O.pick_t rfl hg1 rfl rfl Taken.no) ?_
  refine SL.val (O.assign rfl rfl Taken.no) ?_
  refine SL.nil ?_
  refine E.to ?_
  refine W.ret ?_
  refine E.fin (rs := [_]) (rn []) (.inl rfl) rfl (.cons (ResOne.tmp rfl) .nil) ?_ ?_ rfl (fixL_spec rfl)
  ·skip
   exact iv_bool (by unfold wrd; first | exact dec_iff (by omega) | exact dec_f (by omega))
  · exact SubS.nil
 ·skip
  first | have hg1p := G.gA5 hg1 | have hg1p := G.gA6 hg1 | have hg1p := hg1
  refine SL.skip (OpOk.not rfl rfl rfl hg1) ?_
  refine SL.skip (OpOk.not rfl rfl rfl hg1) ?_
  refine SL.skip (OpOk.not rfl rfl rfl hg1) ?_
  refine SL.val (O.pick_f rfl (G.ne_t hg1) rfl rfl Taken.no) ?_
  refine SL.val (O.assign rfl rfl Taken.no) ?_
  refine SL.nil ?_
  refine E.to ?_
  refine W.ret ?_
  refine E.fin (rs := [_]) (rn []) (.inl rfl) rfl (.cons (ResOne.tmp rfl) .nil) ?_ ?_ rfl (fixL_spec rfl)
  ·skip
   exact iv_bool (by unfold wrd; first | exact dec_iff (by omega) | exact dec_f (by omega))
  · exact SubS.nil

set_option maxRecDepth 8000 in
/-- bookplate/bookplateref41.word. -/
theorem refWord_h {w : Str} :
    Con Try.prog 43 [vT w] [] (vB (decide (wrd w))) [] := by
 refine Con.enterL (n := 11) Try.func43 rfl rfl rfl (fun τ w ok vs hin => ?_)
 clear hin
 refine W.seq ?_
 refine W.region ?_
 refine SL.val (O.assign rfl rfl Taken.no) ?_
 refine SL.nil ?_
 refine E.to ?_
 refine W.seq ?_
 refine W.region ?_
 refine SL.val (O.move rfl rfl Taken.no) ?_
 refine SL.val (O.det (fun _ => G.R.lenL rfl Try.underlying9) rfl Taken.no) ?_
 refine SL.val (O.det (fun _ => G.R.geq rfl rfl) rfl Taken.no) ?_
 refine SL.val (O.move rfl rfl Taken.no) ?_
 refine SL.case (j := 3) (g := 6) (want := true) rfl rfl (fun hg1 => ?_) (fun hg1 => ?_)
 ·skip
  first | have hg1p := G.gA1 hg1 | have hg1p := G.gA2 hg1 | have hg1p := hg1
  refine SL.val (O.move rfl rfl (Taken.yes rfl rfl hg1)) ?_
  refine SL.val (O.det (fun _ => G.R.lenL rfl Try.underlying9) rfl (Taken.yes rfl rfl hg1)) ?_
  refine SL.val (O.det (fun _ => G.R.leq rfl rfl) rfl (Taken.yes rfl rfl hg1)) ?_
  refine SL.val (O.pick_t rfl hg1 rfl rfl Taken.no) ?_
  refine SL.val (O.assign rfl rfl Taken.no) ?_
  refine SL.nil ?_
  refine E.to ?_
  refine W.ret ?_
  refine E.fin (rs := [_]) (rn []) (.inl rfl) rfl (.cons (ResOne.tmp rfl) .nil) ?_ ?_ rfl (fixL_spec rfl)
  ·skip
   exact iv_bool (by unfold wrd; first | exact dec_iff (by omega) | exact dec_f (by omega))
  · exact SubS.nil
 ·skip
  first | have hg1p := G.gA5 hg1 | have hg1p := G.gA6 hg1 | have hg1p := hg1
  refine SL.skip (OpOk.not rfl rfl rfl hg1) ?_
  refine SL.skip (OpOk.not rfl rfl rfl hg1) ?_
  refine SL.skip (OpOk.not rfl rfl rfl hg1) ?_
  refine SL.val (O.pick_f rfl (G.ne_t hg1) rfl rfl Taken.no) ?_
  refine SL.val (O.assign rfl rfl Taken.no) ?_
  refine SL.nil ?_
  refine E.to ?_
  refine W.ret ?_
  refine E.fin (rs := [_]) (rn []) (.inl rfl) rfl (.cons (ResOne.tmp rfl) .nil) ?_ ?_ rfl (fixL_spec rfl)
  ·skip
   exact iv_bool (by unfold wrd; first | exact dec_iff (by omega) | exact dec_f (by omega))
  · exact SubS.nil

set_option maxRecDepth 8000 in
/-- bookplate/prefix.first. -/
theorem first_h {t : Tr} :
    Con Try.prog 46 [vA [uT t.lab, uB t.wd, .sl 3 (t.kids.map eTr)]] [] (vI (fstI t)) [] := by
 have hu := UInt8.toNat_lt (t.lab[0]!)
 refine Con.enterL (n := 10) Try.func46 rfl rfl rfl (fun τ w ok vs hin => ?_)
 have hl0_2 := hin.lenA (i := 0) (j := 2) rfl rfl
 try rw [List.length_map] at hl0_2
 clear hin
 refine W.seq ?_
 refine W.region ?_
 refine SL.memS (O.box (is := [_, _, _]) 101 rfl rfl (by simp) rfl rfl Taken.no) rfl rfl (S' := (101, _) :: _) rfl ?_
 refine SL.val (O.assign rfl rfl Taken.no) ?_
 refine SL.nil ?_
 refine E.to ?_
 refine W.seq ?_
 refine W.seq ?_
 refine W.region ?_
 refine SL.val (O.fld_ref (o' := 0) rfl Try.underlying27 rfl (m := 0) (by kernel_rfl) rfl rfl Taken.no) ?_
 refine SL.val (O.ld1 (PtI.ref rfl rfl) rfl Try.underlying9 rfl rfl Taken.no) ?_
 refine SL.val (O.det (fun _ => G.R.streqL (b := []) rfl rfl) rfl Taken.no) ?_
 refine SL.nil ?_
 refine E.to ?_
 first | refine W.cond_d rfl (fun hc1 => ?_) (fun hc1 => ?_) | refine W.cond_nd rfl (fun hc1 => ?_) (fun hc1 => ?_) | refine W.cond rfl (fun hc1 => ?_) (fun hc1 => ?_)
 ·skip
  refine W.seq ?_
  refine W.region ?_
  refine SL.val (O.assign rfl rfl Taken.no) ?_
  refine SL.nil ?_
  refine E.to ?_
  refine W.ret ?_
  refine E.thr ?_
  refine E.fin (rs := [_]) (rn []) (.inl rfl) rfl (.cons (ResOne.tmp rfl) .nil) ?_ ?_ rfl (fixL_spec rfl)
  ·skip
   exact iv_int (fst_0 (by assumption))
  · exact SubS.nil
 ·skip
  refine W.skip ?_
  refine E.to ?_
  refine W.seq ?_
  refine W.region ?_
  refine SL.val (O.fld_ref (o' := 0) rfl Try.underlying27 rfl (m := 0) (by kernel_rfl) rfl rfl Taken.no) ?_
  refine SL.val (O.ld1 (PtI.ref rfl rfl) rfl Try.underlying9 rfl rfl Taken.no) ?_
  refine SL.val (O.det (fun _ => G.R.stridxL (i := 0) rfl rfl Try.underlying9 (by exact ne_pos (by assumption))) rfl Taken.no) ?_
  refine SL.val (O.det (fun _ => by first | exact G.R.conv64 rfl Try.underlying5 Try.underlying3 (by omega) | exact G.R.conv rfl Try.underlying5 Try.underlying3) rfl Taken.no) ?_
  refine SL.val (O.assign rfl rfl Taken.no) ?_
  refine SL.nil ?_
  refine E.to ?_
  refine W.ret ?_
  refine E.fin (rs := [_]) (rn []) (.inl rfl) rfl (.cons (ResOne.tmp rfl) .nil) ?_ ?_ rfl (fixL_spec rfl)
  ·skip
   exact iv_int (fst_1 (by assumption))
  · exact SubS.nil

set_option maxRecDepth 8000 in
/-- bookplate/prefix.kid$1. -/
theorem kid1_h {t : Tr} {c : Int} (hc : 0 ≤ c ∧ c ≤ 255) :
    Con Try.prog 60 [vA [uT t.lab, uB t.wd, .sl 3 (t.kids.map eTr)], vI c] [] (vI (fstI t - c)) [] := by
 have h1 := fst_ge t
 have h2 := fst_le t
 refine Con.enterL (n := 9) Try.func60 rfl rfl rfl (fun τ w ok vs hin => ?_)
 have hl0_2 := hin.lenA (i := 0) (j := 2) rfl rfl
 try rw [List.length_map] at hl0_2
 clear hin
 refine W.seq ?_
 refine W.region ?_
 refine SL.memS (O.box (is := [_, _, _]) 101 rfl rfl (by simp) rfl rfl Taken.no) rfl rfl (S' := (101, _) :: _) rfl ?_
 refine SL.val (O.assign rfl rfl Taken.no) ?_
 refine SL.nil ?_
 refine E.to ?_
 refine W.seq ?_
 refine W.region ?_
 refine SL.val (O.ldN (m := 3) (PtI.ref rfl rfl) (js := [_, _, _]) rfl (Nat.le_of_ble_eq_true rfl) Try.underlying27 rfl (by kernel_rfl) rfl Taken.no) ?_
 refine SL.val (O.callp rfl rfl rfl (first_h) (.cons (ArgOk.aggU (.cons (ArgOk.same rfl) (.cons (ArgOk.same rfl) (.cons (ArgOk.same rfl) .nil)))) .nil) hcallOk46 rfl Taken.no) ?_
 refine SL.val (O.move rfl rfl Taken.no) ?_
 refine SL.val (O.det (fun _ => by first | exact G.R.sub64 rfl rfl (by omega) | exact G.R.sub rfl rfl) rfl Taken.no) ?_
 refine SL.val (O.assign rfl rfl Taken.no) ?_
 refine SL.nil ?_
 refine E.to ?_
 refine W.ret ?_
 refine E.fin (rs := [_]) (rn []) (.inl rfl) rfl (.cons (ResOne.tmp rfl) .nil) ?_ ?_ rfl (fixL_spec rfl)
 ·skip
  rfl
 · exact SubS.nil

set_option maxRecDepth 8000 in
/-- slices.BinarySearchFunc[[]bookplate/prefix.Node,bookplate/prefix.Node,int]. -/
theorem binarySearch_h {f : Nat} {caps : List UV} {ks : List Tr} {b : UInt8} (hok : G.callOk Try.prog f = true) (hpr : ∀ x : Tr, Con Try.prog f ([vA [uT x.lab, uB x.wd, .sl 3 (x.kids.map eTr)], vI (b.toNat : Int)] ++ caps.map .u) [] (vI (fstI x - (b.toNat : Int))) []) (hv : canL ks) (hln : ks.length ≤ 1000000) :
    Con Try.prog 59 [vL 3 (ks.map eTr), vI (b.toNat : Int), .u (.clo (.func f) [] caps)] [] (.tup [vI (kpos ks b : Nat), vB (kfnd ks b)]) [] := by
 obtain ⟨i27, hi27, hz27, hs27, hb27⟩ := hinf27
 refine Con.enterL (n := 49) Try.func59 rfl rfl rfl (fun τ w ok vs hin => ?_)
 have hl0 := hin.len (i := 0) rfl
 try rw [List.length_map] at hl0
 clear hin
 refine W.seq ?_
 refine W.region ?_
 refine SL.val (O.assign rfl rfl Taken.no) ?_
 refine SL.val (O.assign rfl rfl Taken.no) ?_
 refine SL.nil ?_
 refine E.to ?_
 refine W.seq ?_
 refine W.region ?_
 refine SL.val (O.move rfl rfl Taken.no) ?_
 refine SL.val (O.lenE (SlOf.fz rfl (by decide)) (by first | exact List.length_map _ | rfl) Try.underlying25 rfl Taken.no) ?_
 refine SL.val (O.assign rfl rfl Taken.no) ?_
 refine SL.nil ?_
 refine E.to ?_
 refine W.seq ?_
 refine W.region ?_
 refine SL.val (O.move rfl rfl Taken.no) ?_
 refine SL.val (O.assign rfl rfl Taken.no) ?_
 refine SL.val (O.assign rfl rfl Taken.no) ?_
 refine SL.nil ?_
 refine E.to ?_
 refine W.seq ?_
 refine W.block ?_
 refine W.loopx2 (fun (i : Nat) (j : Nat) => [(9, vI (i : Int)), (10, vI (j : Int))]) (fun (i : Nat) (j : Nat) => []) (fun (i : Nat) (j : Nat) => i ≤ j ∧ j ≤ ks.length ∧ (∀ m, m < i → ltK ks b m = true) ∧ (∀ m, j ≤ m → m < ks.length → ltK ks b m = false)) (fun (i : Nat) (j : Nat) => j - i) (0) (ks.length) (rn []) (.cons (t := 0) rfl (.cons (t := 1) rfl (.cons (t := 2) rfl (.cons (t := 6) rfl (.cons (t := 7) rfl (.cons (t := 8) rfl .nil)))))) .nil rfl ?_ ?_ rfl rfl ?_ ?_
 · exact (SubF.cons rfl (SubF.cons rfl SubF.nil))
 · exact SubS.nil
 ·skip
  exact ⟨by omega, by omega, fun m h => by omega, fun m h1 h2 => by omega⟩
 intro i j hinv
 obtain ⟨hij, hj, hlo, hhi⟩ := hinv
 have hm : i < j → (i + j) / 2 < j ∧ i ≤ (i + j) / 2 := fun h => by omega
 refine W.seq ?_
 refine W.seq ?_
 refine W.region ?_
 refine SL.val (O.move rfl rfl Taken.no) ?_
 refine SL.val (O.move rfl rfl Taken.no) ?_
 refine SL.val (O.det (fun _ => G.R.lss rfl rfl) rfl Taken.no) ?_
 refine SL.nil ?_
 refine E.to ?_
 first | refine W.cond_d rfl (fun hc1 => ?_) (fun hc1 => ?_) | refine W.cond_nd rfl (fun hc1 => ?_) (fun hc1 => ?_) | refine W.cond rfl (fun hc1 => ?_) (fun hc1 => ?_)
 ·skip
  refine W.skip ?_
  refine E.to ?_
  refine W.block ?_
  refine W.seq ?_
  refine W.region ?_
  refine SL.val (O.move rfl rfl Taken.no) ?_
  refine SL.val (O.move rfl rfl Taken.no) ?_
  refine SL.val (O.det (fun _ => by first | exact G.R.add64 rfl rfl (by omega) | exact G.R.add rfl rfl) rfl Taken.no) ?_
  refine SL.val (O.det (fun _ => by first | exact G.R.conv_in rfl Try.underlying3 Try.underlying85 (IntWalk.u64_in _ (by omega)) | exact G.R.conv rfl Try.underlying3 Try.underlying85) rfl Taken.no) ?_
  refine SL.val (O.det (fun _ => G.R.shr_c (q := 2) rfl rfl (by decide) (by decide)) rfl Taken.no) ?_
  refine SL.val (O.det (fun _ => by first | exact G.R.conv64 rfl Try.underlying85 Try.underlying3 (by omega) | exact G.R.conv rfl Try.underlying85 Try.underlying3) rfl Taken.no) ?_
  refine SL.val (O.assign rfl rfl Taken.no) ?_
  refine SL.nil ?_
  refine E.to ?_
  refine W.seq ?_
  refine W.region ?_
  refine SL.val (O.move rfl rfl Taken.no) ?_
  refine SL.val (O.move rfl rfl Taken.no) ?_
  refine SL.val (O.move rfl rfl Taken.no) ?_
  refine SL.val (O.idx_fz (i := (i + j) / 2) rfl rfl (by omega) (row_tr (by omega)) Try.underlying25 hi27 hs27 rfl Taken.no) ?_
  refine SL.val (O.ldU (m := 3) (PtU.fz rfl) rfl Try.underlying27 rfl (by kernel_rfl) rfl Taken.no) ?_
  refine SL.val (O.move rfl rfl Taken.no) ?_
  refine SL.val (O.callp rfl rfl rfl (hpr ks[(i + j) / 2]!) (.cons (ArgOk.same rfl) (.cons (ArgOk.same rfl) (ArgsOk.caps caps))) hok rfl Taken.no) ?_
  refine SL.val (O.det (fun _ => G.R.lss rfl rfl) rfl Taken.no) ?_
  refine SL.nil ?_
  refine E.to ?_
  refine W.pick (.cons (t := 0) rfl (.cons (t := 1) rfl (.cons (t := 2) rfl (.cons (t := 6) rfl (.cons (t := 7) rfl (.cons (t := 8) rfl (.cons (t := 9) rfl (.cons (t := 10) rfl (.cons (t := 11) rfl (.cons (t := 31) rfl .nil)))))))))) .nil ?_
  first | refine W.cond_d rfl (fun hc2 => ?_) (fun hc2 => ?_) | refine W.cond_nd rfl (fun hc2 => ?_) (fun hc2 => ?_) | refine W.cond rfl (fun hc2 => ?_) (fun hc2 => ?_)
  ·skip
   refine W.region ?_
   refine SL.val (O.move rfl rfl Taken.no) ?_
   refine SL.val (O.det (fun _ => by first | exact G.R.add64 rfl rfl (by omega) | exact G.R.add rfl rfl) rfl Taken.no) ?_
   refine SL.val (O.assign rfl rfl Taken.no) ?_
   refine SL.nil ?_
   refine E.inn ?_
   refine E.again (((i + j) / 2 + 1), (j)) (rn []) ?_ ?_ rfl (fixL_spec rfl) ?_ ?_
   · exact (SubF.cons rfl (SubF.cons rfl (SubF.cons rfl (SubF.cons rfl (SubF.cons rfl (SubF.cons rfl (SubF.cons rfl (SubF.cons rfl SubF.nil))))))))
   · exact SubS.nil
   ·try dsimp only
    exact ⟨by omega, by omega, bsK_lo hv (by omega) (by assumption), hhi⟩
   · (try dsimp only); omega
  ·skip
   refine W.region ?_
   refine SL.val (O.move rfl rfl Taken.no) ?_
   refine SL.val (O.assign rfl rfl Taken.no) ?_
   refine SL.nil ?_
   refine E.inn ?_
   refine E.again ((i), ((i + j) / 2)) (rn []) ?_ ?_ rfl (fixL_spec rfl) ?_ ?_
   · exact (SubF.cons rfl (SubF.cons rfl (SubF.cons rfl (SubF.cons rfl (SubF.cons rfl (SubF.cons rfl (SubF.cons rfl (SubF.cons rfl SubF.nil))))))))
   · exact SubS.nil
   ·try dsimp only
    exact ⟨by omega, by omega, hlo, bsK_hi hv (by assumption)⟩
   · (try dsimp only); omega
 ·skip
  refine W.exit ?_
  refine E.th ?_
  refine E.th ?_
  refine E.hit ?_
  refine E.to ?_
  refine W.seq ?_
  refine W.region ?_
  obtain rfl : i = j := by omega
  have hpi : i = kpos ks b := posB_eq (ltK_mono hv b) hj hlo hhi
  refine SL.val (O.move rfl rfl Taken.no) ?_
  refine SL.val (O.move rfl rfl Taken.no) ?_
  refine SL.val (O.move rfl rfl Taken.no) ?_
  refine SL.val (O.det (fun _ => G.R.lss rfl rfl) rfl Taken.no) ?_
  refine SL.val (O.move rfl rfl Taken.no) ?_
  refine SL.case (j := 4) (g := 39) (want := true) rfl rfl (fun hg3 => ?_) (fun hg3 => ?_)
  ·skip
   first | have hg3p := G.gA1 hg3 | have hg3p := G.gA2 hg3 | have hg3p := hg3
   refine SL.val (O.move rfl rfl (Taken.yes rfl rfl hg3)) ?_
   refine SL.val (O.move rfl rfl (Taken.yes rfl rfl hg3)) ?_
   refine SL.val (O.move rfl rfl (Taken.yes rfl rfl hg3)) ?_
   refine SL.val (O.idx_fz rfl rfl (rfl) (row_tr (by omega)) Try.underlying25 hi27 hs27 rfl (Taken.yes rfl rfl hg3)) ?_
   refine SL.val (O.ldU (m := 3) (PtU.fz rfl) rfl Try.underlying27 rfl (by kernel_rfl) rfl (Taken.yes rfl rfl hg3)) ?_
   refine SL.val (O.move rfl rfl (Taken.yes rfl rfl hg3)) ?_
   refine SL.val (O.callp rfl rfl rfl (hpr ks[i]!) (.cons (ArgOk.same rfl) (.cons (ArgOk.same rfl) (ArgsOk.caps caps))) hok rfl (Taken.yes rfl rfl hg3)) ?_
   refine SL.val (O.det (fun _ => G.R.eql rfl rfl) rfl (Taken.yes rfl rfl hg3)) ?_
   refine SL.val (O.pick_t rfl hg3 rfl rfl Taken.no) ?_
   refine SL.val (O.assign rfl rfl Taken.no) ?_
   refine SL.val (O.assign rfl rfl Taken.no) ?_
   refine SL.nil ?_
   refine E.to ?_
   refine W.pick (.cons (t := 6) rfl (.cons (t := 7) rfl .nil)) .nil ?_
   refine W.ret ?_
   refine E.fin (rs := [_, _]) (rn []) (.inl rfl) rfl (.cons (ResOne.tmp rfl) (.cons (ResOne.tmp rfl) .nil)) ?_ ?_ rfl (fixL_spec rfl)
   ·skip
    rw [← hpi, kfnd, ← hpi]
    first | rw [decide_eq_true (by assumption)] | rw [decide_eq_false (by assumption)]
    rfl
   · exact SubS.nil
  ·skip
   first | have hg3p := G.gA5 hg3 | have hg3p := G.gA6 hg3 | have hg3p := hg3
   refine SL.skip (OpOk.not rfl rfl rfl hg3) ?_
   refine SL.skip (OpOk.not rfl rfl rfl hg3) ?_
   refine SL.skip (OpOk.not rfl rfl rfl hg3) ?_
   refine SL.skip (OpOk.not rfl rfl rfl hg3) ?_
   refine SL.skip (OpOk.not rfl rfl rfl hg3) ?_
   refine SL.skip (OpOk.not rfl rfl rfl hg3) ?_
   refine SL.skip (OpOk.not rfl rfl rfl hg3) ?_
   refine SL.skip (OpOk.not rfl rfl rfl hg3) ?_
   refine SL.val (O.pick_f rfl (G.ne_t hg3) rfl rfl Taken.no) ?_
   refine SL.val (O.assign rfl rfl Taken.no) ?_
   refine SL.val (O.assign rfl rfl Taken.no) ?_
   refine SL.nil ?_
   refine E.to ?_
   refine W.pick (.cons (t := 6) rfl (.cons (t := 7) rfl .nil)) .nil ?_
   refine W.ret ?_
   refine E.fin (rs := [_, _]) (rn []) (.inl rfl) rfl (.cons (ResOne.tmp rfl) (.cons (ResOne.tmp rfl) .nil)) ?_ ?_ rfl (fixL_spec rfl)
   ·skip
    rw [← hpi, kfnd, ← hpi]
    first | rw [decide_eq_true (by assumption)] | rw [decide_eq_false (by assumption)]
    rfl
   · exact SubS.nil

set_option maxRecDepth 8000 in
/-- bookplate/prefix.kid. -/
theorem kid_h {t : Tr} {b : UInt8} (hv : canL t.kids) (hln : t.kids.length ≤ 1000000) :
    Con Try.prog 47 [vA [uT t.lab, uB t.wd, .sl 3 (t.kids.map eTr)], .u (.sc (.int .u8 (b.toNat : Int)))] [] (.tup [vI (kpos t.kids b : Nat), vB (kfnd t.kids b)]) [] := by
 have hu := UInt8.toNat_lt b
 refine Con.enterL (n := 13) Try.func47 rfl rfl rfl (fun τ w ok vs hin => ?_)
 have hl0_2 := hin.lenA (i := 0) (j := 2) rfl rfl
 try rw [List.length_map] at hl0_2
 clear hin
 refine W.seq ?_
 refine W.region ?_
 refine SL.memS (O.box (is := [_, _, _]) 101 rfl rfl (by simp) rfl rfl Taken.no) rfl rfl (S' := (101, _) :: _) rfl ?_
 refine SL.val (O.assign rfl rfl Taken.no) ?_
 refine SL.val (O.assign rfl rfl Taken.no) ?_
 refine SL.nil ?_
 refine E.to ?_
 refine W.seq ?_
 refine W.region ?_
 refine SL.val (O.fld_ref (o' := 2) rfl Try.underlying27 rfl (m := 0) (by kernel_rfl) rfl rfl Taken.no) ?_
 refine SL.val (O.ld1 (PtI.ref rfl rfl) rfl Try.underlying25 rfl rfl Taken.no) ?_
 refine SL.val (O.move rfl rfl Taken.no) ?_
 refine SL.val (O.det (fun _ => by first | exact G.R.conv64 rfl Try.underlying5 Try.underlying3 (by omega) | exact G.R.conv rfl Try.underlying5 Try.underlying3) rfl Taken.no) ?_
 refine SL.memS (O.call (rn []) [] rfl rfl rfl (binarySearch_h (f := 60) (caps := []) (ks := t.kids) (b := b) hcallOk60 (fun x => kid1_h (by omega)) hv hln) (.cons (ArgOk.same rfl) (.cons (ArgOk.same rfl) (.cons ArgOk.fnc .nil))) SubS.nil rfl rfl rfl rfl rfl (.inl rfl) hcallOk59 (r' := .tup [.u _, .u _]) rfl rfl Taken.no) rfl rfl (S' := _) rfl ?_
 refine SL.val (O.extract rfl rfl rfl Taken.no) ?_
 refine SL.val (O.extract rfl rfl rfl Taken.no) ?_
 refine SL.val (O.assign rfl rfl Taken.no) ?_
 refine SL.val (O.assign rfl rfl Taken.no) ?_
 refine SL.nil ?_
 refine E.to ?_
 refine W.ret ?_
 refine E.fin (rs := [_, _]) (rn []) (.inl rfl) rfl (.cons (ResOne.tmp rfl) (.cons (ResOne.tmp rfl) .nil)) ?_ ?_ rfl (fixL_spec rfl)
 ·skip
  rfl
 · exact SubS.nil

set_option maxRecDepth 8000 in
/-- internal/stringslite.HasPrefix. -/
theorem hasPrefix0_h {s p : Str} :
    Con Try.prog 61 [vT s, vT p] [] (vB (decide (p <+: s))) [] := by
 refine Con.enterL (n := 18) Try.func61 rfl rfl rfl (fun τ w ok vs hin => ?_)
 clear hin
 refine W.seq ?_
 refine W.region ?_
 refine SL.val (O.assign rfl rfl Taken.no) ?_
 refine SL.nil ?_
 refine E.to ?_
 refine W.seq ?_
 refine W.region ?_
 refine SL.val (O.move rfl rfl Taken.no) ?_
 refine SL.val (O.det (fun _ => G.R.lenL rfl Try.underlying9) rfl Taken.no) ?_
 refine SL.val (O.move rfl rfl Taken.no) ?_
 refine SL.val (O.det (fun _ => G.R.lenL rfl Try.underlying9) rfl Taken.no) ?_
 refine SL.val (O.det (fun _ => G.R.geq rfl rfl) rfl Taken.no) ?_
 refine SL.val (O.move rfl rfl Taken.no) ?_
 refine SL.case (j := 5) (g := 10) (want := true) rfl rfl (fun hg1 => ?_) (fun hg1 => ?_)
 ·skip
  first | have hg1p := G.gA1 hg1 | have hg1p := G.gA2 hg1 | have hg1p := hg1
  refine SL.val (O.move rfl rfl (Taken.yes rfl rfl hg1)) ?_
  refine SL.val (O.move rfl rfl (Taken.yes rfl rfl hg1)) ?_
  refine SL.val (O.det (fun _ => G.R.lenL rfl Try.underlying9) rfl (Taken.yes rfl rfl hg1)) ?_
  refine SL.val (O.det (fun _ => G.R.strtoL rfl rfl Try.underlying9 (by omega)) rfl (Taken.yes rfl rfl hg1)) ?_
  refine SL.val (O.move rfl rfl (Taken.yes rfl rfl hg1)) ?_
  refine SL.val (O.det (fun _ => G.R.streqL rfl rfl) rfl (Taken.yes rfl rfl hg1)) ?_
  refine SL.val (O.pick_t rfl hg1 rfl rfl Taken.no) ?_
  refine SL.val (O.assign rfl rfl Taken.no) ?_
  refine SL.nil ?_
  refine E.to ?_
  refine W.ret ?_
  refine E.fin (rs := [_]) (rn []) (.inl rfl) rfl (.cons (ResOne.tmp rfl) .nil) ?_ ?_ rfl (fixL_spec rfl)
  ·skip
   first | exact iv_bool (dec_iff pre_iff.symm) | exact iv_bool (dec_f (pre_no (by omega)))
  · exact SubS.nil
 ·skip
  first | have hg1p := G.gA5 hg1 | have hg1p := G.gA6 hg1 | have hg1p := hg1
  refine SL.skip (OpOk.not rfl rfl rfl hg1) ?_
  refine SL.skip (OpOk.not rfl rfl rfl hg1) ?_
  refine SL.skip (OpOk.not rfl rfl rfl hg1) ?_
  refine SL.skip (OpOk.not rfl rfl rfl hg1) ?_
  refine SL.skip (OpOk.not rfl rfl rfl hg1) ?_
  refine SL.skip (OpOk.not rfl rfl rfl hg1) ?_
  refine SL.val (O.pick_f rfl (G.ne_t hg1) rfl rfl Taken.no) ?_
  refine SL.val (O.assign rfl rfl Taken.no) ?_
  refine SL.nil ?_
  refine E.to ?_
  refine W.ret ?_
  refine E.fin (rs := [_]) (rn []) (.inl rfl) rfl (.cons (ResOne.tmp rfl) .nil) ?_ ?_ rfl (fixL_spec rfl)
  ·skip
   first | exact iv_bool (dec_iff pre_iff.symm) | exact iv_bool (dec_f (pre_no (by omega)))
  · exact SubS.nil

set_option maxRecDepth 8000 in
/-- strings.HasPrefix. -/
theorem hasPrefix_h {s p : Str} :
    Con Try.prog 48 [vT s, vT p] [] (vB (decide (p <+: s))) [] := by
 refine Con.enterL (n := 8) Try.func48 rfl rfl rfl (fun τ w ok vs hin => ?_)
 clear hin
 refine W.seq ?_
 refine W.region ?_
 refine SL.val (O.assign rfl rfl Taken.no) ?_
 refine SL.nil ?_
 refine E.to ?_
 refine W.seq ?_
 refine W.region ?_
 refine SL.val (O.move rfl rfl Taken.no) ?_
 refine SL.val (O.move rfl rfl Taken.no) ?_
 refine SL.val (O.callp rfl rfl rfl (hasPrefix0_h) (.cons (ArgOk.same rfl) (.cons (ArgOk.same rfl) .nil)) hcallOk61 rfl Taken.no) ?_
 refine SL.val (O.assign rfl rfl Taken.no) ?_
 refine SL.nil ?_
 refine E.to ?_
 refine W.ret ?_
 refine E.fin (rs := [_]) (rn []) (.inl rfl) rfl (.cons (ResOne.tmp rfl) .nil) ?_ ?_ rfl (fixL_spec rfl)
 ·skip
  rfl
 · exact SubS.nil

set_option maxRecDepth 8000 in
/-- bookplate/bookplateref41.Begins. -/
theorem begins_h {s p : Str} :
    Con Try.prog 19 [vT s, vT p] [] (vB (decide (p <+: s))) [] := by
 refine Con.enterL (n := 18) Try.func19 rfl rfl rfl (fun τ w ok vs hin => ?_)
 clear hin
 refine W.seq ?_
 refine W.region ?_
 refine SL.val (O.assign rfl rfl Taken.no) ?_
 refine SL.nil ?_
 refine E.to ?_
 refine W.seq ?_
 refine W.region ?_
 refine SL.val (O.move rfl rfl Taken.no) ?_
 refine SL.val (O.det (fun _ => G.R.lenL rfl Try.underlying9) rfl Taken.no) ?_
 refine SL.val (O.move rfl rfl Taken.no) ?_
 refine SL.val (O.det (fun _ => G.R.lenL rfl Try.underlying9) rfl Taken.no) ?_
 refine SL.val (O.det (fun _ => G.R.geq rfl rfl) rfl Taken.no) ?_
 refine SL.val (O.move rfl rfl Taken.no) ?_
 refine SL.case (j := 5) (g := 10) (want := true) rfl rfl (fun hg1 => ?_) (fun hg1 => ?_)
 ·skip
  first | have hg1p := G.gA1 hg1 | have hg1p := G.gA2 hg1 | have hg1p := hg1
  refine SL.val (O.move rfl rfl (Taken.yes rfl rfl hg1)) ?_
  refine SL.val (O.move rfl rfl (Taken.yes rfl rfl hg1)) ?_
  refine SL.val (O.det (fun _ => G.R.lenL rfl Try.underlying9) rfl (Taken.yes rfl rfl hg1)) ?_
  refine SL.val (O.det (fun _ => G.R.strtoL rfl rfl Try.underlying9 (by omega)) rfl (Taken.yes rfl rfl hg1)) ?_
  refine SL.val (O.move rfl rfl (Taken.yes rfl rfl hg1)) ?_
  refine SL.val (O.det (fun _ => G.R.streqL rfl rfl) rfl (Taken.yes rfl rfl hg1)) ?_
  refine SL.val (O.pick_t rfl hg1 rfl rfl Taken.no) ?_
  refine SL.val (O.assign rfl rfl Taken.no) ?_
  refine SL.nil ?_
  refine E.to ?_
  refine W.ret ?_
  refine E.fin (rs := [_]) (rn []) (.inl rfl) rfl (.cons (ResOne.tmp rfl) .nil) ?_ ?_ rfl (fixL_spec rfl)
  ·skip
   first | exact iv_bool (dec_iff pre_iff.symm) | exact iv_bool (dec_f (pre_no (by omega)))
  · exact SubS.nil
 ·skip
  first | have hg1p := G.gA5 hg1 | have hg1p := G.gA6 hg1 | have hg1p := hg1
  refine SL.skip (OpOk.not rfl rfl rfl hg1) ?_
  refine SL.skip (OpOk.not rfl rfl rfl hg1) ?_
  refine SL.skip (OpOk.not rfl rfl rfl hg1) ?_
  refine SL.skip (OpOk.not rfl rfl rfl hg1) ?_
  refine SL.skip (OpOk.not rfl rfl rfl hg1) ?_
  refine SL.skip (OpOk.not rfl rfl rfl hg1) ?_
  refine SL.val (O.pick_f rfl (G.ne_t hg1) rfl rfl Taken.no) ?_
  refine SL.val (O.assign rfl rfl Taken.no) ?_
  refine SL.nil ?_
  refine E.to ?_
  refine W.ret ?_
  refine E.fin (rs := [_]) (rn []) (.inl rfl) rfl (.cons (ResOne.tmp rfl) .nil) ?_ ?_ rfl (fixL_spec rfl)
  ·skip
   first | exact iv_bool (dec_iff pre_iff.symm) | exact iv_bool (dec_f (pre_no (by omega)))
  · exact SubS.nil

set_option maxRecDepth 8000 in
/-- bookplate/prefix.common. -/
theorem common_h {a b : Str} (hal : a.length ≤ 1000000) :
    Con Try.prog 50 [vT a, vT b] [] (vI (comm a b : Nat)) [] := by
 refine Con.enterL (n := 28) Try.func50 rfl rfl rfl (fun τ w ok vs hin => ?_)
 clear hin
 refine W.seq ?_
 refine W.region ?_
 refine SL.val (O.assign rfl rfl Taken.no) ?_
 refine SL.nil ?_
 refine E.to ?_
 refine W.seq ?_
 refine W.region ?_
 refine SL.val (O.assign rfl rfl Taken.no) ?_
 refine SL.nil ?_
 refine E.to ?_
 refine W.seq ?_
 refine W.block ?_
 refine W.loopx1 (fun (n : Nat) => [(5, vI (n : Int))]) (fun (n : Nat) => []) (fun (n : Nat) => n ≤ a.length ∧ n ≤ b.length ∧ commI a b n) (fun (n : Nat) => a.length - n) (0) (rn []) (.cons (t := 0) rfl (.cons (t := 1) rfl (.cons (t := 4) rfl .nil))) .nil rfl ?_ ?_ rfl rfl ?_ ?_
 · exact (SubF.cons rfl SubF.nil)
 · exact SubS.nil
 ·skip
  exact ⟨by omega, by omega, commI_0 a b⟩
 intro n hinv
 obtain ⟨ha, hb, hi⟩ := hinv
 refine W.seq ?_
 refine W.seq ?_
 refine W.draw [⟨[], [], []⟩, ⟨[], [], []⟩, ⟨[], [], []⟩, ⟨[], [], []⟩, ⟨[], [], []⟩, ⟨[], [], []⟩, ⟨[], [], []⟩, ⟨[], [], []⟩, ⟨[], [], []⟩, ⟨[], [], []⟩, ⟨[], [], []⟩, ⟨[], [], []⟩, ⟨[], [], []⟩, ⟨[], [], []⟩, ⟨[], [], []⟩, ⟨[], [], []⟩, ⟨[], [], []⟩, ⟨[], [], []⟩, ⟨[], [], []⟩] rfl (by kernel_rfl) (by kernel_rfl) rfl rfl ?_
 refine WH.val (O.move rfl rfl Taken.no) rfl rfl ?_
 refine WH.val (O.move rfl rfl Taken.no) rfl rfl ?_
 refine WH.val (O.det (fun _ => G.R.lenL rfl Try.underlying9) rfl Taken.no) rfl rfl ?_
 refine WH.val (O.det (fun _ => G.R.lss rfl rfl) rfl Taken.no) rfl rfl ?_
 refine WH.val (O.move rfl rfl Taken.no) rfl rfl ?_
 refine WH.case (j := 4) (g := 10) (want := true) rfl rfl (fun hg1 => ?_) (fun hg1 => ?_)
 ·skip
  first | have hg1p := G.gA1 hg1 | have hg1p := G.gA2 hg1 | have hg1p := hg1
  refine WH.val (O.move rfl rfl (Taken.yes rfl rfl hg1)) rfl rfl ?_
  refine WH.val (O.move rfl rfl (Taken.yes rfl rfl hg1)) rfl rfl ?_
  refine WH.val (O.det (fun _ => G.R.lenL rfl Try.underlying9) rfl (Taken.yes rfl rfl hg1)) rfl rfl ?_
  refine WH.val (O.det (fun _ => G.R.lss rfl rfl) rfl (Taken.yes rfl rfl hg1)) rfl rfl ?_
  refine WH.val (O.pick_t rfl hg1 rfl rfl Taken.no) rfl rfl ?_
  refine WH.val (O.move rfl rfl Taken.no) rfl rfl ?_
  refine WH.case (j := 10) (g := 16) (want := true) rfl rfl (fun hg2 => ?_) (fun hg2 => ?_)
  ·skip
   first | have hg2p := G.gA1 hg2 | have hg2p := G.gA2 hg2 | have hg2p := hg2
   refine WH.val (O.move rfl rfl (Taken.yes rfl rfl hg2)) rfl rfl ?_
   refine WH.val (O.move rfl rfl (Taken.yes rfl rfl hg2)) rfl rfl ?_
   refine WH.val (O.det (fun _ => G.R.stridxL (i := n) rfl rfl Try.underlying9 (by omega)) rfl (Taken.yes rfl rfl hg2)) rfl rfl ?_
   refine WH.val (O.move rfl rfl (Taken.yes rfl rfl hg2)) rfl rfl ?_
   refine WH.val (O.move rfl rfl (Taken.yes rfl rfl hg2)) rfl rfl ?_
   refine WH.val (O.det (fun _ => G.R.stridxL (i := n) rfl rfl Try.underlying9 (by omega)) rfl (Taken.yes rfl rfl hg2)) rfl rfl ?_
   refine WH.val (O.det (fun _ => G.R.eql rfl rfl) rfl (Taken.yes rfl rfl hg2)) rfl rfl ?_
   refine WH.val (O.pick_t rfl hg2 rfl rfl Taken.no) rfl rfl ?_
   refine WH.nil ?_
   refine E.to ?_
   first | refine W.cond_d rfl (fun hc3 => ?_) (fun hc3 => ?_) | refine W.cond_nd rfl (fun hc3 => ?_) (fun hc3 => ?_) | refine W.cond rfl (fun hc3 => ?_) (fun hc3 => ?_)
   ·skip
    refine W.skip ?_
    refine E.to ?_
    refine W.block ?_
    refine W.region ?_
    refine SL.val (O.move rfl rfl Taken.no) ?_
    refine SL.val (O.det (fun _ => by first | exact G.R.add64 rfl rfl (by omega) | exact G.R.add rfl rfl) rfl Taken.no) ?_
    refine SL.val (O.assign rfl rfl Taken.no) ?_
    refine SL.nil ?_
    refine E.inn ?_
    refine E.again ((n + 1)) (rn []) ?_ ?_ rfl (fixL_spec rfl) ?_ ?_
    · exact (SubF.cons rfl (SubF.cons rfl (SubF.cons rfl (SubF.cons rfl SubF.nil))))
    · exact SubS.nil
    ·try dsimp only
     exact ⟨by omega, by omega, commI_step (by omega) (by omega) (by first | assumption | omega) hi⟩
    · (try dsimp only); omega
   ·skip
    refine W.exit ?_
    refine E.th ?_
    refine E.th ?_
    refine E.hit ?_
    refine E.to ?_
    refine W.seq ?_
    refine W.region ?_
    refine SL.val (O.move rfl rfl Taken.no) ?_
    refine SL.val (O.assign rfl rfl Taken.no) ?_
    refine SL.nil ?_
    refine E.to ?_
    refine W.pick (.cons (t := 4) rfl .nil) .nil ?_
    refine W.ret ?_
    refine E.fin (rs := [_]) (rn []) (.inl rfl) rfl (.cons (ResOne.tmp rfl) .nil) ?_ ?_ rfl (fixL_spec rfl)
    ·skip
     first | exact iv_int (by rw [commI_n (by omega) (by omega) (by first | assumption | omega) hi]) | exact iv_int (by rw [commI_a (by omega) hi]) | exact iv_int (by rw [commI_b (by omega) hi])
    · exact SubS.nil
  ·skip
   first | have hg2p := G.gA5 hg2 | have hg2p := G.gA6 hg2 | have hg2p := hg2
   refine WH.skip (OpOk.not rfl rfl rfl hg2) ?_
   refine WH.skip (OpOk.not rfl rfl rfl hg2) ?_
   refine WH.skip (OpOk.not rfl rfl rfl hg2) ?_
   refine WH.skip (OpOk.not rfl rfl rfl hg2) ?_
   refine WH.skip (OpOk.not rfl rfl rfl hg2) ?_
   refine WH.skip (OpOk.not rfl rfl rfl hg2) ?_
   refine WH.skip (OpOk.not rfl rfl rfl hg2) ?_
   refine WH.val (O.pick_f rfl (G.ne_t hg2) rfl rfl Taken.no) rfl rfl ?_
   refine WH.nil ?_
   refine E.to ?_
   refine W.cond_f rfl ?_
   refine W.exit ?_
   refine E.th ?_
   refine E.th ?_
   refine E.hit ?_
   refine E.to ?_
   refine W.seq ?_
   refine W.region ?_
   refine SL.val (O.move rfl rfl Taken.no) ?_
   refine SL.val (O.assign rfl rfl Taken.no) ?_
   refine SL.nil ?_
   refine E.to ?_
   refine W.pick (.cons (t := 4) rfl .nil) .nil ?_
   refine W.ret ?_
   refine E.fin (rs := [_]) (rn []) (.inl rfl) rfl (.cons (ResOne.tmp rfl) .nil) ?_ ?_ rfl (fixL_spec rfl)
   ·skip
    first | exact iv_int (by rw [commI_n (by omega) (by omega) (by first | assumption | omega) hi]) | exact iv_int (by rw [commI_a (by omega) hi]) | exact iv_int (by rw [commI_b (by omega) hi])
   · exact SubS.nil
 ·skip
  first | have hg1p := G.gA5 hg1 | have hg1p := G.gA6 hg1 | have hg1p := hg1
  refine WH.skip (OpOk.not rfl rfl rfl hg1) ?_
  refine WH.skip (OpOk.not rfl rfl rfl hg1) ?_
  refine WH.skip (OpOk.not rfl rfl rfl hg1) ?_
  refine WH.skip (OpOk.not rfl rfl rfl hg1) ?_
  refine WH.val (O.pick_f rfl (G.ne_t hg1) rfl rfl Taken.no) rfl rfl ?_
  refine WH.val (O.move rfl rfl Taken.no) rfl rfl ?_
  have hg4 : false ≠ true := by decide
  refine WH.skip (OpOk.not rfl rfl rfl hg4) ?_
  refine WH.skip (OpOk.not rfl rfl rfl hg4) ?_
  refine WH.skip (OpOk.not rfl rfl rfl hg4) ?_
  refine WH.skip (OpOk.not rfl rfl rfl hg4) ?_
  refine WH.skip (OpOk.not rfl rfl rfl hg4) ?_
  refine WH.skip (OpOk.not rfl rfl rfl hg4) ?_
  refine WH.skip (OpOk.not rfl rfl rfl hg4) ?_
  refine WH.val (O.pick_f rfl rfl rfl rfl Taken.no) rfl rfl ?_
  refine WH.nil ?_
  refine E.to ?_
  refine W.cond_f rfl ?_
  refine W.exit ?_
  refine E.th ?_
  refine E.th ?_
  refine E.hit ?_
  refine E.to ?_
  refine W.seq ?_
  refine W.region ?_
  refine SL.val (O.move rfl rfl Taken.no) ?_
  refine SL.val (O.assign rfl rfl Taken.no) ?_
  refine SL.nil ?_
  refine E.to ?_
  refine W.pick (.cons (t := 4) rfl .nil) .nil ?_
  refine W.ret ?_
  refine E.fin (rs := [_]) (rn []) (.inl rfl) rfl (.cons (ResOne.tmp rfl) .nil) ?_ ?_ rfl (fixL_spec rfl)
  ·skip
   first | exact iv_int (by rw [commI_n (by omega) (by omega) (by first | assumption | omega) hi]) | exact iv_int (by rw [commI_a (by omega) hi]) | exact iv_int (by rw [commI_b (by omega) hi])
  · exact SubS.nil

set_option maxRecDepth 8000 in
/-- bookplate/prefix.Has. -/
theorem has_h {t : Tr} {s : Str} (hb : bd 1000 t) (_ : s.length ≤ 1000000) :
    Con Try.prog 18 [vA [uT t.lab, uB t.wd, .sl 3 (t.kids.map eTr)], vT s] [] (vB (decide (s ∈ t.inn))) [] := by
 obtain ⟨i27, hi27, hz27, hs27, hb27⟩ := hinf27
 refine Con.enterL (n := 45) Try.func18 rfl rfl rfl (fun τ w ok vs hin => ?_)
 have hl0_2 := hin.lenA (i := 0) (j := 2) rfl rfl
 try rw [List.length_map] at hl0_2
 clear hin
 refine W.seq ?_
 refine W.region ?_
 refine SL.memS (O.box (is := [_, _, _]) 101 rfl rfl (by simp) rfl rfl Taken.no) rfl rfl (S' := (101, _) :: _) rfl ?_
 refine SL.val (O.assign rfl rfl Taken.no) ?_
 refine SL.nil ?_
 refine E.to ?_
 refine W.seq ?_
 refine W.block ?_
 refine W.loopx2 (fun (x : Tr) (y : Str) => [(1, vT y)]) (fun (x : Tr) (y : Str) => [(101, .cells 27 [.u (uT x.lab), .u (uB x.wd), .u (.sl 3 (x.kids.map eTr))])]) (fun (x : Tr) (y : Str) => bd 1000 x ∧ (y ∈ x.inn ↔ s ∈ t.inn)) (fun (x : Tr) (y : Str) => y.length) (t) (s) (rn []) (.cons (t := 2) rfl .nil) .nil rfl ?_ ?_ rfl rfl ?_ ?_
 · exact (SubF.cons rfl SubF.nil)
 · exact (SubS.cons rfl SubS.nil)
 ·skip
  exact ⟨hb, Iff.rfl⟩
 intro x y hinv
 obtain ⟨hx, hi⟩ := hinv
 have hkl := bd_kids hx
 refine W.seq ?_
 refine W.seq ?_
 refine W.region ?_
 refine SL.val (O.move rfl rfl Taken.no) ?_
 refine SL.val (O.det (fun _ => G.R.strneL (b := []) rfl rfl) rfl Taken.no) ?_
 refine SL.nil ?_
 refine E.to ?_
 first | refine W.cond_d rfl (fun hc1 => ?_) (fun hc1 => ?_) | refine W.cond_nd rfl (fun hc1 => ?_) (fun hc1 => ?_) | refine W.cond rfl (fun hc1 => ?_) (fun hc1 => ?_)
 ·skip
  have hy : y ≠ [] := by assumption
  refine W.skip ?_
  refine E.to ?_
  refine W.block ?_
  refine W.seq ?_
  refine W.draw [⟨[101], [], []⟩, ⟨[], [], []⟩, ⟨[], [], []⟩, ⟨[], [], []⟩, ⟨[], [], []⟩, ⟨[], [], []⟩, ⟨[], [], []⟩, ⟨[], [], []⟩, ⟨[], [], []⟩] rfl (by kernel_rfl) (by kernel_rfl) rfl rfl ?_
  refine WH.val (O.ldN (m := 3) (PtI.ref rfl rfl) (js := [_, _, _]) rfl (Nat.le_of_ble_eq_true rfl) Try.underlying27 rfl (by kernel_rfl) rfl Taken.no) rfl rfl ?_
  refine WH.val (O.move rfl rfl Taken.no) rfl rfl ?_
  refine WH.val (O.det (fun _ => G.R.stridxL (i := 0) rfl rfl Try.underlying9 (by exact ne_pos hy)) rfl Taken.no) rfl rfl ?_
  refine WH.memS (O.call (rn []) [] rfl rfl rfl (kid_h (t := x) (b := y[0]!) hx.1 (by omega)) (.cons (ArgOk.aggU (.cons (ArgOk.same rfl) (.cons (ArgOk.same rfl) (.cons (ArgOk.same rfl) .nil)))) (.cons (ArgOk.same rfl) .nil)) SubS.nil rfl rfl rfl rfl rfl (.inl rfl) hcallOk47 (r' := .tup [.u _, .u _]) rfl rfl Taken.no) rfl rfl rfl rfl rfl (S' := _) rfl ?_
  refine WH.val (O.move rfl rfl Taken.no) rfl rfl ?_
  refine WH.val (O.extract rfl rfl rfl Taken.no) rfl rfl ?_
  refine WH.val (O.extract rfl rfl rfl Taken.no) rfl rfl ?_
  refine WH.val (O.assign rfl rfl Taken.no) rfl rfl ?_
  refine WH.val (O.assign rfl rfl Taken.no) rfl rfl ?_
  refine WH.nil ?_
  refine E.to ?_
  refine W.seq ?_
  refine W.seq ?_
  refine W.region ?_
  refine SL.val (O.move rfl rfl Taken.no) ?_
  refine SL.val (O.det (fun _ => G.R.not rfl) rfl Taken.no) ?_
  refine SL.val (O.move rfl rfl Taken.no) ?_
  refine SL.case (j := 2) (g := 18) (want := false) rfl rfl (fun hg2 => ?_) (fun hg2 => ?_)
  ·skip
   first | have hg2p := G.gA3 hg2 | have hg2p := G.gA4 hg2 | have hg2p := hg2
   have hf : kfnd x.kids y[0]! = true := nb_f (by assumption)
   have hk := kid_lab hx hf
   refine SL.val (O.move rfl rfl (Taken.yes rfl rfl hg2)) ?_
   refine SL.val (O.fld_ref (o' := 2) rfl Try.underlying27 rfl (m := 0) (by kernel_rfl) rfl rfl (Taken.yes rfl rfl hg2)) ?_
   refine SL.val (O.ld1 (PtI.ref rfl rfl) rfl Try.underlying25 rfl rfl (Taken.yes rfl rfl hg2)) ?_
   refine SL.val (O.move rfl rfl (Taken.yes rfl rfl hg2)) ?_
   refine SL.val (O.idx_fz (i := kpos x.kids y[0]!) rfl rfl (rfl) (row_tr (by exact hk.1)) Try.underlying25 hi27 hs27 rfl (Taken.yes rfl rfl hg2)) ?_
   refine SL.val (O.fld_fz rfl Try.underlying27 rfl (m := 0) (by kernel_rfl) rfl rfl (Taken.yes rfl rfl hg2)) ?_
   refine SL.val (O.ld1 (PtI.ofU (PtU.fz rfl)) rfl Try.underlying9 rfl rfl (Taken.yes rfl rfl hg2)) ?_
   refine SL.val (O.callp rfl rfl rfl (hasPrefix_h (s := y) (p := x.kids[kpos x.kids y[0]!]!.lab)) (.cons (ArgOk.same rfl) (.cons (ArgOk.same rfl) .nil)) hcallOk48 rfl (Taken.yes rfl rfl hg2)) ?_
   refine SL.val (O.det (fun _ => G.R.not rfl) rfl (Taken.yes rfl rfl hg2)) ?_
   refine SL.val (O.pick_f rfl hg2 rfl rfl Taken.no) ?_
   refine SL.nil ?_
   refine E.to ?_
   refine W.pick (.cons (t := 1) rfl (.cons (t := 2) rfl (.cons (t := 5) rfl (.cons (t := 28) rfl .nil)))) (.cons (t := 101) rfl .nil) ?_
   first | refine W.cond_d rfl (fun hc3 => ?_) (fun hc3 => ?_) | refine W.cond_nd rfl (fun hc3 => ?_) (fun hc3 => ?_) | refine W.cond rfl (fun hc3 => ?_) (fun hc3 => ?_)
   ·skip
    refine W.seq ?_
    refine W.region ?_
    refine SL.val (O.assign rfl rfl Taken.no) ?_
    refine SL.nil ?_
    refine E.to ?_
    refine W.ret ?_
    refine E.thr ?_
    refine E.inr ?_
    refine E.thr ?_
    refine E.inr ?_
    refine E.thr ?_
    refine E.fin (rs := [_]) (rn []) (.inl rfl) rfl (.cons (ResOne.tmp rfl) .nil) ?_ ?_ rfl (fixL_spec rfl)
    ·skip
     exact iv_bool (dec_f (fun q => by first | exact hasB_no hx.1 hy (nb_n (by assumption)) (hi.2 q) | exact absurd ((hasB hx.1 hy hf).1 (hi.2 q)).1 (by assumption)))
    · exact SubS.nil
   ·skip
    have hp : x.kids[kpos x.kids y[0]!]!.lab <+: y := by assumption
    have hpl := hp.length_le
    refine W.skip ?_
    refine E.to ?_
    refine W.draw [⟨[101], [], []⟩, ⟨[101], [], []⟩, ⟨[], [], []⟩, ⟨[], [], []⟩, ⟨[], [], []⟩, ⟨[], [], []⟩, ⟨[101], [], []⟩, ⟨[101], [], []⟩, ⟨[], [], []⟩, ⟨[], [], []⟩, ⟨[], [], []⟩, ⟨[], [], []⟩, ⟨[], [], []⟩, ⟨[], [], []⟩, ⟨[101], [101], []⟩, ⟨[], [], []⟩] rfl (by kernel_rfl) (by kernel_rfl) rfl rfl ?_
    refine WH.val (O.fld_ref (o' := 2) rfl Try.underlying27 rfl (m := 0) (by kernel_rfl) rfl rfl Taken.no) rfl rfl ?_
    refine WH.val (O.ld1 (PtI.ref rfl rfl) rfl Try.underlying25 rfl rfl Taken.no) rfl rfl ?_
    refine WH.val (O.move rfl rfl Taken.no) rfl rfl ?_
    refine WH.val (O.idx_fz (i := kpos x.kids y[0]!) rfl rfl (rfl) (row_tr (by exact hk.1)) Try.underlying25 hi27 hs27 rfl Taken.no) rfl rfl ?_
    refine WH.val (O.ldU (m := 3) (PtU.fz rfl) rfl Try.underlying27 rfl (by kernel_rfl) rfl Taken.no) rfl rfl ?_
    refine WH.val (O.move rfl rfl Taken.no) rfl rfl ?_
    refine WH.val (O.fld_ref (o' := 2) rfl Try.underlying27 rfl (m := 0) (by kernel_rfl) rfl rfl Taken.no) rfl rfl ?_
    refine WH.val (O.ld1 (PtI.ref rfl rfl) rfl Try.underlying25 rfl rfl Taken.no) rfl rfl ?_
    refine WH.val (O.move rfl rfl Taken.no) rfl rfl ?_
    refine WH.val (O.idx_fz (i := kpos x.kids y[0]!) rfl rfl (rfl) (row_tr (by exact hk.1)) Try.underlying25 hi27 hs27 rfl Taken.no) rfl rfl ?_
    refine WH.val (O.fld_fz rfl Try.underlying27 rfl (m := 0) (by kernel_rfl) rfl rfl Taken.no) rfl rfl ?_
    refine WH.val (O.ld1 (PtI.ofU (PtU.fz rfl)) rfl Try.underlying9 rfl rfl Taken.no) rfl rfl ?_
    refine WH.val (O.det (fun _ => G.R.lenL rfl Try.underlying9) rfl Taken.no) rfl rfl ?_
    refine WH.val (O.det (fun _ => G.R.strfromL rfl rfl Try.underlying9 (by omega)) rfl Taken.no) rfl rfl ?_
    refine WH.effS (O.st_ref (m := 3) rfl rfl rfl (js := [_, _, _]) rfl rfl (by kernel_rfl) (by simp) (Nat.le_of_ble_eq_true rfl) rfl (is' := [_, _, _]) rfl Taken.no) rfl rfl rfl (S' := (101, _) :: _) rfl ?_
    refine WH.val (O.assign rfl rfl Taken.no) rfl rfl ?_
    refine WH.nil ?_
    refine E.inn ?_
    refine E.again ((x.kids[kpos x.kids y[0]!]!), (y.drop x.kids[kpos x.kids y[0]!]!.lab.length)) (rn []) ?_ ?_ rfl (fixL_spec rfl) ?_ ?_
    · exact (SubF.cons rfl (SubF.cons rfl SubF.nil))
    · exact (SubS.cons rfl SubS.nil)
    ·try dsimp only
     exact ⟨hk.2.1, by rw [← hi, hasB hx.1 hy hf]; exact ⟨fun q => ⟨hp, q⟩, fun q => q.2⟩⟩
    · (try dsimp only); (have := ne_pos hy; rw [List.length_drop]; omega)
  ·skip
   first | have hg2p := G.gA7 hg2 | have hg2p := G.gA8 hg2 | have hg2p := hg2
   refine SL.skip (OpOk.not rfl rfl rfl hg2) ?_
   refine SL.skip (OpOk.not rfl rfl rfl hg2) ?_
   refine SL.skip (OpOk.not rfl rfl rfl hg2) ?_
   refine SL.skip (OpOk.not rfl rfl rfl hg2) ?_
   refine SL.skip (OpOk.not rfl rfl rfl hg2) ?_
   refine SL.skip (OpOk.not rfl rfl rfl hg2) ?_
   refine SL.skip (OpOk.not rfl rfl rfl hg2) ?_
   refine SL.skip (OpOk.not rfl rfl rfl hg2) ?_
   refine SL.skip (OpOk.not rfl rfl rfl hg2) ?_
   refine SL.val (O.pick_t rfl (G.ne_f hg2) rfl rfl Taken.no) ?_
   refine SL.nil ?_
   refine E.to ?_
   refine W.pick (.cons (t := 1) rfl (.cons (t := 2) rfl (.cons (t := 5) rfl (.cons (t := 28) rfl .nil)))) (.cons (t := 101) rfl .nil) ?_
   refine W.cond_t rfl ?_
   refine W.seq ?_
   refine W.region ?_
   refine SL.val (O.assign rfl rfl Taken.no) ?_
   refine SL.nil ?_
   refine E.to ?_
   refine W.ret ?_
   refine E.thr ?_
   refine E.inr ?_
   refine E.thr ?_
   refine E.inr ?_
   refine E.thr ?_
   refine E.fin (rs := [_]) (rn []) (.inl rfl) rfl (.cons (ResOne.tmp rfl) .nil) ?_ ?_ rfl (fixL_spec rfl)
   ·skip
    exact iv_bool (dec_f (fun q => by first | exact hasB_no hx.1 hy (nb_n (by assumption)) (hi.2 q) | exact absurd ((hasB hx.1 hy hf).1 (hi.2 q)).1 (by assumption)))
   · exact SubS.nil
 ·skip
  have hy0 : y = [] := by simp_all
  refine W.exit ?_
  refine E.th ?_
  refine E.th ?_
  refine E.hit ?_
  refine E.to ?_
  refine W.seq ?_
  refine W.region ?_
  refine SL.val (O.fld_ref (o' := 1) rfl Try.underlying27 rfl (m := 0) (by kernel_rfl) rfl rfl Taken.no) ?_
  refine SL.val (O.ld1 (PtI.ref rfl rfl) rfl Try.underlying4 rfl rfl Taken.no) ?_
  refine SL.val (O.assign rfl rfl Taken.no) ?_
  refine SL.nil ?_
  refine E.to ?_
  refine W.ret ?_
  refine E.fin (rs := [_]) (rn []) (.inl rfl) rfl (.cons (ResOne.tmp rfl) .nil) ?_ ?_ rfl (fixL_spec rfl)
  ·skip
   exact iv_bool (by subst hy0; have := has_nil hx.1; rw [Bool.eq_iff_iff]; simp only [decide_eq_true_eq]; rw [← hi, this])
  · exact SubS.nil

end Go.Proofs.Ytfmgpocbpbfalaa
