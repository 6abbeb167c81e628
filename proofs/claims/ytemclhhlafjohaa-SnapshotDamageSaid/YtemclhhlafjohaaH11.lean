/-
  The walks.
-/
import Derived.Test.YtemclhhlafjohaaH10
import Derived.Test.YtemclhhlafjohaaS21
import Derived.Test.YtemclhhlafjohaaHStr
namespace Go.Proofs.Ytemclhhlafjohaa
open Go Go.RowKit Go.H Go.D21 Go.D20 Go.D02

theorem hinf82 : ∃ i, Try.prog.info? 82 = some i ∧ i.zero = some (.agg #[.int .u8 0, .slice none 0 0]) ∧ i.size = 2 ∧ i.bytes = 32 := G.info_of (by kernel_rfl)
theorem hcallOk16 : G.callOk Try.prog 16 = true := by kernel_rfl
theorem hcallOk22 : G.callOk Try.prog 22 = true := by kernel_rfl
theorem hcallOk24 : G.callOk Try.prog 24 = true := by kernel_rfl
theorem hcallOk26 : G.callOk Try.prog 26 = true := by kernel_rfl

abbrev eStp (x : Stp) : List UV := [.sc (.int .u8 (x.k.toNat : Int)), .sl 1 (x.d.map eB)]
def cK (a : List Bool) (b : List Bs) : List IV := [vB a[0]!, vB a[1]!, vB a[2]!, vB a[3]!, vB a[4]!, vB a[5]!, vB a[6]!, vB a[7]!, vB a[8]!, vB a[9]!, vB a[10]!, vB a[11]!, vB a[12]!, vT b[0]!, vT b[1]!, vT b[2]!, vT b[3]!, vT b[4]!, vT b[5]!, vT b[6]!, vT b[7]!, vT b[8]!, vT b[9]!, vT b[10]!, vT b[11]!, vT b[12]!]
theorem cK_map {a : List Bool} {b : List Bs} (ha : a.length = 13) (hb : b.length = 13) : cK a b = a.map (fun x => vB x) ++ b.map (fun x => vT x) := by
  conv => rhs; rw [exp13 ha, exp13 hb]
  rfl
theorem set_td {α : Type} {l : List α} {i : Nat} {x : α} (h : i < l.length) : l.take i ++ [x] ++ l.drop (i + 1) = l.set i x := by
  rw [List.set_eq_take_append_cons_drop, if_pos h]; simp
theorem cK_set1 {a : List Bool} {b : List Bs} (ha : a.length = 13) (hb : b.length = 13) {i : Nat} {x : Bool} (hi : i < 13) : (cK a b).take (0 + i * 1) ++ [vB x] ++ (cK a b).drop (0 + i * 1 + 1) = cK (a.set i x) b := by
  have e : 0 + i * 1 = i := by omega
  rw [e, set_td (show i < (cK a b).length from by show i < 26; omega), cK_map ha hb, cK_map (by rw [List.length_set]; exact ha) hb, List.set_append_left _ _ (by rw [List.length_map, ha]; exact hi), List.map_set]
theorem cK_set2 {a : List Bool} {b : List Bs} (ha : a.length = 13) (hb : b.length = 13) {i : Nat} {x : Bs} (hi : i < 13) : (cK a b).take (13 + i * 1) ++ [vT x] ++ (cK a b).drop (13 + i * 1 + 1) = cK a (b.set i x) := by
  have e : 13 + i * 1 = 13 + i := by omega
  rw [e, set_td (show 13 + i < (cK a b).length from by show 13 + i < 26; omega), cK_map ha hb, cK_map ha (by rw [List.length_set]; exact hb), List.set_append_right _ _ (by rw [List.length_map, ha]; omega), List.length_map, ha, Nat.add_sub_cancel_left, List.map_set]
theorem cK_drop {a : List Bool} {b : List Bs} (ha : a.length = 13) (hb : b.length = 13) {i : Nat} (hi : i < 13) : (cK a b).drop (13 + i * 1) = vT b[i]! :: (cK a b).drop (13 + i * 1 + 1) := by
  rw [List.drop_eq_getElem_cons (show 13 + i * 1 < (cK a b).length from by show _ < 26; omega)]
  congr 1
  have e : (cK a b)[13 + i * 1]'(by show _ < 26; omega) = (a.map (fun x => vB x) ++ b.map (fun x => vT x))[13 + i * 1]'(by simp [ha, hb]; omega) := by
    congr 1; exact cK_map ha hb
  rw [e, List.getElem_append_right (by simp [ha]), List.getElem_map, getElem!_pos b i (by omega)]
  congr 1
  simp [ha]
theorem few_f {l : List Stp} {k : Nat} (hk : k < l.length) (h : 20 < l[k]!.d.length) : ¬ fewL l := fun q => by have := q.2 k hk; omega

set_option maxRecDepth 8000 in
/-- bookplate/bookplatelaw21.few. -/
theorem few21_h {l : List Stp} :
    Con Try.prog 19 [vL 2 (l.map eStp)] [] (vB (decide (fewL l))) [] := by
 obtain ⟨i82, hi82, hz82, hs82, hb82⟩ := hinf82
 refine Con.enterL (n := 19) Try.func19 rfl rfl rfl (fun τ w ok vs hin => ?_)
 have hl0 := hin.len (i := 0) rfl
 try rw [List.length_map] at hl0
 clear hin
 refine W.seq ?_
 refine W.region ?_
 refine SL.val (O.assign rfl rfl Taken.no) ?_
 refine SL.nil ?_
 refine E.to ?_
 refine W.seq ?_
 refine W.seq ?_
 refine W.region ?_
 refine SL.val (O.move rfl rfl Taken.no) ?_
 refine SL.val (O.lenE (SlOf.fz rfl (by decide)) (by first | exact List.length_map _ | rfl) Try.underlying42 rfl Taken.no) ?_
 refine SL.val (O.move rfl rfl Taken.no) ?_
 refine SL.nil ?_
 refine E.to ?_
 refine W.block ?_
 refine W.loopx1 (fun (k : Nat) => [(7, vI (k : Int))]) (fun (k : Nat) => []) (fun (k : Nat) => k ≤ l.length ∧ ∀ j, j < k → l[j]!.d.length ≤ 20) (fun (k : Nat) => l.length - k) (0) (rn []) (.cons (t := 0) rfl (.cons (t := 5) rfl (.cons (t := 6) rfl .nil))) .nil rfl ?_ ?_ rfl rfl ?_ ?_
 · exact (SubF.cons rfl SubF.nil)
 · exact SubS.nil
 ·skip
  exact ⟨by omega, fun j h => by omega⟩
 intro k hinv
 obtain ⟨hk, hp⟩ := hinv
 refine W.seq ?_
 refine W.region ?_
 refine SL.val (O.det (fun _ => G.R.lss rfl rfl) rfl Taken.no) ?_
 refine SL.nil ?_
 refine E.to ?_
 refine W.seq ?_
 first | refine W.cond_d rfl (fun hc1 => ?_) (fun hc1 => ?_) | refine W.cond_nd rfl (fun hc1 => ?_) (fun hc1 => ?_) | refine W.cond rfl (fun hc1 => ?_) (fun hc1 => ?_)
 ·skip
  refine W.skip ?_
  refine E.to ?_
  refine W.seq ?_
  refine W.block ?_
  refine W.seq ?_
  refine W.region ?_
  refine SL.val (O.idx_fz rfl rfl (rfl) (row_get (by omega)) Try.underlying42 hi82 hs82 rfl Taken.no) ?_
  refine SL.val (O.ldU (m := 2) (PtU.fz rfl) rfl Try.underlying82 rfl (by kernel_rfl) rfl Taken.no) ?_
  refine SL.memS (O.alloc (z := .agg #[.int .u8 0, .slice none 0 0]) (is := [.u (.sc (.int .u8 0)), .u (.sc (.slice none 0 0))]) 101 (by kernel_rfl) rfl rfl rfl Taken.no) rfl rfl (S' := (101, _) :: _) rfl ?_
  refine SL.effS (O.st_ref (m := 2) rfl rfl rfl (js := [_, _]) rfl rfl (by kernel_rfl) (by simp) (Nat.le_of_ble_eq_true rfl) rfl (is' := [_, _]) rfl Taken.no) (S' := (101, _) :: _) rfl ?_
  refine SL.nil ?_
  refine E.to ?_
  refine W.seq ?_
  refine W.region ?_
  refine SL.val (O.fld_ref (o' := 1) rfl Try.underlying82 rfl (m := 0) (by kernel_rfl) rfl rfl Taken.no) ?_
  refine SL.val (O.ld1 (PtI.ref rfl rfl) rfl Try.underlying22 rfl rfl Taken.no) ?_
  refine SL.val (O.lenE (SlOf.fz rfl (by decide)) (by first | exact List.length_map _ | rfl) Try.underlying22 rfl Taken.no) ?_
  refine SL.val (O.det (fun _ => G.R.gtr rfl rfl) rfl Taken.no) ?_
  refine SL.nil ?_
  refine E.to ?_
  first | refine W.cond_d rfl (fun hc2 => ?_) (fun hc2 => ?_) | refine W.cond_nd rfl (fun hc2 => ?_) (fun hc2 => ?_) | refine W.cond rfl (fun hc2 => ?_) (fun hc2 => ?_)
  ·skip
   refine W.seq ?_
   refine W.region ?_
   refine SL.val (O.assign rfl rfl Taken.no) ?_
   refine SL.nil ?_
   refine E.to ?_
   refine W.ret ?_
   refine E.inr ?_
   refine E.thr ?_
   refine E.thr ?_
   refine E.inr ?_
   refine E.thr ?_
   refine E.fin (rs := [_]) (rn []) (.inl rfl) rfl (.cons (ResOne.tmp rfl) .nil) ?_ ?_ rfl (fixL_spec rfl)
   ·skip
    exact iv_bool (decide_eq_false (few_f (k := k) (by omega) (by omega)))
   · exact SubS.nil
  ·skip
   refine W.skip ?_
   refine E.inn ?_
   refine E.to ?_
   refine W.region ?_
   refine SL.val (O.det (fun _ => by first | exact G.R.add64 rfl rfl (by omega) | exact G.R.add rfl rfl) rfl Taken.no) ?_
   refine SL.val (O.move rfl rfl Taken.no) ?_
   refine SL.nil ?_
   refine E.again ((k + 1)) (rn []) ?_ ?_ rfl (fixL_spec rfl) ?_ ?_
   · exact (SubF.cons rfl (SubF.cons rfl (SubF.cons rfl (SubF.cons rfl SubF.nil))))
   · exact SubS.nil
   ·try dsimp only
    exact ⟨by omega, fun j hj => by rcases Nat.lt_succ_iff_lt_or_eq.1 hj with h | h; exact hp j h; subst h; omega⟩
   · (try dsimp only); omega
 ·skip
  refine W.exit ?_
  refine E.th ?_
  refine E.th ?_
  refine E.hit ?_
  refine E.to ?_
  refine W.seq ?_
  refine W.region ?_
  refine SL.val (O.move rfl rfl Taken.no) ?_
  refine SL.val (O.lenE (SlOf.fz rfl (by decide)) (by first | exact List.length_map _ | rfl) Try.underlying42 rfl Taken.no) ?_
  refine SL.val (O.det (fun _ => G.R.leq rfl rfl) rfl Taken.no) ?_
  refine SL.val (O.assign rfl rfl Taken.no) ?_
  refine SL.nil ?_
  refine E.to ?_
  refine W.ret ?_
  refine E.fin (rs := [_]) (rn []) (.inl rfl) rfl (.cons (ResOne.tmp rfl) .nil) ?_ ?_ rfl (fixL_spec rfl)
  ·skip
   exact iv_bool (decide_eq_decide.2 ⟨fun q => by have := q.1; omega, fun q => ⟨by omega, fun i hi => hp i (by omega)⟩⟩)
  · exact SubS.nil

set_option maxRecDepth 8000 in
/-- (bookplate/bookplatelaw21.snaps).has. -/
theorem has21_h {t : Tk} {n : Int} {d : Bs} (h1 : t.th.length = 13) (h2 : t.td.length = 13) :
    Con Try.prog 23 [vA [uB t.th[0]!, uB t.th[1]!, uB t.th[2]!, uB t.th[3]!, uB t.th[4]!, uB t.th[5]!, uB t.th[6]!, uB t.th[7]!, uB t.th[8]!, uB t.th[9]!, uB t.th[10]!, uB t.th[11]!, uB t.th[12]!, uT t.td[0]!, uT t.td[1]!, uT t.td[2]!, uT t.td[3]!, uT t.td[4]!, uT t.td[5]!, uT t.td[6]!, uT t.td[7]!, uT t.td[8]!, uT t.td[9]!, uT t.td[10]!, uT t.td[11]!, uT t.td[12]!], vI n, vL 1 (d.map eB)] [] (vB (decide (0 ≤ n ∧ n ≤ 12 ∧ t.td[n.toNat]! = d))) [] := by
 refine Con.enterL (n := 22) Try.func23 rfl rfl rfl (fun τ w ok vs hin => ?_)
 have hl2 := hin.len (i := 2) rfl
 try rw [List.length_map] at hl2
 clear hin
 refine W.seq ?_
 refine W.region ?_
 refine SL.memS (O.box (is := [_, _, _, _, _, _, _, _, _, _, _, _, _, _, _, _, _, _, _, _, _, _, _, _, _, _]) 101 rfl rfl (by simp) rfl rfl Taken.no) rfl rfl (S' := (101, _) :: _) rfl ?_
 refine SL.val (O.assign rfl rfl Taken.no) ?_
 refine SL.nil ?_
 refine E.to ?_
 refine W.seq ?_
 refine W.draw [⟨[], [], [], []⟩, ⟨[], [], [], []⟩, ⟨[], [], [], []⟩, ⟨[], [], [], []⟩, ⟨[], [], [], []⟩, ⟨[], [], [], []⟩, ⟨[], [], [], []⟩, ⟨[], [], [], []⟩, ⟨[], [], [], [101]⟩, ⟨[], [], [], [101]⟩, ⟨[101], [], [], []⟩, ⟨[], [], [], []⟩, ⟨[], [], [], []⟩, ⟨[], [], [], []⟩, ⟨[], [], [], []⟩, ⟨[], [], [], []⟩] rfl (by kernel_rfl) (by kernel_rfl) rfl rfl ?_
 refine WH.val (O.move rfl rfl Taken.no) rfl rfl ?_
 refine WH.val (O.det (fun _ => G.R.geq rfl rfl) rfl Taken.no) rfl rfl ?_
 refine WH.val (O.move rfl rfl Taken.no) rfl rfl ?_
 refine WH.case (j := 2) (g := 9) (want := true) rfl rfl (fun hg1 => ?_) (fun hg1 => ?_)
 ·skip
  first | have hg1p := G.gA1 hg1 | have hg1p := G.gA2 hg1 | have hg1p := hg1
  refine WH.val (O.move rfl rfl (Taken.yes rfl rfl hg1)) rfl rfl ?_
  refine WH.val (O.det (fun _ => G.R.leq rfl rfl) rfl (Taken.yes rfl rfl hg1)) rfl rfl ?_
  refine WH.val (O.pick_t rfl hg1 rfl rfl Taken.no) rfl rfl ?_
  refine WH.val (O.move rfl rfl Taken.no) rfl rfl ?_
  refine WH.case (j := 6) (g := 13) (want := true) rfl rfl (fun hg2 => ?_) (fun hg2 => ?_)
  ·skip
   first | have hg2p := G.gA1 hg2 | have hg2p := G.gA2 hg2 | have hg2p := hg2
   refine WH.val (O.move rfl rfl (Taken.yes rfl rfl hg2)) rfl rfl ?_
   refine WH.val (O.fld_ref (o' := 13) rfl Try.underlying50 rfl (m := 12) (by kernel_rfl) rfl rfl (Taken.yes rfl rfl hg2)) rfl rfl ?_
   refine WH.val (O.idx_ref (i := n.toNat) (m := 1) rfl rfl (by omega) (by omega) Try.underlying48 (by kernel_rfl) rfl rfl (Taken.yes rfl rfl hg2)) rfl rfl ?_
   refine WH.val (O.ld1 ((PtI.ref rfl rfl).eq (by exact cK_drop h1 h2 (by omega))) rfl Try.underlying9 rfl rfl (Taken.yes rfl rfl hg2)) rfl rfl ?_
   refine WH.val (O.move rfl rfl (Taken.yes rfl rfl hg2)) rfl rfl ?_
   refine WH.val (O.b2s (l := d) (SlOf.fz rfl (by decide)) Try.underlying22 Try.underlying5 Try.underlying9 rfl (Taken.yes rfl rfl hg2)) rfl rfl ?_
   refine WH.val (O.det (fun _ => G.R.streqL rfl rfl) rfl (Taken.yes rfl rfl hg2)) rfl rfl ?_
   refine WH.val (O.pick_t rfl hg2 rfl rfl Taken.no) rfl rfl ?_
   refine WH.val (O.assign rfl rfl Taken.no) rfl rfl ?_
   refine WH.nil ?_
   refine E.to ?_
   refine W.ret ?_
   refine E.fin (rs := [_]) (rn []) (.inl rfl) rfl (.cons (ResOne.tmp rfl) .nil) ?_ ?_ rfl (fixL_spec rfl)
   ·skip
    first | exact iv_bool (decide_eq_false fun q => by first | omega | exact absurd q.2.2 (by assumption)) | exact iv_bool (decide_eq_decide.2 ⟨fun q => q.2.2, fun q => ⟨by omega, by omega, q⟩⟩)
   · exact SubS.nil
  ·skip
   first | have hg2p := G.gA5 hg2 | have hg2p := G.gA6 hg2 | have hg2p := hg2
   refine WH.skip (OpOk.not rfl rfl rfl hg2) ?_
   refine WH.skip (OpOk.not rfl rfl rfl hg2) ?_
   refine WH.skip (OpOk.not rfl rfl rfl hg2) ?_
   refine WH.skip (OpOk.not rfl rfl rfl hg2) ?_
   refine WH.skip (OpOk.not rfl rfl rfl hg2) ?_
   refine WH.skip (OpOk.not rfl rfl rfl hg2) ?_
   refine WH.skip (OpOk.not rfl rfl rfl hg2) ?_
   refine WH.val (O.pick_f rfl (G.ne_t hg2) rfl rfl Taken.no) rfl rfl ?_
   refine WH.val (O.assign rfl rfl Taken.no) rfl rfl ?_
   refine WH.nil ?_
   refine E.to ?_
   refine W.ret ?_
   refine E.fin (rs := [_]) (rn []) (.inl rfl) rfl (.cons (ResOne.tmp rfl) .nil) ?_ ?_ rfl (fixL_spec rfl)
   ·skip
    first | exact iv_bool (decide_eq_false fun q => by first | omega | exact absurd q.2.2 (by assumption)) | exact iv_bool (decide_eq_decide.2 ⟨fun q => q.2.2, fun q => ⟨by omega, by omega, q⟩⟩)
   · exact SubS.nil
 ·skip
  first | have hg1p := G.gA5 hg1 | have hg1p := G.gA6 hg1 | have hg1p := hg1
  refine WH.skip (OpOk.not rfl rfl rfl hg1) ?_
  refine WH.skip (OpOk.not rfl rfl rfl hg1) ?_
  refine WH.val (O.pick_f rfl (G.ne_t hg1) rfl rfl Taken.no) rfl rfl ?_
  refine WH.val (O.move rfl rfl Taken.no) rfl rfl ?_
  have hg3 : false ≠ true := by decide
  refine WH.skip (OpOk.not rfl rfl rfl hg3) ?_
  refine WH.skip (OpOk.not rfl rfl rfl hg3) ?_
  refine WH.skip (OpOk.not rfl rfl rfl hg3) ?_
  refine WH.skip (OpOk.not rfl rfl rfl hg3) ?_
  refine WH.skip (OpOk.not rfl rfl rfl hg3) ?_
  refine WH.skip (OpOk.not rfl rfl rfl hg3) ?_
  refine WH.skip (OpOk.not rfl rfl rfl hg3) ?_
  refine WH.val (O.pick_f rfl rfl rfl rfl Taken.no) rfl rfl ?_
  refine WH.val (O.assign rfl rfl Taken.no) rfl rfl ?_
  refine WH.nil ?_
  refine E.to ?_
  refine W.ret ?_
  refine E.fin (rs := [_]) (rn []) (.inl rfl) rfl (.cons (ResOne.tmp rfl) .nil) ?_ ?_ rfl (fixL_spec rfl)
  ·skip
   first | exact iv_bool (decide_eq_false fun q => by first | omega | exact absurd q.2.2 (by assumption)) | exact iv_bool (decide_eq_decide.2 ⟨fun q => q.2.2, fun q => ⟨by omega, by omega, q⟩⟩)
  · exact SubS.nil

set_option maxRecDepth 8000 in
set_option maxHeartbeats 3200000 in
/-- bookplate/bookplatelaw21.run. -/
theorem run_h {l : List Stp} (hf : fewL l) :
    Con Try.prog 20 [vL 2 (l.map eStp)] [] (.tup [.agg [vI ((rA l l.length).base : Int), vL 1 ((rA l l.length).file.map eB), vI (rA l l.length).sy, vL 1 ((rA l l.length).snaps.map eL)], vL 1 ((rA l l.length).hist.map eL), vI ((rA l l.length).syn : Int), .agg [vB (rT l l.length).th[0]!, vB (rT l l.length).th[1]!, vB (rT l l.length).th[2]!, vB (rT l l.length).th[3]!, vB (rT l l.length).th[4]!, vB (rT l l.length).th[5]!, vB (rT l l.length).th[6]!, vB (rT l l.length).th[7]!, vB (rT l l.length).th[8]!, vB (rT l l.length).th[9]!, vB (rT l l.length).th[10]!, vB (rT l l.length).th[11]!, vB (rT l l.length).th[12]!, vT (rT l l.length).td[0]!, vT (rT l l.length).td[1]!, vT (rT l l.length).td[2]!, vT (rT l l.length).td[3]!, vT (rT l l.length).td[4]!, vT (rT l l.length).td[5]!, vT (rT l l.length).td[6]!, vT (rT l l.length).td[7]!, vT (rT l l.length).td[8]!, vT (rT l l.length).td[9]!, vT (rT l l.length).td[10]!, vT (rT l l.length).td[11]!, vT (rT l l.length).td[12]!], vB true]) [] := by
 have hfl := hf.1
 obtain ⟨i22, hi22, hz22, hs22, hb22⟩ := hinf22
 obtain ⟨i82, hi82, hz82, hs82, hb82⟩ := hinf82
 refine Con.enterL (n := 82) Try.func20 rfl rfl rfl (fun τ w ok vs hin => ?_)
 have hl0 := hin.len (i := 0) rfl
 try rw [List.length_map] at hl0
 clear hin
 refine W.seq ?_
 refine W.region ?_
 refine SL.memS (O.alloc (z := .agg #[.int .i64 0, .slice none 0 0, .int .i64 0, .slice none 0 0]) (is := [.u (.sc (.int .i64 0)), .u (.sc (.slice none 0 0)), .u (.sc (.int .i64 0)), .u (.sc (.slice none 0 0))]) 101 (by kernel_rfl) rfl rfl rfl Taken.no) rfl rfl (S' := (101, _) :: _) rfl ?_
 refine SL.val (O.assign rfl rfl Taken.no) ?_
 refine SL.val (O.assign rfl rfl Taken.no) ?_
 refine SL.memS (O.alloc (z := .agg #[.bool false, .bool false, .bool false, .bool false, .bool false, .bool false, .bool false, .bool false, .bool false, .bool false, .bool false, .bool false, .bool false, .string (Go.G.bs []), .string (Go.G.bs []), .string (Go.G.bs []), .string (Go.G.bs []), .string (Go.G.bs []), .string (Go.G.bs []), .string (Go.G.bs []), .string (Go.G.bs []), .string (Go.G.bs []), .string (Go.G.bs []), .string (Go.G.bs []), .string (Go.G.bs []), .string (Go.G.bs [])]) (is := [.u (.sc (.bool false)), .u (.sc (.bool false)), .u (.sc (.bool false)), .u (.sc (.bool false)), .u (.sc (.bool false)), .u (.sc (.bool false)), .u (.sc (.bool false)), .u (.sc (.bool false)), .u (.sc (.bool false)), .u (.sc (.bool false)), .u (.sc (.bool false)), .u (.sc (.bool false)), .u (.sc (.bool false)), .u (.sc (.string (Go.G.bs []))), .u (.sc (.string (Go.G.bs []))), .u (.sc (.string (Go.G.bs []))), .u (.sc (.string (Go.G.bs []))), .u (.sc (.string (Go.G.bs []))), .u (.sc (.string (Go.G.bs []))), .u (.sc (.string (Go.G.bs []))), .u (.sc (.string (Go.G.bs []))), .u (.sc (.string (Go.G.bs []))), .u (.sc (.string (Go.G.bs []))), .u (.sc (.string (Go.G.bs []))), .u (.sc (.string (Go.G.bs []))), .u (.sc (.string (Go.G.bs [])))]) 102 (by kernel_rfl) rfl rfl rfl Taken.no) rfl rfl (S' := (102, _) :: _) rfl ?_
 refine SL.val (O.assign rfl rfl Taken.no) ?_
 refine SL.nil ?_
 refine E.to ?_
 refine W.seq ?_
 refine W.seq ?_
 refine W.region ?_
 refine SL.val (O.move rfl rfl Taken.no) ?_
 refine SL.val (O.lenE (SlOf.fz rfl (by decide)) (by first | exact List.length_map _ | rfl) Try.underlying42 rfl Taken.no) ?_
 refine SL.val (O.move rfl rfl Taken.no) ?_
 refine SL.nil ?_
 refine E.to ?_
 refine W.block ?_
 refine W.adopt 3 104 22 1 (by decide) rfl rfl rfl ?_
 refine W.nilslC 101 1 1 (is' := [_, _, _, _]) rfl rfl rfl ?_
 refine W.nilslC 101 3 1 (is' := [_, _, _, _]) rfl rfl rfl ?_
 refine W.loopx1 (fun (k : Nat) => [(12, vI (k : Int)), (3, .own 103), (4, vI ((rA l k).syn : Int))]) (fun (k : Nat) => [(103, .data 22 1 ((rA l k).hist.map eL)), (101, .cells 46 [vI ((rA l k).base : Int), vL 1 ((rA l k).file.map eB), vI (rA l k).sy, vL 1 ((rA l k).snaps.map eL)]), (102, .cells 50 [vB (rT l k).th[0]!, vB (rT l k).th[1]!, vB (rT l k).th[2]!, vB (rT l k).th[3]!, vB (rT l k).th[4]!, vB (rT l k).th[5]!, vB (rT l k).th[6]!, vB (rT l k).th[7]!, vB (rT l k).th[8]!, vB (rT l k).th[9]!, vB (rT l k).th[10]!, vB (rT l k).th[11]!, vB (rT l k).th[12]!, vT (rT l k).td[0]!, vT (rT l k).td[1]!, vT (rT l k).td[2]!, vT (rT l k).td[3]!, vT (rT l k).td[4]!, vT (rT l k).td[5]!, vT (rT l k).td[6]!, vT (rT l k).td[7]!, vT (rT l k).td[8]!, vT (rT l k).td[9]!, vT (rT l k).td[10]!, vT (rT l k).td[11]!, vT (rT l k).td[12]!])]) (fun (k : Nat) => k ≤ l.length) (fun (k : Nat) => l.length - k) (0) (rn [(103, 104)]) (.cons (t := 2) rfl (.cons (t := 5) rfl (.cons (t := 10) rfl (.cons (t := 11) rfl .nil)))) .nil rfl ?_ ?_ rfl rfl ?_ ?_
 · exact (SubF.cons rfl (SubF.cons rfl (SubF.cons rfl SubF.nil)))
 · exact (SubS.cons rfl (SubS.cons rfl (SubS.cons rfl SubS.nil)))
 ·skip
  omega
 intro k hinv
 have hk := hinv
 have hri := RI_k hf k hk
 have hhl := hri.hl
 have hok := hri.ok
 refine W.seq ?_
 refine W.region ?_
 refine SL.val (O.det (fun _ => G.R.lss rfl rfl) rfl Taken.no) ?_
 refine SL.nil ?_
 refine E.to ?_
 refine W.seq ?_
 first | refine W.cond_d rfl (fun hc1 => ?_) (fun hc1 => ?_) | refine W.cond_nd rfl (fun hc1 => ?_) (fun hc1 => ?_) | refine W.cond rfl (fun hc1 => ?_) (fun hc1 => ?_)
 ·skip
  have hk2 : k < l.length := by omega
  have hxd : l[k]!.d.length ≤ 20 := hf.2 k hk2
  have hu := UInt8.toNat_lt l[k]!.k
  refine W.skip ?_
  refine E.to ?_
  refine W.seq ?_
  refine W.block ?_
  refine W.seq ?_
  refine W.region ?_
  refine SL.val (O.idx_fz rfl rfl (rfl) (row_get (by omega)) Try.underlying42 hi82 hs82 rfl Taken.no) ?_
  refine SL.val (O.ldU (m := 2) (PtU.fz rfl) rfl Try.underlying82 rfl (by kernel_rfl) rfl Taken.no) ?_
  refine SL.memS (O.alloc (z := .agg #[.int .u8 0, .slice none 0 0]) (is := [.u (.sc (.int .u8 0)), .u (.sc (.slice none 0 0))]) 105 (by kernel_rfl) rfl rfl rfl Taken.no) rfl rfl (S' := (105, _) :: _) rfl ?_
  refine SL.effS (O.st_ref (m := 2) rfl rfl rfl (js := [_, _]) rfl rfl (by kernel_rfl) (by simp) (Nat.le_of_ble_eq_true rfl) rfl (is' := [_, _]) rfl Taken.no) (S' := (105, _) :: _) rfl ?_
  refine SL.nil ?_
  refine E.to ?_
  refine W.seq ?_
  refine W.region ?_
  refine SL.val (O.assign rfl rfl Taken.no) ?_
  refine SL.nil ?_
  refine E.to ?_
  refine W.seq ?_
  refine W.seq ?_
  refine W.region ?_
  refine SL.val (O.fld_ref (o' := 0) rfl Try.underlying82 rfl (m := 0) (by kernel_rfl) rfl rfl Taken.no) ?_
  refine SL.val (O.ld1 (PtI.ref rfl rfl) rfl Try.underlying5 rfl rfl Taken.no) ?_
  refine SL.val (O.det (fun _ => by first | exact G.R.rem0 rfl rfl (by omega) (by omega) | exact G.R.rem rfl rfl (by omega)) rfl Taken.no) ?_
  refine SL.nil ?_
  refine E.to ?_
  refine W.block ?_
  refine W.seq ?_
  refine W.region ?_
  refine SL.val (O.det (fun _ => G.R.eql rfl rfl) rfl Taken.no) ?_
  refine SL.val (O.assign rfl rfl Taken.no) ?_
  refine SL.nil ?_
  refine E.to ?_
  first | refine W.cond_d rfl (fun hc2 => ?_) (fun hc2 => ?_) | refine W.cond_nd rfl (fun hc2 => ?_) (fun hc2 => ?_) | refine W.cond rfl (fun hc2 => ?_) (fun hc2 => ?_)
  ·skip
   have hm : l[k]!.k.toNat % 4 = 0 := by omega
   have hh2 : (rA l (k + 1)).hist = (rA l k).hist ++ [l[k]!.d] := by rw [(run_0 hk2 hm).1]; rfl
   have hs2 : (rA l (k + 1)).syn = (rA l k).syn := by rw [(run_0 hk2 hm).1]; rfl
   rw [← (run_0 hk2 hm).2]
   refine W.seq ?_
   refine W.region ?_
   refine SL.val (O.ldN (m := 4) (PtI.ref rfl rfl) (js := [_, _, _, _]) rfl (Nat.le_of_ble_eq_true rfl) Try.underlying46 rfl (by kernel_rfl) rfl Taken.no) ?_
   refine SL.val (O.fld_ref (o' := 1) rfl Try.underlying82 rfl (m := 0) (by kernel_rfl) rfl rfl Taken.no) ?_
   refine SL.val (O.ld1 (PtI.ref rfl rfl) rfl Try.underlying22 rfl rfl Taken.no) ?_
   refine SL.memS (O.call (rn []) [] rfl rfl rfl (sappend_h (a := (rA l k)) (p := l[k]!.d) hok (by omega) (by omega)) (.cons (ArgOk.aggU (.cons (ArgOk.same rfl) (.cons (ArgOk.same rfl) (.cons (ArgOk.same rfl) (.cons (ArgOk.same rfl) .nil))))) (.cons (ArgOk.same rfl) .nil)) SubS.nil rfl rfl rfl rfl rfl (.inl rfl) hcallOk26 (r' := .tup [.agg [.u _, .u _, .u _, .u _], .u _]) rfl rfl Taken.no) rfl rfl (S' := _) rfl ?_
   refine SL.as (i' := .tup [.agg [vI ((rA l (k + 1)).base : Int), vL 1 ((rA l (k + 1)).file.map eB), vI (rA l (k + 1)).sy, vL 1 ((rA l (k + 1)).snaps.map eL)], vI 0]) 25 rfl (by rw [(run_0 hk2 hm).1]) ?_
   refine SL.val (O.move rfl rfl Taken.no) ?_
   refine SL.val (O.extract rfl rfl rfl Taken.no) ?_
   refine SL.val (O.extract rfl rfl rfl Taken.no) ?_
   refine SL.effS (O.st_ref (m := 4) rfl rfl rfl (js := [_, _, _, _]) rfl rfl (by kernel_rfl) (by simp) (Nat.le_of_ble_eq_true rfl) rfl (is' := [_, _, _, _]) rfl Taken.no) (S' := (101, _) :: _) rfl ?_
   refine SL.val (O.assign rfl rfl Taken.no) ?_
   refine SL.nil ?_
   refine E.to ?_
   refine W.pick (.cons (t := 2) rfl (.cons (t := 3) rfl (.cons (t := 4) rfl (.cons (t := 5) rfl (.cons (t := 8) rfl (.cons (t := 9) rfl (.cons (t := 10) rfl (.cons (t := 11) rfl (.cons (t := 12) rfl .nil))))))))) (.cons (t := 101) rfl (.cons (t := 102) rfl (.cons (t := 103) rfl (.cons (t := 105) rfl .nil)))) ?_
   refine W.region ?_
   refine SL.val (O.move rfl rfl Taken.no) ?_
   refine SL.val (O.fld_ref (o' := 1) rfl Try.underlying82 rfl (m := 0) (by kernel_rfl) rfl rfl Taken.no) ?_
   refine SL.val (O.ld1 (PtI.ref rfl rfl) rfl Try.underlying22 rfl rfl Taken.no) ?_
   refine SL.memS (O.buildSlice 106 (rows := [l[k]!.d].map eL) rfl rfl Try.underlying32 hi22 hz22 hs22 (by decide) rfl (by decide) rfl rfl rfl Taken.no) rfl rfl (S' := (106, .data 22 1 ([l[k]!.d].map eL)) :: _) rfl ?_
   refine SL.memS (O.app (k' := 107) rfl rfl (SlOf.own rfl rfl) Try.underlying32 hi22 hz22 hs22 rfl rfl (by exact app_map) (by rw [hb22]; (simp only [List.length_map, List.length_singleton]; omega)) (by (simp only [List.length_map, List.length_singleton]; omega)) rfl Taken.no) rfl rfl (S' := (107, _) :: (103, .dead) :: _) rfl ?_
   refine SL.val (O.assign rfl rfl Taken.no) ?_
   refine SL.nil ?_
   refine E.inn ?_
   refine E.to ?_
   refine W.seq ?_
   refine W.region ?_
   refine SL.val (O.move rfl rfl Taken.no) ?_
   refine SL.val (O.det (fun _ => G.R.mv (G.R.neq rfl rfl) (congrArg Value.bool (decide_eq_false (by decide)))) rfl Taken.no) ?_
   refine SL.nil ?_
   refine E.to ?_
   refine W.cond_f rfl ?_
   refine W.skip ?_
   refine E.inn ?_
   refine E.to ?_
   refine W.region ?_
   refine SL.val (O.det (fun _ => by first | exact G.R.add64 rfl rfl (by omega) | exact G.R.add rfl rfl) rfl Taken.no) ?_
   refine SL.val (O.move rfl rfl Taken.no) ?_
   refine SL.nil ?_
   refine E.again ((k + 1)) (rn [(103, 107)]) ?_ ?_ rfl (fixL_spec rfl) ?_ ?_
   · exact (SubF.cons rfl (SubF.cons rfl (SubF.val rfl (by (try dsimp only); first | exact iv_int (by rw [hy]) | exact iv_int (by rw [hs2])) (SubF.cons rfl (SubF.cons rfl (SubF.cons rfl (SubF.cons rfl SubF.nil)))))))
   · exact (SubS.val rfl (by (try dsimp only); first | exact sb_data (by rw [hh]) | exact sb_data (by rw [hh2])) (SubS.cons rfl (SubS.cons rfl SubS.nil)))
   ·try dsimp only
    omega
   · (try dsimp only); omega
  ·skip
   refine W.seq ?_
   refine W.region ?_
   refine SL.val (O.det (fun _ => G.R.eql rfl rfl) rfl Taken.no) ?_
   refine SL.val (O.assign rfl rfl Taken.no) ?_
   refine SL.nil ?_
   refine E.to ?_
   first | refine W.cond_d rfl (fun hc3 => ?_) (fun hc3 => ?_) | refine W.cond_nd rfl (fun hc3 => ?_) (fun hc3 => ?_) | refine W.cond rfl (fun hc3 => ?_) (fun hc3 => ?_)
   ·skip
    have hm : l[k]!.k.toNat % 4 = 1 := by omega
    have hh : (rA l (k + 1)).hist = (rA l k).hist := by rw [(run_1 hk2 hm).1]; rfl
    have hy : (rA l (k + 1)).syn = (rA l k).hist.length := by rw [(run_1 hk2 hm).1]; rfl
    rw [← (run_1 hk2 hm).2]
    refine W.seq ?_
    refine W.region ?_
    refine SL.val (O.ldN (m := 4) (PtI.ref rfl rfl) (js := [_, _, _, _]) rfl (Nat.le_of_ble_eq_true rfl) Try.underlying46 rfl (by kernel_rfl) rfl Taken.no) ?_
    refine SL.memS (O.call (rn []) [] rfl rfl rfl (Con.fz (ssync_h (a := (rA l k)) hok) rfl rfl) (.cons (ArgOk.aggU (.cons (ArgOk.same rfl) (.cons (ArgOk.same rfl) (.cons (ArgOk.same rfl) (.cons (ArgOk.same rfl) .nil))))) .nil) SubS.nil rfl rfl rfl rfl rfl (.inl rfl) hcallOk41 (r' := .tup [.agg [.u _, .u _, .u _, .u _], .u _]) rfl rfl Taken.no) rfl rfl (S' := _) rfl ?_
    refine SL.as (i' := .tup [.agg [vI ((rA l (k + 1)).base : Int), vL 1 ((rA l (k + 1)).file.map eB), vI (rA l (k + 1)).sy, vL 1 ((rA l (k + 1)).snaps.map eL)], vI 0]) 37 rfl (by rw [(run_1 hk2 hm).1]) ?_
    refine SL.val (O.move rfl rfl Taken.no) ?_
    refine SL.val (O.extract rfl rfl rfl Taken.no) ?_
    refine SL.val (O.extract rfl rfl rfl Taken.no) ?_
    refine SL.effS (O.st_ref (m := 4) rfl rfl rfl (js := [_, _, _, _]) rfl rfl (by kernel_rfl) (by simp) (Nat.le_of_ble_eq_true rfl) rfl (is' := [_, _, _, _]) rfl Taken.no) (S' := (101, _) :: _) rfl ?_
    refine SL.val (O.assign rfl rfl Taken.no) ?_
    refine SL.nil ?_
    refine E.to ?_
    refine W.pick (.cons (t := 2) rfl (.cons (t := 3) rfl (.cons (t := 4) rfl (.cons (t := 5) rfl (.cons (t := 9) rfl (.cons (t := 10) rfl (.cons (t := 11) rfl (.cons (t := 12) rfl .nil)))))))) (.cons (t := 101) rfl (.cons (t := 102) rfl (.cons (t := 103) rfl (.cons (t := 105) rfl .nil)))) ?_
    refine W.region ?_
    refine SL.val (O.move rfl rfl Taken.no) ?_
    refine SL.val (O.lenE (SlOf.own rfl rfl) (by first | exact List.length_map _ | rfl) Try.underlying32 rfl Taken.no) ?_
    refine SL.val (O.assign rfl rfl Taken.no) ?_
    refine SL.nil ?_
    refine E.inn ?_
    refine E.to ?_
    refine W.seq ?_
    refine W.region ?_
    refine SL.val (O.move rfl rfl Taken.no) ?_
    refine SL.val (O.det (fun _ => G.R.mv (G.R.neq rfl rfl) (congrArg Value.bool (decide_eq_false (by decide)))) rfl Taken.no) ?_
    refine SL.nil ?_
    refine E.to ?_
    refine W.cond_f rfl ?_
    refine W.skip ?_
    refine E.inn ?_
    refine E.to ?_
    refine W.region ?_
    refine SL.val (O.det (fun _ => by first | exact G.R.add64 rfl rfl (by omega) | exact G.R.add rfl rfl) rfl Taken.no) ?_
    refine SL.val (O.move rfl rfl Taken.no) ?_
    refine SL.nil ?_
    refine E.again ((k + 1)) (rn []) ?_ ?_ rfl (fixL_spec rfl) ?_ ?_
    · exact (SubF.cons rfl (SubF.cons rfl (SubF.val rfl (by (try dsimp only); first | exact iv_int (by rw [hy]) | exact iv_int (by rw [hs2])) (SubF.cons rfl (SubF.cons rfl (SubF.cons rfl (SubF.cons rfl SubF.nil)))))))
    · exact (SubS.val rfl (by (try dsimp only); first | exact sb_data (by rw [hh]) | exact sb_data (by rw [hh2])) (SubS.cons rfl (SubS.cons rfl SubS.nil)))
    ·try dsimp only
     omega
    · (try dsimp only); omega
   ·skip
    refine W.seq ?_
    refine W.region ?_
    refine SL.val (O.det (fun _ => G.R.eql rfl rfl) rfl Taken.no) ?_
    refine SL.val (O.assign rfl rfl Taken.no) ?_
    refine SL.nil ?_
    refine E.to ?_
    first | refine W.cond_d rfl (fun hc4 => ?_) (fun hc4 => ?_) | refine W.cond_nd rfl (fun hc4 => ?_) (fun hc4 => ?_) | refine W.cond rfl (fun hc4 => ?_) (fun hc4 => ?_)
    ·skip
     have hm : l[k]!.k.toNat % 4 = 2 := by omega
     have hh : (rA l (k + 1)).hist = (rA l k).hist := by rw [(run_2 hk2 hm).1]; rfl
     have hy : (rA l (k + 1)).syn = (rA l k).hist.length := by rw [(run_2 hk2 hm).1]; rfl
     refine W.seq ?_
     refine W.region ?_
     refine SL.val (O.ldN (m := 4) (PtI.ref rfl rfl) (js := [_, _, _, _]) rfl (Nat.le_of_ble_eq_true rfl) Try.underlying46 rfl (by kernel_rfl) rfl Taken.no) ?_
     refine SL.val (O.fld_ref (o' := 1) rfl Try.underlying82 rfl (m := 0) (by kernel_rfl) rfl rfl Taken.no) ?_
     refine SL.val (O.ld1 (PtI.ref rfl rfl) rfl Try.underlying22 rfl rfl Taken.no) ?_
     refine SL.memS (O.call (rn []) [] rfl rfl rfl (stake_h (a := (rA l k)) (d := l[k]!.d) hok (by omega)) (.cons (ArgOk.aggU (.cons (ArgOk.same rfl) (.cons (ArgOk.same rfl) (.cons (ArgOk.same rfl) (.cons (ArgOk.same rfl) .nil))))) (.cons (ArgOk.same rfl) .nil)) SubS.nil rfl rfl rfl rfl rfl (.inl rfl) hcallOk24 (r' := .tup [.agg [.u _, .u _, .u _, .u _], .u _]) rfl rfl Taken.no) rfl rfl (S' := _) rfl ?_
     refine SL.as (i' := .tup [.agg [vI ((rA l (k + 1)).base : Int), vL 1 ((rA l (k + 1)).file.map eB), vI (rA l (k + 1)).sy, vL 1 ((rA l (k + 1)).snaps.map eL)], vI 0]) 48 rfl (by rw [(run_2 hk2 hm).1]) ?_
     refine SL.val (O.move rfl rfl Taken.no) ?_
     refine SL.val (O.extract rfl rfl rfl Taken.no) ?_
     refine SL.val (O.extract rfl rfl rfl Taken.no) ?_
     refine SL.effS (O.st_ref (m := 4) rfl rfl rfl (js := [_, _, _, _]) rfl rfl (by kernel_rfl) (by simp) (Nat.le_of_ble_eq_true rfl) rfl (is' := [_, _, _, _]) rfl Taken.no) (S' := (101, _) :: _) rfl ?_
     refine SL.val (O.assign rfl rfl Taken.no) ?_
     refine SL.nil ?_
     refine E.to ?_
     refine W.pick (.cons (t := 2) rfl (.cons (t := 3) rfl (.cons (t := 4) rfl (.cons (t := 5) rfl (.cons (t := 8) rfl (.cons (t := 9) rfl (.cons (t := 10) rfl (.cons (t := 11) rfl (.cons (t := 12) rfl .nil))))))))) (.cons (t := 101) rfl (.cons (t := 102) rfl (.cons (t := 103) rfl (.cons (t := 105) rfl .nil)))) ?_
     refine W.seq ?_
     refine W.draw [⟨[], [], [], [103]⟩, ⟨[103], [], [], []⟩, ⟨[], [], [], [103]⟩, ⟨[103], [], [], []⟩, ⟨[], [], [], [105]⟩, ⟨[105], [], [], []⟩, ⟨[], [], [], []⟩, ⟨[], [], [], [102]⟩, ⟨[], [], [], [102]⟩, ⟨[102], [102], [], []⟩, ⟨[], [], [], [102]⟩, ⟨[], [], [], [102]⟩, ⟨[102], [102], [], []⟩] rfl (by kernel_rfl) (by kernel_rfl) rfl rfl ?_
     refine WH.val (O.move rfl rfl Taken.no) rfl rfl ?_
     refine WH.val (O.lenE (SlOf.own rfl rfl) (by first | exact List.length_map _ | rfl) Try.underlying32 rfl Taken.no) rfl rfl ?_
     refine WH.val (O.move rfl rfl Taken.no) rfl rfl ?_
     refine WH.val (O.lenE (SlOf.own rfl rfl) (by first | exact List.length_map _ | rfl) Try.underlying32 rfl Taken.no) rfl rfl ?_
     refine WH.val (O.fld_ref (o' := 1) rfl Try.underlying82 rfl (m := 0) (by kernel_rfl) rfl rfl Taken.no) rfl rfl ?_
     refine WH.val (O.ld1 (PtI.ref rfl rfl) rfl Try.underlying22 rfl rfl Taken.no) rfl rfl ?_
     refine WH.val (O.b2s (l := l[k]!.d) (SlOf.fz rfl (by decide)) Try.underlying22 Try.underlying5 Try.underlying9 rfl Taken.no) rfl rfl ?_
     refine WH.val (O.fld_ref (o' := 0) rfl Try.underlying50 rfl (m := 12) (by kernel_rfl) rfl rfl Taken.no) rfl rfl ?_
     refine WH.val (O.idx_ref (i := (rA l k).hist.length) (m := 1) rfl rfl (rfl) (by omega) Try.underlying47 (by kernel_rfl) rfl rfl Taken.no) rfl rfl ?_
     refine WH.effS (O.st_ref (m := 1) rfl rfl rfl (js := [_]) rfl rfl (by kernel_rfl) (by simp) (by exact (show 0 + (rA l k).hist.length * 1 + 1 ≤ 26 by omega)) rfl (is' := cK (rT l (k + 1)).th (rT l k).td) (by rw [(run_2 hk2 hm).2]; exact cK_set1 hri.h1 hri.h2 (by omega)) Taken.no) rfl rfl rfl (S' := (102, _) :: _) rfl ?_
     refine WH.val (O.fld_ref (o' := 13) rfl Try.underlying50 rfl (m := 12) (by kernel_rfl) rfl rfl Taken.no) rfl rfl ?_
     refine WH.val (O.idx_ref (i := (rA l k).hist.length) (m := 1) rfl rfl (rfl) (by omega) Try.underlying48 (by kernel_rfl) rfl rfl Taken.no) rfl rfl ?_
     refine WH.effS (O.st_ref (m := 1) rfl rfl rfl (js := [_]) rfl rfl (by kernel_rfl) (by simp) (by exact (show 13 + (rA l k).hist.length * 1 + 1 ≤ 26 by omega)) rfl (is' := [vB (rT l (k + 1)).th[0]!, vB (rT l (k + 1)).th[1]!, vB (rT l (k + 1)).th[2]!, vB (rT l (k + 1)).th[3]!, vB (rT l (k + 1)).th[4]!, vB (rT l (k + 1)).th[5]!, vB (rT l (k + 1)).th[6]!, vB (rT l (k + 1)).th[7]!, vB (rT l (k + 1)).th[8]!, vB (rT l (k + 1)).th[9]!, vB (rT l (k + 1)).th[10]!, vB (rT l (k + 1)).th[11]!, vB (rT l (k + 1)).th[12]!, vT (rT l (k + 1)).td[0]!, vT (rT l (k + 1)).td[1]!, vT (rT l (k + 1)).td[2]!, vT (rT l (k + 1)).td[3]!, vT (rT l (k + 1)).td[4]!, vT (rT l (k + 1)).td[5]!, vT (rT l (k + 1)).td[6]!, vT (rT l (k + 1)).td[7]!, vT (rT l (k + 1)).td[8]!, vT (rT l (k + 1)).td[9]!, vT (rT l (k + 1)).td[10]!, vT (rT l (k + 1)).td[11]!, vT (rT l (k + 1)).td[12]!]) (by rw [(run_2 hk2 hm).2]; exact cK_set2 (by show (List.set _ _ _).length = 13; rw [List.length_set]; exact hri.h1) hri.h2 (by omega)) Taken.no) rfl rfl rfl (S' := (102, _) :: _) rfl ?_
     refine WH.nil ?_
     refine E.to ?_
     refine W.region ?_
     refine SL.val (O.move rfl rfl Taken.no) ?_
     refine SL.val (O.lenE (SlOf.own rfl rfl) (by first | exact List.length_map _ | rfl) Try.underlying32 rfl Taken.no) ?_
     refine SL.val (O.assign rfl rfl Taken.no) ?_
     refine SL.nil ?_
     refine E.inn ?_
     refine E.to ?_
     refine W.seq ?_
     refine W.region ?_
     refine SL.val (O.move rfl rfl Taken.no) ?_
     refine SL.val (O.det (fun _ => G.R.mv (G.R.neq rfl rfl) (congrArg Value.bool (decide_eq_false (by decide)))) rfl Taken.no) ?_
     refine SL.nil ?_
     refine E.to ?_
     refine W.pick (.cons (t := 2) rfl (.cons (t := 3) rfl (.cons (t := 4) rfl (.cons (t := 5) rfl (.cons (t := 10) rfl (.cons (t := 11) rfl (.cons (t := 12) rfl (.cons (t := 74) rfl .nil)))))))) (.cons (t := 101) rfl (.cons (t := 102) rfl (.cons (t := 103) rfl (.cons (t := 105) rfl .nil)))) ?_
     refine W.cond_f rfl ?_
     refine W.skip ?_
     refine E.inn ?_
     refine E.to ?_
     refine W.region ?_
     refine SL.val (O.det (fun _ => by first | exact G.R.add64 rfl rfl (by omega) | exact G.R.add rfl rfl) rfl Taken.no) ?_
     refine SL.val (O.move rfl rfl Taken.no) ?_
     refine SL.nil ?_
     refine E.again ((k + 1)) (rn []) ?_ ?_ rfl (fixL_spec rfl) ?_ ?_
     · exact (SubF.cons rfl (SubF.cons rfl (SubF.val rfl (by (try dsimp only); first | exact iv_int (by rw [hy]) | exact iv_int (by rw [hs2])) (SubF.cons rfl (SubF.cons rfl (SubF.cons rfl (SubF.cons rfl SubF.nil)))))))
     · exact (SubS.val rfl (by (try dsimp only); first | exact sb_data (by rw [hh]) | exact sb_data (by rw [hh2])) (SubS.cons rfl (SubS.cons rfl SubS.nil)))
     ·try dsimp only
      omega
     · (try dsimp only); omega
    ·skip
     refine W.seq ?_
     refine W.region ?_
     refine SL.val (O.det (fun _ => G.R.eql rfl rfl) rfl Taken.no) ?_
     refine SL.val (O.assign rfl rfl Taken.no) ?_
     refine SL.nil ?_
     refine E.to ?_
     first | refine W.cond_d rfl (fun hc5 => ?_) (fun hc5 => ?_) | refine W.cond_nd rfl (fun hc5 => ?_) (fun hc5 => ?_) | refine W.cond rfl (fun hc5 => ?_) (fun hc5 => ?_)
     ·skip
      have hm : l[k]!.k.toNat % 4 = 3 := by omega
      have hh : (rA l (k + 1)).hist = (rA l k).hist := by rw [(run_3 hk2 hm).1]; exact (trim_hist _).1
      have hy : (rA l (k + 1)).syn = (rA l k).hist.length := by rw [(run_3 hk2 hm).1]; exact trim_syn
      rw [← (run_3 hk2 hm).2]
      refine W.seq ?_
      refine W.region ?_
      refine SL.val (O.ldN (m := 4) (PtI.ref rfl rfl) (js := [_, _, _, _]) rfl (Nat.le_of_ble_eq_true rfl) Try.underlying46 rfl (by kernel_rfl) rfl Taken.no) ?_
      refine SL.memS (O.call (rn []) [] rfl rfl rfl (strim_h (a := (rA l k)) hok) (.cons (ArgOk.aggU (.cons (ArgOk.same rfl) (.cons (ArgOk.same rfl) (.cons (ArgOk.same rfl) (.cons (ArgOk.same rfl) .nil))))) .nil) SubS.nil rfl rfl rfl rfl rfl (.inl rfl) hcallOk22 (r' := .tup [.agg [.u _, .u _, .u _, .u _], .u _]) rfl rfl Taken.no) rfl rfl (S' := _) rfl ?_
      refine SL.as (i' := .tup [.agg [vI ((rA l (k + 1)).base : Int), vL 1 ((rA l (k + 1)).file.map eB), vI (rA l (k + 1)).sy, vL 1 ((rA l (k + 1)).snaps.map eL)], vI 0]) 68 rfl (by rw [(run_3 hk2 hm).1]) ?_
      refine SL.val (O.move rfl rfl Taken.no) ?_
      refine SL.val (O.extract rfl rfl rfl Taken.no) ?_
      refine SL.val (O.extract rfl rfl rfl Taken.no) ?_
      refine SL.effS (O.st_ref (m := 4) rfl rfl rfl (js := [_, _, _, _]) rfl rfl (by kernel_rfl) (by simp) (Nat.le_of_ble_eq_true rfl) rfl (is' := [_, _, _, _]) rfl Taken.no) (S' := (101, _) :: _) rfl ?_
      refine SL.val (O.assign rfl rfl Taken.no) ?_
      refine SL.nil ?_
      refine E.to ?_
      refine W.pick (.cons (t := 2) rfl (.cons (t := 3) rfl (.cons (t := 4) rfl (.cons (t := 5) rfl (.cons (t := 9) rfl (.cons (t := 10) rfl (.cons (t := 11) rfl (.cons (t := 12) rfl .nil)))))))) (.cons (t := 101) rfl (.cons (t := 102) rfl (.cons (t := 103) rfl (.cons (t := 105) rfl .nil)))) ?_
      refine W.region ?_
      refine SL.val (O.move rfl rfl Taken.no) ?_
      refine SL.val (O.lenE (SlOf.own rfl rfl) (by first | exact List.length_map _ | rfl) Try.underlying32 rfl Taken.no) ?_
      refine SL.val (O.assign rfl rfl Taken.no) ?_
      refine SL.nil ?_
      refine E.inn ?_
      refine E.to ?_
      refine W.seq ?_
      refine W.region ?_
      refine SL.val (O.move rfl rfl Taken.no) ?_
      refine SL.val (O.det (fun _ => G.R.mv (G.R.neq rfl rfl) (congrArg Value.bool (decide_eq_false (by decide)))) rfl Taken.no) ?_
      refine SL.nil ?_
      refine E.to ?_
      refine W.cond_f rfl ?_
      refine W.skip ?_
      refine E.inn ?_
      refine E.to ?_
      refine W.region ?_
      refine SL.val (O.det (fun _ => by first | exact G.R.add64 rfl rfl (by omega) | exact G.R.add rfl rfl) rfl Taken.no) ?_
      refine SL.val (O.move rfl rfl Taken.no) ?_
      refine SL.nil ?_
      refine E.again ((k + 1)) (rn []) ?_ ?_ rfl (fixL_spec rfl) ?_ ?_
      · exact (SubF.cons rfl (SubF.cons rfl (SubF.val rfl (by (try dsimp only); first | exact iv_int (by rw [hy]) | exact iv_int (by rw [hs2])) (SubF.cons rfl (SubF.cons rfl (SubF.cons rfl (SubF.cons rfl SubF.nil)))))))
      · exact (SubS.val rfl (by (try dsimp only); first | exact sb_data (by rw [hh]) | exact sb_data (by rw [hh2])) (SubS.cons rfl (SubS.cons rfl SubS.nil)))
      ·try dsimp only
       omega
      · (try dsimp only); omega
     ·skip
      exfalso; omega
 ·skip
  refine W.exit ?_
  refine E.th ?_
  refine E.th ?_
  refine E.hit ?_
  refine E.to ?_
  refine W.seq ?_
  refine W.draw [⟨[101], [], [], []⟩, ⟨[], [], [], [103]⟩, ⟨[], [], [], []⟩, ⟨[102], [], [], []⟩, ⟨[101], [101], [], []⟩, ⟨[], [], [], [103]⟩, ⟨[], [], [], []⟩, ⟨[102], [102], [], []⟩, ⟨[], [], [], []⟩] rfl (by kernel_rfl) (by kernel_rfl) rfl rfl ?_
  refine WH.val (O.ldN (m := 4) (PtI.ref rfl rfl) (js := [_, _, _, _]) rfl (Nat.le_of_ble_eq_true rfl) Try.underlying46 rfl (by kernel_rfl) rfl Taken.no) rfl rfl ?_
  refine WH.val (O.move rfl rfl Taken.no) rfl rfl ?_
  refine WH.val (O.move rfl rfl Taken.no) rfl rfl ?_
  refine WH.val (O.ldN (m := 26) (PtI.ref rfl rfl) (js := [_, _, _, _, _, _, _, _, _, _, _, _, _, _, _, _, _, _, _, _, _, _, _, _, _, _]) rfl (Nat.le_of_ble_eq_true rfl) Try.underlying50 rfl (by kernel_rfl) rfl Taken.no) rfl rfl ?_
  refine WH.effS (O.st_ref (m := 4) rfl rfl rfl (js := [_, _, _, _]) rfl rfl (by kernel_rfl) (by simp) (Nat.le_of_ble_eq_true rfl) rfl (is' := [_, _, _, _]) rfl Taken.no) rfl rfl rfl (S' := (101, _) :: _) rfl ?_
  refine WH.val (O.assign rfl rfl Taken.no) rfl rfl ?_
  refine WH.val (O.assign rfl rfl Taken.no) rfl rfl ?_
  refine WH.effS (O.st_ref (m := 26) rfl rfl rfl (js := [_, _, _, _, _, _, _, _, _, _, _, _, _, _, _, _, _, _, _, _, _, _, _, _, _, _]) rfl rfl (by kernel_rfl) (by simp) (Nat.le_of_ble_eq_true rfl) rfl (is' := [_, _, _, _, _, _, _, _, _, _, _, _, _, _, _, _, _, _, _, _, _, _, _, _, _, _]) rfl Taken.no) rfl rfl rfl (S' := (102, _) :: _) rfl ?_
  refine WH.val (O.assign rfl rfl Taken.no) rfl rfl ?_
  refine WH.nil ?_
  refine E.to ?_
  refine W.ret ?_
  refine E.freeze 103 rfl (F' := [(3, _)]) (⟨⟨_, rfl, rfl⟩, trivial⟩) ?_
  refine E.fin (rs := [_, _, _, _, _]) (rn []) (.inl rfl) rfl (.cons (ResOne.cellN (m := 4) (PtI.ref rfl rfl) (js := [_, _, _, _]) rfl (Nat.le_of_ble_eq_true rfl) Try.underlying46 rfl (by kernel_rfl)) (.cons (ResOne.tmp rfl) (.cons (ResOne.tmp rfl) (.cons (ResOne.cellN (m := 26) (PtI.ref rfl rfl) (js := [_, _, _, _, _, _, _, _, _, _, _, _, _, _, _, _, _, _, _, _, _, _, _, _, _, _]) rfl (Nat.le_of_ble_eq_true rfl) Try.underlying50 rfl (by kernel_rfl)) (.cons (ResOne.tmp rfl) .nil))))) ?_ ?_ rfl (fixL_spec rfl)
  ·skip
   (obtain rfl : k = l.length := (by omega)); rfl
  · exact SubS.nil

set_option maxRecDepth 8000 in
/-- bookplate/bookplatelaw21.awake. -/
theorem awake21_h  :
    Con Try.prog 9 [] [] (vB true) [] := by
 obtain ⟨i5, hi5, hz5, hs5, hb5⟩ := hinf5
 obtain ⟨i22, hi22, hz22, hs22, hb22⟩ := hinf22
 refine Con.enterL (n := 110) Try.func9 rfl rfl rfl (fun τ w ok vs hin => ?_)
 clear hin
 refine W.seq ?_
 refine W.region ?_
 refine SL.val (O.assign rfl rfl Taken.no) ?_
 refine SL.nil ?_
 refine E.to ?_
 refine W.seq ?_
 refine W.region ?_
 refine SL.val (O.build (res := [_, _, _, _]) (z := .agg #[.int .i64 0, .slice none 0 0, .int .i64 0, .slice none 0 0]) (places := [(0, 1), (1, 2), (3, 1)]) rfl rfl Try.underlying46 (by kernel_rfl) (fun _ => by kernel_rfl) rfl rfl Taken.no) ?_
 refine SL.memS (O.buildSlice 101 (rows := ([97] : Bs).map eB) rfl rfl Try.underlying22 hi5 hz5 hs5 (by decide) rfl (by decide) rfl rfl rfl Taken.no) rfl rfl (S' := (101, .data 5 1 (([97] : Bs).map eB)) :: _) rfl ?_
 refine SL.memS (O.b2b (l := [97]) rfl rfl (by simp) Try.underlying22 Try.underlying5 rfl Taken.no) rfl rfl (S' := (101, .dead) :: _) rfl ?_
 refine SL.memS (O.call (rn []) [] rfl rfl rfl (sappend_h (a := zeroA) (p := [97]) zero_ok (by decide) (by decide)) (.cons (ArgOk.aggU (.cons (ArgOk.same rfl) (.cons ArgOk.nil (.cons (ArgOk.same rfl) (.cons ArgOk.nil .nil))))) (.cons (ArgOk.same rfl) .nil)) SubS.nil rfl rfl rfl rfl rfl (.inl rfl) hcallOk26 (r' := .tup [.agg [.u _, .u _, .u _, .u _], .u _]) rfl rfl Taken.no) rfl rfl (S' := _) rfl ?_
 refine SL.as (i' := .tup [.agg [vI (e1.base : Int), vL 1 (e1.file.map eB), vI e1.sy, vL 1 (e1.snaps.map eL)], vI 0]) 16 rfl (by rfl) ?_
 refine SL.val (O.move rfl rfl Taken.no) ?_
 refine SL.val (O.extract rfl rfl rfl Taken.no) ?_
 refine SL.val (O.extract rfl rfl rfl Taken.no) ?_
 refine SL.memS (O.alloc (z := .agg #[.int .i64 0, .slice none 0 0, .int .i64 0, .slice none 0 0]) (is := [.u (.sc (.int .i64 0)), .u (.sc (.slice none 0 0)), .u (.sc (.int .i64 0)), .u (.sc (.slice none 0 0))]) 102 (by kernel_rfl) rfl rfl rfl Taken.no) rfl rfl (S' := (102, _) :: _) rfl ?_
 refine SL.effS (O.st_ref (m := 4) rfl rfl rfl (js := [_, _, _, _]) rfl rfl (by kernel_rfl) (by simp) (Nat.le_of_ble_eq_true rfl) rfl (is' := [_, _, _, _]) rfl Taken.no) (S' := (102, _) :: _) rfl ?_
 refine SL.val (O.assign rfl rfl Taken.no) ?_
 refine SL.nil ?_
 refine E.to ?_
 refine W.seq ?_
 refine W.region ?_
 refine SL.val (O.ldN (m := 4) (PtI.ref rfl rfl) (js := [_, _, _, _]) rfl (Nat.le_of_ble_eq_true rfl) Try.underlying46 rfl (by kernel_rfl) rfl Taken.no) ?_
 refine SL.memS (O.buildSlice 103 (rows := ([98] : Bs).map eB) rfl rfl Try.underlying22 hi5 hz5 hs5 (by decide) rfl (by decide) rfl rfl rfl Taken.no) rfl rfl (S' := (103, .data 5 1 (([98] : Bs).map eB)) :: _) rfl ?_
 refine SL.memS (O.b2b (l := [98]) rfl rfl (by simp) Try.underlying22 Try.underlying5 rfl Taken.no) rfl rfl (S' := (103, .dead) :: _) rfl ?_
 refine SL.memS (O.call (rn []) [] rfl rfl rfl (sappend_h (a := e1) (p := [98]) e1_ok (by decide) (by decide)) (.cons (ArgOk.aggU (.cons (ArgOk.same rfl) (.cons (ArgOk.same rfl) (.cons (ArgOk.same rfl) (.cons (ArgOk.same rfl) .nil))))) (.cons (ArgOk.same rfl) .nil)) SubS.nil rfl rfl rfl rfl rfl (.inl rfl) hcallOk26 (r' := .tup [.agg [.u _, .u _, .u _, .u _], .u _]) rfl rfl Taken.no) rfl rfl (S' := _) rfl ?_
 refine SL.as (i' := .tup [.agg [vI (e2.base : Int), vL 1 (e2.file.map eB), vI e2.sy, vL 1 (e2.snaps.map eL)], vI 0]) 23 rfl (by rfl) ?_
 refine SL.val (O.move rfl rfl Taken.no) ?_
 refine SL.val (O.extract rfl rfl rfl Taken.no) ?_
 refine SL.val (O.extract rfl rfl rfl Taken.no) ?_
 refine SL.effS (O.st_ref (m := 4) rfl rfl rfl (js := [_, _, _, _]) rfl rfl (by kernel_rfl) (by simp) (Nat.le_of_ble_eq_true rfl) rfl (is' := [_, _, _, _]) rfl Taken.no) (S' := (102, _) :: _) rfl ?_
 refine SL.val (O.assign rfl rfl Taken.no) ?_
 refine SL.nil ?_
 refine E.to ?_
 refine W.seq ?_
 refine W.region ?_
 refine SL.val (O.ldN (m := 4) (PtI.ref rfl rfl) (js := [_, _, _, _]) rfl (Nat.le_of_ble_eq_true rfl) Try.underlying46 rfl (by kernel_rfl) rfl Taken.no) ?_
 refine SL.memS (O.buildSlice 104 (rows := ([97, 98] : Bs).map eB) rfl rfl Try.underlying22 hi5 hz5 hs5 (by decide) rfl (by decide) rfl rfl rfl Taken.no) rfl rfl (S' := (104, .data 5 1 (([97, 98] : Bs).map eB)) :: _) rfl ?_
 refine SL.memS (O.b2b (l := [97, 98]) rfl rfl (by simp) Try.underlying22 Try.underlying5 rfl Taken.no) rfl rfl (S' := (104, .dead) :: _) rfl ?_
 refine SL.memS (O.call (rn []) [] rfl rfl rfl (stake_h (a := e2) (d := [97, 98]) e2_ok (by decide)) (.cons (ArgOk.aggU (.cons (ArgOk.same rfl) (.cons (ArgOk.same rfl) (.cons (ArgOk.same rfl) (.cons (ArgOk.same rfl) .nil))))) (.cons (ArgOk.same rfl) .nil)) SubS.nil rfl rfl rfl rfl rfl (.inl rfl) hcallOk24 (r' := .tup [.agg [.u _, .u _, .u _, .u _], .u _]) rfl rfl Taken.no) rfl rfl (S' := _) rfl ?_
 refine SL.as (i' := .tup [.agg [vI (e3.base : Int), vL 1 (e3.file.map eB), vI e3.sy, vL 1 (e3.snaps.map eL)], vI 0]) 30 rfl (by rfl) ?_
 refine SL.val (O.move rfl rfl Taken.no) ?_
 refine SL.val (O.extract rfl rfl rfl Taken.no) ?_
 refine SL.val (O.extract rfl rfl rfl Taken.no) ?_
 refine SL.effS (O.st_ref (m := 4) rfl rfl rfl (js := [_, _, _, _]) rfl rfl (by kernel_rfl) (by simp) (Nat.le_of_ble_eq_true rfl) rfl (is' := [_, _, _, _]) rfl Taken.no) (S' := (102, _) :: _) rfl ?_
 refine SL.val (O.assign rfl rfl Taken.no) ?_
 refine SL.nil ?_
 refine E.to ?_
 refine W.pick (.cons (t := 0) rfl (.cons (t := 1) rfl (.cons (t := 2) rfl (.cons (t := 3) rfl (.cons (t := 4) rfl .nil))))) (.cons (t := 102) rfl .nil) ?_
 refine W.seq ?_
 refine W.region ?_
 refine SL.val (O.ldN (m := 4) (PtI.ref rfl rfl) (js := [_, _, _, _]) rfl (Nat.le_of_ble_eq_true rfl) Try.underlying46 rfl (by kernel_rfl) rfl Taken.no) ?_
 refine SL.memS (O.buildSlice 105 (rows := ([99] : Bs).map eB) rfl rfl Try.underlying22 hi5 hz5 hs5 (by decide) rfl (by decide) rfl rfl rfl Taken.no) rfl rfl (S' := (105, .data 5 1 (([99] : Bs).map eB)) :: _) rfl ?_
 refine SL.memS (O.b2b (l := [99]) rfl rfl (by simp) Try.underlying22 Try.underlying5 rfl Taken.no) rfl rfl (S' := (105, .dead) :: _) rfl ?_
 refine SL.memS (O.call (rn []) [] rfl rfl rfl (sappend_h (a := e3) (p := [99]) e3_ok (by decide) (by decide)) (.cons (ArgOk.aggU (.cons (ArgOk.same rfl) (.cons (ArgOk.same rfl) (.cons (ArgOk.same rfl) (.cons (ArgOk.same rfl) .nil))))) (.cons (ArgOk.same rfl) .nil)) SubS.nil rfl rfl rfl rfl rfl (.inl rfl) hcallOk26 (r' := .tup [.agg [.u _, .u _, .u _, .u _], .u _]) rfl rfl Taken.no) rfl rfl (S' := _) rfl ?_
 refine SL.as (i' := .tup [.agg [vI (e4.base : Int), vL 1 (e4.file.map eB), vI e4.sy, vL 1 (e4.snaps.map eL)], vI 0]) 37 rfl (by rfl) ?_
 refine SL.val (O.move rfl rfl Taken.no) ?_
 refine SL.val (O.extract rfl rfl rfl Taken.no) ?_
 refine SL.val (O.extract rfl rfl rfl Taken.no) ?_
 refine SL.effS (O.st_ref (m := 4) rfl rfl rfl (js := [_, _, _, _]) rfl rfl (by kernel_rfl) (by simp) (Nat.le_of_ble_eq_true rfl) rfl (is' := [_, _, _, _]) rfl Taken.no) (S' := (102, _) :: _) rfl ?_
 refine SL.val (O.assign rfl rfl Taken.no) ?_
 refine SL.nil ?_
 refine E.to ?_
 refine W.seq ?_
 refine W.region ?_
 refine SL.val (O.fld_ref (o' := 0) rfl Try.underlying46 rfl (m := 0) (by kernel_rfl) rfl rfl Taken.no) ?_
 refine SL.val (O.ld1 (PtI.ref rfl rfl) rfl Try.underlying3 rfl rfl Taken.no) ?_
 refine SL.val (O.fld_ref (o' := 1) rfl Try.underlying46 rfl (m := 1) (by kernel_rfl) rfl rfl Taken.no) ?_
 refine SL.val (O.fld_ref (o' := 1) rfl Try.underlying44 rfl (m := 0) (by kernel_rfl) rfl rfl Taken.no) ?_
 refine SL.val (O.ld1 (PtI.ref rfl rfl) rfl Try.underlying22 rfl rfl Taken.no) ?_
 refine SL.val (O.fld_ref (o' := 3) rfl Try.underlying46 rfl (m := 0) (by kernel_rfl) rfl rfl Taken.no) ?_
 refine SL.val (O.ld1 (PtI.ref rfl rfl) rfl Try.underlying32 rfl rfl Taken.no) ?_
 refine SL.memS (O.call (rn []) [] rfl rfl rfl (recover_h (base := (e4.base : Int)) (f := e4.file) (sn := e4.snaps) e4_file (AS.sn_sm e4_ok)) (.cons (ArgOk.same rfl) (.cons (ArgOk.same rfl) (.cons (ArgOk.same rfl) .nil))) SubS.nil rfl rfl rfl rfl rfl (.inl rfl) hcallOk16 (r' := .tup [.u _, .u _, .u _, .u _]) rfl rfl Taken.no) rfl rfl (S' := _) rfl ?_
 refine SL.as (i' := .tup [vL 1 (([97, 98] : Bs).map eB), vI 2, vL 1 (([[99]] : List Bs).map eL), vI 0]) 48 rfl (by rw [e4_rec.1, e4_rec.2.1, e4_rec.2.2.1, e4_rec.2.2.2]) ?_
 refine SL.val (O.move rfl rfl Taken.no) ?_
 refine SL.val (O.extract rfl rfl rfl Taken.no) ?_
 refine SL.val (O.extract rfl rfl rfl Taken.no) ?_
 refine SL.val (O.extract rfl rfl rfl Taken.no) ?_
 refine SL.val (O.extract rfl rfl rfl Taken.no) ?_
 refine SL.val (O.assign rfl rfl Taken.no) ?_
 refine SL.val (O.assign rfl rfl Taken.no) ?_
 refine SL.val (O.assign rfl rfl Taken.no) ?_
 refine SL.val (O.assign rfl rfl Taken.no) ?_
 refine SL.nil ?_
 refine E.to ?_
 refine W.pick (.cons (t := 0) rfl (.cons (t := 1) rfl (.cons (t := 2) rfl (.cons (t := 3) rfl (.cons (t := 4) rfl (.cons (t := 5) rfl (.cons (t := 6) rfl (.cons (t := 7) rfl (.cons (t := 8) rfl (.cons (t := 9) rfl .nil)))))))))) (.cons (t := 102) rfl .nil) ?_
 refine W.seq ?_
 refine W.region ?_
 refine SL.val (O.ldN (m := 4) (PtI.ref rfl rfl) (js := [_, _, _, _]) rfl (Nat.le_of_ble_eq_true rfl) Try.underlying46 rfl (by kernel_rfl) rfl Taken.no) ?_
 refine SL.memS (O.call (rn []) [] rfl rfl rfl (strim_h (a := e4) e4_ok) (.cons (ArgOk.aggU (.cons (ArgOk.same rfl) (.cons (ArgOk.same rfl) (.cons (ArgOk.same rfl) (.cons (ArgOk.same rfl) .nil))))) .nil) SubS.nil rfl rfl rfl rfl rfl (.inl rfl) hcallOk22 (r' := .tup [.agg [.u _, .u _, .u _, .u _], .u _]) rfl rfl Taken.no) rfl rfl (S' := _) rfl ?_
 refine SL.val (O.move rfl rfl Taken.no) ?_
 refine SL.val (O.extract rfl rfl rfl Taken.no) ?_
 refine SL.val (O.extract rfl rfl rfl Taken.no) ?_
 refine SL.memS (O.alloc (z := .agg #[.int .i64 0, .slice none 0 0, .int .i64 0, .slice none 0 0]) (is := [.u (.sc (.int .i64 0)), .u (.sc (.slice none 0 0)), .u (.sc (.int .i64 0)), .u (.sc (.slice none 0 0))]) 106 (by kernel_rfl) rfl rfl rfl Taken.no) rfl rfl (S' := (106, _) :: _) rfl ?_
 refine SL.effS (O.st_ref (m := 4) rfl rfl rfl (js := [_, _, _, _]) rfl rfl (by kernel_rfl) (by simp) (Nat.le_of_ble_eq_true rfl) rfl (is' := [_, _, _, _]) rfl Taken.no) (S' := (106, _) :: _) rfl ?_
 refine SL.val (O.assign rfl rfl Taken.no) ?_
 refine SL.nil ?_
 refine E.to ?_
 refine W.seq ?_
 refine W.region ?_
 refine SL.val (O.move rfl rfl Taken.no) ?_
 refine SL.val (O.det (fun _ => G.R.mv (G.R.eql rfl rfl) (congrArg Value.bool (decide_eq_true (by rfl)))) rfl Taken.no) ?_
 refine SL.val (O.move rfl rfl Taken.no) ?_
 have hg1 : true = true := by decide
 refine SL.val (O.move rfl rfl (Taken.yes rfl rfl hg1)) ?_
 refine SL.val (O.det (fun _ => G.R.mv (G.R.eql rfl rfl) (congrArg Value.bool (decide_eq_true (by rfl)))) rfl (Taken.yes rfl rfl hg1)) ?_
 refine SL.val (O.pick_t rfl rfl rfl rfl Taken.no) ?_
 refine SL.val (O.move rfl rfl Taken.no) ?_
 have hg2 : true = true := by decide
 refine SL.val (O.move rfl rfl (Taken.yes rfl rfl hg2)) ?_
 refine SL.val (O.det (fun _ => G.R.mv (G.R.eql rfl rfl) (congrArg Value.bool (decide_eq_true (by rfl)))) rfl (Taken.yes rfl rfl hg2)) ?_
 refine SL.val (O.pick_t rfl rfl rfl rfl Taken.no) ?_
 refine SL.val (O.move rfl rfl Taken.no) ?_
 have hg3 : true = true := by decide
 refine SL.val (O.move rfl rfl (Taken.yes rfl rfl hg3)) ?_
 refine SL.val (O.det (fun _ => G.R.mv (G.R.eql rfl rfl) (congrArg Value.bool (decide_eq_true (by rfl)))) rfl (Taken.yes rfl rfl hg3)) ?_
 refine SL.val (O.pick_t rfl rfl rfl rfl Taken.no) ?_
 refine SL.val (O.move rfl rfl Taken.no) ?_
 have hg4 : true = true := by decide
 refine SL.val (O.move rfl rfl (Taken.yes rfl rfl hg4)) ?_
 refine SL.val (O.det (fun _ => G.R.mv (G.R.eql rfl rfl) (congrArg Value.bool (decide_eq_true (by rfl)))) rfl (Taken.yes rfl rfl hg4)) ?_
 refine SL.val (O.pick_t rfl rfl rfl rfl Taken.no) ?_
 refine SL.val (O.move rfl rfl Taken.no) ?_
 have hg5 : true = true := by decide
 refine SL.val (O.move rfl rfl (Taken.yes rfl rfl hg5)) ?_
 refine SL.val (O.det (fun _ => G.R.mv (G.R.eql rfl rfl) (congrArg Value.bool (decide_eq_true (by rfl)))) rfl (Taken.yes rfl rfl hg5)) ?_
 refine SL.val (O.pick_t rfl rfl rfl rfl Taken.no) ?_
 refine SL.val (O.move rfl rfl Taken.no) ?_
 have hg6 : true = true := by decide
 refine SL.val (O.move rfl rfl (Taken.yes rfl rfl hg6)) ?_
 refine SL.val (O.b2s (SlOf.fz rfl (by decide)) Try.underlying22 Try.underlying5 Try.underlying9 rfl (Taken.yes rfl rfl hg6)) ?_
 refine SL.val (O.det (fun _ => G.R.mv (G.R.streqL (b := [97, 98])  rfl rfl) (congrArg Value.bool (decide_eq_true (by rfl)))) rfl (Taken.yes rfl rfl hg6)) ?_
 refine SL.val (O.pick_t rfl rfl rfl rfl Taken.no) ?_
 refine SL.val (O.move rfl rfl Taken.no) ?_
 have hg7 : true = true := by decide
 refine SL.val (O.move rfl rfl (Taken.yes rfl rfl hg7)) ?_
 refine SL.val (O.det (fun _ => G.R.mv (G.R.eql rfl rfl) (congrArg Value.bool (decide_eq_true (by rfl)))) rfl (Taken.yes rfl rfl hg7)) ?_
 refine SL.val (O.pick_t rfl rfl rfl rfl Taken.no) ?_
 refine SL.val (O.move rfl rfl Taken.no) ?_
 have hg8 : true = true := by decide
 refine SL.val (O.move rfl rfl (Taken.yes rfl rfl hg8)) ?_
 refine SL.val (O.lenE (SlOf.fz rfl (by decide)) (by first | exact List.length_map _ | rfl) Try.underlying32 rfl (Taken.yes rfl rfl hg8)) ?_
 refine SL.val (O.det (fun _ => G.R.mv (G.R.eql rfl rfl) (congrArg Value.bool (decide_eq_true (by rfl)))) rfl (Taken.yes rfl rfl hg8)) ?_
 refine SL.val (O.pick_t rfl rfl rfl rfl Taken.no) ?_
 refine SL.val (O.move rfl rfl Taken.no) ?_
 have hg9 : true = true := by decide
 refine SL.val (O.move rfl rfl (Taken.yes rfl rfl hg9)) ?_
 refine SL.val (O.idx_fz (i := 0) rfl rfl (rfl) (row_get (by decide)) Try.underlying32 hi22 hs22 rfl (Taken.yes rfl rfl hg9)) ?_
 refine SL.val (O.ld1 (PtI.ofU (PtU.fz rfl)) rfl Try.underlying22 rfl rfl (Taken.yes rfl rfl hg9)) ?_
 refine SL.val (O.b2s (SlOf.fz rfl (by decide)) Try.underlying22 Try.underlying5 Try.underlying9 rfl (Taken.yes rfl rfl hg9)) ?_
 refine SL.val (O.det (fun _ => G.R.mv (G.R.streqL (b := [99])  rfl rfl) (congrArg Value.bool (decide_eq_true (by rfl)))) rfl (Taken.yes rfl rfl hg9)) ?_
 refine SL.val (O.pick_t rfl rfl rfl rfl Taken.no) ?_
 refine SL.val (O.move rfl rfl Taken.no) ?_
 have hg10 : true = true := by decide
 refine SL.val (O.fld_ref (o' := 0) rfl Try.underlying46 rfl (m := 0) (by kernel_rfl) rfl rfl (Taken.yes rfl rfl hg10)) ?_
 refine SL.val (O.ld1 (PtI.ref rfl rfl) rfl Try.underlying3 rfl rfl (Taken.yes rfl rfl hg10)) ?_
 refine SL.val (O.det (fun _ => G.R.mv (G.R.eql rfl rfl) (congrArg Value.bool (decide_eq_true (by exact e4_trim)))) rfl (Taken.yes rfl rfl hg10)) ?_
 refine SL.val (O.pick_t rfl rfl rfl rfl Taken.no) ?_
 refine SL.val (O.move rfl rfl Taken.no) ?_
 have hg11 : true = true := by decide
 refine SL.val (O.ldN (m := 4) (PtI.ref rfl rfl) (js := [_, _, _, _]) rfl (Nat.le_of_ble_eq_true rfl) Try.underlying46 rfl (by kernel_rfl) rfl (Taken.yes rfl rfl hg11)) ?_
 refine SL.val (O.callp rfl rfl rfl (svalid_h (a := e4) e4_ok) (.cons (ArgOk.aggU (.cons (ArgOk.same rfl) (.cons (ArgOk.same rfl) (.cons (ArgOk.same rfl) (.cons (ArgOk.same rfl) .nil))))) .nil) hcallOk21 rfl (Taken.yes rfl rfl hg11)) ?_
 refine SL.as (i' := vB true) 108 rfl (by rfl) ?_
 refine SL.val (O.pick_t rfl rfl rfl rfl Taken.no) ?_
 refine SL.val (O.assign rfl rfl Taken.no) ?_
 refine SL.nil ?_
 refine E.to ?_
 refine W.pick (.cons (t := 0) rfl .nil) (.cons (t := 102) rfl (.cons (t := 106) rfl .nil)) ?_
 refine W.ret ?_
 refine E.fin (rs := [_]) (rn []) (.inl rfl) rfl (.cons (ResOne.tmp rfl) .nil) ?_ ?_ rfl (fixL_spec rfl)
 ·skip
  rfl
 · exact SubS.nil

end Go.Proofs.Ytemclhhlafjohaa
