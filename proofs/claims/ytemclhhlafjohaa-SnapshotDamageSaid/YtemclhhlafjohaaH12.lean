/-
  The walks.
-/
import Derived.Test.YtemclhhlafjohaaH11
import Derived.Test.YtemclhhlafjohaaHIdx
namespace Go.Proofs.Ytemclhhlafjohaa
open Go Go.RowKit Go.H Go.D21 Go.D20 Go.D02

theorem hinf46 : ∃ i, Try.prog.info? 46 = some i ∧ i.zero = some (.agg #[.int .i64 0, .slice none 0 0, .int .i64 0, .slice none 0 0]) ∧ i.size = 4 ∧ i.bytes = 64 := G.info_of (by kernel_rfl)
theorem hcallOk9 : G.callOk Try.prog 9 = true := by kernel_rfl
theorem hcallOk13 : G.callOk Try.prog 13 = true := by kernel_rfl
theorem hcallOk15 : G.callOk Try.prog 15 = true := by kernel_rfl
theorem hcallOk17 : G.callOk Try.prog 17 = true := by kernel_rfl
theorem hcallOk18 : G.callOk Try.prog 18 = true := by kernel_rfl
theorem hcallOk19 : G.callOk Try.prog 19 = true := by kernel_rfl
theorem hcallOk20 : G.callOk Try.prog 20 = true := by kernel_rfl
theorem hcallOk23 : G.callOk Try.prog 23 = true := by kernel_rfl
theorem hcallOk25 : G.callOk Try.prog 25 = true := by kernel_rfl

abbrev eAS (a : AS) : List UV := [uI (a.base : Int), .sl 1 (a.file.map eB), uI a.sy, .sl 1 (a.snaps.map eL)]
instance : Inhabited AS := ⟨zeroA⟩
theorem both_rec {n : Nat} {a : AS} {t : Tk} (h : RI n a t) {k : Nat} (hk : k < 2) : (([a, a.trim] : List AS)[k]!).file.length ≤ 1000000 ∧ (∀ b ∈ (([a, a.trim] : List AS)[k]!).snaps, b.length ≤ 1000000) ∧ recE ([a, a.trim] : List AS)[k]!.base ([a, a.trim] : List AS)[k]!.file ([a, a.trim] : List AS)[k]!.snaps = 0 ∧ acN (recA ([a, a.trim] : List AS)[k]!.base ([a, a.trim] : List AS)[k]!.file ([a, a.trim] : List AS)[k]!.snaps) = (a.newN : Int) ∧ acD (recA ([a, a.trim] : List AS)[k]!.base ([a, a.trim] : List AS)[k]!.file ([a, a.trim] : List AS)[k]!.snaps) = a.newD ∧ recL ([a, a.trim] : List AS)[k]!.base ([a, a.trim] : List AS)[k]!.file ([a, a.trim] : List AS)[k]!.snaps = a.hist.drop a.newN := by
  match k, hk with
  | 0, _ =>
    obtain ⟨r1, r2, r3, r4⟩ := AS.recover_all h.ok
    have := AS.flen h.ok
    exact ⟨show a.file.length ≤ 1000000 by omega, AS.sn_sm h.ok, r1, r2, r3, r4⟩
  | 1, _ =>
    have ho := AS.trim_ok h.ok
    obtain ⟨r1, r2, r3, r4⟩ := AS.recover_all ho
    have := AS.flen ho
    obtain ⟨t1, t2⟩ := trim_new a
    rw [t1] at r2 r4; rw [t2] at r3; rw [(trim_hist a).1] at r4
    exact ⟨show a.trim.file.length ≤ 1000000 by omega, AS.sn_sm ho, r1, r2, r3, r4⟩
theorem idx13 {a : List Bool} : ∀ {k : Nat}, k < 13 → ([vB a[0]!, vB a[1]!, vB a[2]!, vB a[3]!, vB a[4]!, vB a[5]!, vB a[6]!, vB a[7]!, vB a[8]!, vB a[9]!, vB a[10]!, vB a[11]!, vB a[12]!] : List IV)[k]? = some (vB a[k]!)
  | 0, _ => rfl
  | 1, _ => rfl
  | 2, _ => rfl
  | 3, _ => rfl
  | 4, _ => rfl
  | 5, _ => rfl
  | 6, _ => rfl
  | 7, _ => rfl
  | 8, _ => rfl
  | 9, _ => rfl
  | 10, _ => rfl
  | 11, _ => rfl
  | 12, _ => rfl
theorem has_sn {n : Nat} {a : AS} {t : Tk} (h : RI n a t) (hn : n ≤ 12) {k : Nat} (hk : k < a.sn.length) : 0 ≤ ((a.sn[k]!).1 : Int) ∧ ((a.sn[k]!).1 : Int) ≤ 12 ∧ t.td[(((a.sn[k]!).1 : Int)).toNat]! = (a.sn[k]!).2 := by
  have h1 := (h.ok.rng _ (AS.sn_mem hk)).2.1
  have h2 := h.ok.sh
  have h3 := h.hl
  refine ⟨by omega, by omega, ?_⟩
  rw [Int.toNat_natCast]
  exact h.sn _ (AS.sn_mem hk)
theorem take_sy (a : AS) (d : Bs) (h : a.Ok) : (a.take d).sy = ((a.take d).file.length : Int) := (AS.sync_facts h).2.2.1
theorem crash_at {a : AS} (h : a.Ok) {m : Nat} (hm : a.sy + (m : Int) ≤ (a.file.length : Int)) : crashE a.file a.sy m = 0 ∧ crashL a.file a.sy m = a.file.take (a.sy + m).toNat := by
  have e := crash_0 (k := (m : Int)) (AS.valid h) (by omega)
  exact ⟨e, by rw [crashL, if_pos e]⟩
theorem rest_len {a : AS} (h : a.Ok) {c : Nat} (hc : c ≤ a.lg.length) : ((a.hist.take (a.base + c)).drop a.newN).length = a.base + c - a.newN := by
  have h1 := a.lg_len
  have h2 := h.bs
  have h3 := h.sh
  rw [List.length_drop, List.length_take]; omega
theorem mem2 {b c : Bs} {n : Nat} (hb : b.length ≤ n) (hc : c.length ≤ n) : ∀ x ∈ [b, c], x.length ≤ n := fun x hx => by
  rcases List.mem_cons.1 hx with e | hx
  · rw [e]; exact hb
  · rw [List.mem_singleton.1 hx]; exact hc

set_option maxRecDepth 8000 in
set_option maxHeartbeats 3200000 in
/-- bookplate/bookplatelaw21.SnapshotHistory. -/
theorem snapshotHistory_h {l : List Stp} :
    Con Try.prog 5 [vL 2 (l.map eStp)] [] (vB true) [] := by
 obtain ⟨i22, hi22, hz22, hs22, hb22⟩ := hinf22
 obtain ⟨i46, hi46, hz46, hs46, hb46⟩ := hinf46
 refine Con.enterL (n := 114) Try.func5 rfl rfl rfl (fun τ w ok vs hin => ?_)
 have hl0 := hin.len (i := 0) rfl
 try rw [List.length_map] at hl0
 clear hin
 refine W.seq ?_
 refine W.region ?_
 refine SL.val (O.assign rfl rfl Taken.no) ?_
 refine SL.nil ?_
 refine E.to ?_
 refine W.seq ?_
 refine W.seq ?_
 refine W.region ?_
 refine SL.val (O.callp rfl rfl rfl (awake21_h) .nil hcallOk9 rfl Taken.no) ?_
 refine SL.as (i' := vB true) 18 rfl (by rfl) ?_
 refine SL.val (O.det (fun _ => G.R.mv (G.R.not rfl) rfl) rfl Taken.no) ?_
 refine SL.nil ?_
 refine E.to ?_
 refine W.cond_f rfl ?_
 refine W.skip ?_
 refine E.to ?_
 refine W.seq ?_
 refine W.seq ?_
 refine W.region ?_
 refine SL.val (O.move rfl rfl Taken.no) ?_
 refine SL.val (O.callp rfl rfl rfl (few21_h (l := l)) (.cons (ArgOk.same rfl) .nil) hcallOk19 rfl Taken.no) ?_
 refine SL.val (O.det (fun _ => G.R.not rfl) rfl Taken.no) ?_
 refine SL.nil ?_
 refine E.to ?_
 first | refine W.cond_d rfl (fun hc1 => ?_) (fun hc1 => ?_) | refine W.cond_nd rfl (fun hc1 => ?_) (fun hc1 => ?_) | refine W.cond rfl (fun hc1 => ?_) (fun hc1 => ?_)
 ·skip
  refine W.seq ?_
  refine W.region ?_
  refine SL.val (O.assign rfl rfl Taken.no) ?_
  refine SL.nil ?_
  refine E.to ?_
  refine W.ret ?_
  refine E.thr ?_
  refine E.fin (rs := [_]) (rn []) (.inl rfl) rfl (.cons (ResOne.tmp rfl) .nil) ?_ ?_ rfl (fixL_spec rfl)
  ·skip
   rfl
  · exact SubS.nil
 ·skip
  have hs : fewL l := by simp_all
  have hl12 := hs.1
  have hri := RI_k hs l.length (Nat.le_refl _)
  have hok := hri.ok
  have hfw := hri.few
  have hhl := hri.hl
  have hnr := AS.new_rng hok
  have hbs := hok.bs
  have hsh := hok.sh
  have htw := hok.two
  have hhas := has_new hri hl12
  have hsl := (rA l l.length).sn_len
  have htle := trim_le hok
  refine W.skip ?_
  refine E.to ?_
  refine W.seq ?_
  refine W.region ?_
  refine SL.val (O.move rfl rfl Taken.no) ?_
  refine SL.memS (O.call (rn []) [] rfl rfl rfl (run_h hs) (.cons (ArgOk.same rfl) .nil) SubS.nil rfl rfl rfl rfl rfl (.inl rfl) hcallOk20 (r' := .tup [.agg [.u _, .u _, .u _, .u _], .u _, .u _, .agg [.u _, .u _, .u _, .u _, .u _, .u _, .u _, .u _, .u _, .u _, .u _, .u _, .u _, .u _, .u _, .u _, .u _, .u _, .u _, .u _, .u _, .u _, .u _, .u _, .u _, .u _], .u _]) rfl rfl Taken.no) rfl rfl (S' := _) rfl ?_
  refine SL.val (O.move rfl rfl Taken.no) ?_
  refine SL.val (O.extract rfl rfl rfl Taken.no) ?_
  refine SL.val (O.extract rfl rfl rfl Taken.no) ?_
  refine SL.val (O.extract rfl rfl rfl Taken.no) ?_
  refine SL.val (O.extract rfl rfl rfl Taken.no) ?_
  refine SL.val (O.extract rfl rfl rfl Taken.no) ?_
  refine SL.memS (O.alloc (z := .agg #[.int .i64 0, .slice none 0 0, .int .i64 0, .slice none 0 0]) (is := [.u (.sc (.int .i64 0)), .u (.sc (.slice none 0 0)), .u (.sc (.int .i64 0)), .u (.sc (.slice none 0 0))]) 101 (by kernel_rfl) rfl rfl rfl Taken.no) rfl rfl (S' := (101, _) :: _) rfl ?_
  refine SL.memS (O.alloc (z := .agg #[.bool false, .bool false, .bool false, .bool false, .bool false, .bool false, .bool false, .bool false, .bool false, .bool false, .bool false, .bool false, .bool false, .string (Go.G.bs []), .string (Go.G.bs []), .string (Go.G.bs []), .string (Go.G.bs []), .string (Go.G.bs []), .string (Go.G.bs []), .string (Go.G.bs []), .string (Go.G.bs []), .string (Go.G.bs []), .string (Go.G.bs []), .string (Go.G.bs []), .string (Go.G.bs []), .string (Go.G.bs [])]) (is := [.u (.sc (.bool false)), .u (.sc (.bool false)), .u (.sc (.bool false)), .u (.sc (.bool false)), .u (.sc (.bool false)), .u (.sc (.bool false)), .u (.sc (.bool false)), .u (.sc (.bool false)), .u (.sc (.bool false)), .u (.sc (.bool false)), .u (.sc (.bool false)), .u (.sc (.bool false)), .u (.sc (.bool false)), .u (.sc (.string (Go.G.bs []))), .u (.sc (.string (Go.G.bs []))), .u (.sc (.string (Go.G.bs []))), .u (.sc (.string (Go.G.bs []))), .u (.sc (.string (Go.G.bs []))), .u (.sc (.string (Go.G.bs []))), .u (.sc (.string (Go.G.bs []))), .u (.sc (.string (Go.G.bs []))), .u (.sc (.string (Go.G.bs []))), .u (.sc (.string (Go.G.bs []))), .u (.sc (.string (Go.G.bs []))), .u (.sc (.string (Go.G.bs []))), .u (.sc (.string (Go.G.bs [])))]) 102 (by kernel_rfl) rfl rfl rfl Taken.no) rfl rfl (S' := (102, _) :: _) rfl ?_
  refine SL.effS (O.st_ref (m := 4) rfl rfl rfl (js := [_, _, _, _]) rfl rfl (by kernel_rfl) (by simp) (Nat.le_of_ble_eq_true rfl) rfl (is' := [_, _, _, _]) rfl Taken.no) (S' := (101, _) :: _) rfl ?_
  refine SL.val (O.assign rfl rfl Taken.no) ?_
  refine SL.val (O.assign rfl rfl Taken.no) ?_
  refine SL.effS (O.st_ref (m := 26) rfl rfl rfl (js := [_, _, _, _, _, _, _, _, _, _, _, _, _, _, _, _, _, _, _, _, _, _, _, _, _, _]) rfl rfl (by kernel_rfl) (by simp) (Nat.le_of_ble_eq_true rfl) rfl (is' := [_, _, _, _, _, _, _, _, _, _, _, _, _, _, _, _, _, _, _, _, _, _, _, _, _, _]) rfl Taken.no) (S' := (102, _) :: _) rfl ?_
  refine SL.val (O.assign rfl rfl Taken.no) ?_
  refine SL.nil ?_
  refine E.to ?_
  refine W.seq ?_
  refine W.seq ?_
  refine W.region ?_
  refine SL.val (O.move rfl rfl Taken.no) ?_
  refine SL.val (O.det (fun _ => G.R.mv (G.R.not rfl) rfl) rfl Taken.no) ?_
  refine SL.val (O.move rfl rfl Taken.no) ?_
  have hg2 : false = false := by decide
  refine SL.val (O.ldN (m := 4) (PtI.ref rfl rfl) (js := [_, _, _, _]) rfl (Nat.le_of_ble_eq_true rfl) Try.underlying46 rfl (by kernel_rfl) rfl (Taken.yes rfl rfl hg2)) ?_
  refine SL.val (O.callp rfl rfl rfl (svalid_h (a := (rA l l.length)) hok) (.cons (ArgOk.aggU (.cons (ArgOk.same rfl) (.cons (ArgOk.same rfl) (.cons (ArgOk.same rfl) (.cons (ArgOk.same rfl) .nil))))) .nil) hcallOk21 rfl (Taken.yes rfl rfl hg2)) ?_
  refine SL.as (i' := vB true) 35 rfl (by rfl) ?_
  refine SL.val (O.det (fun _ => G.R.mv (G.R.not rfl) rfl) rfl (Taken.yes rfl rfl hg2)) ?_
  refine SL.val (O.pick_f rfl rfl rfl rfl Taken.no) ?_
  refine SL.nil ?_
  refine E.to ?_
  refine W.pick (.cons (t := 2) rfl (.cons (t := 3) rfl (.cons (t := 4) rfl (.cons (t := 6) rfl (.cons (t := 37) rfl .nil))))) (.cons (t := 101) rfl (.cons (t := 102) rfl .nil)) ?_
  refine W.cond_f rfl ?_
  refine W.skip ?_
  refine E.to ?_
  refine W.seq ?_
  refine W.region ?_
  refine SL.val (O.ldN (m := 4) (PtI.ref rfl rfl) (js := [_, _, _, _]) rfl (Nat.le_of_ble_eq_true rfl) Try.underlying46 rfl (by kernel_rfl) rfl Taken.no) ?_
  refine SL.memS (O.call (rn []) [] rfl rfl rfl (strim_h (a := (rA l l.length)) hok) (.cons (ArgOk.aggU (.cons (ArgOk.same rfl) (.cons (ArgOk.same rfl) (.cons (ArgOk.same rfl) (.cons (ArgOk.same rfl) .nil))))) .nil) SubS.nil rfl rfl rfl rfl rfl (.inl rfl) hcallOk22 (r' := .tup [.agg [.u _, .u _, .u _, .u _], .u _]) rfl rfl Taken.no) rfl rfl (S' := _) rfl ?_
  refine SL.val (O.move rfl rfl Taken.no) ?_
  refine SL.val (O.extract rfl rfl rfl Taken.no) ?_
  refine SL.val (O.extract rfl rfl rfl Taken.no) ?_
  refine SL.memS (O.alloc (z := .agg #[.int .i64 0, .slice none 0 0, .int .i64 0, .slice none 0 0]) (is := [.u (.sc (.int .i64 0)), .u (.sc (.slice none 0 0)), .u (.sc (.int .i64 0)), .u (.sc (.slice none 0 0))]) 103 (by kernel_rfl) rfl rfl rfl Taken.no) rfl rfl (S' := (103, _) :: _) rfl ?_
  refine SL.effS (O.st_ref (m := 4) rfl rfl rfl (js := [_, _, _, _]) rfl rfl (by kernel_rfl) (by simp) (Nat.le_of_ble_eq_true rfl) rfl (is' := [_, _, _, _]) rfl Taken.no) (S' := (103, _) :: _) rfl ?_
  refine SL.val (O.assign rfl rfl Taken.no) ?_
  refine SL.nil ?_
  refine E.to ?_
  refine W.seq ?_
  refine W.seq ?_
  refine W.region ?_
  refine SL.val (O.ldN (m := 4) (PtI.ref rfl rfl) (js := [_, _, _, _]) rfl (Nat.le_of_ble_eq_true rfl) Try.underlying46 rfl (by kernel_rfl) rfl Taken.no) ?_
  refine SL.val (O.ldN (m := 4) (PtI.ref rfl rfl) (js := [_, _, _, _]) rfl (Nat.le_of_ble_eq_true rfl) Try.underlying46 rfl (by kernel_rfl) rfl Taken.no) ?_
  refine SL.memS (O.buildSlice 104 (rows := [(rA l l.length), (rA l l.length).trim].map eAS) rfl rfl Try.underlying56 hi46 hz46 hs46 (by decide) rfl (by decide) rfl rfl rfl Taken.no) rfl rfl (S' := (104, .data 46 4 ([(rA l l.length), (rA l l.length).trim].map eAS)) :: _) rfl ?_
  refine SL.val (O.lenE (SlOf.own rfl rfl) (by first | exact List.length_map _ | rfl) Try.underlying56 rfl Taken.no) ?_
  refine SL.val (O.move rfl rfl Taken.no) ?_
  refine SL.nil ?_
  refine E.to ?_
  refine W.block ?_
  refine W.loopx1 (fun (k : Nat) => [(47, vI (k : Int))]) (fun (k : Nat) => []) (fun (k : Nat) => k ≤ 2) (fun (k : Nat) => 2 - k) (0) (rn []) (.cons (t := 3) rfl (.cons (t := 4) rfl (.cons (t := 6) rfl (.cons (t := 8) rfl (.cons (t := 9) rfl (.cons (t := 45) rfl (.cons (t := 46) rfl .nil))))))) (.cons (t := 101) rfl (.cons (t := 102) rfl (.cons (t := 103) rfl (.cons (t := 104) rfl .nil)))) rfl ?_ ?_ rfl rfl ?_ ?_
  · exact (SubF.cons rfl SubF.nil)
  · exact SubS.nil
  ·skip
   omega
  intro k hinv
  have hk := hinv
  refine W.seq ?_
  refine W.region ?_
  refine SL.val (O.det (fun _ => G.R.lss rfl rfl) rfl Taken.no) ?_
  refine SL.nil ?_
  refine E.to ?_
  refine W.seq ?_
  first | refine W.cond_d rfl (fun hc3 => ?_) (fun hc3 => ?_) | refine W.cond_nd rfl (fun hc3 => ?_) (fun hc3 => ?_) | refine W.cond rfl (fun hc3 => ?_) (fun hc3 => ?_)
  ·skip
   have hk2 : k < 2 := by simp at *; omega
   have hbo := both_rec hri hk2
   refine W.skip ?_
   refine E.to ?_
   refine W.seq ?_
   refine W.block ?_
   refine W.seq ?_
   refine W.region ?_
   refine SL.val (O.idx_own rfl rfl rfl (rfl) (by simp; omega) Try.underlying56 hi46 hs46 rfl Taken.no) ?_
   refine SL.val (O.ldU (m := 4) (PtU.el rfl rfl (row_get (by exact hk2))) rfl Try.underlying46 rfl (by kernel_rfl) rfl Taken.no) ?_
   refine SL.memS (O.alloc (z := .agg #[.int .i64 0, .slice none 0 0, .int .i64 0, .slice none 0 0]) (is := [.u (.sc (.int .i64 0)), .u (.sc (.slice none 0 0)), .u (.sc (.int .i64 0)), .u (.sc (.slice none 0 0))]) 105 (by kernel_rfl) rfl rfl rfl Taken.no) rfl rfl (S' := (105, _) :: _) rfl ?_
   refine SL.effS (O.st_ref (m := 4) rfl rfl rfl (js := [_, _, _, _]) rfl rfl (by kernel_rfl) (by simp) (Nat.le_of_ble_eq_true rfl) rfl (is' := [_, _, _, _]) rfl Taken.no) (S' := (105, _) :: _) rfl ?_
   refine SL.nil ?_
   refine E.to ?_
   refine W.seq ?_
   refine W.region ?_
   refine SL.val (O.fld_ref (o' := 0) rfl Try.underlying46 rfl (m := 0) (by kernel_rfl) rfl rfl Taken.no) ?_
   refine SL.val (O.ld1 (PtI.ref rfl rfl) rfl Try.underlying3 rfl rfl Taken.no) ?_
   refine SL.val (O.fld_ref (o' := 1) rfl Try.underlying46 rfl (m := 1) (by kernel_rfl) rfl rfl Taken.no) ?_
   refine SL.val (O.fld_ref (o' := 1) rfl Try.underlying44 rfl (m := 0) (by kernel_rfl) rfl rfl Taken.no) ?_
   refine SL.val (O.ld1 (PtI.ref rfl rfl) rfl Try.underlying22 rfl rfl Taken.no) ?_
   refine SL.val (O.fld_ref (o' := 3) rfl Try.underlying46 rfl (m := 0) (by kernel_rfl) rfl rfl Taken.no) ?_
   refine SL.val (O.ld1 (PtI.ref rfl rfl) rfl Try.underlying32 rfl rfl Taken.no) ?_
   refine SL.memS (O.call (rn []) [] rfl rfl rfl (recover_h (base := ((([(rA l l.length), (rA l l.length).trim] : List AS)[k]!).base : Int)) (f := (([(rA l l.length), (rA l l.length).trim] : List AS)[k]!).file) (sn := (([(rA l l.length), (rA l l.length).trim] : List AS)[k]!).snaps) hbo.1 hbo.2.1) (.cons (ArgOk.same rfl) (.cons (ArgOk.same rfl) (.cons (ArgOk.same rfl) .nil))) SubS.nil rfl rfl rfl rfl rfl (.inl rfl) hcallOk16 (r' := .tup [.u _, .u _, .u _, .u _]) rfl rfl Taken.no) rfl rfl (S' := _) rfl ?_
   refine SL.as (i' := .tup [vL 1 ((rA l l.length).newD.map eB), vI ((rA l l.length).newN : Int), vL 1 (((rA l l.length).hist.drop (rA l l.length).newN).map eL), vI 0]) 59 rfl (by rw [hbo.2.2.1, hbo.2.2.2.1, hbo.2.2.2.2.1, hbo.2.2.2.2.2]) ?_
   refine SL.val (O.move rfl rfl Taken.no) ?_
   refine SL.val (O.extract rfl rfl rfl Taken.no) ?_
   refine SL.val (O.extract rfl rfl rfl Taken.no) ?_
   refine SL.val (O.extract rfl rfl rfl Taken.no) ?_
   refine SL.val (O.extract rfl rfl rfl Taken.no) ?_
   refine SL.val (O.assign rfl rfl Taken.no) ?_
   refine SL.val (O.assign rfl rfl Taken.no) ?_
   refine SL.val (O.assign rfl rfl Taken.no) ?_
   refine SL.val (O.assign rfl rfl Taken.no) ?_
   refine SL.nil ?_
   refine E.to ?_
   refine W.pick (.cons (t := 3) rfl (.cons (t := 4) rfl (.cons (t := 6) rfl (.cons (t := 8) rfl (.cons (t := 9) rfl (.cons (t := 12) rfl (.cons (t := 13) rfl (.cons (t := 14) rfl (.cons (t := 15) rfl (.cons (t := 45) rfl (.cons (t := 46) rfl (.cons (t := 47) rfl .nil)))))))))))) (.cons (t := 101) rfl (.cons (t := 102) rfl (.cons (t := 103) rfl (.cons (t := 104) rfl (.cons (t := 105) rfl .nil))))) ?_
   refine W.seq ?_
   refine W.seq ?_
   refine W.region ?_
   refine SL.val (O.move rfl rfl Taken.no) ?_
   refine SL.val (O.det (fun _ => G.R.mv (G.R.neq rfl rfl) (congrArg Value.bool (decide_eq_false (by decide)))) rfl Taken.no) ?_
   refine SL.val (O.move rfl rfl Taken.no) ?_
   have hg4 : false = false := by decide
   refine SL.val (O.move rfl rfl (Taken.yes rfl rfl hg4)) ?_
   refine SL.val (O.move rfl rfl (Taken.yes rfl rfl hg4)) ?_
   refine SL.val (O.lenE (n := (rA l l.length).hist.length) (SlOf.fz rfl (by decide)) (by exact List.length_map _) Try.underlying32 rfl (Taken.yes rfl rfl hg4)) ?_
   refine SL.val (O.det (fun _ => G.R.mv (G.R.gtr rfl rfl) (congrArg Value.bool (decide_eq_false (by omega)))) rfl (Taken.yes rfl rfl hg4)) ?_
   refine SL.val (O.pick_f rfl rfl rfl rfl Taken.no) ?_
   refine SL.val (O.move rfl rfl Taken.no) ?_
   have hg5 : false = false := by decide
   refine SL.val (O.ldN (m := 26) (PtI.ref rfl rfl) (js := [_, _, _, _, _, _, _, _, _, _, _, _, _, _, _, _, _, _, _, _, _, _, _, _, _, _]) rfl (Nat.le_of_ble_eq_true rfl) Try.underlying50 rfl (by kernel_rfl) rfl (Taken.yes rfl rfl hg5)) ?_
   refine SL.val (O.move rfl rfl (Taken.yes rfl rfl hg5)) ?_
   refine SL.val (O.move rfl rfl (Taken.yes rfl rfl hg5)) ?_
   refine SL.val (O.callp rfl rfl rfl (has21_h (t := (rT l l.length)) (n := ((rA l l.length).newN : Int)) (d := (rA l l.length).newD) hri.h1 hri.h2) (.cons (ArgOk.aggU (.cons (ArgOk.same rfl) (.cons (ArgOk.same rfl) (.cons (ArgOk.same rfl) (.cons (ArgOk.same rfl) (.cons (ArgOk.same rfl) (.cons (ArgOk.same rfl) (.cons (ArgOk.same rfl) (.cons (ArgOk.same rfl) (.cons (ArgOk.same rfl) (.cons (ArgOk.same rfl) (.cons (ArgOk.same rfl) (.cons (ArgOk.same rfl) (.cons (ArgOk.same rfl) (.cons (ArgOk.same rfl) (.cons (ArgOk.same rfl) (.cons (ArgOk.same rfl) (.cons (ArgOk.same rfl) (.cons (ArgOk.same rfl) (.cons (ArgOk.same rfl) (.cons (ArgOk.same rfl) (.cons (ArgOk.same rfl) (.cons (ArgOk.same rfl) (.cons (ArgOk.same rfl) (.cons (ArgOk.same rfl) (.cons (ArgOk.same rfl) (.cons (ArgOk.same rfl) .nil))))))))))))))))))))))))))) (.cons (ArgOk.same rfl) (.cons (ArgOk.same rfl) .nil))) hcallOk23 rfl (Taken.yes rfl rfl hg5)) ?_
   refine SL.as (i' := vB true) 76 rfl (by exact iv_bool (decide_eq_true hhas)) ?_
   refine SL.val (O.det (fun _ => G.R.mv (G.R.not rfl) rfl) rfl (Taken.yes rfl rfl hg5)) ?_
   refine SL.val (O.pick_f rfl rfl rfl rfl Taken.no) ?_
   refine SL.val (O.move rfl rfl Taken.no) ?_
   have hg6 : false = false := by decide
   refine SL.val (O.move rfl rfl (Taken.yes rfl rfl hg6)) ?_
   refine SL.val (O.move rfl rfl (Taken.yes rfl rfl hg6)) ?_
   refine SL.val (O.move rfl rfl (Taken.yes rfl rfl hg6)) ?_
   refine SL.val (O.sub_fz (i := (rA l l.length).newN) rfl (Bnd.at rfl (by first | rfl | omega)) Bnd.no (by rw [List.length_map]; omega) (by first | omega | (simp only [List.length_map, Nat.le_refl, Nat.zero_le] <;> omega) | (simp <;> omega)) sub_lo Try.underlying32 hi22 hs22 rfl (Taken.yes rfl rfl hg6)) ?_
   refine SL.val (O.callp rfl rfl rfl (same_h (ls1 := (rA l l.length).hist.drop (rA l l.length).newN) (ls2 := (rA l l.length).hist.drop (rA l l.length).newN)) (.cons (ArgOk.same rfl) (.cons (ArgOk.same rfl) .nil)) hcallOk18 rfl (Taken.yes rfl rfl hg6)) ?_
   refine SL.as (i' := vB true) 84 rfl (by exact iv_bool (decide_eq_true rfl)) ?_
   refine SL.val (O.det (fun _ => G.R.mv (G.R.not rfl) rfl) rfl (Taken.yes rfl rfl hg6)) ?_
   refine SL.val (O.pick_f rfl rfl rfl rfl Taken.no) ?_
   refine SL.nil ?_
   refine E.to ?_
   refine W.pick (.cons (t := 3) rfl (.cons (t := 4) rfl (.cons (t := 6) rfl (.cons (t := 8) rfl (.cons (t := 9) rfl (.cons (t := 13) rfl (.cons (t := 45) rfl (.cons (t := 46) rfl (.cons (t := 47) rfl (.cons (t := 86) rfl .nil)))))))))) (.cons (t := 101) rfl (.cons (t := 102) rfl (.cons (t := 103) rfl (.cons (t := 104) rfl (.cons (t := 105) rfl .nil))))) ?_
   refine W.cond_f rfl ?_
   refine W.skip ?_
   refine E.to ?_
   refine W.seq ?_
   refine W.region ?_
   refine SL.val (O.fld_ref (o' := 0) rfl Try.underlying50 rfl (m := 12) (by kernel_rfl) rfl rfl Taken.no) ?_
   refine SL.val (O.ldN (m := 13) (PtI.ref rfl rfl) (js := [_, _, _, _, _, _, _, _, _, _, _, _, _]) rfl (Nat.le_of_ble_eq_true rfl) Try.underlying47 rfl (by kernel_rfl) rfl Taken.no) ?_
   refine SL.val (O.move rfl rfl Taken.no) ?_
   refine SL.nil ?_
   refine E.to ?_
   refine W.block ?_
   refine W.loopx1 (fun (j : Nat) => [(89, vI (j : Int))]) (fun (j : Nat) => []) (fun (j : Nat) => j ≤ 13) (fun (j : Nat) => 13 - j) (0) (rn []) (.cons (t := 3) rfl (.cons (t := 4) rfl (.cons (t := 6) rfl (.cons (t := 8) rfl (.cons (t := 9) rfl (.cons (t := 13) rfl (.cons (t := 45) rfl (.cons (t := 46) rfl (.cons (t := 47) rfl (.cons (t := 88) rfl .nil)))))))))) (.cons (t := 101) rfl (.cons (t := 102) rfl (.cons (t := 103) rfl (.cons (t := 104) rfl (.cons (t := 105) rfl .nil))))) rfl ?_ ?_ rfl rfl ?_ ?_
   · exact (SubF.cons rfl SubF.nil)
   · exact SubS.nil
   ·skip
    omega
   intro j hinv
   have hj := hinv
   refine W.seq ?_
   refine W.region ?_
   refine SL.val (O.det (fun _ => G.R.lss rfl rfl) rfl Taken.no) ?_
   refine SL.nil ?_
   refine E.to ?_
   refine W.seq ?_
   first | refine W.cond_d rfl (fun hc7 => ?_) (fun hc7 => ?_) | refine W.cond_nd rfl (fun hc7 => ?_) (fun hc7 => ?_) | refine W.cond rfl (fun hc7 => ?_) (fun hc7 => ?_)
   ·skip
    have hj2 : j < 13 := by omega
    refine W.skip ?_
    refine E.to ?_
    refine W.seq ?_
    refine W.block ?_
    refine W.seq ?_
    refine W.region ?_
    refine SL.val (O.move rfl rfl Taken.no) ?_
    refine SL.val (O.idxval (i := j) rfl rfl (by rfl) (by exact hj2) (by exact idx13 hj2) Try.underlying47 (by kernel_rfl) Try.underlying4 rfl rfl Taken.no) ?_
    refine SL.val (O.assign rfl rfl Taken.no) ?_
    refine SL.val (O.assign rfl rfl Taken.no) ?_
    refine SL.nil ?_
    refine E.to ?_
    refine W.seq ?_
    refine W.region ?_
    refine SL.val (O.move rfl rfl Taken.no) ?_
    refine SL.val (O.move rfl rfl Taken.no) ?_
    refine SL.case (j := 1) (g := 94) (want := true) rfl rfl (fun hg8 => ?_) (fun hg8 => ?_)
    ·skip
     first | have hg8p := G.gA1 hg8 | have hg8p := G.gA2 hg8 | have hg8p := hg8
     refine SL.val (O.move rfl rfl (Taken.yes rfl rfl hg8)) ?_
     refine SL.val (O.move rfl rfl (Taken.yes rfl rfl hg8)) ?_
     refine SL.val (O.det (fun _ => G.R.gtr rfl rfl) rfl (Taken.yes rfl rfl hg8)) ?_
     refine SL.val (O.pick_t rfl hg8 rfl rfl Taken.no) ?_
     refine SL.nil ?_
     refine E.to ?_
     first | refine W.cond_d rfl (fun hc9 => ?_) (fun hc9 => ?_) | refine W.cond_nd rfl (fun hc9 => ?_) (fun hc9 => ?_) | refine W.cond rfl (fun hc9 => ?_) (fun hc9 => ?_)
     ·skip
      refine W.seq ?_
      refine W.region ?_
      refine SL.val (O.assign rfl rfl Taken.no) ?_
      refine SL.nil ?_
      refine E.to ?_
      refine W.ret ?_
      refine E.inr ?_
      refine E.thr ?_
      refine E.thr ?_
      refine E.inr ?_
      refine E.inr ?_
      refine E.thr ?_
      refine E.thr ?_
      refine E.inr ?_
      refine E.thr ?_
      refine E.fin (rs := [_]) (rn []) (.inl rfl) rfl (.cons (ResOne.tmp rfl) .nil) ?_ ?_ rfl (fixL_spec rfl)
      ·skip
       exfalso; have hth := hri.th j hj2 (by assumption); omega
      · exact SubS.nil
     ·skip
      refine W.skip ?_
      refine E.inn ?_
      refine E.to ?_
      refine W.region ?_
      refine SL.val (O.det (fun _ => by first | exact G.R.add64 rfl rfl (by omega) | exact G.R.add rfl rfl) rfl Taken.no) ?_
      refine SL.val (O.move rfl rfl Taken.no) ?_
      refine SL.nil ?_
      refine E.again ((j + 1)) (rn []) ?_ ?_ rfl (fixL_spec rfl) ?_ ?_
      · exact (SubF.cons rfl (SubF.cons rfl (SubF.cons rfl (SubF.cons rfl (SubF.cons rfl (SubF.cons rfl (SubF.cons rfl (SubF.cons rfl (SubF.cons rfl (SubF.cons rfl (SubF.cons rfl SubF.nil)))))))))))
      · exact (SubS.cons rfl (SubS.cons rfl (SubS.cons rfl (SubS.cons rfl (SubS.cons rfl SubS.nil)))))
      ·try dsimp only
       omega
      · (try dsimp only); omega
    ·skip
     first | have hg8p := G.gA5 hg8 | have hg8p := G.gA6 hg8 | have hg8p := hg8
     refine SL.skip (OpOk.not rfl rfl rfl hg8) ?_
     refine SL.skip (OpOk.not rfl rfl rfl hg8) ?_
     refine SL.skip (OpOk.not rfl rfl rfl hg8) ?_
     refine SL.val (O.pick_f rfl (G.ne_t hg8) rfl rfl Taken.no) ?_
     refine SL.nil ?_
     refine E.to ?_
     refine W.cond_f rfl ?_
     refine W.skip ?_
     refine E.inn ?_
     refine E.to ?_
     refine W.region ?_
     refine SL.val (O.det (fun _ => by first | exact G.R.add64 rfl rfl (by omega) | exact G.R.add rfl rfl) rfl Taken.no) ?_
     refine SL.val (O.move rfl rfl Taken.no) ?_
     refine SL.nil ?_
     refine E.again ((j + 1)) (rn []) ?_ ?_ rfl (fixL_spec rfl) ?_ ?_
     · exact (SubF.cons rfl (SubF.cons rfl (SubF.cons rfl (SubF.cons rfl (SubF.cons rfl (SubF.cons rfl (SubF.cons rfl (SubF.cons rfl (SubF.cons rfl (SubF.cons rfl (SubF.cons rfl SubF.nil)))))))))))
     · exact (SubS.cons rfl (SubS.cons rfl (SubS.cons rfl (SubS.cons rfl (SubS.cons rfl SubS.nil)))))
     ·try dsimp only
      omega
     · (try dsimp only); omega
   ·skip
    refine W.exit ?_
    refine E.th ?_
    refine E.th ?_
    refine E.hit ?_
    refine E.inn ?_
    refine E.to ?_
    refine W.region ?_
    refine SL.val (O.det (fun _ => by first | exact G.R.add64 rfl rfl (by omega) | exact G.R.add rfl rfl) rfl Taken.no) ?_
    refine SL.val (O.move rfl rfl Taken.no) ?_
    refine SL.nil ?_
    refine E.again ((k + 1)) (rn []) ?_ ?_ rfl (fixL_spec rfl) ?_ ?_
    · exact (SubF.cons rfl (SubF.cons rfl (SubF.cons rfl (SubF.cons rfl (SubF.cons rfl (SubF.cons rfl (SubF.cons rfl (SubF.cons rfl SubF.nil))))))))
    · exact (SubS.cons rfl (SubS.cons rfl (SubS.cons rfl (SubS.cons rfl SubS.nil))))
    ·try dsimp only
     omega
    · (try dsimp only); omega
  ·skip
   refine W.exit ?_
   refine E.th ?_
   refine E.th ?_
   refine E.hit ?_
   refine E.to ?_
   refine W.seq ?_
   refine W.region ?_
   refine SL.val (O.move rfl rfl Taken.no) ?_
   refine SL.val (O.det (fun _ => G.R.mv (G.R.eql rfl rfl) (congrArg Value.bool (decide_eq_true (by rfl)))) rfl Taken.no) ?_
   refine SL.val (O.move rfl rfl Taken.no) ?_
   have hg10 : true = true := by decide
   refine SL.val (O.fld_ref (o' := 1) rfl Try.underlying46 rfl (m := 1) (by kernel_rfl) rfl rfl (Taken.yes rfl rfl hg10)) ?_
   refine SL.val (O.fld_ref (o' := 1) rfl Try.underlying44 rfl (m := 0) (by kernel_rfl) rfl rfl (Taken.yes rfl rfl hg10)) ?_
   refine SL.val (O.ld1 (PtI.ref rfl rfl) rfl Try.underlying22 rfl rfl (Taken.yes rfl rfl hg10)) ?_
   refine SL.val (O.lenE (SlOf.fz rfl (by decide)) (by first | exact List.length_map _ | rfl) Try.underlying22 rfl (Taken.yes rfl rfl hg10)) ?_
   refine SL.val (O.fld_ref (o' := 1) rfl Try.underlying46 rfl (m := 1) (by kernel_rfl) rfl rfl (Taken.yes rfl rfl hg10)) ?_
   refine SL.val (O.fld_ref (o' := 1) rfl Try.underlying44 rfl (m := 0) (by kernel_rfl) rfl rfl (Taken.yes rfl rfl hg10)) ?_
   refine SL.val (O.ld1 (PtI.ref rfl rfl) rfl Try.underlying22 rfl rfl (Taken.yes rfl rfl hg10)) ?_
   refine SL.val (O.lenE (SlOf.fz rfl (by decide)) (by first | exact List.length_map _ | rfl) Try.underlying22 rfl (Taken.yes rfl rfl hg10)) ?_
   refine SL.val (O.det (fun _ => G.R.mv (G.R.leq rfl rfl) (congrArg Value.bool (decide_eq_true (by omega)))) rfl (Taken.yes rfl rfl hg10)) ?_
   refine SL.val (O.pick_t rfl rfl rfl rfl Taken.no) ?_
   refine SL.val (O.assign rfl rfl Taken.no) ?_
   refine SL.nil ?_
   refine E.to ?_
   refine W.ret ?_
   refine E.fin (rs := [_]) (rn []) (.inl rfl) rfl (.cons (ResOne.tmp rfl) .nil) ?_ ?_ rfl (fixL_spec rfl)
   ·skip
    rfl
   · exact SubS.nil

set_option maxRecDepth 8000 in
set_option maxHeartbeats 3200000 in
/-- bookplate/bookplatelaw21.SnapshotCrash. -/
theorem snapshotCrash_h (keep : Int) {l : List Stp} (hkp : 0 ≤ keep ∧ keep ≤ 65535) :
    Con Try.prog 8 [vL 2 (l.map eStp), vN .u16 keep] [] (vB true) [] := by
 obtain ⟨i22, hi22, hz22, hs22, hb22⟩ := hinf22
 refine Con.enterL (n := 96) Try.func8 rfl rfl rfl (fun τ w ok vs hin => ?_)
 have hl0 := hin.len (i := 0) rfl
 try rw [List.length_map] at hl0
 clear hin
 refine W.seq ?_
 refine W.region ?_
 refine SL.val (O.assign rfl rfl Taken.no) ?_
 refine SL.nil ?_
 refine E.to ?_
 refine W.seq ?_
 refine W.seq ?_
 refine W.region ?_
 refine SL.val (O.callp rfl rfl rfl (awake21_h) .nil hcallOk9 rfl Taken.no) ?_
 refine SL.as (i' := vB true) 17 rfl (by rfl) ?_
 refine SL.val (O.det (fun _ => G.R.mv (G.R.not rfl) rfl) rfl Taken.no) ?_
 refine SL.nil ?_
 refine E.to ?_
 refine W.cond_f rfl ?_
 refine W.skip ?_
 refine E.to ?_
 refine W.seq ?_
 refine W.seq ?_
 refine W.region ?_
 refine SL.val (O.move rfl rfl Taken.no) ?_
 refine SL.val (O.callp rfl rfl rfl (few21_h (l := l)) (.cons (ArgOk.same rfl) .nil) hcallOk19 rfl Taken.no) ?_
 refine SL.val (O.det (fun _ => G.R.not rfl) rfl Taken.no) ?_
 refine SL.nil ?_
 refine E.to ?_
 first | refine W.cond_d rfl (fun hc1 => ?_) (fun hc1 => ?_) | refine W.cond_nd rfl (fun hc1 => ?_) (fun hc1 => ?_) | refine W.cond rfl (fun hc1 => ?_) (fun hc1 => ?_)
 ·skip
  refine W.seq ?_
  refine W.region ?_
  refine SL.val (O.assign rfl rfl Taken.no) ?_
  refine SL.nil ?_
  refine E.to ?_
  refine W.ret ?_
  refine E.thr ?_
  refine E.fin (rs := [_]) (rn []) (.inl rfl) rfl (.cons (ResOne.tmp rfl) .nil) ?_ ?_ rfl (fixL_spec rfl)
  ·skip
   rfl
  · exact SubS.nil
 ·skip
  have hs : fewL l := by simp_all
  have hl12 := hs.1
  have hri := RI_k hs l.length (Nat.le_refl _)
  have hok := hri.ok
  have hfw := hri.few
  have hhl := hri.hl
  have hnr := AS.new_rng hok
  have hbs := hok.bs
  have hsh := hok.sh
  have htw := hok.two
  have hhas := has_new hri hl12
  have hsl := (rA l l.length).sn_len
  have hsy := valid_range (AS.valid hok)
  have hr0 := Int.emod_nonneg keep (show ((rA l l.length).file.length : Int) - (rA l l.length).sy + 1 ≠ 0 by omega)
  have hr1 := Int.emod_lt_of_pos keep (show 0 < ((rA l l.length).file.length : Int) - (rA l l.length).sy + 1 by omega)
  obtain ⟨m, hM⟩ : ∃ m : Nat, (keep % (((rA l l.length).file.length : Int) - (rA l l.length).sy + 1)) = m := ⟨(keep % (((rA l l.length).file.length : Int) - (rA l l.length).sy + 1)).toNat, by omega⟩
  have hca := crash_at hok (m := m) (by omega)
  obtain ⟨c, c1, c2, c3⟩ := crash_rec hok (m := m) (by omega)
  obtain ⟨r1, r2, r3, r4⟩ := AS.recover hok c2 c1 c3
  have hll := (rA l l.length).lg_len
  have hfl := hfw.1
  have hrl := rest_len hok c1
  have htl : ((rA l l.length).file.take ((rA l l.length).sy + m).toNat).length ≤ 1000000 := by rw [List.length_take]; omega
  refine W.skip ?_
  refine E.to ?_
  refine W.seq ?_
  refine W.region ?_
  refine SL.val (O.move rfl rfl Taken.no) ?_
  refine SL.memS (O.call (rn []) [] rfl rfl rfl (run_h hs) (.cons (ArgOk.same rfl) .nil) SubS.nil rfl rfl rfl rfl rfl (.inl rfl) hcallOk20 (r' := .tup [.agg [.u _, .u _, .u _, .u _], .u _, .u _, .agg [.u _, .u _, .u _, .u _, .u _, .u _, .u _, .u _, .u _, .u _, .u _, .u _, .u _, .u _, .u _, .u _, .u _, .u _, .u _, .u _, .u _, .u _, .u _, .u _, .u _, .u _], .u _]) rfl rfl Taken.no) rfl rfl (S' := _) rfl ?_
  refine SL.val (O.move rfl rfl Taken.no) ?_
  refine SL.val (O.extract rfl rfl rfl Taken.no) ?_
  refine SL.val (O.extract rfl rfl rfl Taken.no) ?_
  refine SL.val (O.extract rfl rfl rfl Taken.no) ?_
  refine SL.val (O.extract rfl rfl rfl Taken.no) ?_
  refine SL.val (O.extract rfl rfl rfl Taken.no) ?_
  refine SL.memS (O.alloc (z := .agg #[.int .i64 0, .slice none 0 0, .int .i64 0, .slice none 0 0]) (is := [.u (.sc (.int .i64 0)), .u (.sc (.slice none 0 0)), .u (.sc (.int .i64 0)), .u (.sc (.slice none 0 0))]) 101 (by kernel_rfl) rfl rfl rfl Taken.no) rfl rfl (S' := (101, _) :: _) rfl ?_
  refine SL.memS (O.alloc (z := .agg #[.bool false, .bool false, .bool false, .bool false, .bool false, .bool false, .bool false, .bool false, .bool false, .bool false, .bool false, .bool false, .bool false, .string (Go.G.bs []), .string (Go.G.bs []), .string (Go.G.bs []), .string (Go.G.bs []), .string (Go.G.bs []), .string (Go.G.bs []), .string (Go.G.bs []), .string (Go.G.bs []), .string (Go.G.bs []), .string (Go.G.bs []), .string (Go.G.bs []), .string (Go.G.bs []), .string (Go.G.bs [])]) (is := [.u (.sc (.bool false)), .u (.sc (.bool false)), .u (.sc (.bool false)), .u (.sc (.bool false)), .u (.sc (.bool false)), .u (.sc (.bool false)), .u (.sc (.bool false)), .u (.sc (.bool false)), .u (.sc (.bool false)), .u (.sc (.bool false)), .u (.sc (.bool false)), .u (.sc (.bool false)), .u (.sc (.bool false)), .u (.sc (.string (Go.G.bs []))), .u (.sc (.string (Go.G.bs []))), .u (.sc (.string (Go.G.bs []))), .u (.sc (.string (Go.G.bs []))), .u (.sc (.string (Go.G.bs []))), .u (.sc (.string (Go.G.bs []))), .u (.sc (.string (Go.G.bs []))), .u (.sc (.string (Go.G.bs []))), .u (.sc (.string (Go.G.bs []))), .u (.sc (.string (Go.G.bs []))), .u (.sc (.string (Go.G.bs []))), .u (.sc (.string (Go.G.bs []))), .u (.sc (.string (Go.G.bs [])))]) 102 (by kernel_rfl) rfl rfl rfl Taken.no) rfl rfl (S' := (102, _) :: _) rfl ?_
  refine SL.effS (O.st_ref (m := 4) rfl rfl rfl (js := [_, _, _, _]) rfl rfl (by kernel_rfl) (by simp) (Nat.le_of_ble_eq_true rfl) rfl (is' := [_, _, _, _]) rfl Taken.no) (S' := (101, _) :: _) rfl ?_
  refine SL.val (O.assign rfl rfl Taken.no) ?_
  refine SL.val (O.assign rfl rfl Taken.no) ?_
  refine SL.effS (O.st_ref (m := 26) rfl rfl rfl (js := [_, _, _, _, _, _, _, _, _, _, _, _, _, _, _, _, _, _, _, _, _, _, _, _, _, _]) rfl rfl (by kernel_rfl) (by simp) (Nat.le_of_ble_eq_true rfl) rfl (is' := [_, _, _, _, _, _, _, _, _, _, _, _, _, _, _, _, _, _, _, _, _, _, _, _, _, _]) rfl Taken.no) (S' := (102, _) :: _) rfl ?_
  refine SL.val (O.assign rfl rfl Taken.no) ?_
  refine SL.nil ?_
  refine E.to ?_
  refine W.seq ?_
  refine W.seq ?_
  refine W.region ?_
  refine SL.val (O.move rfl rfl Taken.no) ?_
  refine SL.val (O.det (fun _ => G.R.mv (G.R.not rfl) rfl) rfl Taken.no) ?_
  refine SL.nil ?_
  refine E.to ?_
  refine W.cond_f rfl ?_
  refine W.skip ?_
  refine E.to ?_
  refine W.seq ?_
  refine W.draw [⟨[], [], [], [101]⟩, ⟨[101], [], [], []⟩, ⟨[], [], [], []⟩, ⟨[], [], [], []⟩, ⟨[], [], [], [101]⟩, ⟨[], [], [], [101]⟩, ⟨[101], [], [], []⟩, ⟨[], [], [], []⟩, ⟨[], [], [], [101]⟩, ⟨[], [], [], [101]⟩, ⟨[101], [], [], []⟩, ⟨[], [], [], []⟩, ⟨[], [], [], []⟩, ⟨[], [], [], []⟩, ⟨[], [], [], []⟩, ⟨[], [], [], []⟩, ⟨[], [], [], []⟩, ⟨[], [], [], []⟩, ⟨[], [], [], []⟩, ⟨[], [], [], []⟩] rfl (by kernel_rfl) (by kernel_rfl) rfl rfl ?_
  refine WH.val (O.fld_ref (o' := 1) rfl Try.underlying46 rfl (m := 1) (by kernel_rfl) rfl rfl Taken.no) rfl rfl ?_
  refine WH.val (O.ldN (m := 2) (PtI.ref rfl rfl) (js := [_, _]) rfl (Nat.le_of_ble_eq_true rfl) Try.underlying44 rfl (by kernel_rfl) rfl Taken.no) rfl rfl ?_
  refine WH.val (O.move rfl rfl Taken.no) rfl rfl ?_
  refine WH.val (O.det (fun _ => G.R.mv (G.R.conv64 rfl Try.underlying61 Try.underlying3 (by omega)) rfl) rfl Taken.no) rfl rfl ?_
  refine WH.val (O.fld_ref (o' := 1) rfl Try.underlying46 rfl (m := 1) (by kernel_rfl) rfl rfl Taken.no) rfl rfl ?_
  refine WH.val (O.fld_ref (o' := 1) rfl Try.underlying44 rfl (m := 0) (by kernel_rfl) rfl rfl Taken.no) rfl rfl ?_
  refine WH.val (O.ld1 (PtI.ref rfl rfl) rfl Try.underlying22 rfl rfl Taken.no) rfl rfl ?_
  refine WH.val (O.lenE (SlOf.fz rfl (by decide)) (by first | exact List.length_map _ | rfl) Try.underlying22 rfl Taken.no) rfl rfl ?_
  refine WH.val (O.fld_ref (o' := 1) rfl Try.underlying46 rfl (m := 1) (by kernel_rfl) rfl rfl Taken.no) rfl rfl ?_
  refine WH.val (O.fld_ref (o' := 2) rfl Try.underlying44 rfl (m := 0) (by kernel_rfl) rfl rfl Taken.no) rfl rfl ?_
  refine WH.val (O.ld1 (PtI.ref rfl rfl) rfl Try.underlying3 rfl rfl Taken.no) rfl rfl ?_
  refine WH.val (O.det (fun _ => by first | exact G.R.sub64 rfl rfl (by omega) | exact G.R.sub rfl rfl) rfl Taken.no) rfl rfl ?_
  refine WH.val (O.det (fun _ => by first | exact G.R.add64 rfl rfl (by omega) | exact G.R.add rfl rfl) rfl Taken.no) rfl rfl ?_
  refine WH.val (O.det (fun _ => G.R.mv (G.R.rem0 rfl rfl (by omega) (by omega)) (congrArg (Value.int .i64) hM)) rfl Taken.no) rfl rfl ?_
  refine WH.memS (OpOk.re (i' := .tup [vL 1 (((rA l l.length).file.take ((rA l l.length).sy + m).toNat).map eB), vI 0]) (O.call (rn []) [] rfl rfl rfl (crash_h (l := (rA l l.length).file) (rA l l.length).sy m (by omega) (by omega) (by omega)) (.cons (ArgOk.aggU (.cons (ArgOk.same rfl) (.cons (ArgOk.same rfl) .nil))) (.cons (ArgOk.same rfl) .nil)) SubS.nil rfl rfl rfl rfl rfl (.inl rfl) hcallOk25 (r' := .tup [.u _, .u _]) rfl rfl Taken.no) (by rw [hca.1, hca.2])) rfl rfl rfl rfl rfl (S' := _) rfl ?_
  refine WH.val (O.move rfl rfl Taken.no) rfl rfl ?_
  refine WH.val (O.extract rfl rfl rfl Taken.no) rfl rfl ?_
  refine WH.val (O.extract rfl rfl rfl Taken.no) rfl rfl ?_
  refine WH.val (O.assign rfl rfl Taken.no) rfl rfl ?_
  refine WH.val (O.assign rfl rfl Taken.no) rfl rfl ?_
  refine WH.nil ?_
  refine E.to ?_
  refine W.pick (.cons (t := 4) rfl (.cons (t := 5) rfl (.cons (t := 6) rfl (.cons (t := 7) rfl (.cons (t := 8) rfl (.cons (t := 10) rfl (.cons (t := 11) rfl .nil))))))) (.cons (t := 101) rfl (.cons (t := 102) rfl .nil)) ?_
  refine W.seq ?_
  refine W.region ?_
  refine SL.val (O.fld_ref (o' := 0) rfl Try.underlying46 rfl (m := 0) (by kernel_rfl) rfl rfl Taken.no) ?_
  refine SL.val (O.ld1 (PtI.ref rfl rfl) rfl Try.underlying3 rfl rfl Taken.no) ?_
  refine SL.val (O.move rfl rfl Taken.no) ?_
  refine SL.val (O.fld_ref (o' := 3) rfl Try.underlying46 rfl (m := 0) (by kernel_rfl) rfl rfl Taken.no) ?_
  refine SL.val (O.ld1 (PtI.ref rfl rfl) rfl Try.underlying32 rfl rfl Taken.no) ?_
  refine SL.memS (O.call (rn []) [] rfl rfl rfl (recover_h (base := ((rA l l.length).base : Int)) (f := (rA l l.length).file.take ((rA l l.length).sy + m).toNat) (sn := (rA l l.length).snaps) htl hfw.2) (.cons (ArgOk.same rfl) (.cons (ArgOk.same rfl) (.cons (ArgOk.same rfl) .nil))) SubS.nil rfl rfl rfl rfl rfl (.inl rfl) hcallOk16 (r' := .tup [.u _, .u _, .u _, .u _]) rfl rfl Taken.no) rfl rfl (S' := _) rfl ?_
  refine SL.as (i' := .tup [vL 1 ((rA l l.length).newD.map eB), vI ((rA l l.length).newN : Int), vL 1 ((((rA l l.length).hist.take ((rA l l.length).base + c)).drop (rA l l.length).newN).map eL), vI 0]) 56 rfl (by rw [r1, r2, r3, r4]) ?_
  refine SL.val (O.move rfl rfl Taken.no) ?_
  refine SL.val (O.extract rfl rfl rfl Taken.no) ?_
  refine SL.val (O.extract rfl rfl rfl Taken.no) ?_
  refine SL.val (O.extract rfl rfl rfl Taken.no) ?_
  refine SL.val (O.extract rfl rfl rfl Taken.no) ?_
  refine SL.val (O.assign rfl rfl Taken.no) ?_
  refine SL.val (O.assign rfl rfl Taken.no) ?_
  refine SL.val (O.assign rfl rfl Taken.no) ?_
  refine SL.val (O.assign rfl rfl Taken.no) ?_
  refine SL.nil ?_
  refine E.to ?_
  refine W.seq ?_
  refine W.region ?_
  refine SL.val (O.move rfl rfl Taken.no) ?_
  refine SL.val (O.move rfl rfl Taken.no) ?_
  refine SL.val (O.lenE (n := (((rA l l.length).base + c) - (rA l l.length).newN)) (SlOf.fz rfl (by decide)) (by rw [List.length_map]; exact hrl) Try.underlying32 rfl Taken.no) ?_
  refine SL.val (O.det (fun _ => G.R.mv (G.R.add64 rfl rfl (by omega)) (congrArg (Value.int .i64) (show _ = ((((rA l l.length).base + c) : Nat) : Int) by omega))) rfl Taken.no) ?_
  refine SL.val (O.assign rfl rfl Taken.no) ?_
  refine SL.nil ?_
  refine E.to ?_
  refine W.pick (.cons (t := 4) rfl (.cons (t := 6) rfl (.cons (t := 7) rfl (.cons (t := 8) rfl (.cons (t := 11) rfl (.cons (t := 12) rfl (.cons (t := 13) rfl (.cons (t := 14) rfl (.cons (t := 15) rfl (.cons (t := 16) rfl .nil)))))))))) (.cons (t := 101) rfl (.cons (t := 102) rfl .nil)) ?_
  refine W.seq ?_
  refine W.region ?_
  refine SL.val (O.move rfl rfl Taken.no) ?_
  refine SL.val (O.det (fun _ => G.R.mv (G.R.eql rfl rfl) (congrArg Value.bool (decide_eq_true (by rfl)))) rfl Taken.no) ?_
  refine SL.val (O.move rfl rfl Taken.no) ?_
  have hg2 : true = true := by decide
  refine SL.val (O.move rfl rfl (Taken.yes rfl rfl hg2)) ?_
  refine SL.val (O.det (fun _ => G.R.mv (G.R.eql rfl rfl) (congrArg Value.bool (decide_eq_true (by rfl)))) rfl (Taken.yes rfl rfl hg2)) ?_
  refine SL.val (O.pick_t rfl rfl rfl rfl Taken.no) ?_
  refine SL.val (O.move rfl rfl Taken.no) ?_
  have hg3 : true = true := by decide
  refine SL.val (O.move rfl rfl (Taken.yes rfl rfl hg3)) ?_
  refine SL.val (O.move rfl rfl (Taken.yes rfl rfl hg3)) ?_
  refine SL.val (O.det (fun _ => G.R.mv (G.R.geq rfl rfl) (congrArg Value.bool (decide_eq_true (by omega)))) rfl (Taken.yes rfl rfl hg3)) ?_
  refine SL.val (O.pick_t rfl rfl rfl rfl Taken.no) ?_
  refine SL.val (O.move rfl rfl Taken.no) ?_
  have hg4 : true = true := by decide
  refine SL.val (O.move rfl rfl (Taken.yes rfl rfl hg4)) ?_
  refine SL.val (O.move rfl rfl (Taken.yes rfl rfl hg4)) ?_
  refine SL.val (O.lenE (n := (rA l l.length).hist.length) (SlOf.fz rfl (by decide)) (by exact List.length_map _) Try.underlying32 rfl (Taken.yes rfl rfl hg4)) ?_
  refine SL.val (O.det (fun _ => G.R.mv (G.R.leq rfl rfl) (congrArg Value.bool (decide_eq_true (by omega)))) rfl (Taken.yes rfl rfl hg4)) ?_
  refine SL.val (O.pick_t rfl rfl rfl rfl Taken.no) ?_
  refine SL.val (O.move rfl rfl Taken.no) ?_
  have hg5 : true = true := by decide
  refine SL.val (O.ldN (m := 26) (PtI.ref rfl rfl) (js := [_, _, _, _, _, _, _, _, _, _, _, _, _, _, _, _, _, _, _, _, _, _, _, _, _, _]) rfl (Nat.le_of_ble_eq_true rfl) Try.underlying50 rfl (by kernel_rfl) rfl (Taken.yes rfl rfl hg5)) ?_
  refine SL.val (O.move rfl rfl (Taken.yes rfl rfl hg5)) ?_
  refine SL.val (O.move rfl rfl (Taken.yes rfl rfl hg5)) ?_
  refine SL.val (O.callp rfl rfl rfl (has21_h (t := (rT l l.length)) (n := ((rA l l.length).newN : Int)) (d := (rA l l.length).newD) hri.h1 hri.h2) (.cons (ArgOk.aggU (.cons (ArgOk.same rfl) (.cons (ArgOk.same rfl) (.cons (ArgOk.same rfl) (.cons (ArgOk.same rfl) (.cons (ArgOk.same rfl) (.cons (ArgOk.same rfl) (.cons (ArgOk.same rfl) (.cons (ArgOk.same rfl) (.cons (ArgOk.same rfl) (.cons (ArgOk.same rfl) (.cons (ArgOk.same rfl) (.cons (ArgOk.same rfl) (.cons (ArgOk.same rfl) (.cons (ArgOk.same rfl) (.cons (ArgOk.same rfl) (.cons (ArgOk.same rfl) (.cons (ArgOk.same rfl) (.cons (ArgOk.same rfl) (.cons (ArgOk.same rfl) (.cons (ArgOk.same rfl) (.cons (ArgOk.same rfl) (.cons (ArgOk.same rfl) (.cons (ArgOk.same rfl) (.cons (ArgOk.same rfl) (.cons (ArgOk.same rfl) (.cons (ArgOk.same rfl) .nil))))))))))))))))))))))))))) (.cons (ArgOk.same rfl) (.cons (ArgOk.same rfl) .nil))) hcallOk23 rfl (Taken.yes rfl rfl hg5)) ?_
  refine SL.as (i' := vB true) 86 rfl (by exact iv_bool (decide_eq_true hhas)) ?_
  refine SL.val (O.pick_t rfl rfl rfl rfl Taken.no) ?_
  refine SL.val (O.move rfl rfl Taken.no) ?_
  have hg6 : true = true := by decide
  refine SL.val (O.move rfl rfl (Taken.yes rfl rfl hg6)) ?_
  refine SL.val (O.move rfl rfl (Taken.yes rfl rfl hg6)) ?_
  refine SL.val (O.move rfl rfl (Taken.yes rfl rfl hg6)) ?_
  refine SL.val (O.move rfl rfl (Taken.yes rfl rfl hg6)) ?_
  refine SL.val (O.sub_fz (i := (rA l l.length).newN) (j := ((rA l l.length).base + c)) rfl (Bnd.at rfl (by first | rfl | omega)) (Bnd.at rfl (by first | rfl | omega)) (by omega) (by rw [List.length_map]; omega) sub_map Try.underlying32 hi22 hs22 rfl (Taken.yes rfl rfl hg6)) ?_
  refine SL.val (O.callp rfl rfl rfl (same_h (ls1 := (((rA l l.length).hist.take ((rA l l.length).base + c)).drop (rA l l.length).newN)) (ls2 := (((rA l l.length).hist.take ((rA l l.length).base + c)).drop (rA l l.length).newN))) (.cons (ArgOk.same rfl) (.cons (ArgOk.same rfl) .nil)) hcallOk18 rfl (Taken.yes rfl rfl hg6)) ?_
  refine SL.as (i' := vB true) 94 rfl (by exact iv_bool (decide_eq_true rfl)) ?_
  refine SL.val (O.pick_t rfl rfl rfl rfl Taken.no) ?_
  refine SL.val (O.assign rfl rfl Taken.no) ?_
  refine SL.nil ?_
  refine E.to ?_
  refine W.pick (.cons (t := 4) rfl .nil) (.cons (t := 101) rfl (.cons (t := 102) rfl .nil)) ?_
  refine W.ret ?_
  refine E.fin (rs := [_]) (rn []) (.inl rfl) rfl (.cons (ResOne.tmp rfl) .nil) ?_ ?_ rfl (fixL_spec rfl)
  ·skip
   rfl
  · exact SubS.nil

set_option maxRecDepth 8000 in
set_option maxHeartbeats 3200000 in
/-- bookplate/bookplatelaw21.SnapshotDamage. -/
theorem snapshotDamage_h (t b : Int) {l : List Stp} (ht : 0 ≤ t ∧ t ≤ 255) (hb : 0 ≤ b ∧ b ≤ 255) :
    Con Try.prog 6 [vL 2 (l.map eStp), vN .u8 t, vN .u8 b] [] (vB true) [] := by
 obtain ⟨c, rfl⟩ : ∃ c : UInt8, b = ((c.toNat : Nat) : Int) := ⟨UInt8.ofNat b.toNat, by simp [UInt8.toNat_ofNat']; omega⟩
 obtain ⟨i5, hi5, hz5, hs5, hb5⟩ := hinf5
 obtain ⟨i22, hi22, hz22, hs22, hb22⟩ := hinf22
 refine Con.enterL (n := 119) Try.func6 rfl rfl rfl (fun τ w ok vs hin => ?_)
 have hl0 := hin.len (i := 0) rfl
 try rw [List.length_map] at hl0
 clear hin
 refine W.seq ?_
 refine W.region ?_
 refine SL.val (O.assign rfl rfl Taken.no) ?_
 refine SL.nil ?_
 refine E.to ?_
 refine W.seq ?_
 refine W.seq ?_
 refine W.region ?_
 refine SL.val (O.callp rfl rfl rfl (awake21_h) .nil hcallOk9 rfl Taken.no) ?_
 refine SL.as (i' := vB true) 20 rfl (by rfl) ?_
 refine SL.val (O.det (fun _ => G.R.mv (G.R.not rfl) rfl) rfl Taken.no) ?_
 refine SL.nil ?_
 refine E.to ?_
 refine W.cond_f rfl ?_
 refine W.skip ?_
 refine E.to ?_
 refine W.seq ?_
 refine W.seq ?_
 refine W.region ?_
 refine SL.val (O.move rfl rfl Taken.no) ?_
 refine SL.val (O.callp rfl rfl rfl (few21_h (l := l)) (.cons (ArgOk.same rfl) .nil) hcallOk19 rfl Taken.no) ?_
 refine SL.val (O.det (fun _ => G.R.not rfl) rfl Taken.no) ?_
 refine SL.val (O.move rfl rfl Taken.no) ?_
 refine SL.case (j := 3) (g := 25) (want := false) rfl rfl (fun hg1 => ?_) (fun hg1 => ?_)
 ·skip
  first | have hg1p := G.gA3 hg1 | have hg1p := G.gA4 hg1 | have hg1p := hg1
  refine SL.val (O.move rfl rfl (Taken.yes rfl rfl hg1)) ?_
  refine SL.val (O.det (fun _ => G.R.eql rfl rfl) rfl (Taken.yes rfl rfl hg1)) ?_
  refine SL.val (O.pick_f rfl hg1 rfl rfl Taken.no) ?_
  refine SL.nil ?_
  refine E.to ?_
  first | refine W.cond_d rfl (fun hc2 => ?_) (fun hc2 => ?_) | refine W.cond_nd rfl (fun hc2 => ?_) (fun hc2 => ?_) | refine W.cond rfl (fun hc2 => ?_) (fun hc2 => ?_)
  ·skip
   refine W.seq ?_
   refine W.region ?_
   refine SL.val (O.assign rfl rfl Taken.no) ?_
   refine SL.nil ?_
   refine E.to ?_
   refine W.ret ?_
   refine E.thr ?_
   refine E.fin (rs := [_]) (rn []) (.inl rfl) rfl (.cons (ResOne.tmp rfl) .nil) ?_ ?_ rfl (fixL_spec rfl)
   ·skip
    rfl
   · exact SubS.nil
  ·skip
   have hs : fewL l := by simp_all
   have hl12 := hs.1
   have hri := RI_k hs l.length (Nat.le_refl _)
   have hok := hri.ok
   have hfw := hri.few
   have hhl := hri.hl
   have hnr := AS.new_rng hok
   have hbs := hok.bs
   have hsh := hok.sh
   have htw := hok.two
   have hhas := has_new hri hl12
   have hsl := (rA l l.length).sn_len
   have hc0 : c ≠ 0 := fun e => by subst e; simp_all
   refine W.skip ?_
   refine E.to ?_
   refine W.seq ?_
   refine W.region ?_
   refine SL.val (O.move rfl rfl Taken.no) ?_
   refine SL.memS (O.call (rn []) [] rfl rfl rfl (run_h hs) (.cons (ArgOk.same rfl) .nil) SubS.nil rfl rfl rfl rfl rfl (.inl rfl) hcallOk20 (r' := .tup [.agg [.u _, .u _, .u _, .u _], .u _, .u _, .agg [.u _, .u _, .u _, .u _, .u _, .u _, .u _, .u _, .u _, .u _, .u _, .u _, .u _, .u _, .u _, .u _, .u _, .u _, .u _, .u _, .u _, .u _, .u _, .u _, .u _, .u _], .u _]) rfl rfl Taken.no) rfl rfl (S' := _) rfl ?_
   refine SL.val (O.move rfl rfl Taken.no) ?_
   refine SL.val (O.extract rfl rfl rfl Taken.no) ?_
   refine SL.val (O.extract rfl rfl rfl Taken.no) ?_
   refine SL.val (O.extract rfl rfl rfl Taken.no) ?_
   refine SL.val (O.extract rfl rfl rfl Taken.no) ?_
   refine SL.val (O.extract rfl rfl rfl Taken.no) ?_
   refine SL.memS (O.alloc (z := .agg #[.int .i64 0, .slice none 0 0, .int .i64 0, .slice none 0 0]) (is := [.u (.sc (.int .i64 0)), .u (.sc (.slice none 0 0)), .u (.sc (.int .i64 0)), .u (.sc (.slice none 0 0))]) 101 (by kernel_rfl) rfl rfl rfl Taken.no) rfl rfl (S' := (101, _) :: _) rfl ?_
   refine SL.memS (O.alloc (z := .agg #[.bool false, .bool false, .bool false, .bool false, .bool false, .bool false, .bool false, .bool false, .bool false, .bool false, .bool false, .bool false, .bool false, .string (Go.G.bs []), .string (Go.G.bs []), .string (Go.G.bs []), .string (Go.G.bs []), .string (Go.G.bs []), .string (Go.G.bs []), .string (Go.G.bs []), .string (Go.G.bs []), .string (Go.G.bs []), .string (Go.G.bs []), .string (Go.G.bs []), .string (Go.G.bs []), .string (Go.G.bs [])]) (is := [.u (.sc (.bool false)), .u (.sc (.bool false)), .u (.sc (.bool false)), .u (.sc (.bool false)), .u (.sc (.bool false)), .u (.sc (.bool false)), .u (.sc (.bool false)), .u (.sc (.bool false)), .u (.sc (.bool false)), .u (.sc (.bool false)), .u (.sc (.bool false)), .u (.sc (.bool false)), .u (.sc (.bool false)), .u (.sc (.string (Go.G.bs []))), .u (.sc (.string (Go.G.bs []))), .u (.sc (.string (Go.G.bs []))), .u (.sc (.string (Go.G.bs []))), .u (.sc (.string (Go.G.bs []))), .u (.sc (.string (Go.G.bs []))), .u (.sc (.string (Go.G.bs []))), .u (.sc (.string (Go.G.bs []))), .u (.sc (.string (Go.G.bs []))), .u (.sc (.string (Go.G.bs []))), .u (.sc (.string (Go.G.bs []))), .u (.sc (.string (Go.G.bs []))), .u (.sc (.string (Go.G.bs [])))]) 102 (by kernel_rfl) rfl rfl rfl Taken.no) rfl rfl (S' := (102, _) :: _) rfl ?_
   refine SL.effS (O.st_ref (m := 4) rfl rfl rfl (js := [_, _, _, _]) rfl rfl (by kernel_rfl) (by simp) (Nat.le_of_ble_eq_true rfl) rfl (is' := [_, _, _, _]) rfl Taken.no) (S' := (101, _) :: _) rfl ?_
   refine SL.val (O.assign rfl rfl Taken.no) ?_
   refine SL.val (O.assign rfl rfl Taken.no) ?_
   refine SL.effS (O.st_ref (m := 26) rfl rfl rfl (js := [_, _, _, _, _, _, _, _, _, _, _, _, _, _, _, _, _, _, _, _, _, _, _, _, _, _]) rfl rfl (by kernel_rfl) (by simp) (Nat.le_of_ble_eq_true rfl) rfl (is' := [_, _, _, _, _, _, _, _, _, _, _, _, _, _, _, _, _, _, _, _, _, _, _, _, _, _]) rfl Taken.no) (S' := (102, _) :: _) rfl ?_
   refine SL.val (O.assign rfl rfl Taken.no) ?_
   refine SL.nil ?_
   refine E.to ?_
   refine W.pick (.cons (t := 1) rfl (.cons (t := 2) rfl (.cons (t := 6) rfl (.cons (t := 7) rfl (.cons (t := 8) rfl (.cons (t := 10) rfl (.cons (t := 11) rfl .nil))))))) (.cons (t := 101) rfl (.cons (t := 102) rfl .nil)) ?_
   refine W.seq ?_
   refine W.seq ?_
   refine W.region ?_
   refine SL.val (O.move rfl rfl Taken.no) ?_
   refine SL.val (O.det (fun _ => G.R.mv (G.R.not rfl) rfl) rfl Taken.no) ?_
   refine SL.nil ?_
   refine E.to ?_
   refine W.cond_f rfl ?_
   refine W.skip ?_
   refine E.to ?_
   refine W.seq ?_
   refine W.seq ?_
   refine W.region ?_
   refine SL.val (O.fld_ref (o' := 3) rfl Try.underlying46 rfl (m := 0) (by kernel_rfl) rfl rfl Taken.no) ?_
   refine SL.val (O.ld1 (PtI.ref rfl rfl) rfl Try.underlying32 rfl rfl Taken.no) ?_
   refine SL.val (O.lenE (n := (rA l l.length).sn.length) (SlOf.fz rfl (by decide)) (by rw [List.length_map]; exact hsl) Try.underlying32 rfl Taken.no) ?_
   refine SL.val (O.det (fun _ => G.R.lss rfl rfl) rfl Taken.no) ?_
   refine SL.nil ?_
   refine E.to ?_
   first | refine W.cond_d rfl (fun hc3 => ?_) (fun hc3 => ?_) | refine W.cond_nd rfl (fun hc3 => ?_) (fun hc3 => ?_) | refine W.cond rfl (fun hc3 => ?_) (fun hc3 => ?_)
   ·skip
    refine W.seq ?_
    refine W.region ?_
    refine SL.val (O.assign rfl rfl Taken.no) ?_
    refine SL.nil ?_
    refine E.to ?_
    refine W.ret ?_
    refine E.thr ?_
    refine E.fin (rs := [_]) (rn []) (.inl rfl) rfl (.cons (ResOne.tmp rfl) .nil) ?_ ?_ rfl (fixL_spec rfl)
    ·skip
     rfl
    · exact SubS.nil
   ·skip
    have h2 : (rA l l.length).sn.length = 2 := by omega
    have hat0 := AS.sn_at hok (k := 0) (by omega)
    have hat := AS.sn_at hok (k := 1) (by omega)
    have he1 := AS.sn_get (a := (rA l l.length)) (k := 1) (by omega)
    have hr1 := hok.rng _ (AS.sn_mem (a := (rA l l.length)) (k := 1) (by omega))
    have hml := mk_len (n := (((rA l l.length).sn[1]!).1 : Int)) (d := ((rA l l.length).sn[1]!).2) (by omega)
    rw [← he1] at hml
    have hm0 := Int.emod_nonneg t (show (((rA l l.length).snaps[1]!).length : Int) ≠ 0 by omega)
    have hm1 := Int.emod_lt_of_pos t (show 0 < (((rA l l.length).snaps[1]!).length : Int) by omega)
    obtain ⟨r, hr⟩ : ∃ r : Nat, t % (((rA l l.length).snaps[1]!).length : Int) = r := ⟨(t % (((rA l l.length).snaps[1]!).length : Int)).toNat, by omega⟩
    have hbad : ¬ rdOk ((rA l l.length).snaps[1]!.set r ((rA l l.length).snaps[1]![r]! ^^^ c)) := by rw [he1]; exact bad_seal (by show r < (Go.D21.mk _ _).length; rw [← he1]; omega) hc0
    have hdr := damage_rec hok h2 hbad
    have hbl : ((rA l l.length).snaps[1]!.set r ((rA l l.length).snaps[1]![r]! ^^^ c)).length ≤ 1000000 := by rw [List.length_set]; omega
    have hfl := hfw.1
    have hr0 := hok.rng _ (AS.sn_mem (a := (rA l l.length)) (k := 0) (by omega))
    have hh0 := has_sn hri hl12 (k := 0) (by omega)
    refine W.skip ?_
    refine E.to ?_
    refine W.seq ?_
    refine W.region ?_
    refine SL.memS (O.buildSlice 103 (rows := ([] : Bs).map eB) rfl rfl Try.underlying22 hi5 hz5 hs5 (by decide) rfl (by decide) rfl rfl rfl Taken.no) rfl rfl (S' := (103, .data 5 1 (([] : Bs).map eB)) :: _) rfl ?_
    refine SL.val (O.fld_ref (o' := 3) rfl Try.underlying46 rfl (m := 0) (by kernel_rfl) rfl rfl Taken.no) ?_
    refine SL.val (O.ld1 (PtI.ref rfl rfl) rfl Try.underlying32 rfl rfl Taken.no) ?_
    refine SL.val (O.idx_fz (i := 1) rfl rfl (rfl) (row_get (by show _ < (rA l l.length).snaps.length; omega)) Try.underlying32 hi22 hs22 rfl Taken.no) ?_
    refine SL.val (O.ld1 (PtI.ofU (PtU.fz rfl)) rfl Try.underlying22 rfl rfl Taken.no) ?_
    refine SL.memS (O.app (k' := 104) rfl rfl (SlOf.fz rfl (by decide)) Try.underlying22 hi5 hz5 hs5 rfl rfl (by exact List.nil_append _) (by rw [hb5]; (simp only [List.length_map, List.length_nil]; omega)) (by (simp only [List.length_map, List.length_nil]; omega)) rfl Taken.no) rfl rfl (S' := (104, _) :: (103, .dead) :: _) rfl ?_
    refine SL.val (O.assign rfl rfl Taken.no) ?_
    refine SL.nil ?_
    refine E.to ?_
    refine W.seq ?_
    refine W.seq ?_
    refine W.region ?_
    refine SL.val (O.move rfl rfl Taken.no) ?_
    refine SL.val (O.lenE (SlOf.own rfl rfl) (by first | exact List.length_map _ | rfl) Try.underlying22 rfl Taken.no) ?_
    refine SL.val (O.det (fun _ => G.R.mv (G.R.eql rfl rfl) (congrArg Value.bool (decide_eq_false (by omega)))) rfl Taken.no) ?_
    refine SL.nil ?_
    refine E.to ?_
    refine W.cond_f rfl ?_
    refine W.skip ?_
    refine E.to ?_
    refine W.seq ?_
    refine W.region ?_
    refine SL.val (O.move rfl rfl Taken.no) ?_
    refine SL.val (O.move rfl rfl Taken.no) ?_
    refine SL.val (O.det (fun _ => G.R.mv (G.R.conv64 rfl Try.underlying5 Try.underlying3 (by omega)) rfl) rfl Taken.no) ?_
    refine SL.val (O.move rfl rfl Taken.no) ?_
    refine SL.val (O.lenE (SlOf.own rfl rfl) (by first | exact List.length_map _ | rfl) Try.underlying22 rfl Taken.no) ?_
    refine SL.val (O.det (fun _ => G.R.mv (G.R.rem0 rfl rfl (by omega) (by omega)) (congrArg (Value.int .i64) hr)) rfl Taken.no) ?_
    refine SL.val (O.idx_own (i := r) rfl rfl rfl (rfl) (by rw [List.length_map]; omega) Try.underlying22 hi5 hs5 rfl Taken.no) ?_
    refine SL.val (O.ld1 (PtI.ofU (PtU.el rfl rfl (row_get (by omega)))) rfl Try.underlying5 rfl rfl Taken.no) ?_
    refine SL.val (O.move rfl rfl Taken.no) ?_
    refine SL.val (O.det (fun _ => G.R.mv (G.R.xor rfl rfl) (congrArg (Value.int .u8) (Go.D02.xor8 _ _))) rfl Taken.no) ?_
    refine SL.val (O.idx_own (i := r) rfl rfl rfl (rfl) (by rw [List.length_map]; omega) Try.underlying22 hi5 hs5 rfl Taken.no) ?_
    refine SL.effS (O.st_els (m := 1) rfl rfl rfl (us := [_]) rfl rfl (by kernel_rfl) (by simp) (row_get (by omega)) (by exact Nat.le_of_ble_eq_true rfl) rfl rfl (rows' := ((rA l l.length).snaps[1]!.set r ((rA l l.length).snaps[1]![r]! ^^^ c)).map eB) (by exact set_map rfl) Taken.no) (S' := (104, _) :: _) rfl ?_
    refine SL.nil ?_
    refine E.to ?_
    refine W.pick (.cons (t := 6) rfl (.cons (t := 7) rfl (.cons (t := 8) rfl (.cons (t := 10) rfl (.cons (t := 12) rfl .nil))))) (.cons (t := 101) rfl (.cons (t := 102) rfl (.cons (t := 104) rfl .nil))) ?_
    refine W.seq ?_
    refine W.region ?_
    refine SL.freeze 104 rfl (F' := [(12, _)]) (⟨⟨_, rfl, rfl⟩, trivial⟩) ?_
    refine SL.val (O.fld_ref (o' := 3) rfl Try.underlying46 rfl (m := 0) (by kernel_rfl) rfl rfl Taken.no) ?_
    refine SL.val (O.ld1 (PtI.ref rfl rfl) rfl Try.underlying32 rfl rfl Taken.no) ?_
    refine SL.val (O.idx_fz (i := 0) rfl rfl (rfl) (row_get (by show _ < (rA l l.length).snaps.length; omega)) Try.underlying32 hi22 hs22 rfl Taken.no) ?_
    refine SL.val (O.ld1 (PtI.ofU (PtU.fz rfl)) rfl Try.underlying22 rfl rfl Taken.no) ?_
    refine SL.memS (O.call (rn []) [] rfl rfl rfl (read_h (l := (rA l l.length).snaps[0]!) (by omega)) (.cons (ArgOk.same rfl) .nil) SubS.nil rfl rfl rfl rfl rfl (.inl rfl) hcallOk10 (r' := .tup [.u _, .u _, .u _]) rfl rfl Taken.no) rfl rfl (S' := _) rfl ?_
    refine SL.as (i' := .tup [vI (((rA l l.length).sn[0]!).1 : Int), vL 1 (((rA l l.length).sn[0]!).2.map eB), vI 0]) 68 rfl (by rw [hat0.2.1, hat0.2.2.1, hat0.2.2.2.1]) ?_
    refine SL.val (O.move rfl rfl Taken.no) ?_
    refine SL.val (O.extract rfl rfl rfl Taken.no) ?_
    refine SL.val (O.extract rfl rfl rfl Taken.no) ?_
    refine SL.val (O.extract rfl rfl rfl Taken.no) ?_
    refine SL.val (O.assign rfl rfl Taken.no) ?_
    refine SL.val (O.assign rfl rfl Taken.no) ?_
    refine SL.val (O.assign rfl rfl Taken.no) ?_
    refine SL.nil ?_
    refine E.to ?_
    refine W.seq ?_
    refine W.draw [⟨[], [], [], [101]⟩, ⟨[101], [], [], []⟩, ⟨[], [], [], [101]⟩, ⟨[], [], [], [101]⟩, ⟨[101], [], [], []⟩, ⟨[], [], [], [101]⟩, ⟨[101], [], [], []⟩, ⟨[], [], [], []⟩, ⟨[], [], [], []⟩, ⟨[], [], [], []⟩, ⟨[105], [], [105], []⟩, ⟨[], [], [], []⟩, ⟨[], [], [], []⟩, ⟨[], [], [], []⟩, ⟨[], [], [], []⟩, ⟨[], [], [], []⟩, ⟨[], [], [], []⟩, ⟨[], [], [], []⟩, ⟨[], [], [], []⟩, ⟨[], [], [], []⟩, ⟨[], [], [], []⟩] rfl (by kernel_rfl) (by kernel_rfl) rfl rfl ?_
    refine WH.val (O.fld_ref (o' := 0) rfl Try.underlying46 rfl (m := 0) (by kernel_rfl) rfl rfl Taken.no) rfl rfl ?_
    refine WH.val (O.ld1 (PtI.ref rfl rfl) rfl Try.underlying3 rfl rfl Taken.no) rfl rfl ?_
    refine WH.val (O.fld_ref (o' := 1) rfl Try.underlying46 rfl (m := 1) (by kernel_rfl) rfl rfl Taken.no) rfl rfl ?_
    refine WH.val (O.fld_ref (o' := 1) rfl Try.underlying44 rfl (m := 0) (by kernel_rfl) rfl rfl Taken.no) rfl rfl ?_
    refine WH.val (O.ld1 (PtI.ref rfl rfl) rfl Try.underlying22 rfl rfl Taken.no) rfl rfl ?_
    refine WH.val (O.fld_ref (o' := 3) rfl Try.underlying46 rfl (m := 0) (by kernel_rfl) rfl rfl Taken.no) rfl rfl ?_
    refine WH.val (O.ld1 (PtI.ref rfl rfl) rfl Try.underlying32 rfl rfl Taken.no) rfl rfl ?_
    refine WH.val (O.idx_fz (i := 0) rfl rfl (rfl) (row_get (by show _ < (rA l l.length).snaps.length; omega)) Try.underlying32 hi22 hs22 rfl Taken.no) rfl rfl ?_
    refine WH.val (O.ld1 (PtI.ofU (PtU.fz rfl)) rfl Try.underlying22 rfl rfl Taken.no) rfl rfl ?_
    refine WH.val (O.move rfl rfl Taken.no) rfl rfl ?_
    refine WH.memS (OpOk.frz (O.buildSlice 105 (rows := [(rA l l.length).snaps[0]!, ((rA l l.length).snaps[1]!.set r ((rA l l.length).snaps[1]![r]! ^^^ c))].map eL) rfl rfl Try.underlying32 hi22 hz22 hs22 (by decide) rfl (by decide) rfl rfl rfl Taken.no)) rfl rfl rfl rfl rfl (S' := _) rfl ?_
    refine WH.memS (OpOk.re (i' := .tup [vL 1 (((rA l l.length).sn[0]!).2.map eB), vI (((rA l l.length).sn[0]!).1 : Int), vL 1 (((rA l l.length).hist.drop ((rA l l.length).sn[0]!).1).map eL), vI 0]) (O.call (rn []) [] rfl rfl rfl (recover_h (base := ((rA l l.length).base : Int)) (f := (rA l l.length).file) (sn := [(rA l l.length).snaps[0]!, ((rA l l.length).snaps[1]!.set r ((rA l l.length).snaps[1]![r]! ^^^ c))]) (by omega) (mem2 (by omega) hbl)) (.cons (ArgOk.same rfl) (.cons (ArgOk.same rfl) (.cons (ArgOk.same rfl) .nil))) SubS.nil rfl rfl rfl rfl rfl (.inl rfl) hcallOk16 (r' := .tup [.u _, .u _, .u _, .u _]) rfl rfl Taken.no) (by rw [hdr.1, hdr.2.1, hdr.2.2.1, hdr.2.2.2])) rfl rfl rfl rfl rfl (S' := _) rfl ?_
    refine WH.val (O.move rfl rfl Taken.no) rfl rfl ?_
    refine WH.val (O.extract rfl rfl rfl Taken.no) rfl rfl ?_
    refine WH.val (O.extract rfl rfl rfl Taken.no) rfl rfl ?_
    refine WH.val (O.extract rfl rfl rfl Taken.no) rfl rfl ?_
    refine WH.val (O.extract rfl rfl rfl Taken.no) rfl rfl ?_
    refine WH.val (O.assign rfl rfl Taken.no) rfl rfl ?_
    refine WH.val (O.assign rfl rfl Taken.no) rfl rfl ?_
    refine WH.val (O.assign rfl rfl Taken.no) rfl rfl ?_
    refine WH.val (O.assign rfl rfl Taken.no) rfl rfl ?_
    refine WH.nil ?_
    refine E.to ?_
    refine W.pick (.cons (t := 6) rfl (.cons (t := 8) rfl (.cons (t := 10) rfl (.cons (t := 13) rfl (.cons (t := 15) rfl (.cons (t := 16) rfl (.cons (t := 17) rfl (.cons (t := 18) rfl (.cons (t := 19) rfl .nil))))))))) (.cons (t := 101) rfl (.cons (t := 102) rfl .nil)) ?_
    refine W.seq ?_
    refine W.region ?_
    refine SL.val (O.move rfl rfl Taken.no) ?_
    refine SL.val (O.det (fun _ => G.R.mv (G.R.eql rfl rfl) (congrArg Value.bool (decide_eq_true (by rfl)))) rfl Taken.no) ?_
    refine SL.val (O.move rfl rfl Taken.no) ?_
    have hg4 : true = true := by decide
    refine SL.val (O.move rfl rfl (Taken.yes rfl rfl hg4)) ?_
    refine SL.val (O.det (fun _ => G.R.mv (G.R.eql rfl rfl) (congrArg Value.bool (decide_eq_true (by rfl)))) rfl (Taken.yes rfl rfl hg4)) ?_
    refine SL.val (O.pick_t rfl rfl rfl rfl Taken.no) ?_
    refine SL.val (O.move rfl rfl Taken.no) ?_
    have hg5 : true = true := by decide
    refine SL.val (O.move rfl rfl (Taken.yes rfl rfl hg5)) ?_
    refine SL.val (O.move rfl rfl (Taken.yes rfl rfl hg5)) ?_
    refine SL.val (O.det (fun _ => G.R.mv (G.R.eql rfl rfl) (congrArg Value.bool (decide_eq_true (by rfl)))) rfl (Taken.yes rfl rfl hg5)) ?_
    refine SL.val (O.pick_t rfl rfl rfl rfl Taken.no) ?_
    refine SL.val (O.move rfl rfl Taken.no) ?_
    have hg6 : true = true := by decide
    refine SL.val (O.move rfl rfl (Taken.yes rfl rfl hg6)) ?_
    refine SL.val (O.move rfl rfl (Taken.yes rfl rfl hg6)) ?_
    refine SL.val (O.lenE (n := (rA l l.length).hist.length) (SlOf.fz rfl (by decide)) (by exact List.length_map _) Try.underlying32 rfl (Taken.yes rfl rfl hg6)) ?_
    refine SL.val (O.det (fun _ => G.R.mv (G.R.leq rfl rfl) (congrArg Value.bool (decide_eq_true (by omega)))) rfl (Taken.yes rfl rfl hg6)) ?_
    refine SL.val (O.pick_t rfl rfl rfl rfl Taken.no) ?_
    refine SL.val (O.move rfl rfl Taken.no) ?_
    have hg7 : true = true := by decide
    refine SL.val (O.ldN (m := 26) (PtI.ref rfl rfl) (js := [_, _, _, _, _, _, _, _, _, _, _, _, _, _, _, _, _, _, _, _, _, _, _, _, _, _]) rfl (Nat.le_of_ble_eq_true rfl) Try.underlying50 rfl (by kernel_rfl) rfl (Taken.yes rfl rfl hg7)) ?_
    refine SL.val (O.move rfl rfl (Taken.yes rfl rfl hg7)) ?_
    refine SL.val (O.move rfl rfl (Taken.yes rfl rfl hg7)) ?_
    refine SL.val (O.callp rfl rfl rfl (has21_h (t := (rT l l.length)) (n := (((rA l l.length).sn[0]!).1 : Int)) (d := ((rA l l.length).sn[0]!).2) hri.h1 hri.h2) (.cons (ArgOk.aggU (.cons (ArgOk.same rfl) (.cons (ArgOk.same rfl) (.cons (ArgOk.same rfl) (.cons (ArgOk.same rfl) (.cons (ArgOk.same rfl) (.cons (ArgOk.same rfl) (.cons (ArgOk.same rfl) (.cons (ArgOk.same rfl) (.cons (ArgOk.same rfl) (.cons (ArgOk.same rfl) (.cons (ArgOk.same rfl) (.cons (ArgOk.same rfl) (.cons (ArgOk.same rfl) (.cons (ArgOk.same rfl) (.cons (ArgOk.same rfl) (.cons (ArgOk.same rfl) (.cons (ArgOk.same rfl) (.cons (ArgOk.same rfl) (.cons (ArgOk.same rfl) (.cons (ArgOk.same rfl) (.cons (ArgOk.same rfl) (.cons (ArgOk.same rfl) (.cons (ArgOk.same rfl) (.cons (ArgOk.same rfl) (.cons (ArgOk.same rfl) (.cons (ArgOk.same rfl) .nil))))))))))))))))))))))))))) (.cons (ArgOk.same rfl) (.cons (ArgOk.same rfl) .nil))) hcallOk23 rfl (Taken.yes rfl rfl hg7)) ?_
    refine SL.as (i' := vB true) 110 rfl (by exact iv_bool (decide_eq_true hh0)) ?_
    refine SL.val (O.pick_t rfl rfl rfl rfl Taken.no) ?_
    refine SL.val (O.move rfl rfl Taken.no) ?_
    have hg8 : true = true := by decide
    refine SL.val (O.move rfl rfl (Taken.yes rfl rfl hg8)) ?_
    refine SL.val (O.move rfl rfl (Taken.yes rfl rfl hg8)) ?_
    refine SL.val (O.move rfl rfl (Taken.yes rfl rfl hg8)) ?_
    refine SL.val (O.sub_fz (i := ((rA l l.length).sn[0]!).1) rfl (Bnd.at rfl (by first | rfl | omega)) Bnd.no (by rw [List.length_map]; omega) (by first | omega | (simp only [List.length_map, Nat.le_refl, Nat.zero_le] <;> omega) | (simp <;> omega)) sub_lo Try.underlying32 hi22 hs22 rfl (Taken.yes rfl rfl hg8)) ?_
    refine SL.val (O.callp rfl rfl rfl (same_h (ls1 := (rA l l.length).hist.drop ((rA l l.length).sn[0]!).1) (ls2 := (rA l l.length).hist.drop ((rA l l.length).sn[0]!).1)) (.cons (ArgOk.same rfl) (.cons (ArgOk.same rfl) .nil)) hcallOk18 rfl (Taken.yes rfl rfl hg8)) ?_
    refine SL.as (i' := vB true) 117 rfl (by exact iv_bool (decide_eq_true rfl)) ?_
    refine SL.val (O.pick_t rfl rfl rfl rfl Taken.no) ?_
    refine SL.val (O.assign rfl rfl Taken.no) ?_
    refine SL.nil ?_
    refine E.to ?_
    refine W.pick (.cons (t := 6) rfl .nil) (.cons (t := 101) rfl (.cons (t := 102) rfl .nil)) ?_
    refine W.ret ?_
    refine E.fin (rs := [_]) (rn []) (.inl rfl) rfl (.cons (ResOne.tmp rfl) .nil) ?_ ?_ rfl (fixL_spec rfl)
    ·skip
     rfl
    · exact SubS.nil
 ·skip
  first | have hg1p := G.gA7 hg1 | have hg1p := G.gA8 hg1 | have hg1p := hg1
  refine SL.skip (OpOk.not rfl rfl rfl hg1) ?_
  refine SL.skip (OpOk.not rfl rfl rfl hg1) ?_
  refine SL.val (O.pick_t rfl (G.ne_f hg1) rfl rfl Taken.no) ?_
  refine SL.nil ?_
  refine E.to ?_
  refine W.cond_t rfl ?_
  refine W.seq ?_
  refine W.region ?_
  refine SL.val (O.assign rfl rfl Taken.no) ?_
  refine SL.nil ?_
  refine E.to ?_
  refine W.ret ?_
  refine E.thr ?_
  refine E.fin (rs := [_]) (rn []) (.inl rfl) rfl (.cons (ResOne.tmp rfl) .nil) ?_ ?_ rfl (fixL_spec rfl)
  ·skip
   rfl
  · exact SubS.nil

set_option maxRecDepth 8000 in
set_option maxHeartbeats 3200000 in
/-- bookplate/bookplatelaw21.SnapshotTake. -/
theorem snapshotTake_h {l : List Stp} {d : Bs} :
    Con Try.prog 7 [vL 2 (l.map eStp), vL 1 (d.map eB)] [] (vB true) [] := by
 refine Con.enterL (n := 94) Try.func7 rfl rfl rfl (fun τ w ok vs hin => ?_)
 have hl0 := hin.len (i := 0) rfl
 try rw [List.length_map] at hl0
 have hl1 := hin.len (i := 1) rfl
 try rw [List.length_map] at hl1
 clear hin
 refine W.seq ?_
 refine W.region ?_
 refine SL.val (O.assign rfl rfl Taken.no) ?_
 refine SL.nil ?_
 refine E.to ?_
 refine W.seq ?_
 refine W.seq ?_
 refine W.region ?_
 refine SL.val (O.callp rfl rfl rfl (awake21_h) .nil hcallOk9 rfl Taken.no) ?_
 refine SL.as (i' := vB true) 16 rfl (by rfl) ?_
 refine SL.val (O.det (fun _ => G.R.mv (G.R.not rfl) rfl) rfl Taken.no) ?_
 refine SL.nil ?_
 refine E.to ?_
 refine W.cond_f rfl ?_
 refine W.skip ?_
 refine E.to ?_
 refine W.seq ?_
 refine W.seq ?_
 refine W.region ?_
 refine SL.val (O.move rfl rfl Taken.no) ?_
 refine SL.val (O.callp rfl rfl rfl (few21_h (l := l)) (.cons (ArgOk.same rfl) .nil) hcallOk19 rfl Taken.no) ?_
 refine SL.val (O.det (fun _ => G.R.not rfl) rfl Taken.no) ?_
 refine SL.val (O.move rfl rfl Taken.no) ?_
 refine SL.case (j := 3) (g := 21) (want := false) rfl rfl (fun hg1 => ?_) (fun hg1 => ?_)
 ·skip
  first | have hg1p := G.gA3 hg1 | have hg1p := G.gA4 hg1 | have hg1p := hg1
  refine SL.val (O.move rfl rfl (Taken.yes rfl rfl hg1)) ?_
  refine SL.val (O.lenE (SlOf.fz rfl (by decide)) (by first | exact List.length_map _ | rfl) Try.underlying22 rfl (Taken.yes rfl rfl hg1)) ?_
  refine SL.val (O.det (fun _ => G.R.gtr rfl rfl) rfl (Taken.yes rfl rfl hg1)) ?_
  refine SL.val (O.pick_f rfl hg1 rfl rfl Taken.no) ?_
  refine SL.nil ?_
  refine E.to ?_
  first | refine W.cond_d rfl (fun hc2 => ?_) (fun hc2 => ?_) | refine W.cond_nd rfl (fun hc2 => ?_) (fun hc2 => ?_) | refine W.cond rfl (fun hc2 => ?_) (fun hc2 => ?_)
  ·skip
   refine W.seq ?_
   refine W.region ?_
   refine SL.val (O.assign rfl rfl Taken.no) ?_
   refine SL.nil ?_
   refine E.to ?_
   refine W.ret ?_
   refine E.thr ?_
   refine E.fin (rs := [_]) (rn []) (.inl rfl) rfl (.cons (ResOne.tmp rfl) .nil) ?_ ?_ rfl (fixL_spec rfl)
   ·skip
    rfl
   · exact SubS.nil
  ·skip
   have hs : fewL l := by simp_all
   have hl12 := hs.1
   have hri := RI_k hs l.length (Nat.le_refl _)
   have hok := hri.ok
   have hfw := hri.few
   have hhl := hri.hl
   have hnr := AS.new_rng hok
   have hbs := hok.bs
   have hsh := hok.sh
   have htw := hok.two
   have hhas := has_new hri hl12
   have hsl := (rA l l.length).sn_len
   have hd20 : d.length ≤ 20 := by simp_all; omega
   have hto := AS.take_ok hok (d := d) (by omega)
   have htn := take_new (rA l l.length) d hok
   obtain ⟨r1, r2, r3, r4⟩ := AS.recover_all hto
   rw [htn.1] at r2 r4
   rw [htn.2] at r3
   have hdr : ((rA l l.length).take d).hist.drop (rA l l.length).hist.length = [] := List.drop_eq_nil_of_le (Nat.le_refl _)
   rw [hdr] at r4
   have hfl := AS.flen hto
   have hty := take_sy (rA l l.length) d hok
   have hut := hto.two
   have hul := AS.sn_len ((rA l l.length).take d)
   refine W.skip ?_
   refine E.to ?_
   refine W.seq ?_
   refine W.region ?_
   refine SL.val (O.move rfl rfl Taken.no) ?_
   refine SL.memS (O.call (rn []) [] rfl rfl rfl (run_h hs) (.cons (ArgOk.same rfl) .nil) SubS.nil rfl rfl rfl rfl rfl (.inl rfl) hcallOk20 (r' := .tup [.agg [.u _, .u _, .u _, .u _], .u _, .u _, .agg [.u _, .u _, .u _, .u _, .u _, .u _, .u _, .u _, .u _, .u _, .u _, .u _, .u _, .u _, .u _, .u _, .u _, .u _, .u _, .u _, .u _, .u _, .u _, .u _, .u _, .u _], .u _]) rfl rfl Taken.no) rfl rfl (S' := _) rfl ?_
   refine SL.val (O.move rfl rfl Taken.no) ?_
   refine SL.val (O.extract rfl rfl rfl Taken.no) ?_
   refine SL.val (O.extract rfl rfl rfl Taken.no) ?_
   refine SL.val (O.extract rfl rfl rfl Taken.no) ?_
   refine SL.val (O.extract rfl rfl rfl Taken.no) ?_
   refine SL.val (O.extract rfl rfl rfl Taken.no) ?_
   refine SL.memS (O.alloc (z := .agg #[.int .i64 0, .slice none 0 0, .int .i64 0, .slice none 0 0]) (is := [.u (.sc (.int .i64 0)), .u (.sc (.slice none 0 0)), .u (.sc (.int .i64 0)), .u (.sc (.slice none 0 0))]) 101 (by kernel_rfl) rfl rfl rfl Taken.no) rfl rfl (S' := (101, _) :: _) rfl ?_
   refine SL.memS (O.alloc (z := .agg #[.bool false, .bool false, .bool false, .bool false, .bool false, .bool false, .bool false, .bool false, .bool false, .bool false, .bool false, .bool false, .bool false, .string (Go.G.bs []), .string (Go.G.bs []), .string (Go.G.bs []), .string (Go.G.bs []), .string (Go.G.bs []), .string (Go.G.bs []), .string (Go.G.bs []), .string (Go.G.bs []), .string (Go.G.bs []), .string (Go.G.bs []), .string (Go.G.bs []), .string (Go.G.bs []), .string (Go.G.bs [])]) (is := [.u (.sc (.bool false)), .u (.sc (.bool false)), .u (.sc (.bool false)), .u (.sc (.bool false)), .u (.sc (.bool false)), .u (.sc (.bool false)), .u (.sc (.bool false)), .u (.sc (.bool false)), .u (.sc (.bool false)), .u (.sc (.bool false)), .u (.sc (.bool false)), .u (.sc (.bool false)), .u (.sc (.bool false)), .u (.sc (.string (Go.G.bs []))), .u (.sc (.string (Go.G.bs []))), .u (.sc (.string (Go.G.bs []))), .u (.sc (.string (Go.G.bs []))), .u (.sc (.string (Go.G.bs []))), .u (.sc (.string (Go.G.bs []))), .u (.sc (.string (Go.G.bs []))), .u (.sc (.string (Go.G.bs []))), .u (.sc (.string (Go.G.bs []))), .u (.sc (.string (Go.G.bs []))), .u (.sc (.string (Go.G.bs []))), .u (.sc (.string (Go.G.bs []))), .u (.sc (.string (Go.G.bs [])))]) 102 (by kernel_rfl) rfl rfl rfl Taken.no) rfl rfl (S' := (102, _) :: _) rfl ?_
   refine SL.effS (O.st_ref (m := 4) rfl rfl rfl (js := [_, _, _, _]) rfl rfl (by kernel_rfl) (by simp) (Nat.le_of_ble_eq_true rfl) rfl (is' := [_, _, _, _]) rfl Taken.no) (S' := (101, _) :: _) rfl ?_
   refine SL.val (O.assign rfl rfl Taken.no) ?_
   refine SL.val (O.assign rfl rfl Taken.no) ?_
   refine SL.effS (O.st_ref (m := 26) rfl rfl rfl (js := [_, _, _, _, _, _, _, _, _, _, _, _, _, _, _, _, _, _, _, _, _, _, _, _, _, _]) rfl rfl (by kernel_rfl) (by simp) (Nat.le_of_ble_eq_true rfl) rfl (is' := [_, _, _, _, _, _, _, _, _, _, _, _, _, _, _, _, _, _, _, _, _, _, _, _, _, _]) rfl Taken.no) (S' := (102, _) :: _) rfl ?_
   refine SL.val (O.assign rfl rfl Taken.no) ?_
   refine SL.nil ?_
   refine E.to ?_
   refine W.pick (.cons (t := 1) rfl (.cons (t := 4) rfl (.cons (t := 5) rfl (.cons (t := 6) rfl (.cons (t := 9) rfl .nil))))) (.cons (t := 101) rfl (.cons (t := 102) rfl .nil)) ?_
   refine W.seq ?_
   refine W.region ?_
   refine SL.val (O.ldN (m := 4) (PtI.ref rfl rfl) (js := [_, _, _, _]) rfl (Nat.le_of_ble_eq_true rfl) Try.underlying46 rfl (by kernel_rfl) rfl Taken.no) ?_
   refine SL.val (O.move rfl rfl Taken.no) ?_
   refine SL.memS (O.call (rn []) [] rfl rfl rfl (stake_h (a := (rA l l.length)) (d := d) hok (by omega)) (.cons (ArgOk.aggU (.cons (ArgOk.same rfl) (.cons (ArgOk.same rfl) (.cons (ArgOk.same rfl) (.cons (ArgOk.same rfl) .nil))))) (.cons (ArgOk.same rfl) .nil)) SubS.nil rfl rfl rfl rfl rfl (.inl rfl) hcallOk24 (r' := .tup [.agg [.u _, .u _, .u _, .u _], .u _]) rfl rfl Taken.no) rfl rfl (S' := _) rfl ?_
   refine SL.val (O.move rfl rfl Taken.no) ?_
   refine SL.val (O.extract rfl rfl rfl Taken.no) ?_
   refine SL.val (O.extract rfl rfl rfl Taken.no) ?_
   refine SL.memS (O.alloc (z := .agg #[.int .i64 0, .slice none 0 0, .int .i64 0, .slice none 0 0]) (is := [.u (.sc (.int .i64 0)), .u (.sc (.slice none 0 0)), .u (.sc (.int .i64 0)), .u (.sc (.slice none 0 0))]) 103 (by kernel_rfl) rfl rfl rfl Taken.no) rfl rfl (S' := (103, _) :: _) rfl ?_
   refine SL.effS (O.st_ref (m := 4) rfl rfl rfl (js := [_, _, _, _]) rfl rfl (by kernel_rfl) (by simp) (Nat.le_of_ble_eq_true rfl) rfl (is' := [_, _, _, _]) rfl Taken.no) (S' := (103, _) :: _) rfl ?_
   refine SL.val (O.assign rfl rfl Taken.no) ?_
   refine SL.nil ?_
   refine E.to ?_
   refine W.seq ?_
   refine W.region ?_
   refine SL.val (O.fld_ref (o' := 0) rfl Try.underlying46 rfl (m := 0) (by kernel_rfl) rfl rfl Taken.no) ?_
   refine SL.val (O.ld1 (PtI.ref rfl rfl) rfl Try.underlying3 rfl rfl Taken.no) ?_
   refine SL.val (O.fld_ref (o' := 1) rfl Try.underlying46 rfl (m := 1) (by kernel_rfl) rfl rfl Taken.no) ?_
   refine SL.val (O.fld_ref (o' := 1) rfl Try.underlying44 rfl (m := 0) (by kernel_rfl) rfl rfl Taken.no) ?_
   refine SL.val (O.ld1 (PtI.ref rfl rfl) rfl Try.underlying22 rfl rfl Taken.no) ?_
   refine SL.val (O.fld_ref (o' := 3) rfl Try.underlying46 rfl (m := 0) (by kernel_rfl) rfl rfl Taken.no) ?_
   refine SL.val (O.ld1 (PtI.ref rfl rfl) rfl Try.underlying32 rfl rfl Taken.no) ?_
   refine SL.memS (O.call (rn []) [] rfl rfl rfl (recover_h (base := (((rA l l.length).take d).base : Int)) (f := ((rA l l.length).take d).file) (sn := ((rA l l.length).take d).snaps) (by omega) (AS.sn_sm hto)) (.cons (ArgOk.same rfl) (.cons (ArgOk.same rfl) (.cons (ArgOk.same rfl) .nil))) SubS.nil rfl rfl rfl rfl rfl (.inl rfl) hcallOk16 (r' := .tup [.u _, .u _, .u _, .u _]) rfl rfl Taken.no) rfl rfl (S' := _) rfl ?_
   refine SL.as (i' := .tup [vL 1 (d.map eB), vI ((rA l l.length).hist.length : Int), vL 1 (([] : List Bs).map eL), vI 0]) 48 rfl (by rw [r1, r2, r3, r4]) ?_
   refine SL.val (O.move rfl rfl Taken.no) ?_
   refine SL.val (O.extract rfl rfl rfl Taken.no) ?_
   refine SL.val (O.extract rfl rfl rfl Taken.no) ?_
   refine SL.val (O.extract rfl rfl rfl Taken.no) ?_
   refine SL.val (O.extract rfl rfl rfl Taken.no) ?_
   refine SL.val (O.assign rfl rfl Taken.no) ?_
   refine SL.val (O.assign rfl rfl Taken.no) ?_
   refine SL.val (O.assign rfl rfl Taken.no) ?_
   refine SL.val (O.assign rfl rfl Taken.no) ?_
   refine SL.nil ?_
   refine E.to ?_
   refine W.pick (.cons (t := 1) rfl (.cons (t := 4) rfl (.cons (t := 6) rfl (.cons (t := 9) rfl (.cons (t := 10) rfl (.cons (t := 11) rfl (.cons (t := 12) rfl (.cons (t := 13) rfl (.cons (t := 14) rfl (.cons (t := 15) rfl .nil)))))))))) (.cons (t := 101) rfl (.cons (t := 102) rfl (.cons (t := 103) rfl .nil))) ?_
   refine W.seq ?_
   refine W.region ?_
   refine SL.val (O.move rfl rfl Taken.no) ?_
   refine SL.val (O.move rfl rfl Taken.no) ?_
   have hg3 : true = true := by decide
   refine SL.val (O.move rfl rfl (Taken.yes rfl rfl hg3)) ?_
   refine SL.val (O.det (fun _ => G.R.mv (G.R.eql rfl rfl) (congrArg Value.bool (decide_eq_true (by rfl)))) rfl (Taken.yes rfl rfl hg3)) ?_
   refine SL.val (O.pick_t rfl rfl rfl rfl Taken.no) ?_
   refine SL.val (O.move rfl rfl Taken.no) ?_
   have hg4 : true = true := by decide
   refine SL.val (O.move rfl rfl (Taken.yes rfl rfl hg4)) ?_
   refine SL.val (O.det (fun _ => G.R.mv (G.R.eql rfl rfl) (congrArg Value.bool (decide_eq_true (by rfl)))) rfl (Taken.yes rfl rfl hg4)) ?_
   refine SL.val (O.pick_t rfl rfl rfl rfl Taken.no) ?_
   refine SL.val (O.move rfl rfl Taken.no) ?_
   have hg5 : true = true := by decide
   refine SL.val (O.move rfl rfl (Taken.yes rfl rfl hg5)) ?_
   refine SL.val (O.move rfl rfl (Taken.yes rfl rfl hg5)) ?_
   refine SL.val (O.callp rfl rfl rfl (bequal_h (l1 := d) (l2 := d)) (.cons (ArgOk.same rfl) (.cons (ArgOk.same rfl) .nil)) hcallOk14 rfl (Taken.yes rfl rfl hg5)) ?_
   refine SL.as (i' := vB true) 65 rfl (by exact iv_bool (decide_eq_true rfl)) ?_
   refine SL.val (O.pick_t rfl rfl rfl rfl Taken.no) ?_
   refine SL.val (O.move rfl rfl Taken.no) ?_
   have hg6 : true = true := by decide
   refine SL.val (O.move rfl rfl (Taken.yes rfl rfl hg6)) ?_
   refine SL.val (O.move rfl rfl (Taken.yes rfl rfl hg6)) ?_
   refine SL.val (O.lenE (n := (rA l l.length).hist.length) (SlOf.fz rfl (by decide)) (by exact List.length_map _) Try.underlying32 rfl (Taken.yes rfl rfl hg6)) ?_
   refine SL.val (O.det (fun _ => G.R.mv (G.R.eql rfl rfl) (congrArg Value.bool (decide_eq_true (by rfl)))) rfl (Taken.yes rfl rfl hg6)) ?_
   refine SL.val (O.pick_t rfl rfl rfl rfl Taken.no) ?_
   refine SL.val (O.move rfl rfl Taken.no) ?_
   have hg7 : true = true := by decide
   refine SL.val (O.move rfl rfl (Taken.yes rfl rfl hg7)) ?_
   refine SL.val (O.lenE (SlOf.fz rfl (by decide)) (by first | exact List.length_map _ | rfl) Try.underlying32 rfl (Taken.yes rfl rfl hg7)) ?_
   refine SL.val (O.det (fun _ => G.R.mv (G.R.eql rfl rfl) (congrArg Value.bool (decide_eq_true (by rfl)))) rfl (Taken.yes rfl rfl hg7)) ?_
   refine SL.val (O.pick_t rfl rfl rfl rfl Taken.no) ?_
   refine SL.val (O.move rfl rfl Taken.no) ?_
   have hg8 : true = true := by decide
   refine SL.val (O.fld_ref (o' := 1) rfl Try.underlying46 rfl (m := 1) (by kernel_rfl) rfl rfl (Taken.yes rfl rfl hg8)) ?_
   refine SL.val (O.fld_ref (o' := 2) rfl Try.underlying44 rfl (m := 0) (by kernel_rfl) rfl rfl (Taken.yes rfl rfl hg8)) ?_
   refine SL.val (O.ld1 (PtI.ref rfl rfl) rfl Try.underlying3 rfl rfl (Taken.yes rfl rfl hg8)) ?_
   refine SL.val (O.fld_ref (o' := 1) rfl Try.underlying46 rfl (m := 1) (by kernel_rfl) rfl rfl (Taken.yes rfl rfl hg8)) ?_
   refine SL.val (O.fld_ref (o' := 1) rfl Try.underlying44 rfl (m := 0) (by kernel_rfl) rfl rfl (Taken.yes rfl rfl hg8)) ?_
   refine SL.val (O.ld1 (PtI.ref rfl rfl) rfl Try.underlying22 rfl rfl (Taken.yes rfl rfl hg8)) ?_
   refine SL.val (O.lenE (SlOf.fz rfl (by decide)) (by first | exact List.length_map _ | rfl) Try.underlying22 rfl (Taken.yes rfl rfl hg8)) ?_
   refine SL.val (O.det (fun _ => G.R.mv (G.R.eql rfl rfl) (congrArg Value.bool (decide_eq_true (by exact hty)))) rfl (Taken.yes rfl rfl hg8)) ?_
   refine SL.val (O.pick_t rfl rfl rfl rfl Taken.no) ?_
   refine SL.val (O.move rfl rfl Taken.no) ?_
   have hg9 : true = true := by decide
   refine SL.val (O.fld_ref (o' := 3) rfl Try.underlying46 rfl (m := 0) (by kernel_rfl) rfl rfl (Taken.yes rfl rfl hg9)) ?_
   refine SL.val (O.ld1 (PtI.ref rfl rfl) rfl Try.underlying32 rfl rfl (Taken.yes rfl rfl hg9)) ?_
   refine SL.val (O.lenE (n := ((rA l l.length).take d).sn.length) (SlOf.fz rfl (by decide)) (by rw [List.length_map]; exact hul) Try.underlying32 rfl (Taken.yes rfl rfl hg9)) ?_
   refine SL.val (O.det (fun _ => G.R.mv (G.R.leq rfl rfl) (congrArg Value.bool (decide_eq_true (by omega)))) rfl (Taken.yes rfl rfl hg9)) ?_
   refine SL.val (O.pick_t rfl rfl rfl rfl Taken.no) ?_
   refine SL.val (O.assign rfl rfl Taken.no) ?_
   refine SL.nil ?_
   refine E.to ?_
   refine W.pick (.cons (t := 4) rfl .nil) (.cons (t := 101) rfl (.cons (t := 102) rfl (.cons (t := 103) rfl .nil))) ?_
   refine W.ret ?_
   refine E.fin (rs := [_]) (rn []) (.inl rfl) rfl (.cons (ResOne.tmp rfl) .nil) ?_ ?_ rfl (fixL_spec rfl)
   ·skip
    rfl
   · exact SubS.nil
 ·skip
  first | have hg1p := G.gA7 hg1 | have hg1p := G.gA8 hg1 | have hg1p := hg1
  refine SL.skip (OpOk.not rfl rfl rfl hg1) ?_
  refine SL.skip (OpOk.not rfl rfl rfl hg1) ?_
  refine SL.skip (OpOk.not rfl rfl rfl hg1) ?_
  refine SL.val (O.pick_t rfl (G.ne_f hg1) rfl rfl Taken.no) ?_
  refine SL.nil ?_
  refine E.to ?_
  refine W.cond_t rfl ?_
  refine W.seq ?_
  refine W.region ?_
  refine SL.val (O.assign rfl rfl Taken.no) ?_
  refine SL.nil ?_
  refine E.to ?_
  refine W.ret ?_
  refine E.thr ?_
  refine E.fin (rs := [_]) (rn []) (.inl rfl) rfl (.cons (ResOne.tmp rfl) .nil) ?_ ?_ rfl (fixL_spec rfl)
  ·skip
   rfl
  · exact SubS.nil

set_option maxRecDepth 8000 in
set_option maxHeartbeats 3200000 in
/-- bookplate/bookplatelaw21.SnapshotRecover. -/
theorem snapshotRecover_h {base : Int} {f : Bs} {sn : List Bs} :
    Con Try.prog 4 [vI base, vL 1 (f.map eB), vL 1 (sn.map eL)] [] (vB true) [] := by
 refine Con.enterL (n := 59) Try.func4 rfl rfl rfl (fun τ w ok vs hin => ?_)
 have hl1 := hin.len (i := 1) rfl
 try rw [List.length_map] at hl1
 have hl2 := hin.len (i := 2) rfl
 try rw [List.length_map] at hl2
 clear hin
 refine W.seq ?_
 refine W.region ?_
 refine SL.val (O.assign rfl rfl Taken.no) ?_
 refine SL.nil ?_
 refine E.to ?_
 refine W.seq ?_
 refine W.seq ?_
 refine W.region ?_
 refine SL.val (O.callp rfl rfl rfl (awake21_h) .nil hcallOk9 rfl Taken.no) ?_
 refine SL.as (i' := vB true) 15 rfl (by rfl) ?_
 refine SL.val (O.det (fun _ => G.R.mv (G.R.not rfl) rfl) rfl Taken.no) ?_
 refine SL.nil ?_
 refine E.to ?_
 refine W.cond_f rfl ?_
 refine W.skip ?_
 refine E.to ?_
 refine W.seq ?_
 refine W.seq ?_
 refine W.region ?_
 refine SL.val (O.move rfl rfl Taken.no) ?_
 refine SL.val (O.build (res := [_, _]) (z := .agg #[.slice none 0 0, .int .i64 0]) (places := [(0, 1), (1, 1)]) rfl rfl Try.underlying35 (by kernel_rfl) (fun _ => by kernel_rfl) rfl rfl Taken.no) ?_
 refine SL.val (O.move rfl rfl Taken.no) ?_
 refine SL.val (O.build (res := [_, _, _, _]) (z := .agg #[.int .i64 0, .slice none 0 0, .int .i64 0, .slice none 0 0]) (places := [(0, 1), (1, 2), (3, 1)]) rfl rfl Try.underlying37 (by kernel_rfl) (fun _ => by kernel_rfl) rfl rfl Taken.no) ?_
 refine SL.val (O.callp rfl rfl rfl (few_h (b := 0) (s := 0) (f := f) (sn := sn)) (.cons (ArgOk.aggU (.cons (ArgOk.same rfl) (.cons (ArgOk.same rfl) (.cons (ArgOk.same rfl) (.cons (ArgOk.same rfl) .nil))))) .nil) hcallOk15 rfl Taken.no) ?_
 refine SL.val (O.det (fun _ => G.R.not rfl) rfl Taken.no) ?_
 refine SL.nil ?_
 refine E.to ?_
 first | refine W.cond_d rfl (fun hc1 => ?_) (fun hc1 => ?_) | refine W.cond_nd rfl (fun hc1 => ?_) (fun hc1 => ?_) | refine W.cond rfl (fun hc1 => ?_) (fun hc1 => ?_)
 ·skip
  refine W.seq ?_
  refine W.region ?_
  refine SL.val (O.assign rfl rfl Taken.no) ?_
  refine SL.nil ?_
  refine E.to ?_
  refine W.ret ?_
  refine E.thr ?_
  refine E.fin (rs := [_]) (rn []) (.inl rfl) rfl (.cons (ResOne.tmp rfl) .nil) ?_ ?_ rfl (fixL_spec rfl)
  ·skip
   rfl
  · exact SubS.nil
 ·skip
  have hq : f.length ≤ 400 ∧ sn.length ≤ 4 ∧ ∀ i, i < sn.length → sn[i]!.length ≤ 200 := by simp_all
  have hsm : ∀ b ∈ sn, b.length ≤ 1000000 := fun b hb => by obtain ⟨i, hi, e⟩ := List.getElem_of_mem hb; have h2 := hq.2.2 i hi; rw [getElem!_pos sn i hi, e] at h2; omega
  refine W.skip ?_
  refine E.to ?_
  refine W.seq ?_
  refine W.region ?_
  refine SL.val (O.move rfl rfl Taken.no) ?_
  refine SL.val (O.move rfl rfl Taken.no) ?_
  refine SL.val (O.move rfl rfl Taken.no) ?_
  refine SL.memS (O.call (rn []) [] rfl rfl rfl (recover_h (base := base) (f := f) (sn := sn) (by omega) hsm) (.cons (ArgOk.same rfl) (.cons (ArgOk.same rfl) (.cons (ArgOk.same rfl) .nil))) SubS.nil rfl rfl rfl rfl rfl (.inl rfl) hcallOk16 (r' := .tup [.u _, .u _, .u _, .u _]) rfl rfl Taken.no) rfl rfl (S' := _) rfl ?_
  refine SL.val (O.move rfl rfl Taken.no) ?_
  refine SL.val (O.extract rfl rfl rfl Taken.no) ?_
  refine SL.val (O.extract rfl rfl rfl Taken.no) ?_
  refine SL.val (O.extract rfl rfl rfl Taken.no) ?_
  refine SL.val (O.extract rfl rfl rfl Taken.no) ?_
  refine SL.val (O.assign rfl rfl Taken.no) ?_
  refine SL.val (O.assign rfl rfl Taken.no) ?_
  refine SL.val (O.assign rfl rfl Taken.no) ?_
  refine SL.val (O.assign rfl rfl Taken.no) ?_
  refine SL.nil ?_
  refine E.to ?_
  refine W.pick (.cons (t := 0) rfl (.cons (t := 1) rfl (.cons (t := 2) rfl (.cons (t := 6) rfl (.cons (t := 7) rfl (.cons (t := 8) rfl (.cons (t := 9) rfl (.cons (t := 10) rfl .nil)))))))) .nil ?_
  refine W.seq ?_
  refine W.region ?_
  refine SL.val (O.move rfl rfl Taken.no) ?_
  refine SL.val (O.move rfl rfl Taken.no) ?_
  refine SL.val (O.move rfl rfl Taken.no) ?_
  refine SL.memS (O.call (rn []) [] rfl rfl rfl (refrecover_h (base := base) (f := f) (sn := sn) (by omega) hsm) (.cons (ArgOk.same rfl) (.cons (ArgOk.same rfl) (.cons (ArgOk.same rfl) .nil))) SubS.nil rfl rfl rfl rfl rfl (.inl rfl) hcallOk17 (r' := .tup [.u _, .u _, .u _, .u _]) rfl rfl Taken.no) rfl rfl (S' := _) rfl ?_
  refine SL.val (O.move rfl rfl Taken.no) ?_
  refine SL.val (O.extract rfl rfl rfl Taken.no) ?_
  refine SL.val (O.extract rfl rfl rfl Taken.no) ?_
  refine SL.val (O.extract rfl rfl rfl Taken.no) ?_
  refine SL.val (O.extract rfl rfl rfl Taken.no) ?_
  refine SL.val (O.assign rfl rfl Taken.no) ?_
  refine SL.val (O.assign rfl rfl Taken.no) ?_
  refine SL.val (O.assign rfl rfl Taken.no) ?_
  refine SL.val (O.assign rfl rfl Taken.no) ?_
  refine SL.nil ?_
  refine E.to ?_
  refine W.seq ?_
  refine W.region ?_
  refine SL.val (O.move rfl rfl Taken.no) ?_
  refine SL.val (O.move rfl rfl Taken.no) ?_
  refine SL.val (O.callp rfl rfl rfl (bequal_h (l1 := acD (recA base f sn)) (l2 := acD (recA base f sn))) (.cons (ArgOk.same rfl) (.cons (ArgOk.same rfl) .nil)) hcallOk14 rfl Taken.no) ?_
  refine SL.as (i' := vB true) 43 rfl (by exact iv_bool (decide_eq_true rfl)) ?_
  refine SL.val (O.move rfl rfl Taken.no) ?_
  have hg2 : true = true := by decide
  refine SL.val (O.move rfl rfl (Taken.yes rfl rfl hg2)) ?_
  refine SL.val (O.move rfl rfl (Taken.yes rfl rfl hg2)) ?_
  refine SL.val (O.det (fun _ => G.R.mv (G.R.eql rfl rfl) (congrArg Value.bool (decide_eq_true (by rfl)))) rfl (Taken.yes rfl rfl hg2)) ?_
  refine SL.val (O.pick_t rfl rfl rfl rfl Taken.no) ?_
  refine SL.val (O.move rfl rfl Taken.no) ?_
  have hg3 : true = true := by decide
  refine SL.val (O.move rfl rfl (Taken.yes rfl rfl hg3)) ?_
  refine SL.val (O.move rfl rfl (Taken.yes rfl rfl hg3)) ?_
  refine SL.val (O.callp rfl rfl rfl (same_h (ls1 := recL base f sn) (ls2 := recL base f sn)) (.cons (ArgOk.same rfl) (.cons (ArgOk.same rfl) .nil)) hcallOk18 rfl (Taken.yes rfl rfl hg3)) ?_
  refine SL.as (i' := vB true) 52 rfl (by exact iv_bool (decide_eq_true rfl)) ?_
  refine SL.val (O.pick_t rfl rfl rfl rfl Taken.no) ?_
  refine SL.val (O.move rfl rfl Taken.no) ?_
  have hg4 : true = true := by decide
  refine SL.val (O.move rfl rfl (Taken.yes rfl rfl hg4)) ?_
  refine SL.val (O.move rfl rfl (Taken.yes rfl rfl hg4)) ?_
  refine SL.val (O.det (fun _ => G.R.mv (G.R.eql rfl rfl) (congrArg Value.bool (decide_eq_true (by rfl)))) rfl (Taken.yes rfl rfl hg4)) ?_
  refine SL.val (O.pick_t rfl rfl rfl rfl Taken.no) ?_
  refine SL.val (O.assign rfl rfl Taken.no) ?_
  refine SL.nil ?_
  refine E.to ?_
  refine W.pick (.cons (t := 6) rfl .nil) .nil ?_
  refine W.ret ?_
  refine E.fin (rs := [_]) (rn []) (.inl rfl) rfl (.cons (ResOne.tmp rfl) .nil) ?_ ?_ rfl (fixL_spec rfl)
  ·skip
   rfl
  · exact SubS.nil

set_option maxRecDepth 8000 in
set_option maxHeartbeats 3200000 in
/-- bookplate/bookplatelaw21.SnapshotRead. -/
theorem snapshotRead_h (n : Int) {l : Bs} (a c : UInt8) :
    Con Try.prog 3 [vL 1 (l.map eB), vI n, vA [.sc (.int .u8 ((a.toNat : Nat) : Int)), .sc (.int .u8 ((c.toNat : Nat) : Int))]] [] (vB true) [] := by
 have hua := UInt8.toNat_lt a
 have huc := UInt8.toNat_lt c
 obtain ⟨i5, hi5, hz5, hs5, hb5⟩ := hinf5
 refine Con.enterL (n := 135) Try.func3 rfl rfl rfl (fun τ w ok vs hin => ?_)
 have hl0 := hin.len (i := 0) rfl
 try rw [List.length_map] at hl0
 clear hin
 refine W.seq ?_
 refine W.region ?_
 refine SL.memS (O.box (is := [_, _]) 101 rfl rfl (by simp) rfl rfl Taken.no) rfl rfl (S' := (101, _) :: _) rfl ?_
 refine SL.val (O.assign rfl rfl Taken.no) ?_
 refine SL.nil ?_
 refine E.to ?_
 refine W.seq ?_
 refine W.seq ?_
 refine W.region ?_
 refine SL.val (O.callp rfl rfl rfl (awake21_h) .nil hcallOk9 rfl Taken.no) ?_
 refine SL.as (i' := vB true) 24 rfl (by rfl) ?_
 refine SL.val (O.det (fun _ => G.R.mv (G.R.not rfl) rfl) rfl Taken.no) ?_
 refine SL.nil ?_
 refine E.to ?_
 refine W.cond_f rfl ?_
 refine W.skip ?_
 refine E.to ?_
 refine W.seq ?_
 refine W.seq ?_
 refine W.region ?_
 refine SL.val (O.move rfl rfl Taken.no) ?_
 refine SL.val (O.lenE (SlOf.fz rfl (by decide)) (by first | exact List.length_map _ | rfl) Try.underlying22 rfl Taken.no) ?_
 refine SL.val (O.det (fun _ => G.R.gtr rfl rfl) rfl Taken.no) ?_
 refine SL.nil ?_
 refine E.to ?_
 first | refine W.cond_d rfl (fun hc1 => ?_) (fun hc1 => ?_) | refine W.cond_nd rfl (fun hc1 => ?_) (fun hc1 => ?_) | refine W.cond rfl (fun hc1 => ?_) (fun hc1 => ?_)
 ·skip
  refine W.seq ?_
  refine W.region ?_
  refine SL.val (O.assign rfl rfl Taken.no) ?_
  refine SL.nil ?_
  refine E.to ?_
  refine W.ret ?_
  refine E.thr ?_
  refine E.fin (rs := [_]) (rn []) (.inl rfl) rfl (.cons (ResOne.tmp rfl) .nil) ?_ ?_ rfl (fixL_spec rfl)
  ·skip
   first | rfl | simp_all
  · exact SubS.nil
 ·skip
  refine W.skip ?_
  refine E.to ?_
  refine W.seq ?_
  refine W.region ?_
  refine SL.val (O.move rfl rfl Taken.no) ?_
  refine SL.memS (O.call (rn []) [] rfl rfl rfl (read_h (l := l) (by omega)) (.cons (ArgOk.same rfl) .nil) SubS.nil rfl rfl rfl rfl rfl (.inl rfl) hcallOk10 (r' := .tup [.u _, .u _, .u _]) rfl rfl Taken.no) rfl rfl (S' := _) rfl ?_
  refine SL.val (O.move rfl rfl Taken.no) ?_
  refine SL.val (O.extract rfl rfl rfl Taken.no) ?_
  refine SL.val (O.extract rfl rfl rfl Taken.no) ?_
  refine SL.val (O.extract rfl rfl rfl Taken.no) ?_
  refine SL.val (O.assign rfl rfl Taken.no) ?_
  refine SL.val (O.assign rfl rfl Taken.no) ?_
  refine SL.val (O.assign rfl rfl Taken.no) ?_
  refine SL.nil ?_
  refine E.to ?_
  refine W.seq ?_
  refine W.region ?_
  refine SL.val (O.move rfl rfl Taken.no) ?_
  refine SL.memS (O.call (rn []) [] rfl rfl rfl (refread_h (l := l) (by omega)) (.cons (ArgOk.same rfl) .nil) SubS.nil rfl rfl rfl rfl rfl (.inl rfl) hcallOk11 (r' := .tup [.u _, .u _, .u _]) rfl rfl Taken.no) rfl rfl (S' := _) rfl ?_
  refine SL.val (O.move rfl rfl Taken.no) ?_
  refine SL.val (O.extract rfl rfl rfl Taken.no) ?_
  refine SL.val (O.extract rfl rfl rfl Taken.no) ?_
  refine SL.val (O.extract rfl rfl rfl Taken.no) ?_
  refine SL.val (O.assign rfl rfl Taken.no) ?_
  refine SL.val (O.assign rfl rfl Taken.no) ?_
  refine SL.val (O.assign rfl rfl Taken.no) ?_
  refine SL.nil ?_
  refine E.to ?_
  refine W.pick (.cons (t := 0) rfl (.cons (t := 1) rfl (.cons (t := 5) rfl (.cons (t := 6) rfl (.cons (t := 7) rfl (.cons (t := 8) rfl (.cons (t := 9) rfl (.cons (t := 10) rfl (.cons (t := 11) rfl (.cons (t := 12) rfl .nil)))))))))) (.cons (t := 101) rfl .nil) ?_
  refine W.seq ?_
  refine W.region ?_
  refine SL.val (O.move rfl rfl Taken.no) ?_
  refine SL.val (O.move rfl rfl Taken.no) ?_
  refine SL.memS (O.call (rn []) [] rfl rfl rfl (make_h (n := n) (d := l) (by omega)) (.cons (ArgOk.same rfl) (.cons (ArgOk.same rfl) .nil)) SubS.nil rfl rfl rfl rfl rfl (.inl rfl) hcallOk12 (r' := .tup [.u _, .u _]) rfl rfl Taken.no) rfl rfl (S' := _) rfl ?_
  refine SL.val (O.move rfl rfl Taken.no) ?_
  refine SL.val (O.extract rfl rfl rfl Taken.no) ?_
  refine SL.val (O.extract rfl rfl rfl Taken.no) ?_
  refine SL.val (O.assign rfl rfl Taken.no) ?_
  refine SL.val (O.assign rfl rfl Taken.no) ?_
  refine SL.nil ?_
  refine E.to ?_
  refine W.seq ?_
  refine W.region ?_
  refine SL.val (O.move rfl rfl Taken.no) ?_
  refine SL.val (O.move rfl rfl Taken.no) ?_
  refine SL.memS (O.call (rn []) [] rfl rfl rfl (refmake_h (n := n) (d := l) (by omega)) (.cons (ArgOk.same rfl) (.cons (ArgOk.same rfl) .nil)) SubS.nil rfl rfl rfl rfl rfl (.inl rfl) hcallOk13 (r' := .tup [.u _, .u _]) rfl rfl Taken.no) rfl rfl (S' := _) rfl ?_
  refine SL.val (O.move rfl rfl Taken.no) ?_
  refine SL.val (O.extract rfl rfl rfl Taken.no) ?_
  refine SL.val (O.extract rfl rfl rfl Taken.no) ?_
  refine SL.val (O.assign rfl rfl Taken.no) ?_
  refine SL.val (O.assign rfl rfl Taken.no) ?_
  refine SL.nil ?_
  refine E.to ?_
  refine W.pick (.cons (t := 0) rfl (.cons (t := 1) rfl (.cons (t := 5) rfl (.cons (t := 6) rfl (.cons (t := 7) rfl (.cons (t := 8) rfl (.cons (t := 9) rfl (.cons (t := 10) rfl (.cons (t := 11) rfl (.cons (t := 12) rfl (.cons (t := 13) rfl (.cons (t := 14) rfl (.cons (t := 15) rfl (.cons (t := 16) rfl .nil)))))))))))))) (.cons (t := 101) rfl .nil) ?_
  refine W.seq ?_
  refine W.seq ?_
  refine W.region ?_
  refine SL.val (O.move rfl rfl Taken.no) ?_
  refine SL.val (O.move rfl rfl Taken.no) ?_
  refine SL.val (O.det (fun _ => G.R.mv (G.R.neq rfl rfl) (congrArg Value.bool (decide_eq_false (by exact fun q => q rfl)))) rfl Taken.no) ?_
  refine SL.val (O.move rfl rfl Taken.no) ?_
  have hg2 : false = false := by decide
  refine SL.val (O.move rfl rfl (Taken.yes rfl rfl hg2)) ?_
  refine SL.val (O.move rfl rfl (Taken.yes rfl rfl hg2)) ?_
  refine SL.val (O.callp rfl rfl rfl (bequal_h (l1 := readD l) (l2 := readD l)) (.cons (ArgOk.same rfl) (.cons (ArgOk.same rfl) .nil)) hcallOk14 rfl (Taken.yes rfl rfl hg2)) ?_
  refine SL.as (i' := vB true) 59 rfl (by exact iv_bool (decide_eq_true rfl)) ?_
  refine SL.val (O.det (fun _ => G.R.mv (G.R.not rfl) rfl) rfl (Taken.yes rfl rfl hg2)) ?_
  refine SL.val (O.pick_f rfl rfl rfl rfl Taken.no) ?_
  refine SL.val (O.move rfl rfl Taken.no) ?_
  have hg3 : false = false := by decide
  refine SL.val (O.move rfl rfl (Taken.yes rfl rfl hg3)) ?_
  refine SL.val (O.move rfl rfl (Taken.yes rfl rfl hg3)) ?_
  refine SL.val (O.det (fun _ => G.R.mv (G.R.neq rfl rfl) (congrArg Value.bool (decide_eq_false (by exact fun q => q rfl)))) rfl (Taken.yes rfl rfl hg3)) ?_
  refine SL.val (O.pick_f rfl rfl rfl rfl Taken.no) ?_
  refine SL.val (O.move rfl rfl Taken.no) ?_
  have hg4 : false = false := by decide
  refine SL.val (O.move rfl rfl (Taken.yes rfl rfl hg4)) ?_
  refine SL.val (O.move rfl rfl (Taken.yes rfl rfl hg4)) ?_
  refine SL.val (O.callp rfl rfl rfl (bequal_h (l1 := makeL n l) (l2 := makeL n l)) (.cons (ArgOk.same rfl) (.cons (ArgOk.same rfl) .nil)) hcallOk14 rfl (Taken.yes rfl rfl hg4)) ?_
  refine SL.as (i' := vB true) 70 rfl (by exact iv_bool (decide_eq_true rfl)) ?_
  refine SL.val (O.det (fun _ => G.R.mv (G.R.not rfl) rfl) rfl (Taken.yes rfl rfl hg4)) ?_
  refine SL.val (O.pick_f rfl rfl rfl rfl Taken.no) ?_
  refine SL.val (O.move rfl rfl Taken.no) ?_
  have hg5 : false = false := by decide
  refine SL.val (O.move rfl rfl (Taken.yes rfl rfl hg5)) ?_
  refine SL.val (O.move rfl rfl (Taken.yes rfl rfl hg5)) ?_
  refine SL.val (O.det (fun _ => G.R.mv (G.R.neq rfl rfl) (congrArg Value.bool (decide_eq_false (by exact fun q => q rfl)))) rfl (Taken.yes rfl rfl hg5)) ?_
  refine SL.val (O.pick_f rfl rfl rfl rfl Taken.no) ?_
  refine SL.nil ?_
  refine E.to ?_
  refine W.pick (.cons (t := 0) rfl (.cons (t := 1) rfl (.cons (t := 5) rfl (.cons (t := 6) rfl (.cons (t := 13) rfl (.cons (t := 14) rfl (.cons (t := 77) rfl .nil))))))) (.cons (t := 101) rfl .nil) ?_
  refine W.cond_f rfl ?_
  refine W.skip ?_
  refine E.to ?_
  refine W.seq ?_
  refine W.seq ?_
  refine W.region ?_
  refine SL.val (O.move rfl rfl Taken.no) ?_
  refine SL.val (O.det (fun _ => G.R.neq rfl rfl) rfl Taken.no) ?_
  refine SL.nil ?_
  refine E.to ?_
  first | refine W.cond_d rfl (fun hc6 => ?_) (fun hc6 => ?_) | refine W.cond_nd rfl (fun hc6 => ?_) (fun hc6 => ?_) | refine W.cond rfl (fun hc6 => ?_) (fun hc6 => ?_)
  ·skip
   refine W.seq ?_
   refine W.region ?_
   refine SL.val (O.move rfl rfl Taken.no) ?_
   refine SL.val (O.lenE (SlOf.fz rfl (by decide)) (by first | exact List.length_map _ | rfl) Try.underlying22 rfl Taken.no) ?_
   refine SL.val (O.det (fun _ => G.R.eql rfl rfl) rfl Taken.no) ?_
   refine SL.val (O.assign rfl rfl Taken.no) ?_
   refine SL.nil ?_
   refine E.to ?_
   refine W.ret ?_
   refine E.thr ?_
   refine E.fin (rs := [_]) (rn []) (.inl rfl) rfl (.cons (ResOne.tmp rfl) .nil) ?_ ?_ rfl (fixL_spec rfl)
   ·skip
    have hm0 : makeL n l = [] := by unfold makeL; exact if_neg (by omega)
    rw [hm0]; rfl
   · exact SubS.nil
  ·skip
   have hE : makeE n l = 0 := by omega
   have hn : ¬ (n < 0 ∨ 1000000000 < n) := fun q => by rw [(make_2 q).1] at hE; exact absurd hE (by decide)
   have hm := make_0 (d := l) hn (by omega)
   have hml := mk_len (d := l) (n := n) (by omega)
   have hrm := read_mk (n := n) (d := l) (by omega) (by omega)
   rw [hm.2]
   have hm0 := Int.emod_nonneg (a.toNat : Int) (show ((Go.D21.mk n l).length : Int) ≠ 0 by omega)
   have hm1 := Int.emod_lt_of_pos (a.toNat : Int) (show 0 < ((Go.D21.mk n l).length : Int) by omega)
   obtain ⟨r, hr⟩ : ∃ r : Nat, (a.toNat : Int) % ((Go.D21.mk n l).length : Int) = r := ⟨((a.toNat : Int) % ((Go.D21.mk n l).length : Int)).toNat, by omega⟩
   refine W.skip ?_
   refine E.to ?_
   refine W.seq ?_
   refine W.region ?_
   refine SL.val (O.move rfl rfl Taken.no) ?_
   refine SL.memS (O.call (rn []) [] rfl rfl rfl (read_h (l := (Go.D21.mk n l)) (by omega)) (.cons (ArgOk.same rfl) .nil) SubS.nil rfl rfl rfl rfl rfl (.inl rfl) hcallOk10 (r' := .tup [.u _, .u _, .u _]) rfl rfl Taken.no) rfl rfl (S' := _) rfl ?_
   refine SL.as (i' := .tup [vI n, vL 1 (l.map eB), vI 0]) 85 rfl (by rw [hrm.2.1, hrm.2.2, readE_0.2 hrm.1]) ?_
   refine SL.val (O.move rfl rfl Taken.no) ?_
   refine SL.val (O.extract rfl rfl rfl Taken.no) ?_
   refine SL.val (O.extract rfl rfl rfl Taken.no) ?_
   refine SL.val (O.extract rfl rfl rfl Taken.no) ?_
   refine SL.val (O.assign rfl rfl Taken.no) ?_
   refine SL.val (O.assign rfl rfl Taken.no) ?_
   refine SL.val (O.assign rfl rfl Taken.no) ?_
   refine SL.nil ?_
   refine E.to ?_
   refine W.seq ?_
   refine W.region ?_
   refine SL.memS (O.buildSlice 102 (rows := ([] : Bs).map eB) rfl rfl Try.underlying22 hi5 hz5 hs5 (by decide) rfl (by decide) rfl rfl rfl Taken.no) rfl rfl (S' := (102, .data 5 1 (([] : Bs).map eB)) :: _) rfl ?_
   refine SL.val (O.move rfl rfl Taken.no) ?_
   refine SL.memS (O.app (k' := 103) rfl rfl (SlOf.fz rfl (by decide)) Try.underlying22 hi5 hz5 hs5 rfl rfl (by exact List.nil_append _) (by rw [hb5]; (simp only [List.length_map, List.length_nil]; omega)) (by (simp only [List.length_map, List.length_nil]; omega)) rfl Taken.no) rfl rfl (S' := (103, _) :: (102, .dead) :: _) rfl ?_
   refine SL.val (O.assign rfl rfl Taken.no) ?_
   refine SL.nil ?_
   refine E.to ?_
   refine W.seq ?_
   refine W.seq ?_
   refine W.region ?_
   refine SL.val (O.move rfl rfl Taken.no) ?_
   refine SL.val (O.lenE (SlOf.own rfl rfl) (by first | exact List.length_map _ | rfl) Try.underlying22 rfl Taken.no) ?_
   refine SL.val (O.det (fun _ => G.R.mv (G.R.eql rfl rfl) (congrArg Value.bool (decide_eq_false (by omega)))) rfl Taken.no) ?_
   refine SL.nil ?_
   refine E.to ?_
   refine W.pick (.cons (t := 0) rfl (.cons (t := 1) rfl (.cons (t := 5) rfl (.cons (t := 6) rfl (.cons (t := 17) rfl (.cons (t := 18) rfl (.cons (t := 19) rfl (.cons (t := 20) rfl (.cons (t := 94) rfl .nil))))))))) (.cons (t := 101) rfl (.cons (t := 103) rfl .nil)) ?_
   refine W.cond_f rfl ?_
   refine W.skip ?_
   refine E.to ?_
   refine W.seq ?_
   refine W.draw [⟨[], [], [], [103]⟩, ⟨[], [], [], [101]⟩, ⟨[101], [], [], []⟩, ⟨[], [], [], []⟩, ⟨[], [], [], [103]⟩, ⟨[103], [], [], []⟩, ⟨[], [], [], []⟩, ⟨[103], [], [], []⟩, ⟨[103], [], [], []⟩, ⟨[], [], [], [101]⟩, ⟨[101], [], [], []⟩, ⟨[], [], [], []⟩, ⟨[103], [], [], []⟩, ⟨[103], [103], [], []⟩] rfl (by kernel_rfl) (by kernel_rfl) rfl rfl ?_
   refine WH.val (O.move rfl rfl Taken.no) rfl rfl ?_
   refine WH.val (O.idx_ref (i := 0) (m := 1) rfl rfl (rfl) (by decide) Try.underlying23 (by kernel_rfl) rfl rfl Taken.no) rfl rfl ?_
   refine WH.val (O.ld1 (PtI.ref rfl rfl) rfl Try.underlying5 rfl rfl Taken.no) rfl rfl ?_
   refine WH.val (O.det (fun _ => G.R.mv (G.R.conv64 rfl Try.underlying5 Try.underlying3 (by omega)) rfl) rfl Taken.no) rfl rfl ?_
   refine WH.val (O.move rfl rfl Taken.no) rfl rfl ?_
   refine WH.val (O.lenE (SlOf.own rfl rfl) (by first | exact List.length_map _ | rfl) Try.underlying22 rfl Taken.no) rfl rfl ?_
   refine WH.val (O.det (fun _ => G.R.mv (G.R.rem0 rfl rfl (by omega) (by omega)) (congrArg (Value.int .i64) hr)) rfl Taken.no) rfl rfl ?_
   refine WH.val (O.idx_own (i := r) rfl rfl rfl (rfl) (by rw [List.length_map]; omega) Try.underlying22 hi5 hs5 rfl Taken.no) rfl rfl ?_
   refine WH.val (O.ld1 (PtI.ofU (PtU.el rfl rfl (row_get (by omega)))) rfl Try.underlying5 rfl rfl Taken.no) rfl rfl ?_
   refine WH.val (O.idx_ref (i := 1) (m := 1) rfl rfl (rfl) (by decide) Try.underlying23 (by kernel_rfl) rfl rfl Taken.no) rfl rfl ?_
   refine WH.val (O.ld1 (PtI.ref rfl rfl) rfl Try.underlying5 rfl rfl Taken.no) rfl rfl ?_
   refine WH.val (O.det (fun _ => G.R.mv (G.R.xor rfl rfl) (congrArg (Value.int .u8) (Go.D02.xor8 _ _))) rfl Taken.no) rfl rfl ?_
   refine WH.val (O.idx_own (i := r) rfl rfl rfl (rfl) (by rw [List.length_map]; omega) Try.underlying22 hi5 hs5 rfl Taken.no) rfl rfl ?_
   refine WH.effS (O.st_els (m := 1) rfl rfl rfl (us := [_]) rfl rfl (by kernel_rfl) (by simp) (row_get (by omega)) (by exact Nat.le_of_ble_eq_true rfl) rfl rfl (rows' := ((Go.D21.mk n l).set r ((Go.D21.mk n l)[r]! ^^^ c)).map eB) (by exact set_map rfl) Taken.no) rfl rfl rfl (S' := (103, _) :: _) rfl ?_
   refine WH.nil ?_
   refine E.to ?_
   refine W.seq ?_
   refine W.region ?_
   refine SL.val (O.move rfl rfl Taken.no) ?_
   refine SL.freeze 103 rfl (F' := [(20, _), (95, _), (99, _), (109, _)]) (⟨⟨_, rfl, rfl⟩, ⟨_, rfl, rfl⟩, ⟨_, rfl, rfl⟩, ⟨_, rfl, rfl⟩, trivial⟩) ?_
   refine SL.memS (O.call (rn []) [] rfl rfl rfl (read_h (l := ((Go.D21.mk n l).set r ((Go.D21.mk n l)[r]! ^^^ c))) (by rw [List.length_set]; omega)) (.cons (ArgOk.same rfl) .nil) SubS.nil rfl rfl rfl rfl rfl (.inl rfl) hcallOk10 (r' := .tup [.u _, .u _, .u _]) rfl rfl Taken.no) rfl rfl (S' := _) rfl ?_
   refine SL.val (O.move rfl rfl Taken.no) ?_
   refine SL.val (O.extract rfl rfl rfl Taken.no) ?_
   refine SL.val (O.extract rfl rfl rfl Taken.no) ?_
   refine SL.val (O.extract rfl rfl rfl Taken.no) ?_
   refine SL.val (O.assign rfl rfl Taken.no) ?_
   refine SL.val (O.assign rfl rfl Taken.no) ?_
   refine SL.val (O.assign rfl rfl Taken.no) ?_
   refine SL.nil ?_
   refine E.to ?_
   refine W.pick (.cons (t := 0) rfl (.cons (t := 1) rfl (.cons (t := 5) rfl (.cons (t := 6) rfl (.cons (t := 17) rfl (.cons (t := 18) rfl (.cons (t := 19) rfl (.cons (t := 23) rfl .nil)))))))) (.cons (t := 101) rfl .nil) ?_
   refine W.seq ?_
   refine W.region ?_
   refine SL.val (O.move rfl rfl Taken.no) ?_
   refine SL.val (O.det (fun _ => G.R.mv (G.R.eql rfl rfl) (congrArg Value.bool (decide_eq_true (by rfl)))) rfl Taken.no) ?_
   refine SL.val (O.move rfl rfl Taken.no) ?_
   have hg7 : true = true := by decide
   refine SL.val (O.move rfl rfl (Taken.yes rfl rfl hg7)) ?_
   refine SL.val (O.move rfl rfl (Taken.yes rfl rfl hg7)) ?_
   refine SL.val (O.det (fun _ => G.R.mv (G.R.eql rfl rfl) (congrArg Value.bool (decide_eq_true (by rfl)))) rfl (Taken.yes rfl rfl hg7)) ?_
   refine SL.val (O.pick_t rfl rfl rfl rfl Taken.no) ?_
   refine SL.val (O.move rfl rfl Taken.no) ?_
   have hg8 : true = true := by decide
   refine SL.val (O.move rfl rfl (Taken.yes rfl rfl hg8)) ?_
   refine SL.val (O.move rfl rfl (Taken.yes rfl rfl hg8)) ?_
   refine SL.val (O.callp rfl rfl rfl (bequal_h (l1 := l) (l2 := l)) (.cons (ArgOk.same rfl) (.cons (ArgOk.same rfl) .nil)) hcallOk14 rfl (Taken.yes rfl rfl hg8)) ?_
   refine SL.as (i' := vB true) 124 rfl (by exact iv_bool (decide_eq_true rfl)) ?_
   refine SL.val (O.pick_t rfl rfl rfl rfl Taken.no) ?_
   refine SL.val (O.move rfl rfl Taken.no) ?_
   have hg9 : true = true := by decide
   refine SL.val (O.idx_ref (i := 1) (m := 1) rfl rfl (rfl) (by decide) Try.underlying23 (by kernel_rfl) rfl rfl (Taken.yes rfl rfl hg9)) ?_
   refine SL.val (O.ld1 (PtI.ref rfl rfl) rfl Try.underlying5 rfl rfl (Taken.yes rfl rfl hg9)) ?_
   refine SL.val (O.det (fun _ => G.R.eql rfl rfl) rfl (Taken.yes rfl rfl hg9)) ?_
   refine SL.val (O.move rfl rfl (Taken.yes rfl rfl hg9)) ?_
   refine SL.case (j := 16) (g := 130) (want := false) rfl rfl (fun hg10 => ?_) (fun hg10 => ?_)
   ·skip
    first | have hg10p := G.gA3 hg10 | have hg10p := G.gA4 hg10 | have hg10p := hg10
    have hc0 : c ≠ 0 := fun e => by subst e; simp_all
    have hbad : ¬ rdOk ((Go.D21.mk n l).set r ((Go.D21.mk n l)[r]! ^^^ c)) := bad_seal (by show r < (Go.D21.mk _ _).length; omega) hc0
    have h5 := (read_no hbad).1
    refine SL.val (O.move rfl rfl (Taken.yes rfl rfl hg10)) ?_
    refine SL.val (O.det (fun _ => G.R.mv (G.R.eql rfl rfl) (congrArg Value.bool (decide_eq_true (by exact h5)))) rfl (Taken.yes rfl rfl hg10)) ?_
    refine SL.val (O.pick_f rfl hg10 rfl rfl (Taken.yes rfl rfl hg9)) ?_
    refine SL.val (O.pick_t rfl rfl rfl rfl Taken.no) ?_
    refine SL.val (O.assign rfl rfl Taken.no) ?_
    refine SL.nil ?_
    refine E.to ?_
    refine W.pick (.cons (t := 6) rfl .nil) (.cons (t := 101) rfl .nil) ?_
    refine W.ret ?_
    refine E.fin (rs := [_]) (rn []) (.inl rfl) rfl (.cons (ResOne.tmp rfl) .nil) ?_ ?_ rfl (fixL_spec rfl)
    ·skip
     first | rfl | simp_all
    · exact SubS.nil
   ·skip
    first | have hg10p := G.gA7 hg10 | have hg10p := G.gA8 hg10 | have hg10p := hg10
    refine SL.skip (OpOk.not rfl rfl rfl hg10) ?_
    refine SL.skip (OpOk.not rfl rfl rfl hg10) ?_
    refine SL.val (O.pick_t rfl (G.ne_f hg10) rfl rfl (Taken.yes rfl rfl hg9)) ?_
    refine SL.val (O.pick_t rfl rfl rfl rfl Taken.no) ?_
    refine SL.val (O.assign rfl rfl Taken.no) ?_
    refine SL.nil ?_
    refine E.to ?_
    refine W.pick (.cons (t := 6) rfl .nil) (.cons (t := 101) rfl .nil) ?_
    refine W.ret ?_
    refine E.fin (rs := [_]) (rn []) (.inl rfl) rfl (.cons (ResOne.tmp rfl) .nil) ?_ ?_ rfl (fixL_spec rfl)
    ·skip
     first | rfl | simp_all
    · exact SubS.nil

end Go.Proofs.Ytemclhhlafjohaa
