/-
  What the proof rests on: part 1 of 14.
-/
import Derived.WalkKit
import Derived.StillTail
import Derived.Deep.Draws
section
theorem xA {p : Prop} (h : p := by omega) : p := h
theorem xB {p : Prop} (h : p := by first | (rw [fld_1 (by assumption)]; rfl) | (rw [fld_c (by first | exact .inl (by assumption) | exact .inr (.inl (by assumption)) | exact .inr (.inr (by assumption)))]; rfl) | (rw [fld_3 (by assumption)]; rfl) | (rw [fld_6 (by assumption)]; rfl) | (rw [fld_7 (by assumption)]; rfl) | (rw [fld_8 (by assumption)]; rfl) | (rw [fld_no xA]; rfl)) : p := h
theorem xC {p : Prop} (h : p := by exact (SubS.val rfl (by (try dsimp only); first | (first | (rw [cnt_y (p := 1) xA xA, cnt_n (p := 2) xA xA, cnt_n (p := 3) xA xA]; rfl) | (rw [cnt_n (p := 1) xA xA, cnt_n (p := 2) xA xA, cnt_n (p := 3) xA xA]; rfl)) | (first | (rw [cnt_n (p := 1) xA xA, cnt_y (p := 2) xA xA, cnt_n (p := 3) xA xA]; rfl) | (rw [cnt_n (p := 1) xA xA, cnt_n (p := 2) xA xA, cnt_n (p := 3) xA xA]; rfl)) | (first | (rw [cnt_n (p := 1) xA xA, cnt_n (p := 2) xA xA, cnt_y (p := 3) xA xA]; rfl) | (rw [cnt_n (p := 1) xA xA, cnt_n (p := 2) xA xA, cnt_n (p := 3) xA xA]; rfl))) (SubS.cons rfl (SubS.cons rfl SubS.nil)))) : p := h
theorem xD {p : Prop} (h : p := by exact (SubF.cons rfl (SubF.val rfl (by (try dsimp only); first | (rw [rec_yes hb (by first | assumption | omega | simp_all) (by first | assumption | omega | simp_all) (by first | assumption | exact nt_f (by assumption) | simp_all) (fun i hi => by first | (cases hi; done) | (cases hi; omega) | simp_all)]; rfl) | (rw [rec_nop hb (by rintro ⟨z1, z2, z3, z4⟩; first | omega | (have z5 := z4 _ rfl; first | omega | (simp_all; done)) | (simp_all; done))] <;> rfl)) (SubF.cons rfl (SubF.cons rfl (SubF.cons rfl SubF.nil)))))) : p := h
theorem xE {p : Prop} (h : p := by exact (SubF.cons rfl (SubF.val rfl (by (try dsimp only); first | (rw [rec_yes hb (by first | assumption | omega | simp_all) (by first | assumption | omega | simp_all) (by first | assumption | exact nt_f (by assumption) | simp_all) (fun i hi => by first | (cases hi; done) | (cases hi; omega) | simp_all)]; rfl) | (rw [rec_nop hb (by rintro ⟨z1, z2, z3, z4⟩; first | omega | (have z5 := z4 _ rfl; first | omega | (simp_all; done)) | (simp_all; done))]; rfl)) (SubF.cons rfl (SubF.cons rfl (SubF.cons rfl SubF.nil)))))) : p := h
theorem xF {p : Prop} (h : p := by first | (rw [(do_bad hdo hne).1, (do_bad hdo hne).2, hse]; rfl) | (rw [(do_good hdo hz).1, (do_good hdo hz).2, hss]; rfl)) : p := h
theorem xH {p : Prop} (h : p := by simp [Op.operands]) : p := h
theorem xI {p : Prop} (h : p := by decide) : p := h
theorem xJ {p : Prop} (h : p := by exact iv_bool (dec_f fun q => by have q4 := q.1 i xA; unfold lnR at q4; obtain ⟨q5, q6, q7, q8, q9, q10, q11⟩ := q4; first | omega | (have q12 := q6 xA; omega) | (simp_all; done) | (simp_all; omega))) : p := h
theorem xK {p : Prop} (h : p := by assumption) : p := h
theorem xL {p : Prop} (h : p := by first | exact iv_bool (dec_f (fun q => by rcases q.2.2.2 with q | q | q <;> first | omega | (unfold inB at *; omega) | (unfold inB at *; simp_all; done))) | exact iv_bool (dec_b ⟨fun q => by rcases q.2.2.2 with q | q | q <;> first | omega | (rw [q.2.2.2.2]; rfl), fun z => ⟨hb.1, hb.2.1, hb.2.2, .inr (.inr ⟨xA, by first | assumption | simp_all, by first | assumption | simp_all, by unfold inB at *; omega, nt_f z⟩)⟩⟩)) : p := h
theorem xM {p : Prop} (h : p := by exact iv_bool (by unfold goodH; first | exact dec_iff xA | exact dec_t xA | exact dec_f xA)) : p := h
theorem xN {p : Prop} (h : p := by first | omega | (simp only [List.length_map, Nat.le_refl, Nat.zero_le] <;> omega) | (simp <;> omega)) : p := h
theorem xO {p : Prop} (h : p := by exact iv_bool (dec_f fun q => by have q4 := ((validR_iff s).2 q).2.2.1 k xA; unfold vCpR at q4; obtain ⟨q5, q6, q7, q8⟩ := q4; first | omega | (have q9 := q6 xA; omega) | (simp_all; done) | (simp_all; omega))) : p := h
theorem xP {p : Prop} (h : p := by exact Nat.le_of_ble_eq_true rfl) : p := h
theorem xQ {p : Prop} (h : p := by exact (SubF.cons rfl (SubF.val rfl (by (try dsimp only); first | exact iv_bool (wS_t hA).symm | exact iv_bool (wS_b hA).symm | exact iv_bool (wS_t hA) | exact iv_bool (wS_b hA)) (SubF.cons rfl (SubF.cons rfl (SubF.cons rfl (SubF.cons rfl (SubF.cons rfl SubF.nil)))))))) : p := h
theorem xR {p : Prop} (h : p := by exact (SubS.val rfl (by (try dsimp only); first | exact sb_data (by rw [wS_1 hA hB]) | exact sb_data (by rw [wS_2 hA hB]) | exact sb_data (by rw [wS_3 hA hB]) | exact sb_data (by rw [wS_4 hA hB])) (SubS.cons rfl (SubS.cons rfl SubS.nil)))) : p := h
theorem xS {p : Prop} (h : p := by rw [List.length_map]; omega) : p := h
theorem xT {p : Prop} (h : p := by (try dsimp only); omega) : p := h
theorem xU {p : Prop} (h : p := by first | exact iv_bool (dec_f (fun q => by rcases q.2.2.2 with q | q | q <;> first | omega | (unfold inB at *; omega) | (unfold inB at *; simp_all; done))) | exact iv_bool (dec_iff ⟨fun q => by rcases q.2.2.2 with q | q | q <;> omega, fun z => ⟨hb.1, hb.2.1, hb.2.2, .inr (.inl ⟨xA, by first | assumption | simp_all, by unfold inB at *; omega, z⟩)⟩⟩)) : p := h
theorem xV {p : Prop} (h : p := by first | assumption | simp_all) : p := h
theorem xW {p : Prop} (h : p := by exact (SubS.val rfl (by rw [(len_e0 (s := s) (x := x)  hb (fun z => z hx) hbb hbe hb5 hbd).2] <;> rfl) (SubS.val rfl (by exact sb_data (by rw [(len_e0 (s := s) (x := x)  hb (fun z => z hx) hbb hbe hb5 hbd).2]; exact lt_fin)) (SubS.val rfl (by exact sb_data (by rw [(len_e0 (s := s) (x := x)  hb (fun z => z hx) hbb hbe hb5 hbd).2] <;> rfl)) SubS.nil)))) : p := h
theorem xX {p : Prop} (h : p := by first | omega | (simp only [List.length_map]; omega) | (simp <;> omega)) : p := h
theorem xY {p : Prop} (h : p := by exact iv_bool (dec_f fun q => by have q4 := q.2.2.2.2.1 i xA; unfold vLn at q4; obtain ⟨q5, q6, q8, q9⟩ := q4; first | omega | (have q7 := q6 xA; omega) | (simp_all; done) | (simp_all; omega))) : p := h
theorem xZ {p : Prop} (h : p := by simp only [List.length_set, List.length_map]; omega) : p := h
theorem yA {p : Prop} (h : p := by exact iv_bool (dec_f fun q => by have q1 := nmB_i.1 (q.2.2.2 _ (at_mem (show k < l.length by omega))); have q2 := lowB_i.1 q.2.2.1; first | omega | ((obtain rfl : k = 0 := xA); omega))) : p := h
theorem yB {p : Prop} (h : p := by first | exact List.length_map _ | rfl) : p := h
theorem yC {p : Prop} (h : p := by first | rfl | omega) : p := h
theorem yD {p : Prop} (h : p := by first | exact iv_bool (dec_f (fun q => by rcases q.2.2.2 with q | q | q <;> omega)) | exact iv_bool (dec_b ⟨fun q => by rcases q.2.2.2 with q | q | q <;> first | omega | (rw [q.2.2.2.2]; rfl), fun z => ⟨hb.1, hb.2.1, hb.2.2, .inl ⟨xA, xA, xA, xA, nt_f z⟩⟩⟩)) : p := h
theorem yE {p : Prop} (h : p := by simp) : p := h
theorem yF {p : Prop} (h : p := by first | exact iv_bool (by rw [nm_y xK]; rfl) | exact iv_bool (by rw [nm_d xA xA]; rfl) | exact iv_bool (by rw [nm_c (nt_f xK) xA]; rw [← decide_not]; exact decide_eq_decide.2 xA) | exact iv_bool (by rw [nm_y (by first | exact nt_t xK | exact nt_t2 xK)]; rfl)) : p := h
theorem yG {p : Prop} (h : p := by exact ⟨xA, fun j h => xA⟩) : p := h
theorem yH {p : Prop} (h : p := by exact (SubS.val rfl (by (try dsimp only); first | exact sb_data (by rw [late_y hla]) | exact sb_data (by rw [late_n hla])) (SubS.val rfl (by (try dsimp only); first | exact sb_data (by rw [late_y hla]) | exact sb_data (by rw [late_n hla])) (SubS.val rfl (by (try dsimp only); first | (rw [late_y hla] <;> rfl) | (rw [late_n hla] <;> rfl)) (SubS.cons rfl SubS.nil))))) : p := h
theorem yI {p : Prop} (h : p := by (simp only [List.length_map, List.length_singleton]; omega)) : p := h
theorem yJ {p : Prop} (h : p := by first | exact iv_bool (dec_f (fun q => hne q.1)) | exact iv_bool (dec_f (fun q => by have := q.2.1; omega)) | exact iv_bool (dec_f (fun q => by have := q.2.2.1; simp_all)) | exact iv_bool (nm_fin hne xA (by simp_all))) : p := h
theorem yK {p : Prop} (h : p := by rw [hb121]; first | omega | (simp only [List.length_map]; omega) | (simp <;> omega)) : p := h
theorem yL {p : Prop} (h : p := by exact ⟨xA, upto_s hp ⟨by first | assumption | simp_all, fun h0 => by first | omega | (simp_all; omega), by first | (rintro ⟨z1, z2⟩; first | omega | (simp_all; done)) | simp_all, xA⟩⟩) : p := h
theorem yM {p : Prop} (h : p := by first | exact iv_bool (dec_iff ⟨fun z => by have := z.2.2; omega, fun z => ⟨fun j hj => hp j xA, fun j hj => hq j xA, xA, xA⟩⟩) | exact iv_bool (dec_f fun z => by have := z.2.2; omega)) : p := h
theorem yN {p : Prop} (h : p := by first | exact map_snoc rfl | exact app_map | exact List.nil_append _ | rfl) : p := h
theorem yO {p : Prop} (h : p := by constructor <;> (intro q; simp_all)) : p := h
theorem yP {p : Prop} (h : p := by exact (SubS.val rfl (by (try dsimp only); exact sb_data (by first | rw [srvR, if_pos xA] | rw [srvR, if_neg xA, if_pos xA] | rw [srvR, if_neg xA, if_neg xA])) (SubS.cons rfl SubS.nil))) : p := h
theorem yQ {p : Prop} (h : p := by first | exact iv_bool (dec_iff xA) | exact iv_bool (dec_t xA) | exact iv_bool (dec_f xA)) : p := h
theorem yR {p : Prop} (h : p := by first | (rw [(rem_e9 (s := s) (x := x)  hx).1, (rem_e9 (s := s) (x := x)  hx).2]; rfl) | (rw [(bak_e9 (s := s) (x := x)  hx).1, (bak_e9 (s := s) (x := x)  hx).2]; rfl) | (rw [(ren_e9 (s := s) (x := x)  hx).1, (ren_e9 (s := s) (x := x)  hx).2]; rfl)) : p := h
theorem yS {p : Prop} (h : p := by exact iv_bool (dec_f fun q => (q.1 i xA).2.2.2.2.2.2 k xA (by first | (left; omega) | (right; assumption) | (right; exact decide_eq_true xK) | (right; simp_all)))) : p := h
theorem yT {p : Prop} (h : p := by rfl) : p := h
theorem yU {p : Prop} (h : p := by simp_all) : p := h
theorem yV {p : Prop} (h : p := by first | omega | (simp only [List.length_map] <;> omega) | (simp <;> omega)) : p := h
theorem yW {p : Prop} (h : p := by exact iv_bool (valid_no (k := k) xA (fun h => h.2.2 j xA (by unfold likeH; first | (left; assumption) | (right; assumption) | simp_all)))) : p := h
theorem yX {p : Prop} (h : p := by exact Nat.le_refl _) : p := h
theorem yY {p : Prop} (h : p := by simp [Op.operands, Call.operands]) : p := h
theorem yZ {p : Prop} (h : p := by exact ⟨xA, upto_s hp (decide_eq_false (by rintro ⟨z1, z2⟩; omega))⟩) : p := h
theorem zA {p : Prop} (h : p := by rw [ht _ (by simp [IV.tags]), h]) : p := h
theorem zB {p : Prop} (h : p := by simp; omega) : p := h
theorem zC {p : Prop} (h : p := by exact (SubS.val rfl (by rw [List.length_map] at hbn1; rw [List.eq_nil_of_length_eq_zero (hbn1 xK)]; rfl) SubS.nil)) : p := h
theorem zD {p : Prop} (h : p := by exact ⟨xA, fun j hj => by rcases Nat.lt_succ_iff_lt_or_eq.1 hj with h | h; exact hp j h; subst h; simp_all⟩) : p := h
theorem zE {p : Prop} (h : p := by rw [hb69]; (simp only [List.length_map, List.length_singleton]; omega)) : p := h
theorem zF {p : Prop} (h : p := by exact (SubF.cons rfl (SubF.val rfl (by (try dsimp only); first | exact iv_bool (by rw [anyP_s xA]; simp_all) | exact iv_bool (by rw [anyP_s xA]; cases anyP ((queS s x.work).take k) x.pat <;> simp_all)) (SubF.cons rfl (SubF.cons rfl (SubF.cons rfl (SubF.cons rfl (SubF.cons rfl (SubF.cons rfl SubF.nil))))))))) : p := h
theorem zG {p : Prop} (h : p := by exact (SubS.val rfl (by (try dsimp only); first | exact sb_data (by rw [ids_n2 xA hno]) | exact sb_data (by rw [ids_y xA hye])) (SubS.cons rfl SubS.nil))) : p := h
theorem zH {p : Prop} (h : p := by exact SubF.au) : p := h
theorem zI {p : Prop} (h : p := by exact ⟨xA, valid_step hp ⟨by assumption, fun h0 => (by first | exact Decidable.not_not.1 (fun e => absurd ((cmpH_ge _ _).2 e) (by first | assumption | omega)) | (exfalso; simp_all <;> omega)), fun j hj hl => absurd ((hlt xA).2 ⟨j, hj, hl⟩) (by first | assumption | omega)⟩⟩) : p := h
theorem zJ {p : Prop} (h : p := by exact ⟨xA, upto_s hp (decide_eq_false xA)⟩) : p := h
theorem zK {p : Prop} (h : p := by exact iv_bool (dec_f fun q => by have q1 := q.1; have q2 := q.2.1; have q3 := q.2.2.1; first | omega | (simp_all; done) | (simp_all; omega))) : p := h
theorem zL {p : Prop} (h : p := by exact iv_bool (by unfold likeH; first | exact dec_iff xA | exact dec_t xA | exact dec_f xA)) : p := h
theorem zM {p : Prop} (h : p := by exact (SubS.val rfl (by (try dsimp only); first | (rw [late_y hla] <;> rfl) | (rw [late_n hla] <;> rfl)) (SubS.cons rfl SubS.nil))) : p := h
theorem zN {p : Prop} (h : p := by exact (SubF.cons rfl (SubF.val rfl (by (try dsimp only); first | exact iv_int (by rw [keep_n xA hp1]) | exact iv_int (by rw [keep_y xA hp0, List.length_append, List.length_singleton]; omega)) (SubF.cons rfl (SubF.cons rfl (SubF.cons rfl SubF.nil)))))) : p := h
theorem zO {p : Prop} (h : p := by exact ⟨xA, fun j hj => by rcases Nat.lt_succ_iff_lt_or_eq.1 hj with h | h; exact hp j h; subst h; exact decide_eq_false xK⟩) : p := h
theorem zP {p : Prop} (h : p := by exact sb_data (by rw [show k = s.cps.length by omega, List.take_length])) : p := h
theorem zQ {p : Prop} (h : p := by rw [List.length_map, List.length_append, hdl, List.length_drop]; omega) : p := h
theorem zR {p : Prop} (h : p := by exact ⟨xA, upto_s hp ⟨nmB_i.2 xA, fun h0 => lowB_i.2 xA⟩⟩) : p := h
theorem zS {p : Prop} (h : p := by (try dsimp only); exact sb_data (by rw [take_s xA])) : p := h
theorem zT {p : Prop} (h : p := by exact app_map) : p := h
theorem zU {p : Prop} (h : p := by rw [hb65]; simp <;> omega) : p := h
theorem zV {p : Prop} (h : p := by rw [IV.tags]; exact IV.tagsL_mem (List.mem_of_getElem? h1) hk) : p := h
theorem zW {p : Prop} (h : p := by rw [eqSp]) : p := h
theorem zX {p : Prop} (h : p := by simp only [List.length_map]; omega) : p := h
theorem zY {p : Prop} (h : p := by exact (SubF.val rfl (by (try dsimp only); first | exact iv_int (by rw [posR, if_pos xK]; omega) | exact iv_int (by rw [posR, if_neg xK])) (SubF.cons rfl (SubF.cons rfl (SubF.cons rfl SubF.nil))))) : p := h
theorem zZ {p : Prop} (h : p := by first | exact iv_bool (dec_iff ⟨fun z => by have := z.2.1; omega, fun z => nm_mk xA xA (fun j hj => hp j xA)⟩) | exact iv_bool (dec_f fun q => by have q1 := List.length_pos_iff.2 q.1; omega)) : p := h
theorem wA {p : Prop} (h : p := by simpa using hl) : p := h
theorem wB {p : Prop} (h : p := by rw [hb96]; first | omega | (simp only [List.length_map]; omega) | (simp <;> omega)) : p := h
theorem wC {p : Prop} (h : p := by rw [List.take_zero, List.nil_append, Nat.zero_add, ← List.map_take, List.drop_zero, List.length_map, List.length_take, List.drop_replicate, Nat.min_eq_left hpl]; rfl) : p := h
theorem wD {p : Prop} (h : p := by exact iv_bool (dec_f fun q => by have q1 := q.1; have q2 := q.2.1; have q3 := q.2.2.1; simp_all)) : p := h
theorem wF {p : Prop} (h : p := by first | (rw [(bak_e11 (s := s) (x := x)  hx hp).1, (bak_e11 (s := s) (x := x)  hx hp).2]; rfl) | (rw [(ren_e11 (s := s) (x := x)  hx hp).1, (ren_e11 (s := s) (x := x)  hx hp).2]; rfl)) : p := h
theorem wG {p : Prop} (h : p := by exact ⟨xA, upto_s hqs ⟨by first | assumption | simp_all, fun h0 => by first | omega | (simp_all; omega), xA, by first | assumption | simp_all, xA, xA, fun m hm => hp m xA⟩⟩) : p := h
theorem wH {p : Prop} (h : p := by exact iv_bool (dec_f fun q => by have q4 := q.2.2.2.1 k xA; unfold vCp at q4; obtain ⟨q5, q6⟩ := q4; first | (have q7 := q6 xA; omega) | (simp_all; done) | (simp_all; omega))) : p := h
theorem wI {p : Prop} (h : p := by exact ⟨u, h1, h2.mono (Nat.le_refl _) hok (fun _ _ => rfl)⟩) : p := h
theorem wJ {p : Prop} (h : p := by exact ⟨e, by rw [lenS, e, if_neg xI]⟩) : p := h
theorem wK {p : Prop} (h : p := by exact iv_bool (by unfold earl; first | exact dec_iff xA | exact dec_t xA | exact dec_f xA)) : p := h
theorem wL {p : Prop} (h : p := by exact iv_bool (by unfold fewQ; first | exact dec_iff xA | exact dec_t xA | exact dec_f xA)) : p := h
theorem wM {p : Prop} (h : p := by exact (SubS.val rfl (by (try dsimp only); first | (rw [bestI_t (cmpI_neg.1 xK)]; rfl) | (rw [bestI_f (fun h => absurd (cmpI_neg.2 h) xK)]; rfl)) (SubS.cons rfl SubS.nil))) : p := h
theorem wN {p : Prop} (h : p := by simpa [Nat.blt_eq] using hd) : p := h
theorem wO {p : Prop} (h : p := by exact ⟨xA, valid_step hp ⟨by assumption, fun h0 => (by first | assumption | exact Decidable.not_not.1 xK | (exfalso; simp_all <;> omega)), fun j hj => hb j xA⟩⟩) : p := h
theorem wP {p : Prop} (h : p := by rw [hb3]; (simp only [List.length_map, List.length_singleton]; omega)) : p := h
theorem wQ {p : Prop} (h : p := by exact (SubF.val rfl (by (try dsimp only); first | exact iv_int (by rw [bestI_t xK]) | exact iv_int (by rw [bestI_f xK])) (SubF.cons rfl (SubF.cons rfl SubF.nil)))) : p := h
theorem wR {p : Prop} (h : p := by first | exact iv_bool (valid_no (k := k) xA (fun h => absurd h.1 xK)) | exact iv_bool (valid_no (k := k) xA (fun h => absurd (h.2.1 xA) ((cmpH_ge _ _).1 xK)))) : p := h
theorem wT {p : Prop} (h : p := by simp <;> omega) : p := h
theorem wU {p : Prop} (h : p := by rw [decide_eq_false e]; decide) : p := h
theorem wV {p : Prop} (h : p := by exact (SubS.val rfl (by (try dsimp only); first | exact sb_data (by rw [ids_n2 xA xK]) | exact sb_data (by rw [ids_y xA xK])) (SubS.cons rfl SubS.nil))) : p := h
theorem wW {p : Prop} (h : p := by exact SubS.au) : p := h
theorem wX {p : Prop} (h : p := by exact (SubS.val rfl (by exact sb_data (by rw [List.take_zero]; rfl)) SubS.nil)) : p := h
theorem wY {p : Prop} (h : p := by exact (SubS.val rfl (by (try dsimp only); first | exact sb_data (by rw [hC_y xA xA]) | exact sb_data (by rw [hC_n xA xA])) (SubS.cons rfl SubS.nil))) : p := h
theorem wZ {p : Prop} (h : p := by first | exact iv_bool (or_f xK) | exact iv_bool (or_t xK) | exact iv_bool (or_f (decide_eq_false xA)) | exact iv_bool (or_t (decide_eq_true xA))) : p := h
theorem vC {p : Prop} (h : p := by rintro (q | ⟨q1, q2⟩) <;> simp_all) : p := h
theorem vD {p : Prop} (h : p := by exact ⟨xA, upto_s hp (by rintro (z | z) <;> first | omega | exact absurd (of_decide_eq_true z) xK | exact absurd z xK | (simp_all; done))⟩) : p := h
theorem vE {p : Prop} (h : p := by first | exact iv_bool (valid_no (k := k) xA (fun h => absurd h.1 xK)) | exact iv_bool (valid_no (k := k) xA (fun h => absurd (h.2.1 xA) xK))) : p := h
theorem vF {p : Prop} (h : p := by simp [IV.tags]) : p := h
theorem vG {p : Prop} (h : p := by exact (SubS.val rfl (by (try dsimp only); first | exact sb_data (by rw [dl_n xA hp1]) | exact sb_data (by rw [dl_y xA hp0])) SubS.nil)) : p := h
theorem vJ {p : Prop} (h : p := by exact fun z => z rfl) : p := h
theorem vK {p : Prop} (h : p := by exact distinct_inj hd (lookS_look h1) (lookS_look h2) (h.inj _ _ _ _ b (hS.get h1) (hS.get h2) (SB.has_ren.2 h3) (SB.has_ren.2 h4))) : p := h
theorem vM {p : Prop} (h : p := by exact ⟨xA, fun j hj => by rcases Nat.lt_succ_iff_lt_or_eq.1 hj with e | e; exact hp j e; subst e; unfold likeH; simp_all [h0]⟩) : p := h
theorem vO {p : Prop} (h : p := by exact ⟨xA, fun i hi => by rcases Nat.lt_succ_iff_lt_or_eq.1 hi with h | h; exact hb i h; subst h; unfold likeH; simp_all⟩) : p := h
namespace Go.G
open Go Go.RowKit

abbrev Ext (w w' : World) : Prop := Below w.heap.size w w'
theorem Ext.rfl' (w : World) : Ext w w := Below.refl _ _
theorem Ext.draw (w : World) : Ext w { w with drawn := w.drawn + 1 } := ⟨rfl, rfl, rfl, Nat.le_refl _, fun _ _ => rfl⟩

inductive Info where
  | val (v : Value)
  | pred (φ : Value → World → Prop)

def Info.ok : Info → Value → World → Prop
  | .val v, u, _ => u = v
  | .pred φ, u, w => ∃ w1, Ext w1 w ∧ φ u w1


abbrev Frm := List (Nat × Info)

def look (t : Nat) : Frm → Option Info
  | [] => none
  | (s, v) :: r => match Nat.beq s t with
    | true => some v
    | false => look t r

def push (d : Option Nat) (i : Info) (F : Frm) : Frm :=
  match d with
  | some d => (d, i) :: F
  | none => F

def ev (F : Frm) : Operand → Option Value
  | .tmp t => match look t F with
    | some (.val v) => some v
    | _ => none
  | .const v => some v
  | .global g => some (.pointer (some ⟨g, 0, none⟩))
  | .func f => some (.func (.func f) #[] #[])

structure Fits (n : Nat) (a : Act) (F : Frm) (w : World) : Prop where
  size : a.tmps.size = n
  defers : a.defers = []
  get : ∀ t i, look t F = some i → ∃ u, a.tmps[t]? = some u ∧ i.ok u w


theorem beq_ne {s t : Nat} (h : s ≠ t) : Nat.beq s t = false := by
  cases hb : Nat.beq s t with
  | false => rfl
  | true => exact absurd (Nat.eq_of_beq_eq_true hb) h

theorem look_cons_ne {s t : Nat} {i : Info} {F : Frm} (h : s ≠ t) : look t ((s, i) :: F) = look t F := by simp [look, beq_ne h]
theorem look_cons_eq {t : Nat} {i : Info} {F : Frm} : look t ((t, i) :: F) = some i := by simp [look]




def Sub (F : Frm) : Frm → Prop
  | [] => True
  | (t, i) :: r => look t F = some i ∧ Sub F r



section
variable {n : Nat} {P : Program} {Q : Exit → Act → World → Prop} {F : Frm} {w : World}

def W (n : Nat) (P : Program) (c : Code) (Q : Exit → Act → World → Prop) (F : Frm) (w : World) : Prop := ∀ a, Fits n a F w → c.wp P Q a w
def WL (n : Nat) (P : Program) (ops : Array Oper) (Q : Exit → Act → World → Prop) (l : List Oper) (F : Frm) (w : World) : Prop := ∀ a, Fits n a F w → wpList P ops Q l a w
def E (n : Nat) (Q : Exit → Act → World → Prop) (e : Exit) (F : Frm) (w : World) : Prop := ∀ a, Fits n a F w → Q e a w







def args0 : Nat → List Value → Frm
  | _, [] => []
  | k, v :: r => (k, .val v) :: args0 (k + 1) r


end
end Go.G
end
section
namespace Go.G
open Go Go.RowKit

section
variable {n : Nat} {P : Program} {ops : Array Oper}

def givesUpon (P : Program) (w : World) (i : Info) : Result Next → Prop
  | .ok (.value u) w' => Ext w w' ∧ i.ok u w'
  | .ok .skip w' => Ext w w' ∧ i.ok undef w'
  | .ok (.enter f args) w' => Ext w w' ∧ Calls P f args w' (fun e w'' => ∃ v, e = .returned v ∧ Ext w' w'' ∧ i.ok v w'')
  | _ => False

def Gives (P : Program) (ops : Array Oper) (o : Oper) (a : Act) (w : World) (i : Info) : Prop :=
  if Region.wanted o (yielded ops a.tmps) then givesUpon P w i ((execOp a.eval o).run P w) else i.ok undef w

structure FitsOn (S : List Nat) (n : Nat) (a : Act) (F : Frm) (w : World) : Prop where
  size : a.tmps.size = n
  defers : a.defers = []
  get : ∀ t, t ∈ S → ∀ i, look t F = some i → ∃ u, a.tmps[t]? = some u ∧ i.ok u w

def dstOk (n : Nat) (o : Oper) : Bool := match o.dst with | some d => Nat.blt d n | none => true

def WD (n : Nat) (P : Program) (ops : Array Oper) (w0 : World) (Z : Frm → World → Prop) : List Oper → Frm → Prop
  | [], F => ∀ w, Ext w0 w → Z F w
  | o :: r, F => dstOk n o = true ∧ ∃ i : Info, (∀ a w, Ext w0 w → FitsOn (o.looksAt ops) n a F w → Gives P ops o a w i) ∧ WD n P ops w0 Z r (push o.dst i F)

def masks : List Oper → List Nat → List Nat
  | [], acc => acc
  | o :: r, acc => masks r (acc ++ [o.after.toList.foldl (fun s e => if Region.binds .any e then s ||| 2 ^ e.on ||| acc.getD e.on 0 else s) 0])

def Closed (ops : Array Oper) (listed : Array Bool) : Prop := ∀ j o, ops[j]? = some o → listed.getD j false = true → ∀ e ∈ o.after, Region.binds .any e = true → listed.getD e.on false = true

def MaskOk (ops : Array Oper) (acc : List Nat) : Prop := ∀ listed, Closed ops listed → ∀ j i, (acc.getD j 0).testBit i = true → listed.getD j false = true → listed.getD i false = true

theorem fold_bits (acc : List Nat) (l : List Edge) (i : Nat) : ∀ s : Nat, (l.foldl (fun s e => if Region.binds .any e then s ||| 2 ^ e.on ||| acc.getD e.on 0 else s) s).testBit i = true →
    s.testBit i = true ∨ ∃ e ∈ l, Region.binds .any e = true ∧ (i = e.on ∨ (acc.getD e.on 0).testBit i = true) := by
  induction l with
  | nil => intro s h; exact .inl (by simpa using h)
  | cons e l ih =>
    intro s h
    rw [List.foldl_cons] at h
    rcases ih _ h with h1 | ⟨e', he', hb, hh⟩
    · split at h1
      · rename_i hb
        rw [Nat.testBit_or, Nat.testBit_or, Bool.or_eq_true, Bool.or_eq_true] at h1
        rcases h1 with (h1 | h1) | h1
        · exact .inl h1
        · refine .inr ⟨e, by simp, hb, .inl ?_⟩
          rw [Nat.testBit_two_pow] at h1
          exact (of_decide_eq_true h1).symm
        · exact .inr ⟨e, by simp, hb, .inr h1⟩
      · exact .inl h1
    · exact .inr ⟨e', by simp [he'], hb, hh⟩

theorem masks_ok (ops : Array Oper) : ∀ (l : List Oper) (acc : List Nat), (∀ k, l[k]? = ops[acc.length + k]?) → MaskOk ops acc → MaskOk ops (masks l acc)
  | [], _, _, h => h
  | o :: l, acc, hl, h => by
    refine masks_ok ops l _ (fun k => ?_) ?_
    · have := hl (k + 1)
      simp only [List.getElem?_cons_succ] at this
      rw [this, List.length_append]
      congr 1
      simp; omega
    · intro listed hc j i hb hj
      rcases Nat.lt_trichotomy j acc.length with hlt | heq | hgt
      · rw [List.getD_eq_getElem?_getD, List.getElem?_append_left hlt, ← List.getD_eq_getElem?_getD] at hb
        exact h listed hc j i hb hj
      · subst heq
        rw [List.getD_eq_getElem?_getD, List.getElem?_append_right (Nat.le_refl _)] at hb
        simp only [Nat.sub_self, List.getElem?_cons_zero, Option.getD_some] at hb
        have ho : ops[acc.length]? = some o := by simpa using (hl 0).symm
        rcases fold_bits acc _ i 0 hb with h0 | ⟨e, he, hbd, hh⟩
        · simp at h0
        · have he1 := hc _ o ho hj e (by simpa using he) hbd
          rcases hh with rfl | hh
          · exact he1
          · exact h listed hc _ _ hh he1
      · rw [List.getD_eq_getElem?_getD, List.getElem?_append_right xA] at hb
        rw [List.getElem?_eq_none zB] at hb
        simp at hb

def namesOf (ops : Array Oper) (o : Oper) : List Nat := o.looksAt ops ++ o.dst.toList

def writersOk (ops : List Oper) (m : List Nat) (j : Nat) (t : Nat) : Nat → List Oper → Bool
  | _, [] => true
  | i, o :: r => (match o.dst with
    | some d => !(Nat.beq d t) || Nat.beq i j || (if Nat.blt i j then (m.getD j 0).testBit i else (m.getD i 0).testBit j)
    | none => true) && writersOk ops m j t (i + 1) r

def edgesBack (i : Nat) : List Oper → Bool
  | [] => true
  | o :: r => o.after.toList.all (fun e => !Region.binds .any e || Nat.blt e.on i) && edgesBack (i + 1) r

def namesOk (ops : Array Oper) (h : List Oper) (m : List Nat) : Nat → List Oper → Bool
  | _, [] => true
  | j, o :: r => (namesOf ops o).all (fun t => writersOk h m j t 0 h) && namesOk ops h m (j + 1) r

def drawOk (ops : Array Oper) (h : Nat) : Bool :=
  Region.noSelect ops && Nat.ble h ops.size && edgesBack 0 ops.toList && namesOk ops (ops.toList.take h) (masks ops.toList []) 0 (ops.toList.take h) &&
  (Nat.beq h ops.size || (Region.sinkB .any ops h && Region.chainB .any ops h)) && Region.seqB .any ops (ops.size - h) h ((List.replicate h true ++ List.replicate (ops.size - h) false).toArray)

def frL : List Oper → List Info → Frm → Nat → Frm
  | o :: l, i :: is, F, m + 1 => frL l is (push o.dst i F) m
  | _, _, F, _ => F


theorem look_push_ne {d : Option Nat} {i : Info} {F : Frm} {t : Nat} (h : d ≠ some t) : look t (push d i F) = look t F := by
  cases d with
  | none => rfl
  | some d => exact look_cons_ne (fun e => h (by rw [e]))


def cntU (listed : Array Bool) : Nat → Nat
  | 0 => 0
  | k + 1 => cntU listed k + (if listed.getD k false then 0 else 1)

theorem cntU_far {listed : Array Bool} {i : Nat} : ∀ k, k ≤ i → cntU (listed.setIfInBounds i true) k = cntU listed k
  | 0, _ => rfl
  | k + 1, h => by simp only [cntU]; rw [cntU_far k xA, getD_set_ne false xA]

theorem cntU_set {listed : Array Bool} {i : Nat} (hi : i < listed.size) (hu : listed.getD i false = false) : ∀ k, i < k → cntU (listed.setIfInBounds i true) k + 1 = cntU listed k
  | 0, h => by omega
  | k + 1, h => by
    simp only [cntU]
    by_cases e : i = k
    · subst e
      rw [cntU_far i (Nat.le_refl _), hu]
      have : (listed.setIfInBounds i true).getD i false = true := by simp [hi]
      rw [this]
      simp
    · have := cntU_set hi hu k xA
      rw [getD_set_ne false e]
      omega

theorem cntU_zero {listed : Array Bool} : ∀ k, cntU listed k = 0 → ∀ i, i < k → listed.getD i false = true
  | 0, _, i, hi => by omega
  | k + 1, h, i, hi => by
    simp only [cntU] at h
    cases hk : listed.getD k false with
    | false => rw [hk] at h; simp at h
    | true =>
      rw [hk] at h
      by_cases e : i = k
      · subst e; exact hk
      · exact cntU_zero k (by simpa using h) i xA

theorem cntU_pos {listed : Array Bool} : ∀ k, 0 < cntU listed k → ∃ i, i < k ∧ listed.getD i false = false ∧ ∀ j, j < i → listed.getD j false = true
  | 0, h => by simp [cntU] at h
  | k + 1, h => by
    by_cases hk : 0 < cntU listed k
    · obtain ⟨i, h1, h2, h3⟩ := cntU_pos k hk
      exact ⟨i, xA, h2, h3⟩
    · have hz := cntU_zero (listed := listed) k xA
      simp only [cntU] at h
      cases hl : listed.getD k false with
      | true => rw [hl] at h; simp at h; omega
      | false => exact ⟨k, xA, hl, hz⟩

theorem cntU_new (m : Nat) : ∀ k, cntU (Array.replicate m false) k = k
  | 0 => rfl
  | k + 1 => by simp only [cntU]; rw [cntU_new m k, getD_replicate_false]; simp

theorem edgesBack_spec : ∀ (l : List Oper) (k : Nat), edgesBack k l = true → ∀ m o, l[m]? = some o → ∀ e ∈ o.after, Region.binds .any e = true → e.on < k + m
  | [], _, _, m, o, h => by simp at h
  | o :: l, k, hB, m, o', h => by
    simp only [edgesBack, Bool.and_eq_true] at hB
    cases m with
    | zero =>
      simp only [List.getElem?_cons_zero, Option.some.injEq] at h
      subst h
      intro e he hb
      have := List.all_eq_true.1 hB.1 e (by simpa using he)
      simp only [hb, Bool.not_true, Bool.false_or, Nat.blt_eq] at this
      omega
    | succ m =>
      intro e he hb
      have := edgesBack_spec l (k + 1) hB.2 m o' (by simpa using h) e he hb
      omega

theorem writersOk_spec {h0 : List Oper} {m : List Nat} {j t : Nat} : ∀ (l : List Oper) (k : Nat), writersOk h0 m j t k l = true → ∀ i o, l[i]? = some o → o.dst = some t → k + i ≠ j →
    (if k + i < j then (m.getD j 0).testBit (k + i) else (m.getD (k + i) 0).testBit j) = true
  | [], _, _, i, o, h => by simp at h
  | o :: l, k, hB, i, o', h => by
    simp only [writersOk, Bool.and_eq_true] at hB
    intro hd hne
    cases i with
    | zero =>
      simp only [List.getElem?_cons_zero, Option.some.injEq] at h
      subst h
      have h1 := hB.1
      simp only [hd] at h1
      have e1 : Nat.beq t t = true := by simp
      have e2 : Nat.beq k j = false := beq_ne (by simpa using hne)
      simp only [e1, e2, Bool.not_true, Bool.false_or] at h1
      simpa [Nat.blt_eq] using h1
    | succ i =>
      have := writersOk_spec l (k + 1) hB.2 i o' (by simpa using h) hd xA
      have e : k + 1 + i = k + (i + 1) := by omega
      rw [e] at this
      exact this

theorem namesOk_spec {h0 : List Oper} {m : List Nat} : ∀ (l : List Oper) (k : Nat), namesOk ops h0 m k l = true → ∀ j o, l[j]? = some o → ∀ t ∈ namesOf ops o, writersOk h0 m (k + j) t 0 h0 = true
  | [], _, _, j, o, h => by simp at h
  | o :: l, k, hB, j, o', h => by
    simp only [namesOk, Bool.and_eq_true] at hB
    cases j with
    | zero =>
      simp only [List.getElem?_cons_zero, Option.some.injEq] at h
      subst h
      intro t ht
      exact List.all_eq_true.1 hB.1 t ht
    | succ j =>
      intro t ht
      have := namesOk_spec l (k + 1) hB.2 j o' (by simpa using h) t ht
      have e : k + 1 + j = k + (j + 1) := by omega
      rw [e] at this
      exact this

structure Inv (n h : Nat) (ops : Array Oper) (w0 : World) (F : Frm) (is : List Info) (listed : Array Bool) (a : Act) (w : World) : Prop where
  ext : Ext w0 w
  size : a.tmps.size = n
  defers : a.defers = []
  head : HeadInv .any ops h listed
  slot : ∀ t i o, i < h → ops[i]? = some o → o.dst = some t → listed.getD i false = true →
    (∀ k o', k < h → ops[k]? = some o' → o'.dst = some t → listed.getD k false = true → k ≤ i) → ∀ inf, is[i]? = some inf → ∃ u, a.tmps[t]? = some u ∧ inf.ok u w
  base : ∀ t, (∀ k o', k < h → ops[k]? = some o' → o'.dst = some t → listed.getD k false = false) → ∀ inf, look t F = some inf → ∃ u, a.tmps[t]? = some u ∧ inf.ok u w

structure Chk (ops : Array Oper) (h : Nat) : Prop where
  noSelect : Region.noSelect ops = true
  le : h ≤ ops.size
  back : ∀ j o, ops[j]? = some o → ∀ e ∈ o.after, Region.binds .any e = true → e.on < j
  names : ∀ j o, j < h → ops[j]? = some o → ∀ t ∈ namesOf ops o, ∀ i o', i < h → ops[i]? = some o' → o'.dst = some t → i ≠ j →
    ∀ listed, Closed ops listed → (i < j → listed.getD j false = true → listed.getD i false = true) ∧ (j < i → listed.getD i false = true → listed.getD j false = true)
  tail : h < ops.size → Region.sinkB .any ops h = true ∧ Region.chainB .any ops h = true
  seq : Region.seqB .any ops (ops.size - h) h ((List.replicate h true ++ List.replicate (ops.size - h) false).toArray) = true

theorem Chk.of {h : Nat} (hB : drawOk ops h = true) : Chk ops h := by
  simp only [drawOk, Bool.and_eq_true] at hB
  obtain ⟨⟨⟨⟨⟨h1, h2⟩, h3⟩, h4⟩, h5⟩, h6⟩ := hB
  have hle : h ≤ ops.size := Nat.le_of_ble_eq_true h2
  refine ⟨h1, hle, fun j o ho e he hb => ?_, fun j o hj ho t ht i o' hi ho' hd hne listed hc => ?_, fun hlt => ?_, h6⟩
  · have := edgesBack_spec ops.toList 0 h3 j o (by simpa using ho) e he hb
    omega
  · have hm : MaskOk ops (masks ops.toList []) := masks_ok ops ops.toList [] (fun k => by simp) (fun _ _ j i hb => by simp at hb)
    have hw := namesOk_spec (ops := ops) (ops.toList.take h) 0 h4 j o (by rw [List.getElem?_take]; simp [hj, ho]) t ht
    rw [Nat.zero_add] at hw
    have hb := writersOk_spec (ops.toList.take h) 0 hw i o' (by rw [List.getElem?_take]; simp [hi, ho']) hd xA
    rw [Nat.zero_add] at hb
    refine ⟨fun hlt hl => ?_, fun hlt hl => ?_⟩
    · rw [if_pos hlt] at hb
      exact hm listed hc j i hb hl
    · rw [if_neg xA] at hb
      exact hm listed hc i j hb hl
  · rw [Bool.or_eq_true] at h5
    rcases h5 with h5 | h5
    · have : h = ops.size := Nat.eq_of_beq_eq_true h5
      omega
    · simpa using h5



end
end Go.G
end
