/-
  The walks.
-/
import Derived.Test.YtebinfembfoklaaW5
namespace Go.Proofs.Ytebinfembfoklaa
open Go Go.RowKit Go.G Go.D02

theorem callOk19 : callOk Try.prog 19 = true := by kernel_rfl
theorem callOk22 : callOk Try.prog 22 = true := by kernel_rfl
theorem callOk23 : callOk Try.prog 23 = true := by kernel_rfl
theorem callOk24 : callOk Try.prog 24 = true := by kernel_rfl
theorem callOk26 : callOk Try.prog 26 = true := by kernel_rfl

/-- bookplate/bookplatelaw02.DigestOpen. -/
theorem digestOpen_spec {v1 : Value} {l1 : List UInt8} (h : Int) (hr : R32 h) (s : ByteArray) (hs : s.size ≤ 9223372036854775807) (w : World) {lo_h1 hi_h1 : Nat} (h1 : Sl encU8 w lo_h1 hi_h1 v1 l1) :
    CallsTo Try.prog 9 [v1, .int .u32 h, .string s] w (fun v w1 => v = .bool true ∧ Ext w w1) := by
  have hE := Ext.rfl' w
  replace h1 := h1.clip0
  have hl_h1 := h1.len_le
  refine enter (n := 124) (l := [v1, .int .u32 h, .string s]) Try.func9 rfl rfl rfl ?_
  refine W.seq ?_
  refine W.region ?_
  refine WL.det (fun _ _ => R.assign rfl) rfl ?_
  refine WL.nil ?_
  refine E.to ?_
  refine W.seq ?_
  refine W.seq ?_
  refine W.region ?_
  refine WL.call rfl rfl ⟨rfl, rfl⟩ callOk10 rfl rfl (awake_spec _) ?_
  rintro v19 w1 ⟨rfl, ew1⟩
  replace h1 := h1.ext ew1
  replace hE := Ext.tr hE ew1
  have hsew1 := ew1.size
  refine WL.det (fun _ _ => R.not rfl) rfl ?_
  refine WL.nil ?_
  refine E.to ?_
  refine W.cond_f rfl ?_
  refine W.skip ?_
  refine E.to ?_
  refine W.seq ?_
  refine W.seq ?_
  refine W.region ?_
  refine WL.det (fun _ _ => R.move rfl) rfl ?_
  refine WL.det (fun _ e => R.len_sl rfl (h1.ext e) Try.underlying22) rfl ?_
  refine WL.det (fun _ _ => R.gtr rfl rfl) rfl ?_
  refine WL.det (fun _ _ => R.move rfl) rfl ?_
  refine WL.group 3 (g := 24) (j := 3) (want := false) rfl rfl rfl rfl (fun hg1 => ?_) (fun hg1 => ?_)
  · skip
    first | have hg1p := gA3 hg1 | have hg1p := gA4 hg1 | have hg1p := hg1
    refine WL.detg (fun _ _ => R.move rfl) rfl rfl rfl (gd_of hg1) ?_
    refine WL.detg (fun _ _ => R.len_str rfl Try.underlying9) rfl rfl rfl (gd_of hg1) ?_
    refine WL.detg (fun _ _ => R.gtr rfl rfl) rfl rfl rfl (gd_of hg1) ?_
    refine WL.det (fun _ _ => R.pick_f rfl hg1 rfl) rfl ?_
    refine WL.nil ?_
    refine E.to ?_
    first | refine W.cond_d rfl (fun hc2 => ?_) (fun hc2 => ?_) | refine W.cond_nd rfl (fun hc2 => ?_) (fun hc2 => ?_) | refine W.cond rfl (fun hc2 => ?_) (fun hc2 => ?_)
    · skip
      refine W.seq ?_
      refine W.region ?_
      refine WL.det (fun _ _ => R.assign rfl) rfl ?_
      refine WL.nil ?_
      refine E.to ?_
      refine W.ret ?_
      refine E.thr ?_
      refine E.fin1 (.inl rfl) rfl rfl ?_
      exact ⟨_, rfl, rfl, hE⟩
    · skip
      refine W.skip ?_
      refine E.to ?_
      refine W.seq ?_
      refine W.region ?_
      refine WL.det (fun _ _ => R.move rfl) rfl ?_
      refine WL.call rfl rfl ⟨rfl, rfl⟩ callOk19 rfl rfl (open_spec (by omega) _ h1) ?_
      rintro v31 w2 ⟨p31, rfl, ⟨t31, hf31⟩, ew2⟩
      replace h1 := h1.ext ew2
      replace hE := Ext.tr hE ew2
      have hsew2 := ew2.size
      replace hf31 := Own.mono hf31 (b := w.heap.size) (by omega)
      refine WL.det (fun _ _ => R.move rfl) rfl ?_
      refine WL.det (fun _ _ => R.extract rfl rfl) rfl ?_
      refine WL.det (fun _ _ => R.extract rfl rfl) rfl ?_
      refine WL.det (fun _ _ => R.assign rfl) rfl ?_
      refine WL.det (fun _ _ => R.assign rfl) rfl ?_
      refine WL.nil ?_
      refine E.to ?_
      refine W.seq ?_
      refine W.region ?_
      refine WL.det (fun _ _ => R.move rfl) rfl ?_
      refine WL.call rfl rfl ⟨rfl, rfl⟩ callOk22 rfl rfl (refopen_spec (by omega) _ h1) ?_
      rintro v36 w3 ⟨p36, rfl, ⟨t36, hf36⟩, ew3⟩
      replace h1 := h1.ext ew3
      replace hE := Ext.tr hE ew3
      replace hf31 := hf31.ext ew3
      have hsew3 := ew3.size
      replace hf36 := Own.mono hf36 (b := w.heap.size) (by omega)
      refine WL.det (fun _ _ => R.move rfl) rfl ?_
      refine WL.det (fun _ _ => R.extract rfl rfl) rfl ?_
      refine WL.det (fun _ _ => R.extract rfl rfl) rfl ?_
      refine WL.det (fun _ _ => R.assign rfl) rfl ?_
      refine WL.det (fun _ _ => R.assign rfl) rfl ?_
      refine WL.nil ?_
      refine E.to ?_
      refine W.seq ?_
      refine W.region ?_
      refine WL.det (fun _ _ => R.move rfl) rfl ?_
      refine WL.call rfl rfl ⟨rfl, rfl⟩ callOk23 rfl rfl (parse_spec _ _) ?_
      rintro v41 w4 ⟨rfl, ew4⟩
      replace h1 := h1.ext ew4
      replace hE := Ext.tr hE ew4
      replace hf31 := hf31.ext ew4
      replace hf36 := hf36.ext ew4
      have hsew4 := ew4.size
      refine WL.det (fun _ _ => R.move rfl) rfl ?_
      refine WL.det (fun _ _ => R.extract rfl rfl) rfl ?_
      refine WL.det (fun _ _ => R.extract rfl rfl) rfl ?_
      refine WL.det (fun _ _ => R.assign rfl) rfl ?_
      refine WL.det (fun _ _ => R.assign rfl) rfl ?_
      refine WL.nil ?_
      refine E.to ?_
      refine W.seq ?_
      refine W.region ?_
      refine WL.det (fun _ _ => R.move rfl) rfl ?_
      refine WL.call rfl rfl ⟨rfl, rfl⟩ callOk24 rfl rfl (refparse_spec _ (by omega) _) ?_
      rintro v46 w5 ⟨rfl, ew5⟩
      replace h1 := h1.ext ew5
      replace hE := Ext.tr hE ew5
      replace hf31 := hf31.ext ew5
      replace hf36 := hf36.ext ew5
      have hsew5 := ew5.size
      refine WL.det (fun _ _ => R.move rfl) rfl ?_
      refine WL.det (fun _ _ => R.extract rfl rfl) rfl ?_
      refine WL.det (fun _ _ => R.extract rfl rfl) rfl ?_
      refine WL.det (fun _ _ => R.assign rfl) rfl ?_
      refine WL.det (fun _ _ => R.assign rfl) rfl ?_
      refine WL.nil ?_
      refine E.to ?_
      refine W.seq ?_
      refine W.seq ?_
      refine W.region ?_
      refine WL.det (fun _ _ => R.move rfl) rfl ?_
      refine WL.det (fun _ _ => R.move rfl) rfl ?_
      refine WL.det (fun _ _ => R.neq rfl rfl) rfl ?_
      refine WL.det (fun _ _ => R.move rfl) rfl ?_
      refine WL.group 4 (g := 52) (j := 3) (want := false) rfl rfl rfl rfl (fun hg3 => ?_) (fun hg3 => ?_)
      · skip
        first | have hg3p := gA3 hg3 | have hg3p := gA4 hg3 | have hg3p := hg3
        refine WL.detg (fun _ _ => R.move rfl) rfl rfl rfl (gd_of hg3) ?_
        refine WL.detg (fun _ _ => R.move rfl) rfl rfl rfl (gd_of hg3) ?_
        refine WL.callg rfl rfl ⟨rfl, rfl⟩ callOk15 rfl rfl rfl rfl (gd_of hg3) (same_spec _ hf31.sl hf36.sl) ?_
        rintro v55 w6 ⟨rfl, ew6⟩
        replace h1 := h1.ext ew6
        replace hE := Ext.tr hE ew6
        replace hf31 := hf31.ext ew6
        replace hf36 := hf36.ext ew6
        have hsew6 := ew6.size
        refine WL.detg (fun _ _ => R.not rfl) rfl rfl rfl (gd_of hg3) ?_
        refine WL.det (fun _ _ => R.pick_f rfl hg3 rfl) rfl ?_
        refine WL.det (fun _ _ => R.move rfl) rfl ?_
        refine WL.group 3 (g := 58) (j := 9) (want := false) rfl rfl rfl rfl (fun hg4 => ?_) (fun hg4 => ?_)
        · skip
          first | have hg4p := gA3 hg4 | have hg4p := gA4 hg4 | have hg4p := hg4
          refine WL.detg (fun _ _ => R.move rfl) rfl rfl rfl (gd_of hg4) ?_
          refine WL.detg (fun _ _ => R.move rfl) rfl rfl rfl (gd_of hg4) ?_
          refine WL.detg (fun _ _ => R.neq rfl rfl) rfl rfl rfl (gd_of hg4) ?_
          refine WL.det (fun _ _ => R.pick_f rfl hg4 rfl) rfl ?_
          refine WL.det (fun _ _ => R.move rfl) rfl ?_
          refine WL.group 3 (g := 63) (j := 14) (want := false) rfl rfl rfl rfl (fun hg5 => ?_) (fun hg5 => ?_)
          · skip
            first | have hg5p := gA3 hg5 | have hg5p := gA4 hg5 | have hg5p := hg5
            refine WL.detg (fun _ _ => R.move rfl) rfl rfl rfl (gd_of hg5) ?_
            refine WL.detg (fun _ _ => R.move rfl) rfl rfl rfl (gd_of hg5) ?_
            refine WL.detg (fun _ _ => R.neq rfl rfl) rfl rfl rfl (gd_of hg5) ?_
            refine WL.det (fun _ _ => R.pick_f rfl hg5 rfl) rfl ?_
            refine WL.det (fun _ _ => R.move rfl) rfl ?_
            refine WL.group 3 (g := 68) (j := 19) (want := false) rfl rfl rfl rfl (fun hg6 => ?_) (fun hg6 => ?_)
            · skip
              first | have hg6p := gA3 hg6 | have hg6p := gA4 hg6 | have hg6p := hg6
              refine WL.detg (fun _ _ => R.move rfl) rfl rfl rfl (gd_of hg6) ?_
              refine WL.detg (fun _ _ => R.eql rfl rfl) rfl rfl rfl (gd_of hg6) ?_
              refine WL.detg (fun _ _ => R.move rfl) rfl rfl rfl (gd_of hg6) ?_
              refine WL.group 5 (g := 71) (j := 22) (want := true) rfl rfl rfl rfl (fun hgo => ?_) (fun hgo => ?_)
              · skip
                first | have hgop := gA1 hgo | have hgop := gA2 hgo | have hgop := hgo
                refine WL.detg (fun _ _ => R.move rfl) rfl rfl rfl (gd_of hgo) ?_
                refine WL.callg rfl rfl ⟨rfl, rfl⟩ callOk16 rfl rfl rfl rfl (gd_of hgo) (seal_spec (by have := openL_le (moreI 0) l1; omega) _ hf31.sl) ?_
                rintro v73 w7 ⟨hf73, ew7⟩
                replace h1 := h1.ext ew7
                replace hE := Ext.tr hE ew7
                replace hf31 := hf31.ext ew7
                replace hf36 := hf36.ext ew7
                have hsew7 := ew7.size
                replace hf73 := Own.mono hf73 (b := w.heap.size) (by omega)
                refine WL.detg (fun _ _ => R.move rfl) rfl rfl rfl (gd_of hgo) ?_
                refine WL.callg rfl rfl ⟨rfl, rfl⟩ callOk15 rfl rfl rfl rfl (gd_of hgo) (same_spec _ hf73.sl h1) ?_
                rintro v75 w8 ⟨rfl, ew8⟩
                replace h1 := h1.ext ew8
                replace hE := Ext.tr hE ew8
                replace hf31 := hf31.ext ew8
                replace hf36 := hf36.ext ew8
                replace hf73 := hf73.ext ew8
                have hsew8 := ew8.size
                refine WL.detg (fun _ _ => R.not rfl) rfl rfl rfl (gd_of hgo) ?_
                refine WL.detg (fun _ _ => R.pick_t rfl hgo rfl) rfl rfl rfl (gd_of hg6) ?_
                refine WL.det (fun _ _ => R.pick_f rfl hg6 rfl) rfl ?_
                refine WL.det (fun _ _ => R.move rfl) rfl ?_
                refine WL.group 3 (g := 79) (j := 30) (want := false) rfl rfl rfl rfl (fun hg8 => ?_) (fun hg8 => ?_)
                · skip
                  first | have hg8p := gA3 hg8 | have hg8p := gA4 hg8 | have hg8p := hg8
                  refine WL.detg (fun _ _ => R.move rfl) rfl rfl rfl (gd_of hg8) ?_
                  refine WL.detg (fun _ _ => R.eql rfl rfl) rfl rfl rfl (gd_of hg8) ?_
                  refine WL.detg (fun _ _ => R.move rfl) rfl rfl rfl (gd_of hg8) ?_
                  refine WL.group 4 (g := 82) (j := 33) (want := true) rfl rfl rfl rfl (fun hgq => ?_) (fun hgq => ?_)
                  · skip
                    first | have hgqp := gA1 hgq | have hgqp := gA2 hgq | have hgqp := hgq
                    refine WL.detg (fun _ _ => R.move rfl) rfl rfl rfl (gd_of hgq) ?_
                    refine WL.callg rfl rfl ⟨rfl, rfl⟩ callOk25 rfl rfl rfl rfl (gd_of hgq) (print_spec _ _) ?_
                    rintro v84 w9 ⟨rfl, ew9⟩
                    replace h1 := h1.ext ew9
                    replace hE := Ext.tr hE ew9
                    replace hf31 := hf31.ext ew9
                    replace hf36 := hf36.ext ew9
                    replace hf73 := hf73.ext ew9
                    have hsew9 := ew9.size
                    refine WL.detg (fun _ _ => R.move rfl) rfl rfl rfl (gd_of hgq) ?_
                    refine WL.detg (fun _ _ => R.strne rfl rfl) rfl rfl rfl (gd_of hgq) ?_
                    refine WL.detg (fun _ _ => R.pick_t rfl hgq rfl) rfl rfl rfl (gd_of hg8) ?_
                    refine WL.det (fun _ _ => R.pick_f rfl hg8 rfl) rfl ?_
                    refine WL.nil ?_
                    refine E.to ?_
                    first | refine W.cond_d rfl (fun hc10 => ?_) (fun hc10 => ?_) | refine W.cond_nd rfl (fun hc10 => ?_) (fun hc10 => ?_) | refine W.cond rfl (fun hc10 => ?_) (fun hc10 => ?_)
                    · skip
                      exact absurd (pp_str hgqp) (by assumption)
                    · skip
                      refine W.skip ?_
                      refine E.to ?_
                      refine W.seq ?_
                      refine W.region ?_
                      refine WL.det (fun _ _ => R.move rfl) rfl ?_
                      refine WL.call rfl rfl ⟨rfl, rfl⟩ callOk16 rfl rfl (seal_spec (by omega) _ h1) ?_
                      rintro v91 w10 ⟨hf91, ew10⟩
                      replace h1 := h1.ext ew10
                      replace hE := Ext.tr hE ew10
                      replace hf31 := hf31.ext ew10
                      replace hf36 := hf36.ext ew10
                      replace hf73 := hf73.ext ew10
                      have hsew10 := ew10.size
                      replace hf91 := Own.mono hf91 (b := w.heap.size) (by omega)
                      refine WL.call rfl rfl ⟨rfl, rfl⟩ callOk19 rfl rfl (open_spec (by simp [tailL_len]; omega) _ hf91.sl) ?_
                      rintro v92 w11 ⟨p92, rfl, ⟨t92, hf92⟩, ew11⟩
                      replace h1 := h1.ext ew11
                      replace hE := Ext.tr hE ew11
                      replace hf31 := hf31.ext ew11
                      replace hf36 := hf36.ext ew11
                      replace hf73 := hf73.ext ew11
                      replace hf91 := hf91.ext ew11
                      have hsew11 := ew11.size
                      replace hf92 := Own.mono hf92 (b := w.heap.size) (by omega)
                      refine WL.det (fun _ _ => R.move rfl) rfl ?_
                      refine WL.det (fun _ _ => R.extract rfl rfl) rfl ?_
                      refine WL.det (fun _ _ => R.extract rfl rfl) rfl ?_
                      refine WL.det (fun _ _ => R.assign rfl) rfl ?_
                      refine WL.det (fun _ _ => R.assign rfl) rfl ?_
                      refine WL.nil ?_
                      refine E.to ?_
                      refine W.seq ?_
                      refine W.region ?_
                      refine WL.det (fun _ _ => R.move rfl) rfl ?_
                      refine WL.call rfl rfl ⟨rfl, rfl⟩ callOk25 rfl rfl (print_spec _ _) ?_
                      rintro v97 w12 ⟨rfl, ew12⟩
                      replace h1 := h1.ext ew12
                      replace hE := Ext.tr hE ew12
                      replace hf31 := hf31.ext ew12
                      replace hf36 := hf36.ext ew12
                      replace hf73 := hf73.ext ew12
                      replace hf91 := hf91.ext ew12
                      replace hf92 := hf92.ext ew12
                      have hsew12 := ew12.size
                      refine WL.call rfl rfl ⟨rfl, rfl⟩ callOk23 rfl rfl (parse_spec _ _) ?_
                      rintro v98 w13 ⟨rfl, ew13⟩
                      replace h1 := h1.ext ew13
                      replace hE := Ext.tr hE ew13
                      replace hf31 := hf31.ext ew13
                      replace hf36 := hf36.ext ew13
                      replace hf73 := hf73.ext ew13
                      replace hf91 := hf91.ext ew13
                      replace hf92 := hf92.ext ew13
                      have hsew13 := ew13.size
                      refine WL.det (fun _ _ => R.move rfl) rfl ?_
                      refine WL.det (fun _ _ => R.extract rfl rfl) rfl ?_
                      refine WL.det (fun _ _ => R.extract rfl rfl) rfl ?_
                      refine WL.det (fun _ _ => R.assign rfl) rfl ?_
                      refine WL.det (fun _ _ => R.assign rfl) rfl ?_
                      refine WL.nil ?_
                      refine E.to ?_
                      refine W.seq ?_
                      refine W.region ?_
                      refine WL.det (fun _ _ => R.move rfl) rfl ?_
                      refine WL.det (fun _ _ => R.eql rfl rfl) rfl ?_
                      refine WL.det (fun _ _ => R.move rfl) rfl ?_
                      refine WL.group 3 (g := 103) (j := 2) (want := true) rfl rfl rfl rfl (fun hg11 => ?_) (fun hg11 => ?_)
                      · skip
                        first | have hg11p := gA1 hg11 | have hg11p := gA2 hg11 | have hg11p := hg11
                        refine WL.detg (fun _ _ => R.move rfl) rfl rfl rfl (gd_of hg11) ?_
                        refine WL.detg (fun _ _ => R.move rfl) rfl rfl rfl (gd_of hg11) ?_
                        refine WL.callg rfl rfl ⟨rfl, rfl⟩ callOk15 rfl rfl rfl rfl (gd_of hg11) (same_spec _ hf92.sl h1) ?_
                        rintro v106 w14 ⟨rfl, ew14⟩
                        replace h1 := h1.ext ew14
                        replace hE := Ext.tr hE ew14
                        replace hf31 := hf31.ext ew14
                        replace hf36 := hf36.ext ew14
                        replace hf73 := hf73.ext ew14
                        replace hf91 := hf91.ext ew14
                        replace hf92 := hf92.ext ew14
                        have hsew14 := ew14.size
                        refine WL.det (fun _ _ => R.pick_t rfl hg11 rfl) rfl ?_
                        refine WL.det (fun _ _ => R.move rfl) rfl ?_
                        refine WL.group 2 (g := 108) (j := 7) (want := true) rfl rfl rfl rfl (fun hg12 => ?_) (fun hg12 => ?_)
                        · skip
                          first | have hg12p := gA1 hg12 | have hg12p := gA2 hg12 | have hg12p := hg12
                          refine WL.detg (fun _ _ => R.move rfl) rfl rfl rfl (gd_of hg12) ?_
                          refine WL.detg (fun _ _ => R.eql rfl rfl) rfl rfl rfl (gd_of hg12) ?_
                          refine WL.det (fun _ _ => R.pick_t rfl hg12 rfl) rfl ?_
                          refine WL.det (fun _ _ => R.move rfl) rfl ?_
                          refine WL.group 3 (g := 112) (j := 11) (want := true) rfl rfl rfl rfl (fun hg13 => ?_) (fun hg13 => ?_)
                          · skip
                            first | have hg13p := gA1 hg13 | have hg13p := gA2 hg13 | have hg13p := hg13
                            refine WL.detg (fun _ _ => R.move rfl) rfl rfl rfl (gd_of hg13) ?_
                            refine WL.detg (fun _ _ => R.move rfl) rfl rfl rfl (gd_of hg13) ?_
                            refine WL.detg (fun _ _ => R.eql rfl rfl) rfl rfl rfl (gd_of hg13) ?_
                            refine WL.det (fun _ _ => R.pick_t rfl hg13 rfl) rfl ?_
                            refine WL.det (fun _ _ => R.move rfl) rfl ?_
                            refine WL.group 5 (g := 117) (j := 16) (want := true) rfl rfl rfl rfl (fun hg14 => ?_) (fun hg14 => ?_)
                            · skip
                              first | have hg14p := gA1 hg14 | have hg14p := gA2 hg14 | have hg14p := hg14
                              refine WL.detg (fun _ _ => R.move rfl) rfl rfl rfl (gd_of hg14) ?_
                              refine WL.callg rfl rfl ⟨rfl, rfl⟩ callOk25 rfl rfl rfl rfl (gd_of hg14) (print_spec _ _) ?_
                              rintro v119 w15 ⟨rfl, ew15⟩
                              replace h1 := h1.ext ew15
                              replace hE := Ext.tr hE ew15
                              replace hf31 := hf31.ext ew15
                              replace hf36 := hf36.ext ew15
                              replace hf73 := hf73.ext ew15
                              replace hf91 := hf91.ext ew15
                              replace hf92 := hf92.ext ew15
                              have hsew15 := ew15.size
                              refine WL.detg (fun _ _ => R.move rfl) rfl rfl rfl (gd_of hg14) ?_
                              refine WL.callg rfl rfl ⟨rfl, rfl⟩ callOk26 rfl rfl rfl rfl (gd_of hg14) (refprint_spec _ hr _) ?_
                              rintro v121 w16 ⟨rfl, ew16⟩
                              replace h1 := h1.ext ew16
                              replace hE := Ext.tr hE ew16
                              replace hf31 := hf31.ext ew16
                              replace hf36 := hf36.ext ew16
                              replace hf73 := hf73.ext ew16
                              replace hf91 := hf91.ext ew16
                              replace hf92 := hf92.ext ew16
                              have hsew16 := ew16.size
                              refine WL.detg (fun _ _ => R.streq rfl rfl) rfl rfl rfl (gd_of hg14) ?_
                              refine WL.det (fun _ _ => R.pick_t rfl hg14 rfl) rfl ?_
                              refine WL.det (fun _ _ => R.assign rfl) rfl ?_
                              refine WL.nil ?_
                              refine E.to ?_
                              refine W.ret ?_
                              refine E.fin1 (.inl rfl) rfl rfl ?_
                              exact ⟨_, rfl, congrArg Value.bool (decide_eq_true (by rw [print_eq])), hE⟩
                            · skip
                              exact absurd (decide_eq_true (pp2 hr)) hg14
                          · skip
                            exact absurd (decide_eq_true (pp1 hr)) hg13
                        · skip
                          exact absurd (decide_eq_true (seal_open2 _ _)) hg12
                      · skip
                        exact absurd (decide_eq_true (seal_open1 _ _)) hg11
                  · skip
                    first | have hgqp := gA5 hgq | have hgqp := gA6 hgq | have hgqp := hgq
                    refine WL.detg (fun _ _ => R.pick_f rfl (ne_t hgq) rfl) rfl rfl rfl (gd_of hg8) ?_
                    refine WL.det (fun _ _ => R.pick_f rfl hg8 rfl) rfl ?_
                    refine WL.nil ?_
                    refine E.to ?_
                    refine W.cond_f rfl ?_
                    refine W.skip ?_
                    refine E.to ?_
                    refine W.seq ?_
                    refine W.region ?_
                    refine WL.det (fun _ _ => R.move rfl) rfl ?_
                    refine WL.call rfl rfl ⟨rfl, rfl⟩ callOk16 rfl rfl (seal_spec (by omega) _ h1) ?_
                    rintro v91 w17 ⟨hf91, ew17⟩
                    replace h1 := h1.ext ew17
                    replace hE := Ext.tr hE ew17
                    replace hf31 := hf31.ext ew17
                    replace hf36 := hf36.ext ew17
                    replace hf73 := hf73.ext ew17
                    have hsew17 := ew17.size
                    replace hf91 := Own.mono hf91 (b := w.heap.size) (by omega)
                    refine WL.call rfl rfl ⟨rfl, rfl⟩ callOk19 rfl rfl (open_spec (by simp [tailL_len]; omega) _ hf91.sl) ?_
                    rintro v92 w18 ⟨p92, rfl, ⟨t92, hf92⟩, ew18⟩
                    replace h1 := h1.ext ew18
                    replace hE := Ext.tr hE ew18
                    replace hf31 := hf31.ext ew18
                    replace hf36 := hf36.ext ew18
                    replace hf73 := hf73.ext ew18
                    replace hf91 := hf91.ext ew18
                    have hsew18 := ew18.size
                    replace hf92 := Own.mono hf92 (b := w.heap.size) (by omega)
                    refine WL.det (fun _ _ => R.move rfl) rfl ?_
                    refine WL.det (fun _ _ => R.extract rfl rfl) rfl ?_
                    refine WL.det (fun _ _ => R.extract rfl rfl) rfl ?_
                    refine WL.det (fun _ _ => R.assign rfl) rfl ?_
                    refine WL.det (fun _ _ => R.assign rfl) rfl ?_
                    refine WL.nil ?_
                    refine E.to ?_
                    refine W.seq ?_
                    refine W.region ?_
                    refine WL.det (fun _ _ => R.move rfl) rfl ?_
                    refine WL.call rfl rfl ⟨rfl, rfl⟩ callOk25 rfl rfl (print_spec _ _) ?_
                    rintro v97 w19 ⟨rfl, ew19⟩
                    replace h1 := h1.ext ew19
                    replace hE := Ext.tr hE ew19
                    replace hf31 := hf31.ext ew19
                    replace hf36 := hf36.ext ew19
                    replace hf73 := hf73.ext ew19
                    replace hf91 := hf91.ext ew19
                    replace hf92 := hf92.ext ew19
                    have hsew19 := ew19.size
                    refine WL.call rfl rfl ⟨rfl, rfl⟩ callOk23 rfl rfl (parse_spec _ _) ?_
                    rintro v98 w20 ⟨rfl, ew20⟩
                    replace h1 := h1.ext ew20
                    replace hE := Ext.tr hE ew20
                    replace hf31 := hf31.ext ew20
                    replace hf36 := hf36.ext ew20
                    replace hf73 := hf73.ext ew20
                    replace hf91 := hf91.ext ew20
                    replace hf92 := hf92.ext ew20
                    have hsew20 := ew20.size
                    refine WL.det (fun _ _ => R.move rfl) rfl ?_
                    refine WL.det (fun _ _ => R.extract rfl rfl) rfl ?_
                    refine WL.det (fun _ _ => R.extract rfl rfl) rfl ?_
                    refine WL.det (fun _ _ => R.assign rfl) rfl ?_
                    refine WL.det (fun _ _ => R.assign rfl) rfl ?_
                    refine WL.nil ?_
                    refine E.to ?_
                    refine W.seq ?_
                    refine W.region ?_
                    refine WL.det (fun _ _ => R.move rfl) rfl ?_
                    refine WL.det (fun _ _ => R.eql rfl rfl) rfl ?_
                    refine WL.det (fun _ _ => R.move rfl) rfl ?_
                    refine WL.group 3 (g := 103) (j := 2) (want := true) rfl rfl rfl rfl (fun hg15 => ?_) (fun hg15 => ?_)
                    · skip
                      first | have hg15p := gA1 hg15 | have hg15p := gA2 hg15 | have hg15p := hg15
                      refine WL.detg (fun _ _ => R.move rfl) rfl rfl rfl (gd_of hg15) ?_
                      refine WL.detg (fun _ _ => R.move rfl) rfl rfl rfl (gd_of hg15) ?_
                      refine WL.callg rfl rfl ⟨rfl, rfl⟩ callOk15 rfl rfl rfl rfl (gd_of hg15) (same_spec _ hf92.sl h1) ?_
                      rintro v106 w21 ⟨rfl, ew21⟩
                      replace h1 := h1.ext ew21
                      replace hE := Ext.tr hE ew21
                      replace hf31 := hf31.ext ew21
                      replace hf36 := hf36.ext ew21
                      replace hf73 := hf73.ext ew21
                      replace hf91 := hf91.ext ew21
                      replace hf92 := hf92.ext ew21
                      have hsew21 := ew21.size
                      refine WL.det (fun _ _ => R.pick_t rfl hg15 rfl) rfl ?_
                      refine WL.det (fun _ _ => R.move rfl) rfl ?_
                      refine WL.group 2 (g := 108) (j := 7) (want := true) rfl rfl rfl rfl (fun hg16 => ?_) (fun hg16 => ?_)
                      · skip
                        first | have hg16p := gA1 hg16 | have hg16p := gA2 hg16 | have hg16p := hg16
                        refine WL.detg (fun _ _ => R.move rfl) rfl rfl rfl (gd_of hg16) ?_
                        refine WL.detg (fun _ _ => R.eql rfl rfl) rfl rfl rfl (gd_of hg16) ?_
                        refine WL.det (fun _ _ => R.pick_t rfl hg16 rfl) rfl ?_
                        refine WL.det (fun _ _ => R.move rfl) rfl ?_
                        refine WL.group 3 (g := 112) (j := 11) (want := true) rfl rfl rfl rfl (fun hg17 => ?_) (fun hg17 => ?_)
                        · skip
                          first | have hg17p := gA1 hg17 | have hg17p := gA2 hg17 | have hg17p := hg17
                          refine WL.detg (fun _ _ => R.move rfl) rfl rfl rfl (gd_of hg17) ?_
                          refine WL.detg (fun _ _ => R.move rfl) rfl rfl rfl (gd_of hg17) ?_
                          refine WL.detg (fun _ _ => R.eql rfl rfl) rfl rfl rfl (gd_of hg17) ?_
                          refine WL.det (fun _ _ => R.pick_t rfl hg17 rfl) rfl ?_
                          refine WL.det (fun _ _ => R.move rfl) rfl ?_
                          refine WL.group 5 (g := 117) (j := 16) (want := true) rfl rfl rfl rfl (fun hg18 => ?_) (fun hg18 => ?_)
                          · skip
                            first | have hg18p := gA1 hg18 | have hg18p := gA2 hg18 | have hg18p := hg18
                            refine WL.detg (fun _ _ => R.move rfl) rfl rfl rfl (gd_of hg18) ?_
                            refine WL.callg rfl rfl ⟨rfl, rfl⟩ callOk25 rfl rfl rfl rfl (gd_of hg18) (print_spec _ _) ?_
                            rintro v119 w22 ⟨rfl, ew22⟩
                            replace h1 := h1.ext ew22
                            replace hE := Ext.tr hE ew22
                            replace hf31 := hf31.ext ew22
                            replace hf36 := hf36.ext ew22
                            replace hf73 := hf73.ext ew22
                            replace hf91 := hf91.ext ew22
                            replace hf92 := hf92.ext ew22
                            have hsew22 := ew22.size
                            refine WL.detg (fun _ _ => R.move rfl) rfl rfl rfl (gd_of hg18) ?_
                            refine WL.callg rfl rfl ⟨rfl, rfl⟩ callOk26 rfl rfl rfl rfl (gd_of hg18) (refprint_spec _ hr _) ?_
                            rintro v121 w23 ⟨rfl, ew23⟩
                            replace h1 := h1.ext ew23
                            replace hE := Ext.tr hE ew23
                            replace hf31 := hf31.ext ew23
                            replace hf36 := hf36.ext ew23
                            replace hf73 := hf73.ext ew23
                            replace hf91 := hf91.ext ew23
                            replace hf92 := hf92.ext ew23
                            have hsew23 := ew23.size
                            refine WL.detg (fun _ _ => R.streq rfl rfl) rfl rfl rfl (gd_of hg18) ?_
                            refine WL.det (fun _ _ => R.pick_t rfl hg18 rfl) rfl ?_
                            refine WL.det (fun _ _ => R.assign rfl) rfl ?_
                            refine WL.nil ?_
                            refine E.to ?_
                            refine W.ret ?_
                            refine E.fin1 (.inl rfl) rfl rfl ?_
                            exact ⟨_, rfl, congrArg Value.bool (decide_eq_true (by rw [print_eq])), hE⟩
                          · skip
                            exact absurd (decide_eq_true (pp2 hr)) hg18
                        · skip
                          exact absurd (decide_eq_true (pp1 hr)) hg17
                      · skip
                        exact absurd (decide_eq_true (seal_open2 _ _)) hg16
                    · skip
                      exact absurd (decide_eq_true (seal_open1 _ _)) hg15
                · skip
                  first | exact absurd rfl hg8 | exact absurd (by simp [open_seal hgop]) hg8
              · skip
                first | have hgop := gA5 hgo | have hgop := gA6 hgo | have hgop := hgo
                refine WL.detg (fun _ _ => R.pick_f rfl (ne_t hgo) rfl) rfl rfl rfl (gd_of hg6) ?_
                refine WL.det (fun _ _ => R.pick_f rfl hg6 rfl) rfl ?_
                refine WL.det (fun _ _ => R.move rfl) rfl ?_
                refine WL.group 3 (g := 79) (j := 30) (want := false) rfl rfl rfl rfl (fun hg19 => ?_) (fun hg19 => ?_)
                · skip
                  first | have hg19p := gA3 hg19 | have hg19p := gA4 hg19 | have hg19p := hg19
                  refine WL.detg (fun _ _ => R.move rfl) rfl rfl rfl (gd_of hg19) ?_
                  refine WL.detg (fun _ _ => R.eql rfl rfl) rfl rfl rfl (gd_of hg19) ?_
                  refine WL.detg (fun _ _ => R.move rfl) rfl rfl rfl (gd_of hg19) ?_
                  refine WL.group 4 (g := 82) (j := 33) (want := true) rfl rfl rfl rfl (fun hgq => ?_) (fun hgq => ?_)
                  · skip
                    first | have hgqp := gA1 hgq | have hgqp := gA2 hgq | have hgqp := hgq
                    refine WL.detg (fun _ _ => R.move rfl) rfl rfl rfl (gd_of hgq) ?_
                    refine WL.callg rfl rfl ⟨rfl, rfl⟩ callOk25 rfl rfl rfl rfl (gd_of hgq) (print_spec _ _) ?_
                    rintro v84 w24 ⟨rfl, ew24⟩
                    replace h1 := h1.ext ew24
                    replace hE := Ext.tr hE ew24
                    replace hf31 := hf31.ext ew24
                    replace hf36 := hf36.ext ew24
                    have hsew24 := ew24.size
                    refine WL.detg (fun _ _ => R.move rfl) rfl rfl rfl (gd_of hgq) ?_
                    refine WL.detg (fun _ _ => R.strne rfl rfl) rfl rfl rfl (gd_of hgq) ?_
                    refine WL.detg (fun _ _ => R.pick_t rfl hgq rfl) rfl rfl rfl (gd_of hg19) ?_
                    refine WL.det (fun _ _ => R.pick_f rfl hg19 rfl) rfl ?_
                    refine WL.nil ?_
                    refine E.to ?_
                    first | refine W.cond_d rfl (fun hc21 => ?_) (fun hc21 => ?_) | refine W.cond_nd rfl (fun hc21 => ?_) (fun hc21 => ?_) | refine W.cond rfl (fun hc21 => ?_) (fun hc21 => ?_)
                    · skip
                      exact absurd (pp_str hgqp) (by assumption)
                    · skip
                      refine W.skip ?_
                      refine E.to ?_
                      refine W.seq ?_
                      refine W.region ?_
                      refine WL.det (fun _ _ => R.move rfl) rfl ?_
                      refine WL.call rfl rfl ⟨rfl, rfl⟩ callOk16 rfl rfl (seal_spec (by omega) _ h1) ?_
                      rintro v91 w25 ⟨hf91, ew25⟩
                      replace h1 := h1.ext ew25
                      replace hE := Ext.tr hE ew25
                      replace hf31 := hf31.ext ew25
                      replace hf36 := hf36.ext ew25
                      have hsew25 := ew25.size
                      replace hf91 := Own.mono hf91 (b := w.heap.size) (by omega)
                      refine WL.call rfl rfl ⟨rfl, rfl⟩ callOk19 rfl rfl (open_spec (by simp [tailL_len]; omega) _ hf91.sl) ?_
                      rintro v92 w26 ⟨p92, rfl, ⟨t92, hf92⟩, ew26⟩
                      replace h1 := h1.ext ew26
                      replace hE := Ext.tr hE ew26
                      replace hf31 := hf31.ext ew26
                      replace hf36 := hf36.ext ew26
                      replace hf91 := hf91.ext ew26
                      have hsew26 := ew26.size
                      replace hf92 := Own.mono hf92 (b := w.heap.size) (by omega)
                      refine WL.det (fun _ _ => R.move rfl) rfl ?_
                      refine WL.det (fun _ _ => R.extract rfl rfl) rfl ?_
                      refine WL.det (fun _ _ => R.extract rfl rfl) rfl ?_
                      refine WL.det (fun _ _ => R.assign rfl) rfl ?_
                      refine WL.det (fun _ _ => R.assign rfl) rfl ?_
                      refine WL.nil ?_
                      refine E.to ?_
                      refine W.seq ?_
                      refine W.region ?_
                      refine WL.det (fun _ _ => R.move rfl) rfl ?_
                      refine WL.call rfl rfl ⟨rfl, rfl⟩ callOk25 rfl rfl (print_spec _ _) ?_
                      rintro v97 w27 ⟨rfl, ew27⟩
                      replace h1 := h1.ext ew27
                      replace hE := Ext.tr hE ew27
                      replace hf31 := hf31.ext ew27
                      replace hf36 := hf36.ext ew27
                      replace hf91 := hf91.ext ew27
                      replace hf92 := hf92.ext ew27
                      have hsew27 := ew27.size
                      refine WL.call rfl rfl ⟨rfl, rfl⟩ callOk23 rfl rfl (parse_spec _ _) ?_
                      rintro v98 w28 ⟨rfl, ew28⟩
                      replace h1 := h1.ext ew28
                      replace hE := Ext.tr hE ew28
                      replace hf31 := hf31.ext ew28
                      replace hf36 := hf36.ext ew28
                      replace hf91 := hf91.ext ew28
                      replace hf92 := hf92.ext ew28
                      have hsew28 := ew28.size
                      refine WL.det (fun _ _ => R.move rfl) rfl ?_
                      refine WL.det (fun _ _ => R.extract rfl rfl) rfl ?_
                      refine WL.det (fun _ _ => R.extract rfl rfl) rfl ?_
                      refine WL.det (fun _ _ => R.assign rfl) rfl ?_
                      refine WL.det (fun _ _ => R.assign rfl) rfl ?_
                      refine WL.nil ?_
                      refine E.to ?_
                      refine W.seq ?_
                      refine W.region ?_
                      refine WL.det (fun _ _ => R.move rfl) rfl ?_
                      refine WL.det (fun _ _ => R.eql rfl rfl) rfl ?_
                      refine WL.det (fun _ _ => R.move rfl) rfl ?_
                      refine WL.group 3 (g := 103) (j := 2) (want := true) rfl rfl rfl rfl (fun hg22 => ?_) (fun hg22 => ?_)
                      · skip
                        first | have hg22p := gA1 hg22 | have hg22p := gA2 hg22 | have hg22p := hg22
                        refine WL.detg (fun _ _ => R.move rfl) rfl rfl rfl (gd_of hg22) ?_
                        refine WL.detg (fun _ _ => R.move rfl) rfl rfl rfl (gd_of hg22) ?_
                        refine WL.callg rfl rfl ⟨rfl, rfl⟩ callOk15 rfl rfl rfl rfl (gd_of hg22) (same_spec _ hf92.sl h1) ?_
                        rintro v106 w29 ⟨rfl, ew29⟩
                        replace h1 := h1.ext ew29
                        replace hE := Ext.tr hE ew29
                        replace hf31 := hf31.ext ew29
                        replace hf36 := hf36.ext ew29
                        replace hf91 := hf91.ext ew29
                        replace hf92 := hf92.ext ew29
                        have hsew29 := ew29.size
                        refine WL.det (fun _ _ => R.pick_t rfl hg22 rfl) rfl ?_
                        refine WL.det (fun _ _ => R.move rfl) rfl ?_
                        refine WL.group 2 (g := 108) (j := 7) (want := true) rfl rfl rfl rfl (fun hg23 => ?_) (fun hg23 => ?_)
                        · skip
                          first | have hg23p := gA1 hg23 | have hg23p := gA2 hg23 | have hg23p := hg23
                          refine WL.detg (fun _ _ => R.move rfl) rfl rfl rfl (gd_of hg23) ?_
                          refine WL.detg (fun _ _ => R.eql rfl rfl) rfl rfl rfl (gd_of hg23) ?_
                          refine WL.det (fun _ _ => R.pick_t rfl hg23 rfl) rfl ?_
                          refine WL.det (fun _ _ => R.move rfl) rfl ?_
                          refine WL.group 3 (g := 112) (j := 11) (want := true) rfl rfl rfl rfl (fun hg24 => ?_) (fun hg24 => ?_)
                          · skip
                            first | have hg24p := gA1 hg24 | have hg24p := gA2 hg24 | have hg24p := hg24
                            refine WL.detg (fun _ _ => R.move rfl) rfl rfl rfl (gd_of hg24) ?_
                            refine WL.detg (fun _ _ => R.move rfl) rfl rfl rfl (gd_of hg24) ?_
                            refine WL.detg (fun _ _ => R.eql rfl rfl) rfl rfl rfl (gd_of hg24) ?_
                            refine WL.det (fun _ _ => R.pick_t rfl hg24 rfl) rfl ?_
                            refine WL.det (fun _ _ => R.move rfl) rfl ?_
                            refine WL.group 5 (g := 117) (j := 16) (want := true) rfl rfl rfl rfl (fun hg25 => ?_) (fun hg25 => ?_)
                            · skip
                              first | have hg25p := gA1 hg25 | have hg25p := gA2 hg25 | have hg25p := hg25
                              refine WL.detg (fun _ _ => R.move rfl) rfl rfl rfl (gd_of hg25) ?_
                              refine WL.callg rfl rfl ⟨rfl, rfl⟩ callOk25 rfl rfl rfl rfl (gd_of hg25) (print_spec _ _) ?_
                              rintro v119 w30 ⟨rfl, ew30⟩
                              replace h1 := h1.ext ew30
                              replace hE := Ext.tr hE ew30
                              replace hf31 := hf31.ext ew30
                              replace hf36 := hf36.ext ew30
                              replace hf91 := hf91.ext ew30
                              replace hf92 := hf92.ext ew30
                              have hsew30 := ew30.size
                              refine WL.detg (fun _ _ => R.move rfl) rfl rfl rfl (gd_of hg25) ?_
                              refine WL.callg rfl rfl ⟨rfl, rfl⟩ callOk26 rfl rfl rfl rfl (gd_of hg25) (refprint_spec _ hr _) ?_
                              rintro v121 w31 ⟨rfl, ew31⟩
                              replace h1 := h1.ext ew31
                              replace hE := Ext.tr hE ew31
                              replace hf31 := hf31.ext ew31
                              replace hf36 := hf36.ext ew31
                              replace hf91 := hf91.ext ew31
                              replace hf92 := hf92.ext ew31
                              have hsew31 := ew31.size
                              refine WL.detg (fun _ _ => R.streq rfl rfl) rfl rfl rfl (gd_of hg25) ?_
                              refine WL.det (fun _ _ => R.pick_t rfl hg25 rfl) rfl ?_
                              refine WL.det (fun _ _ => R.assign rfl) rfl ?_
                              refine WL.nil ?_
                              refine E.to ?_
                              refine W.ret ?_
                              refine E.fin1 (.inl rfl) rfl rfl ?_
                              exact ⟨_, rfl, congrArg Value.bool (decide_eq_true (by rw [print_eq])), hE⟩
                            · skip
                              exact absurd (decide_eq_true (pp2 hr)) hg25
                          · skip
                            exact absurd (decide_eq_true (pp1 hr)) hg24
                        · skip
                          exact absurd (decide_eq_true (seal_open2 _ _)) hg23
                      · skip
                        exact absurd (decide_eq_true (seal_open1 _ _)) hg22
                  · skip
                    first | have hgqp := gA5 hgq | have hgqp := gA6 hgq | have hgqp := hgq
                    refine WL.detg (fun _ _ => R.pick_f rfl (ne_t hgq) rfl) rfl rfl rfl (gd_of hg19) ?_
                    refine WL.det (fun _ _ => R.pick_f rfl hg19 rfl) rfl ?_
                    refine WL.nil ?_
                    refine E.to ?_
                    refine W.cond_f rfl ?_
                    refine W.skip ?_
                    refine E.to ?_
                    refine W.seq ?_
                    refine W.region ?_
                    refine WL.det (fun _ _ => R.move rfl) rfl ?_
                    refine WL.call rfl rfl ⟨rfl, rfl⟩ callOk16 rfl rfl (seal_spec (by omega) _ h1) ?_
                    rintro v91 w32 ⟨hf91, ew32⟩
                    replace h1 := h1.ext ew32
                    replace hE := Ext.tr hE ew32
                    replace hf31 := hf31.ext ew32
                    replace hf36 := hf36.ext ew32
                    have hsew32 := ew32.size
                    replace hf91 := Own.mono hf91 (b := w.heap.size) (by omega)
                    refine WL.call rfl rfl ⟨rfl, rfl⟩ callOk19 rfl rfl (open_spec (by simp [tailL_len]; omega) _ hf91.sl) ?_
                    rintro v92 w33 ⟨p92, rfl, ⟨t92, hf92⟩, ew33⟩
                    replace h1 := h1.ext ew33
                    replace hE := Ext.tr hE ew33
                    replace hf31 := hf31.ext ew33
                    replace hf36 := hf36.ext ew33
                    replace hf91 := hf91.ext ew33
                    have hsew33 := ew33.size
                    replace hf92 := Own.mono hf92 (b := w.heap.size) (by omega)
                    refine WL.det (fun _ _ => R.move rfl) rfl ?_
                    refine WL.det (fun _ _ => R.extract rfl rfl) rfl ?_
                    refine WL.det (fun _ _ => R.extract rfl rfl) rfl ?_
                    refine WL.det (fun _ _ => R.assign rfl) rfl ?_
                    refine WL.det (fun _ _ => R.assign rfl) rfl ?_
                    refine WL.nil ?_
                    refine E.to ?_
                    refine W.seq ?_
                    refine W.region ?_
                    refine WL.det (fun _ _ => R.move rfl) rfl ?_
                    refine WL.call rfl rfl ⟨rfl, rfl⟩ callOk25 rfl rfl (print_spec _ _) ?_
                    rintro v97 w34 ⟨rfl, ew34⟩
                    replace h1 := h1.ext ew34
                    replace hE := Ext.tr hE ew34
                    replace hf31 := hf31.ext ew34
                    replace hf36 := hf36.ext ew34
                    replace hf91 := hf91.ext ew34
                    replace hf92 := hf92.ext ew34
                    have hsew34 := ew34.size
                    refine WL.call rfl rfl ⟨rfl, rfl⟩ callOk23 rfl rfl (parse_spec _ _) ?_
                    rintro v98 w35 ⟨rfl, ew35⟩
                    replace h1 := h1.ext ew35
                    replace hE := Ext.tr hE ew35
                    replace hf31 := hf31.ext ew35
                    replace hf36 := hf36.ext ew35
                    replace hf91 := hf91.ext ew35
                    replace hf92 := hf92.ext ew35
                    have hsew35 := ew35.size
                    refine WL.det (fun _ _ => R.move rfl) rfl ?_
                    refine WL.det (fun _ _ => R.extract rfl rfl) rfl ?_
                    refine WL.det (fun _ _ => R.extract rfl rfl) rfl ?_
                    refine WL.det (fun _ _ => R.assign rfl) rfl ?_
                    refine WL.det (fun _ _ => R.assign rfl) rfl ?_
                    refine WL.nil ?_
                    refine E.to ?_
                    refine W.seq ?_
                    refine W.region ?_
                    refine WL.det (fun _ _ => R.move rfl) rfl ?_
                    refine WL.det (fun _ _ => R.eql rfl rfl) rfl ?_
                    refine WL.det (fun _ _ => R.move rfl) rfl ?_
                    refine WL.group 3 (g := 103) (j := 2) (want := true) rfl rfl rfl rfl (fun hg26 => ?_) (fun hg26 => ?_)
                    · skip
                      first | have hg26p := gA1 hg26 | have hg26p := gA2 hg26 | have hg26p := hg26
                      refine WL.detg (fun _ _ => R.move rfl) rfl rfl rfl (gd_of hg26) ?_
                      refine WL.detg (fun _ _ => R.move rfl) rfl rfl rfl (gd_of hg26) ?_
                      refine WL.callg rfl rfl ⟨rfl, rfl⟩ callOk15 rfl rfl rfl rfl (gd_of hg26) (same_spec _ hf92.sl h1) ?_
                      rintro v106 w36 ⟨rfl, ew36⟩
                      replace h1 := h1.ext ew36
                      replace hE := Ext.tr hE ew36
                      replace hf31 := hf31.ext ew36
                      replace hf36 := hf36.ext ew36
                      replace hf91 := hf91.ext ew36
                      replace hf92 := hf92.ext ew36
                      have hsew36 := ew36.size
                      refine WL.det (fun _ _ => R.pick_t rfl hg26 rfl) rfl ?_
                      refine WL.det (fun _ _ => R.move rfl) rfl ?_
                      refine WL.group 2 (g := 108) (j := 7) (want := true) rfl rfl rfl rfl (fun hg27 => ?_) (fun hg27 => ?_)
                      · skip
                        first | have hg27p := gA1 hg27 | have hg27p := gA2 hg27 | have hg27p := hg27
                        refine WL.detg (fun _ _ => R.move rfl) rfl rfl rfl (gd_of hg27) ?_
                        refine WL.detg (fun _ _ => R.eql rfl rfl) rfl rfl rfl (gd_of hg27) ?_
                        refine WL.det (fun _ _ => R.pick_t rfl hg27 rfl) rfl ?_
                        refine WL.det (fun _ _ => R.move rfl) rfl ?_
                        refine WL.group 3 (g := 112) (j := 11) (want := true) rfl rfl rfl rfl (fun hg28 => ?_) (fun hg28 => ?_)
                        · skip
                          first | have hg28p := gA1 hg28 | have hg28p := gA2 hg28 | have hg28p := hg28
                          refine WL.detg (fun _ _ => R.move rfl) rfl rfl rfl (gd_of hg28) ?_
                          refine WL.detg (fun _ _ => R.move rfl) rfl rfl rfl (gd_of hg28) ?_
                          refine WL.detg (fun _ _ => R.eql rfl rfl) rfl rfl rfl (gd_of hg28) ?_
                          refine WL.det (fun _ _ => R.pick_t rfl hg28 rfl) rfl ?_
                          refine WL.det (fun _ _ => R.move rfl) rfl ?_
                          refine WL.group 5 (g := 117) (j := 16) (want := true) rfl rfl rfl rfl (fun hg29 => ?_) (fun hg29 => ?_)
                          · skip
                            first | have hg29p := gA1 hg29 | have hg29p := gA2 hg29 | have hg29p := hg29
                            refine WL.detg (fun _ _ => R.move rfl) rfl rfl rfl (gd_of hg29) ?_
                            refine WL.callg rfl rfl ⟨rfl, rfl⟩ callOk25 rfl rfl rfl rfl (gd_of hg29) (print_spec _ _) ?_
                            rintro v119 w37 ⟨rfl, ew37⟩
                            replace h1 := h1.ext ew37
                            replace hE := Ext.tr hE ew37
                            replace hf31 := hf31.ext ew37
                            replace hf36 := hf36.ext ew37
                            replace hf91 := hf91.ext ew37
                            replace hf92 := hf92.ext ew37
                            have hsew37 := ew37.size
                            refine WL.detg (fun _ _ => R.move rfl) rfl rfl rfl (gd_of hg29) ?_
                            refine WL.callg rfl rfl ⟨rfl, rfl⟩ callOk26 rfl rfl rfl rfl (gd_of hg29) (refprint_spec _ hr _) ?_
                            rintro v121 w38 ⟨rfl, ew38⟩
                            replace h1 := h1.ext ew38
                            replace hE := Ext.tr hE ew38
                            replace hf31 := hf31.ext ew38
                            replace hf36 := hf36.ext ew38
                            replace hf91 := hf91.ext ew38
                            replace hf92 := hf92.ext ew38
                            have hsew38 := ew38.size
                            refine WL.detg (fun _ _ => R.streq rfl rfl) rfl rfl rfl (gd_of hg29) ?_
                            refine WL.det (fun _ _ => R.pick_t rfl hg29 rfl) rfl ?_
                            refine WL.det (fun _ _ => R.assign rfl) rfl ?_
                            refine WL.nil ?_
                            refine E.to ?_
                            refine W.ret ?_
                            refine E.fin1 (.inl rfl) rfl rfl ?_
                            exact ⟨_, rfl, congrArg Value.bool (decide_eq_true (by rw [print_eq])), hE⟩
                          · skip
                            exact absurd (decide_eq_true (pp2 hr)) hg29
                        · skip
                          exact absurd (decide_eq_true (pp1 hr)) hg28
                      · skip
                        exact absurd (decide_eq_true (seal_open2 _ _)) hg27
                    · skip
                      exact absurd (decide_eq_true (seal_open1 _ _)) hg26
                · skip
                  first | exact absurd rfl hg19 | exact absurd (by simp [open_seal hgop]) hg19
            · skip
              exact absurd (by simp [parse_eq]) hg6
          · skip
            exact absurd (by simp [parse_eq]) hg5
        · skip
          exact absurd (by simp [of_fun]) hg4
      · skip
        exact absurd (by simp [of_fun]) hg3
  · skip
    first | have hg1p := gA7 hg1 | have hg1p := gA8 hg1 | have hg1p := hg1
    refine WL.det (fun _ _ => R.pick_t rfl (ne_f hg1) rfl) rfl ?_
    refine WL.nil ?_
    refine E.to ?_
    refine W.cond_t rfl ?_
    refine W.seq ?_
    refine W.region ?_
    refine WL.det (fun _ _ => R.assign rfl) rfl ?_
    refine WL.nil ?_
    refine E.to ?_
    refine W.ret ?_
    refine E.thr ?_
    refine E.fin1 (.inl rfl) rfl rfl ?_
    exact ⟨_, rfl, rfl, hE⟩

end Go.Proofs.Ytebinfembfoklaa
