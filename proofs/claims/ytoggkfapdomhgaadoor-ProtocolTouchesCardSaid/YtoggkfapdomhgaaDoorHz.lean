/- The walk of ProtocolTouches. Conditions: each theorem's own premises. -/
import Derived.Test.YtoggkfapdomhgaaDoorHu
import Derived.Test.YtoggkfapdomhgaaDoorHr
import Derived.Test.YtoggkfapdomhgaaDoorFt
namespace Go.Proofs.YtoggkfapdomhgaaDoor.Pr
open Go.RowKit Go.Proofs.YtoggkfapdomhgaaDoorW.PrintWords Go.Proofs.YtoggkfapdomhgaaDoorW.PrintLast Go.Proofs.YtoggkfapdomhgaaDoorW.PrintMore
set_option linter.unusedVariables false
set_option linter.unusedSimpArgs false
set_option maxRecDepth 100000
theorem chg_kind6 {P Q : S27} {E : S32} (h : chg P E = some Q) : E.f0 = 1 ∨ E.f0 = 2 ∨ E.f0 = 3 ∨ E.f0 = 4 ∨ E.f0 = 5 ∨ E.f0 = 6 := by
  unfold chg at h
  split at h
  · omega
  · split at h
    · omega
    · split at h
      · omega
      · cases h
set_option maxHeartbeats 16000000 in
theorem touch_any (P : S27) (E : S32) (cs es : List Value) (w : World) (hG : Glob w) (hP : k27.K w P cs) (hE : k32.K w E es) :
    Calls Tryd.prog 4 #[.agg cs.toArray, .agg es.toArray] w fun e w' => e = .returned (.bool true) ∧ Below w.heap.size w w' := by
  have HKP := Aside0.mk hP
  have HKE := Aside0.mk hE
  have HG := Aside0.mk hG
  obtain ⟨B2, d2, B3, d3, B4, d4, B6, d6, B7, d7, B8, d8, B9, d9, rfl, _, _, _, _, _, _, _, _, _, _, _, _, _, g9⟩ := k27_open hP
  obtain ⟨A6, c6, A7, c7, A8, c8, A9, c9, A12, c12, A14, c14, A15, c15, A16, c16, rfl, l6, g6, l7, g7, l8, g8, l9, g9', l12, g12, l14, g14, l15, g15, l16, g16⟩ := k32_open hE
  have HRK := Aside0.mk (k30_mk w E.f2 l6 g6 l7 g7 l8 g8 l9 g9' l12 g12 l14 g14 l15 g15 l16 g16)
  have h9m := g9.2.1
  clear l6 g6 l7 g7 l8 g8 l9 g9 g9' l12 g12 l14 g14 l15 g15 l16 g16 hP hE hG
  go_enter Tryd.func4, Tryd.ntmps4
  go_upto_region 1 with (fail)
  obtain ⟨g, hg⟩ : ∃ g, g = w.heap.size := ⟨_, rfl⟩
  obtain ⟨g2, hg2⟩ : ∃ g2, g2 = w.heap.size + 1 := ⟨_, rfl⟩
  obtain ⟨w1, hw1⟩ : ∃ w1, w1 = (w.alloc (.cells #[.string P.f0, .int .i64 P.f1, .slice B2 P.f2.length d2, .slice B3 P.f3.length d3, .slice B4 P.f4.length d4, .int .i64 P.f5, .slice B6 P.f6.length d6, .slice B7 P.f7.length d7, .slice B8 P.f8.length d8, .slice B9 P.f9.length d9] 27)).alloc (.cells #[.int .i64 E.f0, .int .i64 E.f1, .string E.f2.f0, .int .i64 E.f2.f1, .int .i64 E.f2.f2, .int .i64 E.f2.f3, .int .i64 E.f2.f4, .int .i64 E.f2.f5, .slice A6 E.f2.f6.length c6, .slice A7 E.f2.f7.length c7, .slice A8 E.f2.f8.length c8, .slice A9 E.f2.f9.length c9, .int .i64 E.f2.f10, .int .i64 E.f2.f11, .slice A12 E.f2.f12.length c12, .int .i64 E.f2.f13, .slice A14 E.f2.f14.length c14, .slice A15 E.f2.f15.length c15, .slice A16 E.f2.f16.length c16, .int .i64 E.f2.f17, .int .i64 E.f3, .string E.f4] 32) := ⟨_, rfl⟩
  have s1 : (w.alloc (.cells #[.string P.f0, .int .i64 P.f1, .slice B2 P.f2.length d2, .slice B3 P.f3.length d3, .slice B4 P.f4.length d4, .int .i64 P.f5, .slice B6 P.f6.length d6, .slice B7 P.f7.length d7, .slice B8 P.f8.length d8, .slice B9 P.f9.length d9] 27)).heap.size = g2 := by rw [hg2]; simp
  rw [← hw1]
  have BP : Aside0 (w1.heap[g]? = some (.cells #[.string P.f0, .int .i64 P.f1, .slice B2 P.f2.length d2, .slice B3 P.f3.length d3, .slice B4 P.f4.length d4, .int .i64 P.f5, .slice B6 P.f6.length d6, .slice B7 P.f7.length d7, .slice B8 P.f8.length d8, .slice B9 P.f9.length d9] 27 (0, 0))) := ⟨by rw [hw1, hg]; exact blk_alloc (heap_alloc_new w _) _⟩
  have BE : Aside0 (w1.heap[g2]? = some (.cells #[.int .i64 E.f0, .int .i64 E.f1, .string E.f2.f0, .int .i64 E.f2.f1, .int .i64 E.f2.f2, .int .i64 E.f2.f3, .int .i64 E.f2.f4, .int .i64 E.f2.f5, .slice A6 E.f2.f6.length c6, .slice A7 E.f2.f7.length c7, .slice A8 E.f2.f8.length c8, .slice A9 E.f2.f9.length c9, .int .i64 E.f2.f10, .int .i64 E.f2.f11, .slice A12 E.f2.f12.length c12, .int .i64 E.f2.f13, .slice A14 E.f2.f14.length c14, .slice A15 E.f2.f15.length c15, .slice A16 E.f2.f16.length c16, .int .i64 E.f2.f17, .int .i64 E.f3, .string E.f4] 32 (0, 0))) := ⟨by rw [hw1, ← s1]; exact heap_alloc_new _ _⟩
  have HB : Aside0 (Below w.heap.size w w1) := ⟨by rw [hw1]; exact ((Below.refl _ _).alloc (Nat.le_refl _) _).alloc (by simp) _⟩
  have n_KP := Aside0.mk (k27.K_below HB.out HKP.out)
  have n_KE := Aside0.mk (k32.K_below HB.out HKE.out)
  have n_RK := Aside0.mk (k30.K_below HB.out HRK.out)
  clear HKP HKE HRK
  have HKP := n_KP
  have HKE := n_KE
  have HRK := n_RK
  simp only [← hg2]
  simp only [← hg]
  clear hw1 s1 hg hg2 n_KP n_KE n_RK
  go_wp2_with ((with_reducible refine gate_dst (N := 10) rfl ?_); (try (refine gate_guard (by rfl) ?_; dsimp only)); refine Kd.event_run rfl (load_run 27 (.tmp 2) rfl ⟨g, 0, none⟩ (by go_simp) [.string P.f0, .int .i64 P.f1, .slice B2 P.f2.length d2, .slice B3 P.f3.length d3, .slice B4 P.f4.length d4, .int .i64 P.f5, .slice B6 P.f6.length d6, .slice B7 P.f7.length d7, .slice B8 P.f8.length d8, .slice B9 P.f9.length d9] (fun w => Tryd.sizeOf27 w) Tryd.isAgg27 (blk_list BP.out)) ?_)
  refine (big_weak P _ w1 HKP.out).mono ?_
  rintro e w2 ⟨b, rfl, hsh, hV⟩
  have n_BP := Aside0.mk (blk_below BP.out hV)
  have n_BE := Aside0.mk (blk_below BE.out hV)
  have n_HKP := Aside0.mk (k27.K_below hV HKP.out)
  have n_HKE := Aside0.mk (k32.K_below hV HKE.out)
  have n_HRK := Aside0.mk (k30.K_below hV HRK.out)
  have n_HB := Aside0.mk (HB.out.trans (Below.mono hV HB.out.size))
  clear BP BE HKP HKE HRK HB
  have BP := n_BP
  have BE := n_BE
  have HKP := n_HKP
  have HKE := n_HKE
  have HRK := n_HRK
  have HB := n_HB
  clear n_BP n_BE n_HKP n_HKE n_HRK n_HB
  clear hV
  cases b
  rotate_left
  · go_wp2_with fail
    refine (known_any _ (Glob_below HG.out HB.out)).mono ?_
    rintro e wz ⟨rfl, hz⟩
    have hBz := HB.out.trans (Below.mono hz HB.out.size)
    go_wp2_with fail
    go_ret
    exact ⟨rfl, hBz⟩
  · have hMid := mid_of (hsh rfl).1 (hsh rfl).2
    have HM := Aside0.mk hMid
    clear hMid hsh
    go_wp2_with ((with_reducible refine gate_dst (N := 14) rfl ?_); (try (refine gate_guard (by rfl) ?_; dsimp only)); refine Kd.event_run rfl (load_run 30 (.tmp 13) rfl ⟨g2, 2, none⟩ (by go_simp) [.string E.f2.f0, .int .i64 E.f2.f1, .int .i64 E.f2.f2, .int .i64 E.f2.f3, .int .i64 E.f2.f4, .int .i64 E.f2.f5, .slice A6 E.f2.f6.length c6, .slice A7 E.f2.f7.length c7, .slice A8 E.f2.f8.length c8, .slice A9 E.f2.f9.length c9, .int .i64 E.f2.f10, .int .i64 E.f2.f11, .slice A12 E.f2.f12.length c12, .int .i64 E.f2.f13, .slice A14 E.f2.f14.length c14, .slice A15 E.f2.f15.length c15, .slice A16 E.f2.f16.length c16, .int .i64 E.f2.f17] (fun w => Tryd.sizeOf30 w) Tryd.isAgg30 (mid_cells [.int .i64 E.f0, .int .i64 E.f1] [.string E.f2.f0, .int .i64 E.f2.f1, .int .i64 E.f2.f2, .int .i64 E.f2.f3, .int .i64 E.f2.f4, .int .i64 E.f2.f5, .slice A6 E.f2.f6.length c6, .slice A7 E.f2.f7.length c7, .slice A8 E.f2.f8.length c8, .slice A9 E.f2.f9.length c9, .int .i64 E.f2.f10, .int .i64 E.f2.f11, .slice A12 E.f2.f12.length c12, .int .i64 E.f2.f13, .slice A14 E.f2.f14.length c14, .slice A15 E.f2.f15.length c15, .slice A16 E.f2.f16.length c16, .int .i64 E.f2.f17] [.int .i64 E.f3, .string E.f4] BE.out)) ?_)
    refine (bigRule_weak E.f2 _ w2 HRK.out).mono ?_
    rintro e w3 ⟨b, rfl, hsh, hV⟩
    have n_BP := Aside0.mk (blk_below BP.out hV)
    have n_BE := Aside0.mk (blk_below BE.out hV)
    have n_HKP := Aside0.mk (k27.K_below hV HKP.out)
    have n_HKE := Aside0.mk (k32.K_below hV HKE.out)
    have n_HRK := Aside0.mk (k30.K_below hV HRK.out)
    have n_HB := Aside0.mk (HB.out.trans (Below.mono hV HB.out.size))
    clear BP BE HKP HKE HRK HB
    have BP := n_BP
    have BE := n_BE
    have HKP := n_HKP
    have HKE := n_HKE
    have HRK := n_HRK
    have HB := n_HB
    clear n_BP n_BE n_HKP n_HKE n_HRK n_HB
    clear hV
    cases b
    rotate_left
    · go_wp2_with fail
      refine (known_any _ (Glob_below HG.out HB.out)).mono ?_
      rintro e wz ⟨rfl, hz⟩
      have hBz := HB.out.trans (Below.mono hz HB.out.size)
      go_wp2_with fail
      go_ret
      exact ⟨rfl, hBz⟩
    · have HL := Aside0.mk (hsh rfl)
      clear hsh
      have x21 : w3.cell? ⟨g2, 21, none⟩ = some (.string E.f4) := (blk_cell BE.out 21).trans rfl
      by_cases hnm : (500 : Int) < (E.f4.size : Int)
      · have q0 : decide ((500 : Int) < (E.f4.size : Int)) = true := decide_eq_true hnm
        go_wp2_with fail
        refine (known_any _ (Glob_below HG.out HB.out)).mono ?_
        rintro e wz ⟨rfl, hz⟩
        have hBz := HB.out.trans (Below.mono hz HB.out.size)
        go_wp2_with fail
        go_ret
        exact ⟨rfl, hBz⟩
      have q0 : decide ((500 : Int) < (E.f4.size : Int)) = false := decide_eq_false hnm
      go_wp2_with (first | ((with_reducible refine gate_dst (N := 25) rfl ?_); (try (refine gate_guard (by rfl) ?_; dsimp only)); refine Kd.event_run rfl (load_run 27 (.tmp 2) rfl ⟨g, 0, none⟩ (by go_simp) [.string P.f0, .int .i64 P.f1, .slice B2 P.f2.length d2, .slice B3 P.f3.length d3, .slice B4 P.f4.length d4, .int .i64 P.f5, .slice B6 P.f6.length d6, .slice B7 P.f7.length d7, .slice B8 P.f8.length d8, .slice B9 P.f9.length d9] (fun w => Tryd.sizeOf27 w) Tryd.isAgg27 (blk_list BP.out)) ?_) | ((with_reducible refine gate_dst (N := 26) rfl ?_); (try (refine gate_guard (by rfl) ?_; dsimp only)); refine Kd.event_run rfl (load_run 32 (.tmp 3) rfl ⟨g2, 0, none⟩ (by go_simp) [.int .i64 E.f0, .int .i64 E.f1, .string E.f2.f0, .int .i64 E.f2.f1, .int .i64 E.f2.f2, .int .i64 E.f2.f3, .int .i64 E.f2.f4, .int .i64 E.f2.f5, .slice A6 E.f2.f6.length c6, .slice A7 E.f2.f7.length c7, .slice A8 E.f2.f8.length c8, .slice A9 E.f2.f9.length c9, .int .i64 E.f2.f10, .int .i64 E.f2.f11, .slice A12 E.f2.f12.length c12, .int .i64 E.f2.f13, .slice A14 E.f2.f14.length c14, .slice A15 E.f2.f15.length c15, .slice A16 E.f2.f16.length c16, .int .i64 E.f2.f17, .int .i64 E.f3, .string E.f4] (fun w => Tryd.sizeOf32 w) Tryd.isAgg32 (blk_list BE.out)) ?_))
      refine (apply_any P E _ _ w3 0 (Glob_below HG.out HB.out) HKP.out HKE.out HM.out (by decide) HL.out).mono ?_
      rintro e w4 ⟨k, qs, rfl, hV, hm⟩
      have n_BP := Aside0.mk (blk_below BP.out hV)
      have n_BE := Aside0.mk (blk_below BE.out hV)
      have n_HKP := Aside0.mk (k27.K_below hV HKP.out)
      have n_HKE := Aside0.mk (k32.K_below hV HKE.out)
      have n_HRK := Aside0.mk (k30.K_below hV HRK.out)
      have n_HB := Aside0.mk (HB.out.trans (Below.mono hV HB.out.size))
      clear BP BE HKP HKE HRK HB
      have BP := n_BP
      have BE := n_BE
      have HKP := n_HKP
      have HKE := n_HKE
      have HRK := n_HRK
      have HB := n_HB
      clear n_BP n_BE n_HKP n_HKE n_HRK n_HB
      clear hV x21
      cases hap : appl validE P E with
      | none =>
        rw [hap] at hm
        obtain ⟨hk, rfl⟩ := hm
        have k0 : (k == 0) = false := beq_eq_false_iff_ne.mpr hk
        clear hap
        go_wp2_with ((with_reducible refine gate_dst (N := 5) rfl ?_); refine new_event rfl rfl #[.string (⟨#[]⟩ : ByteArray), .int .i64 0, .slice none 0 0, .slice none 0 0, .slice none 0 0, .int .i64 0, .slice none 0 0, .slice none 0 0, .slice none 0 0, .slice none 0 0] #[.string (⟨#[]⟩ : ByteArray), .int .i64 0, .slice none 0 0, .slice none 0 0, .slice none 0 0, .int .i64 0, .slice none 0 0, .slice none 0 0, .slice none 0 0, .slice none 0 0] 27 (by first | (go_simp; done) | (go_simp; rfl)) rfl rfl (.tmp 5) (.tmp 28) rfl (by go_simp) (by first | (go_simp; done) | (go_simp; rfl)) (by kernel_rfl) rfl (by simp [Value.oneCell']) ?_; intro g5 hg5 w5 hb5 hV; refine Halt.go ?_)
        unfold Halt
        clear hg5
        have n_BP := Aside0.mk (blk_below BP.out hV)
        have n_BE := Aside0.mk (blk_below BE.out hV)
        have n_HKP := Aside0.mk (k27.K_below hV HKP.out)
        have n_HKE := Aside0.mk (k32.K_below hV HKE.out)
        have n_HRK := Aside0.mk (k30.K_below hV HRK.out)
        have n_HB := Aside0.mk (HB.out.trans (Below.mono hV HB.out.size))
        clear BP BE HKP HKE HRK HB
        have BP := n_BP
        have BE := n_BE
        have HKP := n_HKP
        have HKE := n_HKE
        have HRK := n_HRK
        have HB := n_HB
        clear n_BP n_BE n_HKP n_HKE n_HRK n_HB
        have BA := Aside0.mk hb5
        skip
        clear hV hb5
        go_wp2_with fail
        refine (known_any _ (Glob_below HG.out HB.out)).mono ?_
        rintro e wz ⟨rfl, hz⟩
        have hBz := HB.out.trans (Below.mono hz HB.out.size)
        go_wp2_with fail
        go_ret
        exact ⟨rfl, hBz⟩
      | some Q =>
        rw [hap] at hm
        obtain ⟨rfl, hkq⟩ := hm
        have HKQ := Aside0.mk hkq
        obtain ⟨hv1, hcq, hv2⟩ := appl_some hap
        have V1 := Aside0.mk hv1
        have V2 := Aside0.mk hv2
        have HCQ := Aside0.mk hcq
        have HMQ := Aside0.mk (mid_chg HM.out HL.out hcq)
        obtain ⟨U2, u2, U3, u3, U4, u4, U6, u6, U7, u7, U8, u8, U9, u9, rfl, _⟩ := k27_open hkq
        have hkind := chg_kind6 hcq
        clear hap hcq hv1 hv2 hkq
        go_wp2_with ((with_reducible refine gate_dst (N := 5) rfl ?_); refine new_event rfl rfl #[.string (⟨#[]⟩ : ByteArray), .int .i64 0, .slice none 0 0, .slice none 0 0, .slice none 0 0, .int .i64 0, .slice none 0 0, .slice none 0 0, .slice none 0 0, .slice none 0 0] #[.string Q.f0, .int .i64 Q.f1, .slice U2 Q.f2.length u2, .slice U3 Q.f3.length u3, .slice U4 Q.f4.length u4, .int .i64 Q.f5, .slice U6 Q.f6.length u6, .slice U7 Q.f7.length u7, .slice U8 Q.f8.length u8, .slice U9 Q.f9.length u9] 27 (by first | (go_simp; done) | (go_simp; rfl)) rfl rfl (.tmp 5) (.tmp 28) rfl (by go_simp) (by first | (go_simp; done) | (go_simp; rfl)) (by kernel_rfl) rfl (by simp [Value.oneCell']) ?_; intro g5 hg5 w5 hb5 hV; refine Halt.go ?_)
        unfold Halt
        clear hg5
        have n_BP := Aside0.mk (blk_below BP.out hV)
        have n_BE := Aside0.mk (blk_below BE.out hV)
        have n_HKP := Aside0.mk (k27.K_below hV HKP.out)
        have n_HKE := Aside0.mk (k32.K_below hV HKE.out)
        have n_HRK := Aside0.mk (k30.K_below hV HRK.out)
        have n_HKQ := Aside0.mk (k27.K_below hV HKQ.out)
        have n_HB := Aside0.mk (HB.out.trans (Below.mono hV HB.out.size))
        clear BP BE HKP HKE HRK HKQ HB
        have BP := n_BP
        have BE := n_BE
        have HKP := n_HKP
        have HKE := n_HKE
        have HRK := n_HRK
        have HKQ := n_HKQ
        have HB := n_HB
        clear n_BP n_BE n_HKP n_HKE n_HRK n_HKQ n_HB
        have BA := Aside0.mk hb5
        clear hV hb5
        go_wp2_with (first | ((with_reducible refine gate_dst (N := 34) rfl ?_); (try (refine gate_guard (by rfl) ?_; dsimp only)); refine Kd.event_run rfl (load_run 27 (.tmp 2) rfl ⟨g, 0, none⟩ (by go_simp) [.string P.f0, .int .i64 P.f1, .slice B2 P.f2.length d2, .slice B3 P.f3.length d3, .slice B4 P.f4.length d4, .int .i64 P.f5, .slice B6 P.f6.length d6, .slice B7 P.f7.length d7, .slice B8 P.f8.length d8, .slice B9 P.f9.length d9] (fun w => Tryd.sizeOf27 w) Tryd.isAgg27 (blk_list BP.out)) ?_) | ((with_reducible refine gate_dst (N := 35) rfl ?_); (try (refine gate_guard (by rfl) ?_; dsimp only)); refine Kd.event_run rfl (load_run 27 (.tmp 5) rfl ⟨g5, 0, none⟩ (by go_simp) [.string Q.f0, .int .i64 Q.f1, .slice U2 Q.f2.length u2, .slice U3 Q.f3.length u3, .slice U4 Q.f4.length u4, .int .i64 Q.f5, .slice U6 Q.f6.length u6, .slice U7 Q.f7.length u7, .slice U8 Q.f8.length u8, .slice U9 Q.f9.length u9] (fun w => Tryd.sizeOf27 w) Tryd.isAgg27 (blk_list BA.out)) ?_))
        obtain ⟨s1, s2, s3, s4, s5, s6, s8⟩ := chg_shape HCQ.out
        refine (changed_any P Q _ _ w5 (Glob_below HG.out HB.out) HKP.out HKQ.out (mid_small HM.out (by decide)) (mid_small HMQ.out (by decide)) V1.out V2.out s1 s2 s3 s4 s5 s6 s8 (by have := HMQ.out.h9; omega)).mono ?_
        rintro e w6 ⟨o, q, l, A, c, rfl, hC, hI, ho1, ho2, hq1, hq2, hV⟩
        clear s1 s2 s3 s4 s5 s6 s8
        have n_BP := Aside0.mk (blk_below BP.out hV)
        have n_BE := Aside0.mk (blk_below BE.out hV)
        have n_BA := Aside0.mk (blk_below BA.out hV)
        have n_HKP := Aside0.mk (k27.K_below hV HKP.out)
        have n_HKE := Aside0.mk (k32.K_below hV HKE.out)
        have n_HRK := Aside0.mk (k30.K_below hV HRK.out)
        have n_HKQ := Aside0.mk (k27.K_below hV HKQ.out)
        have n_HB := Aside0.mk (HB.out.trans (Below.mono hV HB.out.size))
        clear BP BE BA HKP HKE HRK HKQ HB
        have BP := n_BP
        have BE := n_BE
        have BA := n_BA
        have HKP := n_HKP
        have HKE := n_HKE
        have HRK := n_HRK
        have HKQ := n_HKQ
        have HB := n_HB
        clear n_BP n_BE n_BA n_HKP n_HKE n_HRK n_HKQ n_HB
        have HI := Aside0.mk hI
        have HC := Aside0.mk hC
        clear hV hI hC
        rcases hkind with hk | hk | hk | hk | hk | hk
        · skip
          have k2 : (E.f0 == 2) = false := by rw [hk]; rfl
          have k4 : (E.f0 == 4) = false := by rw [hk]; rfl
          have k5 : (E.f0 == 5) = false := by rw [hk]; rfl
          have k6 : (E.f0 == 6) = false := by rw [hk]; rfl
          have k3 : (E.f0 != 3) = true := by rw [hk]; rfl
          obtain ⟨h7, hl, h9⟩ := chg_add HCQ.out hk
          obtain rfl : o = false := ho1 h7
          obtain rfl : q = false := hq2 hl
          have hll := idx_only HI.out P.f9.length h9
          clear h7 h9 hl ho1 ho2 hq1 hq2
          rcases hll with rfl | rfl
          · clear HC
            go_wp2_with ((with_reducible refine gate_dst (N := 7) rfl ?_); refine new_event rfl rfl #[.bool false, .bool false, .slice none 0 0] #[.bool false, .bool false, .slice A 0 c] 42 (by first | (go_simp; done) | (go_simp; rfl)) rfl rfl (.tmp 7) (.tmp 37) rfl (by go_simp) (by first | (go_simp; done) | (go_simp; rfl)) (by kernel_rfl) rfl (by simp [Value.oneCell']) ?_; intro g7 hg7 w7 hb7 hV; refine Halt.go ?_)
            unfold Halt
            clear hg7
            have n_BP := Aside0.mk (blk_below BP.out hV)
            have n_BE := Aside0.mk (blk_below BE.out hV)
            have n_BA := Aside0.mk (blk_below BA.out hV)
            have n_HKP := Aside0.mk (k27.K_below hV HKP.out)
            have n_HKE := Aside0.mk (k32.K_below hV HKE.out)
            have n_HRK := Aside0.mk (k30.K_below hV HRK.out)
            have n_HKQ := Aside0.mk (k27.K_below hV HKQ.out)
            have n_HB := Aside0.mk (HB.out.trans (Below.mono hV HB.out.size))
            clear BP BE BA HKP HKE HRK HKQ HB
            have BP := n_BP
            have BE := n_BE
            have BA := n_BA
            have HKP := n_HKP
            have HKE := n_HKE
            have HRK := n_HRK
            have HKQ := n_HKQ
            have HB := n_HB
            clear n_BP n_BE n_BA n_HKP n_HKE n_HRK n_HKQ n_HB
            have HV := Aside0.mk hV
            have BC := Aside0.mk hb7
            clear hV hb7
            have xC0 : w7.cell? ⟨g7, 0, none⟩ = some (.bool false) := (blk_cell BC.out 0).trans rfl
            have xC1 : w7.cell? ⟨g7, 1, none⟩ = some (.bool false) := (blk_cell BC.out 1).trans rfl
            have xC2 : w7.cell? ⟨g7, 2, none⟩ = some (.slice A 0 c) := (blk_cell BC.out 2).trans rfl
            have xE0 : w7.cell? ⟨g2, 0, none⟩ = some (.int .i64 E.f0) := (blk_cell BE.out 0).trans rfl
            have xE1 : w7.cell? ⟨g2, 1, none⟩ = some (.int .i64 E.f1) := (blk_cell BE.out 1).trans rfl
            have xP9 : w7.cell? ⟨g, 9, none⟩ = some (.slice B9 P.f9.length d9) := (blk_cell BP.out 9).trans rfl
            go_wp2_with fail
            refine (known_any _ (Glob_below HG.out HB.out)).mono ?_
            rintro e wz ⟨rfl, hz⟩
            have hBz := HB.out.trans (Below.mono hz HB.out.size)
            go_wp2_with fail
            go_ret
            exact ⟨rfl, hBz⟩
          · skip
            obtain ⟨ad, hA, hx⟩ := at_I HC.out 0 (by simp)
            subst hA
            go_wp2_with ((with_reducible refine gate_dst (N := 7) rfl ?_); refine new_event rfl rfl #[.bool false, .bool false, .slice none 0 0] #[.bool false, .bool false, .slice (some ad) 1 c] 42 (by first | (go_simp; done) | (go_simp; rfl)) rfl rfl (.tmp 7) (.tmp 37) rfl (by go_simp) (by first | (go_simp; done) | (go_simp; rfl)) (by kernel_rfl) rfl (by simp [Value.oneCell']) ?_; intro g7 hg7 w7 hb7 hV; refine Halt.go ?_)
            unfold Halt
            clear hg7
            have n_BP := Aside0.mk (blk_below BP.out hV)
            have n_BE := Aside0.mk (blk_below BE.out hV)
            have n_BA := Aside0.mk (blk_below BA.out hV)
            have n_HKP := Aside0.mk (k27.K_below hV HKP.out)
            have n_HKE := Aside0.mk (k32.K_below hV HKE.out)
            have n_HRK := Aside0.mk (k30.K_below hV HRK.out)
            have n_HKQ := Aside0.mk (k27.K_below hV HKQ.out)
            have n_HB := Aside0.mk (HB.out.trans (Below.mono hV HB.out.size))
            clear BP BE BA HKP HKE HRK HKQ HB
            have BP := n_BP
            have BE := n_BE
            have BA := n_BA
            have HKP := n_HKP
            have HKE := n_HKE
            have HRK := n_HRK
            have HKQ := n_HKQ
            have HB := n_HB
            clear n_BP n_BE n_BA n_HKP n_HKE n_HRK n_HKQ n_HB
            have HV := Aside0.mk hV
            have BC := Aside0.mk hb7
            clear hV hb7
            have xC0 : w7.cell? ⟨g7, 0, none⟩ = some (.bool false) := (blk_cell BC.out 0).trans rfl
            have xC1 : w7.cell? ⟨g7, 1, none⟩ = some (.bool false) := (blk_cell BC.out 1).trans rfl
            have xC2 : w7.cell? ⟨g7, 2, none⟩ = some (.slice (some ad) 1 c) := (blk_cell BC.out 2).trans rfl
            have xE0 : w7.cell? ⟨g2, 0, none⟩ = some (.int .i64 E.f0) := (blk_cell BE.out 0).trans rfl
            have xE1 : w7.cell? ⟨g2, 1, none⟩ = some (.int .i64 E.f1) := (blk_cell BE.out 1).trans rfl
            have xP9 : w7.cell? ⟨g, 9, none⟩ = some (.slice B9 P.f9.length d9) := (blk_cell BP.out 9).trans rfl
            have xL : w7.cell? (ad.add 0) = some (.int .i64 (P.f9.length : Int)) := by have h0 := (HV.out.cell (World.block_lt_of_cell? _ _ hx)).trans hx; simpa using h0
            have xL0 : w7.cell? ad = some (.int .i64 (P.f9.length : Int)) := by have h0 := xL; rwa [Addr.add_zero' ad] at h0
            clear xL
            clear hx
            go_wp2_with fail
            refine (known_any _ (Glob_below HG.out HB.out)).mono ?_
            rintro e wz ⟨rfl, hz⟩
            have hBz := HB.out.trans (Below.mono hz HB.out.size)
            go_wp2_with fail
            go_ret
            exact ⟨rfl, hBz⟩
        · skip
          have k2 : (E.f0 == 2) = true := by rw [hk]; rfl
          have k4 : (E.f0 == 4) = false := by rw [hk]; rfl
          have k5 : (E.f0 == 5) = false := by rw [hk]; rfl
          have k6 : (E.f0 == 6) = false := by rw [hk]; rfl
          have k3 : (E.f0 != 3) = true := by rw [hk]; rfl
          obtain ⟨h7, h9⟩ := chg_set HCQ.out hk
          obtain ⟨hr0, hr1⟩ := (chg_range HCQ.out).1 (by omega)
          obtain rfl : o = false := ho1 h7
          have hll := idx_only HI.out E.f1.toNat h9
          rw [show ((E.f1.toNat : Nat) : Int) = E.f1 by omega] at hll
          clear h7 h9 ho1 ho2 hq1 hq2
          obtain ⟨s, hs⟩ : ∃ s, s = (!false && q) := ⟨_, rfl⟩
          rw [← hs]
          clear hs
          rcases hll with rfl | rfl
          · clear HC
            go_wp2_with ((with_reducible refine gate_dst (N := 7) rfl ?_); refine new_event rfl rfl #[.bool false, .bool false, .slice none 0 0] #[.bool s, .bool false, .slice A 0 c] 42 (by first | (go_simp; done) | (go_simp; rfl)) rfl rfl (.tmp 7) (.tmp 37) rfl (by go_simp) (by first | (go_simp; done) | (go_simp; rfl)) (by kernel_rfl) rfl (by simp [Value.oneCell']) ?_; intro g7 hg7 w7 hb7 hV; refine Halt.go ?_)
            unfold Halt
            clear hg7
            have n_BP := Aside0.mk (blk_below BP.out hV)
            have n_BE := Aside0.mk (blk_below BE.out hV)
            have n_BA := Aside0.mk (blk_below BA.out hV)
            have n_HKP := Aside0.mk (k27.K_below hV HKP.out)
            have n_HKE := Aside0.mk (k32.K_below hV HKE.out)
            have n_HRK := Aside0.mk (k30.K_below hV HRK.out)
            have n_HKQ := Aside0.mk (k27.K_below hV HKQ.out)
            have n_HB := Aside0.mk (HB.out.trans (Below.mono hV HB.out.size))
            clear BP BE BA HKP HKE HRK HKQ HB
            have BP := n_BP
            have BE := n_BE
            have BA := n_BA
            have HKP := n_HKP
            have HKE := n_HKE
            have HRK := n_HRK
            have HKQ := n_HKQ
            have HB := n_HB
            clear n_BP n_BE n_BA n_HKP n_HKE n_HRK n_HKQ n_HB
            have HV := Aside0.mk hV
            have BC := Aside0.mk hb7
            clear hV hb7
            have xC0 : w7.cell? ⟨g7, 0, none⟩ = some (.bool s) := (blk_cell BC.out 0).trans rfl
            have xC1 : w7.cell? ⟨g7, 1, none⟩ = some (.bool false) := (blk_cell BC.out 1).trans rfl
            have xC2 : w7.cell? ⟨g7, 2, none⟩ = some (.slice A 0 c) := (blk_cell BC.out 2).trans rfl
            have xE0 : w7.cell? ⟨g2, 0, none⟩ = some (.int .i64 E.f0) := (blk_cell BE.out 0).trans rfl
            have xE1 : w7.cell? ⟨g2, 1, none⟩ = some (.int .i64 E.f1) := (blk_cell BE.out 1).trans rfl
            have xP9 : w7.cell? ⟨g, 9, none⟩ = some (.slice B9 P.f9.length d9) := (blk_cell BP.out 9).trans rfl
            go_wp2_with fail
            refine (known_any _ (Glob_below HG.out HB.out)).mono ?_
            rintro e wz ⟨rfl, hz⟩
            have hBz := HB.out.trans (Below.mono hz HB.out.size)
            go_wp2_with fail
            go_ret
            exact ⟨rfl, hBz⟩
          · skip
            obtain ⟨ad, hA, hx⟩ := at_I HC.out 0 (by simp)
            subst hA
            go_wp2_with ((with_reducible refine gate_dst (N := 7) rfl ?_); refine new_event rfl rfl #[.bool false, .bool false, .slice none 0 0] #[.bool s, .bool false, .slice (some ad) 1 c] 42 (by first | (go_simp; done) | (go_simp; rfl)) rfl rfl (.tmp 7) (.tmp 37) rfl (by go_simp) (by first | (go_simp; done) | (go_simp; rfl)) (by kernel_rfl) rfl (by simp [Value.oneCell']) ?_; intro g7 hg7 w7 hb7 hV; refine Halt.go ?_)
            unfold Halt
            clear hg7
            have n_BP := Aside0.mk (blk_below BP.out hV)
            have n_BE := Aside0.mk (blk_below BE.out hV)
            have n_BA := Aside0.mk (blk_below BA.out hV)
            have n_HKP := Aside0.mk (k27.K_below hV HKP.out)
            have n_HKE := Aside0.mk (k32.K_below hV HKE.out)
            have n_HRK := Aside0.mk (k30.K_below hV HRK.out)
            have n_HKQ := Aside0.mk (k27.K_below hV HKQ.out)
            have n_HB := Aside0.mk (HB.out.trans (Below.mono hV HB.out.size))
            clear BP BE BA HKP HKE HRK HKQ HB
            have BP := n_BP
            have BE := n_BE
            have BA := n_BA
            have HKP := n_HKP
            have HKE := n_HKE
            have HRK := n_HRK
            have HKQ := n_HKQ
            have HB := n_HB
            clear n_BP n_BE n_BA n_HKP n_HKE n_HRK n_HKQ n_HB
            have HV := Aside0.mk hV
            have BC := Aside0.mk hb7
            clear hV hb7
            have xC0 : w7.cell? ⟨g7, 0, none⟩ = some (.bool s) := (blk_cell BC.out 0).trans rfl
            have xC1 : w7.cell? ⟨g7, 1, none⟩ = some (.bool false) := (blk_cell BC.out 1).trans rfl
            have xC2 : w7.cell? ⟨g7, 2, none⟩ = some (.slice (some ad) 1 c) := (blk_cell BC.out 2).trans rfl
            have xE0 : w7.cell? ⟨g2, 0, none⟩ = some (.int .i64 E.f0) := (blk_cell BE.out 0).trans rfl
            have xE1 : w7.cell? ⟨g2, 1, none⟩ = some (.int .i64 E.f1) := (blk_cell BE.out 1).trans rfl
            have xP9 : w7.cell? ⟨g, 9, none⟩ = some (.slice B9 P.f9.length d9) := (blk_cell BP.out 9).trans rfl
            have xL : w7.cell? (ad.add 0) = some (.int .i64 E.f1) := by have h0 := (HV.out.cell (World.block_lt_of_cell? _ _ hx)).trans hx; simpa using h0
            have xL0 : w7.cell? ad = some (.int .i64 E.f1) := by have h0 := xL; rwa [Addr.add_zero' ad] at h0
            clear xL
            clear hx
            go_wp2_with fail
            refine (known_any _ (Glob_below HG.out HB.out)).mono ?_
            rintro e wz ⟨rfl, hz⟩
            have hBz := HB.out.trans (Below.mono hz HB.out.size)
            go_wp2_with fail
            go_ret
            exact ⟨rfl, hBz⟩
        · skip
          have k2 : (E.f0 == 2) = false := by rw [hk]; rfl
          have k4 : (E.f0 == 4) = false := by rw [hk]; rfl
          have k5 : (E.f0 == 5) = false := by rw [hk]; rfl
          have k6 : (E.f0 == 6) = false := by rw [hk]; rfl
          have k3 : (E.f0 != 3) = false := by rw [hk]; rfl
          obtain ⟨h7, hl, h9⟩ := chg_del HCQ.out hk
          obtain rfl : o = false := ho1 h7
          obtain rfl : q = false := hq2 hl
          obtain rfl : l = [] := idx_none HI.out h9
          clear h7 h9 hl ho1 ho2 hq1 hq2 HC
          go_wp2_with ((with_reducible refine gate_dst (N := 7) rfl ?_); refine new_event rfl rfl #[.bool false, .bool false, .slice none 0 0] #[.bool false, .bool false, .slice A 0 c] 42 (by first | (go_simp; done) | (go_simp; rfl)) rfl rfl (.tmp 7) (.tmp 37) rfl (by go_simp) (by first | (go_simp; done) | (go_simp; rfl)) (by kernel_rfl) rfl (by simp [Value.oneCell']) ?_; intro g7 hg7 w7 hb7 hV; refine Halt.go ?_)
          unfold Halt
          clear hg7
          have n_BP := Aside0.mk (blk_below BP.out hV)
          have n_BE := Aside0.mk (blk_below BE.out hV)
          have n_BA := Aside0.mk (blk_below BA.out hV)
          have n_HKP := Aside0.mk (k27.K_below hV HKP.out)
          have n_HKE := Aside0.mk (k32.K_below hV HKE.out)
          have n_HRK := Aside0.mk (k30.K_below hV HRK.out)
          have n_HKQ := Aside0.mk (k27.K_below hV HKQ.out)
          have n_HB := Aside0.mk (HB.out.trans (Below.mono hV HB.out.size))
          clear BP BE BA HKP HKE HRK HKQ HB
          have BP := n_BP
          have BE := n_BE
          have BA := n_BA
          have HKP := n_HKP
          have HKE := n_HKE
          have HRK := n_HRK
          have HKQ := n_HKQ
          have HB := n_HB
          clear n_BP n_BE n_BA n_HKP n_HKE n_HRK n_HKQ n_HB
          have HV := Aside0.mk hV
          have BC := Aside0.mk hb7
          clear hV hb7
          have xC0 : w7.cell? ⟨g7, 0, none⟩ = some (.bool false) := (blk_cell BC.out 0).trans rfl
          have xC1 : w7.cell? ⟨g7, 1, none⟩ = some (.bool false) := (blk_cell BC.out 1).trans rfl
          have xC2 : w7.cell? ⟨g7, 2, none⟩ = some (.slice A 0 c) := (blk_cell BC.out 2).trans rfl
          have xE0 : w7.cell? ⟨g2, 0, none⟩ = some (.int .i64 E.f0) := (blk_cell BE.out 0).trans rfl
          have xE1 : w7.cell? ⟨g2, 1, none⟩ = some (.int .i64 E.f1) := (blk_cell BE.out 1).trans rfl
          have xP9 : w7.cell? ⟨g, 9, none⟩ = some (.slice B9 P.f9.length d9) := (blk_cell BP.out 9).trans rfl
          go_wp2_with fail
          refine (known_any _ (Glob_below HG.out HB.out)).mono ?_
          rintro e wz ⟨rfl, hz⟩
          have hBz := HB.out.trans (Below.mono hz HB.out.size)
          go_wp2_with fail
          go_ret
          exact ⟨rfl, hBz⟩
        · skip
          have k2 : (E.f0 == 2) = false := by rw [hk]; rfl
          have k4 : (E.f0 == 4) = true := by rw [hk]; rfl
          have k5 : (E.f0 == 5) = false := by rw [hk]; rfl
          have k6 : (E.f0 == 6) = false := by rw [hk]; rfl
          have k3 : (E.f0 != 3) = true := by rw [hk]; rfl
          obtain ⟨h7, h9⟩ := chg_init (validE_sorted V1.out).1 HCQ.out (by omega)
          obtain rfl : o = true := ho2 h7
          obtain rfl : l = [] := idx_none HI.out (fun j hj => by rw [h9]; exact getD_mem hj)
          clear h7 h9 ho1 ho2 hq1 hq2 HC
          go_wp2_with ((with_reducible refine gate_dst (N := 7) rfl ?_); refine new_event rfl rfl #[.bool false, .bool false, .slice none 0 0] #[.bool false, .bool true, .slice A 0 c] 42 (by first | (go_simp; done) | (go_simp; rfl)) rfl rfl (.tmp 7) (.tmp 37) rfl (by go_simp) (by first | (go_simp; done) | (go_simp; rfl)) (by kernel_rfl) rfl (by simp [Value.oneCell']) ?_; intro g7 hg7 w7 hb7 hV; refine Halt.go ?_)
          unfold Halt
          clear hg7
          have n_BP := Aside0.mk (blk_below BP.out hV)
          have n_BE := Aside0.mk (blk_below BE.out hV)
          have n_BA := Aside0.mk (blk_below BA.out hV)
          have n_HKP := Aside0.mk (k27.K_below hV HKP.out)
          have n_HKE := Aside0.mk (k32.K_below hV HKE.out)
          have n_HRK := Aside0.mk (k30.K_below hV HRK.out)
          have n_HKQ := Aside0.mk (k27.K_below hV HKQ.out)
          have n_HB := Aside0.mk (HB.out.trans (Below.mono hV HB.out.size))
          clear BP BE BA HKP HKE HRK HKQ HB
          have BP := n_BP
          have BE := n_BE
          have BA := n_BA
          have HKP := n_HKP
          have HKE := n_HKE
          have HRK := n_HRK
          have HKQ := n_HKQ
          have HB := n_HB
          clear n_BP n_BE n_BA n_HKP n_HKE n_HRK n_HKQ n_HB
          have HV := Aside0.mk hV
          have BC := Aside0.mk hb7
          clear hV hb7
          have xC0 : w7.cell? ⟨g7, 0, none⟩ = some (.bool false) := (blk_cell BC.out 0).trans rfl
          have xC1 : w7.cell? ⟨g7, 1, none⟩ = some (.bool true) := (blk_cell BC.out 1).trans rfl
          have xC2 : w7.cell? ⟨g7, 2, none⟩ = some (.slice A 0 c) := (blk_cell BC.out 2).trans rfl
          have xE0 : w7.cell? ⟨g2, 0, none⟩ = some (.int .i64 E.f0) := (blk_cell BE.out 0).trans rfl
          have xE1 : w7.cell? ⟨g2, 1, none⟩ = some (.int .i64 E.f1) := (blk_cell BE.out 1).trans rfl
          have xP9 : w7.cell? ⟨g, 9, none⟩ = some (.slice B9 P.f9.length d9) := (blk_cell BP.out 9).trans rfl
          go_wp2_with fail
          refine (known_any _ (Glob_below HG.out HB.out)).mono ?_
          rintro e wz ⟨rfl, hz⟩
          have hBz := HB.out.trans (Below.mono hz HB.out.size)
          go_wp2_with fail
          go_ret
          exact ⟨rfl, hBz⟩
        · skip
          have k2 : (E.f0 == 2) = false := by rw [hk]; rfl
          have k4 : (E.f0 == 4) = false := by rw [hk]; rfl
          have k5 : (E.f0 == 5) = true := by rw [hk]; rfl
          have k6 : (E.f0 == 6) = false := by rw [hk]; rfl
          have k3 : (E.f0 != 3) = true := by rw [hk]; rfl
          obtain ⟨h7, h9⟩ := chg_init (validE_sorted V1.out).1 HCQ.out (by omega)
          obtain rfl : o = true := ho2 h7
          obtain rfl : l = [] := idx_none HI.out (fun j hj => by rw [h9]; exact getD_mem hj)
          clear h7 h9 ho1 ho2 hq1 hq2 HC
          go_wp2_with ((with_reducible refine gate_dst (N := 7) rfl ?_); refine new_event rfl rfl #[.bool false, .bool false, .slice none 0 0] #[.bool false, .bool true, .slice A 0 c] 42 (by first | (go_simp; done) | (go_simp; rfl)) rfl rfl (.tmp 7) (.tmp 37) rfl (by go_simp) (by first | (go_simp; done) | (go_simp; rfl)) (by kernel_rfl) rfl (by simp [Value.oneCell']) ?_; intro g7 hg7 w7 hb7 hV; refine Halt.go ?_)
          unfold Halt
          clear hg7
          have n_BP := Aside0.mk (blk_below BP.out hV)
          have n_BE := Aside0.mk (blk_below BE.out hV)
          have n_BA := Aside0.mk (blk_below BA.out hV)
          have n_HKP := Aside0.mk (k27.K_below hV HKP.out)
          have n_HKE := Aside0.mk (k32.K_below hV HKE.out)
          have n_HRK := Aside0.mk (k30.K_below hV HRK.out)
          have n_HKQ := Aside0.mk (k27.K_below hV HKQ.out)
          have n_HB := Aside0.mk (HB.out.trans (Below.mono hV HB.out.size))
          clear BP BE BA HKP HKE HRK HKQ HB
          have BP := n_BP
          have BE := n_BE
          have BA := n_BA
          have HKP := n_HKP
          have HKE := n_HKE
          have HRK := n_HRK
          have HKQ := n_HKQ
          have HB := n_HB
          clear n_BP n_BE n_BA n_HKP n_HKE n_HRK n_HKQ n_HB
          have HV := Aside0.mk hV
          have BC := Aside0.mk hb7
          clear hV hb7
          have xC0 : w7.cell? ⟨g7, 0, none⟩ = some (.bool false) := (blk_cell BC.out 0).trans rfl
          have xC1 : w7.cell? ⟨g7, 1, none⟩ = some (.bool true) := (blk_cell BC.out 1).trans rfl
          have xC2 : w7.cell? ⟨g7, 2, none⟩ = some (.slice A 0 c) := (blk_cell BC.out 2).trans rfl
          have xE0 : w7.cell? ⟨g2, 0, none⟩ = some (.int .i64 E.f0) := (blk_cell BE.out 0).trans rfl
          have xE1 : w7.cell? ⟨g2, 1, none⟩ = some (.int .i64 E.f1) := (blk_cell BE.out 1).trans rfl
          have xP9 : w7.cell? ⟨g, 9, none⟩ = some (.slice B9 P.f9.length d9) := (blk_cell BP.out 9).trans rfl
          go_wp2_with fail
          refine (known_any _ (Glob_below HG.out HB.out)).mono ?_
          rintro e wz ⟨rfl, hz⟩
          have hBz := HB.out.trans (Below.mono hz HB.out.size)
          go_wp2_with fail
          go_ret
          exact ⟨rfl, hBz⟩
        · skip
          have k2 : (E.f0 == 2) = false := by rw [hk]; rfl
          have k4 : (E.f0 == 4) = false := by rw [hk]; rfl
          have k5 : (E.f0 == 5) = false := by rw [hk]; rfl
          have k6 : (E.f0 == 6) = true := by rw [hk]; rfl
          have k3 : (E.f0 != 3) = true := by rw [hk]; rfl
          obtain ⟨h7, h9⟩ := chg_name HCQ.out hk
          obtain rfl : o = false := ho1 h7
          obtain rfl : q = true := hq1 h9
          obtain rfl : l = [] := idx_none HI.out (fun j hj => by rw [h9]; exact getD_mem hj)
          clear h7 h9 ho1 ho2 hq1 hq2 HC
          go_wp2_with ((with_reducible refine gate_dst (N := 7) rfl ?_); refine new_event rfl rfl #[.bool false, .bool false, .slice none 0 0] #[.bool true, .bool false, .slice A 0 c] 42 (by first | (go_simp; done) | (go_simp; rfl)) rfl rfl (.tmp 7) (.tmp 37) rfl (by go_simp) (by first | (go_simp; done) | (go_simp; rfl)) (by kernel_rfl) rfl (by simp [Value.oneCell']) ?_; intro g7 hg7 w7 hb7 hV; refine Halt.go ?_)
          unfold Halt
          clear hg7
          have n_BP := Aside0.mk (blk_below BP.out hV)
          have n_BE := Aside0.mk (blk_below BE.out hV)
          have n_BA := Aside0.mk (blk_below BA.out hV)
          have n_HKP := Aside0.mk (k27.K_below hV HKP.out)
          have n_HKE := Aside0.mk (k32.K_below hV HKE.out)
          have n_HRK := Aside0.mk (k30.K_below hV HRK.out)
          have n_HKQ := Aside0.mk (k27.K_below hV HKQ.out)
          have n_HB := Aside0.mk (HB.out.trans (Below.mono hV HB.out.size))
          clear BP BE BA HKP HKE HRK HKQ HB
          have BP := n_BP
          have BE := n_BE
          have BA := n_BA
          have HKP := n_HKP
          have HKE := n_HKE
          have HRK := n_HRK
          have HKQ := n_HKQ
          have HB := n_HB
          clear n_BP n_BE n_BA n_HKP n_HKE n_HRK n_HKQ n_HB
          have HV := Aside0.mk hV
          have BC := Aside0.mk hb7
          clear hV hb7
          have xC0 : w7.cell? ⟨g7, 0, none⟩ = some (.bool true) := (blk_cell BC.out 0).trans rfl
          have xC1 : w7.cell? ⟨g7, 1, none⟩ = some (.bool false) := (blk_cell BC.out 1).trans rfl
          have xC2 : w7.cell? ⟨g7, 2, none⟩ = some (.slice A 0 c) := (blk_cell BC.out 2).trans rfl
          have xE0 : w7.cell? ⟨g2, 0, none⟩ = some (.int .i64 E.f0) := (blk_cell BE.out 0).trans rfl
          have xE1 : w7.cell? ⟨g2, 1, none⟩ = some (.int .i64 E.f1) := (blk_cell BE.out 1).trans rfl
          have xP9 : w7.cell? ⟨g, 9, none⟩ = some (.slice B9 P.f9.length d9) := (blk_cell BP.out 9).trans rfl
          go_wp2_with fail
          refine (known_any _ (Glob_below HG.out HB.out)).mono ?_
          rintro e wz ⟨rfl, hz⟩
          have hBz := HB.out.trans (Below.mono hz HB.out.size)
          go_wp2_with fail
          go_ret
          exact ⟨rfl, hBz⟩
end Go.Proofs.YtoggkfapdomhgaaDoor.Pr
